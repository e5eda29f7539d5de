/- Nets: binomials, shapes, weights, exchanged parameters. -/
import Derived.Test.YthhdcfhaldcheaaGreatD1
set_option linter.unusedVariables false
set_option linter.unusedSimpArgs false
set_option maxHeartbeats 8000000
set_option maxRecDepth 100000
attribute [local irreducible] Go.Lg.opsL Go.Lg.wpL Go.Lg.thenL Go.Lg.blockL
namespace Go.Proofs.YthhdcfhaldcheaaGreat
open Go.Lg
end Go.Proofs.YthhdcfhaldcheaaGreat
namespace Go.Lg
/-- a block of one value, told in another way -/
theorem Weak.cell {L : St} (b : Nat) {sz : Nat} {x y : LV} {mt : Bool} (hb : L.heap b = some ⟨sz, [x], mt⟩) (h : ∀ Z μ w cs, Rep Z μ w x cs → Rep Z μ w y cs) : Weak L (L.setB b (some ⟨sz, [y], mt⟩)) := by
  rintro n W X Z0 a w ⟨hdf, hsz, μ, Z, hc, hr⟩
  refine ⟨hdf, hsz, μ, Z, ?_, hr⟩
  have hs : ∀ c, (L.setB b (some ⟨sz, [y], mt⟩)).heap c = if c = b then some ⟨sz, [y], mt⟩ else L.heap c := fun c => rfl
  refine ⟨hc.keep, hc.zone, hc.zsup, hc.zsub, hc.inj, hc.own, hc.x0, hc.xlt, hc.x1, fun c id blk g1 g2 => ?_, fun c id blk g1 g2 => ?_, fun c id g1 => ?_⟩
  · rw [hs] at g2
    split at g2
    · rename_i e; subst e; cases g2; exact hc.mutz c id ⟨sz, [x], mt⟩ g1 hb
    · exact hc.mutz c id blk g1 g2
  · rw [hs] at g2
    split at g2
    · rename_i e; subst e; cases g2; exact hc.frz c id ⟨sz, [x], mt⟩ g1 hb
    · exact hc.frz c id blk g1 g2
  · obtain ⟨blk, k1, k2⟩ := hc.heap c id g1
    rw [hs]
    by_cases e : c = b
    · subst e
      rw [if_pos rfl]
      rw [hb] at k1
      cases k1
      refine ⟨_, rfl, ?_⟩
      obtain ⟨cs, T, part, rest, e1, e2, e3⟩ := k2
      refine ⟨cs, T, part, rest, e1, e2, ?_⟩
      simp only [RepAll] at e3 ⊢
      obtain ⟨c1, c2, q1, q2, q3, q4⟩ := e3
      exact ⟨c1, c2, q1, q2, h _ _ _ _ q3, q4⟩
    · rw [if_neg e]; exact ⟨blk, k1, k2⟩
/-- an empty block that nothing stands for -/
theorem Weak.newB (L : St) (d sz : Nat) (hd : L.heap d = none) : Weak L (L.setB d (some ⟨sz, [], true⟩)) := by
  rintro n W X Z0 a w ⟨hdf, hsz, μ, Z, hc, hr⟩
  refine ⟨hdf, hsz, μ, Z, ?_, hr⟩
  refine hc.reheap fun c id hcd => ?_
  have : c ≠ d := by rintro rfl; rw [mu_none hc hd] at hcd; cases hcd
  simp [St.setB, this]
theorem rep_net (d sz : Nat) (x y : LV) (Z : Nat → Prop) (μ : Nat → Option Nat) (w : World) (cs : List Value) (h : Rep Z μ w (.agg [x, y, .v (.slice none 0 0)]) cs) : Rep Z μ w (.agg [x, y, .ref d sz 0 0]) cs := by
  simp only [Rep, RepFs] at h ⊢
  obtain ⟨c1, c2, e1, e2, e3, c3, c4, e4, e5, e6, c5, c6, e7, e8, e9, e10⟩ := h
  exact ⟨c1, c2, e1, e2, e3, c3, c4, e4, e5, e6, c5, c6, e7, e8, .inl ⟨e9.1, trivial⟩, e10⟩
end Go.Lg
namespace Go.Proofs.YthhdcfhaldcheaaGreat
open Go.Lg
theorem net_pure (u v : Int) (c : List Rat) : LV.pure (.agg [iL u, iL v, .list 3 (c.map ratL)]) = true := by simp [LV.pure, pures, pures_map ratE]
theorem net_pureN (u v : Nat) (c : List Rat) : LV.pure (.agg [nI64 u, nI64 v, .list 3 (c.map ratL)]) = true := net_pure u v c
theorem mulE {a b n : Nat} (h : a * b = n) (hn : n ≤ 9223372036854775807) : binI .mul .i64 (a : Nat) (b : Nat) = some (.int .i64 (n : Nat)) := by
  rw [mul64 (by rw [← Int.natCast_mul, h]; omega) (by rw [← Int.natCast_mul, h]; omega), ← Int.natCast_mul, h]
def gL (n : Nat) (W : Nat → Rat) : List Rat := (List.range n).map W
theorem gL_len (n : Nat) (W : Nat → Rat) : (gL n W).length = n := by simp [gL]
theorem gL_succ (n : Nat) (W : Nat → Rat) : gL (n + 1) W = gL n W ++ [W n] := by simp [gL, List.range_succ]
theorem gL_get {n : Nat} {W : Nat → Rat} {x : Nat} (h : x < n) : (gL n W).getD x 0 = W x := by
  rw [List.getD_eq_getElem?_getD, List.getElem?_eq_getElem (by rw [gL_len]; exact h)]; simp [gL]
theorem take_gL (n : Nat) (W : Nat → Rat) (f : Rat → LV) : ((gL n W).map f).take n = (gL n W).map f := by rw [List.take_of_length_le (by simp [gL_len])]
theorem ix_div {V i j : Nat} (h : j ≤ V) : (i * (V + 1) + j) / (V + 1) = i := by
  rw [Nat.add_comm, Nat.add_mul_div_right _ _ (Nat.succ_pos V), Nat.div_eq_of_lt (by omega), Nat.zero_add]
theorem ix_mod {V i j : Nat} (h : j ≤ V) : (i * (V + 1) + j) % (V + 1) = j := by
  rw [Nat.add_comm, Nat.add_mul_mod_self_right, Nat.mod_eq_of_lt (by omega)]
theorem ix_lt {U V i j : Nat} (hi : i ≤ U) (hj : j ≤ V) : i * (V + 1) + j < (U + 1) * (V + 1) := by
  have := Nat.mul_le_mul_right (V + 1) (show i + 1 ≤ U + 1 by omega)
  rw [Nat.succ_mul] at this
  omega
theorem chsR_rl {n : Nat} (k : Nat) (hn : n ≤ 40) : rl (((chs n k : Nat) : Int) : Rat) ≤ 2 := by
  rcases Nat.lt_or_ge n k with h | h
  · rw [chs_gt h]; decide
  · have h1 := chR_rl hn _ (getD_mem (i := k) (by rw [chR_len]; omega))
    rw [chR_get h] at h1; exact h1
def wtV (U V : Nat) (c : List Rat) (x : Nat) : Rat := ((chs U (x / (V + 1)) : Nat) : Int) * ((chs V (x % (V + 1)) : Nat) : Int) * c.getD x 0
def swV (U V : Nat) (c : List Rat) (x : Nat) : Rat := c.getD (x % (U + 1) * (V + 1) + x / (U + 1)) 0
def wtL (U V : Nat) (c : List Rat) : List Rat := gL ((U + 1) * (V + 1)) (wtV U V c)
def swL (U V : Nat) (c : List Rat) : List Rat := gL ((V + 1) * (U + 1)) (swV U V c)
theorem wt_rl {U V : Nat} {c : List Rat} {R : Nat} (hU : U ≤ 40) (hV : V ≤ 40) (hR : 1 ≤ R) (h : ∀ x ∈ c, rl x ≤ R) : ∀ x ∈ wtL U V c, rl x ≤ R + 6 := by
  intro x hx
  obtain ⟨i, _, rfl⟩ := List.mem_map.1 hx
  have h1 := chsR_rl (n := U) (i / (V + 1)) hU
  have h2 := chsR_rl (n := V) (i % (V + 1)) hV
  have h3 := getD_rl hR h i
  have h4 := rl_mul (((chs U (i / (V + 1)) : Nat) : Int) : Rat) (((chs V (i % (V + 1)) : Nat) : Int) : Rat)
  have h5 := rl_mul ((((chs U (i / (V + 1)) : Nat) : Int) : Rat) * (((chs V (i % (V + 1)) : Nat) : Int) : Rat)) (c.getD i 0)
  show rl (wtV U V c i) ≤ _
  unfold wtV
  omega
theorem set_gd {W : Nat → Rat} {o : List Rat} {m : Nat} {v : Rat} (h : m < o.length) (hv : v = W m) : (gL m W ++ o.drop m).set m v = gL (m + 1) W ++ o.drop (m + 1) := by
  subst hv
  rw [List.drop_eq_getElem_cons h, set_mid _ _ _ _ (gL_len m W).symm, gL_succ, List.append_assoc]; rfl
theorem get_gd {W : Nat → Rat} {o : List Rat} {m : Nat} : (gL m W ++ o.drop m).getD m 0 = o.getD m 0 := by
  rw [getD_app2 _ _ _ (by rw [gL_len]; exact Nat.le_refl _), gL_len, Nat.sub_self, getD_dropR, Nat.add_zero]
/-! ### products of nets -/
section
variable (V1 V2 W U2 : Nat) (x y : List Rat) (i j k : Nat)
def mL : Nat → List Rat → List Rat
  | 0, o => o
  | l + 1, o => (mL l o).set ((i + k) * (W + 1) + j + l) ((mL l o).getD ((i + k) * (W + 1) + j + l) 0 + x.getD (i * (V1 + 1) + j) 0 * y.getD (k * (V2 + 1) + l) 0)
def mK : Nat → List Rat → List Rat
  | 0, o => o
  | k + 1, o => mL V1 V2 W x y i j k (V2 + 1) (mK k o)
def mJ : Nat → List Rat → List Rat
  | 0, o => o
  | j + 1, o => mK V1 V2 W x y i j (U2 + 1) (mJ j o)
def mI : Nat → List Rat → List Rat
  | 0, o => o
  | i + 1, o => mJ V1 V2 W U2 x y i (V1 + 1) (mI i o)
end
def mTop (U1 V1 U2 V2 : Nat) (a b : List Rat) : List Rat := mI V1 V2 (V1 + V2) U2 (wtL U1 V1 a) (wtL U2 V2 b) (U1 + 1) (List.replicate ((U1 + U2 + 1) * (V1 + V2 + 1)) 0)
def dvV (U V : Nat) (o : List Rat) (x : Nat) : Rat := o.getD x 0 / ((((chs U (x / (V + 1)) : Nat) : Int) : Rat) * (((chs V (x % (V + 1)) : Nat) : Int) : Rat))
def tmL (U1 V1 U2 V2 : Nat) (a b : List Rat) : List Rat := gL ((U1 + U2 + 1) * (V1 + V2 + 1)) (dvV (U1 + U2) (V1 + V2) (mTop U1 V1 U2 V2 a b))
namespace H_c_choose7
theorem zSm {p q : Prop} (k : q) (e : p = q := by simp only [e1, e2, e3, e4, p1, p2, p3, q1, q2, q3, l1, t0, t1, r1, r2, r3, r4, Nat.zero_add, Nat.reduceMul, Nat.reduceAdd, b1, b2, b3, b4, b5, b6, i1, i2, i3, i4, i5, i6, Nat.reduceBEq, dfi, rtake, List.append_nil, rowI_len, ek1, ek2, egr, take_map_len, map_snoc, len_snoc, List.length_cons, List.length_nil, kills_map i64E, kills_map ratE, LV.kill, kills]; exact rfl) : p := e.mpr k
end H_c_choose7
open H_c_choose7 in
theorem c_choose7 (n : Nat) (hn : n ≤ 40) : CallP Tryz.prog 123 [nI64 n] (.list 1 ((rowI n).map i64L)) := by
  refine fnP Tryz.func123 (ht := (fun g => LV.ren_pure g _ (pure_lst i64E _ _))) ?_
  have ek1 : True := trivial
  have ek2 : True := trivial
  have egr : True := trivial
  refine zg19 ?_
  refine wl_weak (Weak.mv (t := 3) (b := 5) 11 (by decide) (by decide) (by decide) rfl rfl rfl) ?_
  refine lp1 (fun (k : Nat) L => ((((St.mk L.slot (hp [(11, ⟨1, (rowI k).map i64L, true⟩)])).put (some 3) (.ref 11 1 0 (k + 1))).put (some 6) (nI64 n)).put (some 7) (nI64 k))) (fun k => k ≤ n) (fun k => n - k) 0 (Nat.zero_le _) ?_
  rintro k L1 hk
  refine zg6 ?_
  refine wl_if rfl (fun h8r h8 => ?_) (fun h8r h8 => ?_)
  · have hkn : k < n := by omega
    have ek2 : ((((k + 1 + 1 : Nat)) : Int) - 2) = (k : Int) := by omega
    refine zg8 ?_
    refine st_store rfl (.app (news := [i64L 1]) rfl rfl rfl rfl rfl (by simp [rowI_len]) (.inl rfl) (by decide) Tryz.underlying99 Tryz.underlying99 Z2 T2 rfl B2 (.inl ⟨10, 0, _, rfl, by decide, rfl, rfl, by simp, rfl, rfl⟩) (by simp; omega) (by simp; omega) (by decide)) ?_
    refine zg4 ?_
    refine wl_regW (Weak.kill _ 10) ?_
    refine zg7 ?_
    refine lp2 (fun (i : Nat) (o : List Int) L => (((((St.mk L.slot (hp [(11, ⟨1, o.map i64L, true⟩)])).put (some 3) (.ref 11 1 0 (k + 1 + 1))).put (some 4) (nI64 i)).put (some 6) (nI64 n)).put (some 7) (nI64 k))) (fun i o => i ≤ k ∧ PasC k i o) (fun i o => i) k (rowI k ++ [1]) ⟨Nat.le_refl _, pas_init k⟩ ?_
    rintro i o L2 ⟨hi, hP⟩
    refine zg7 ?_
    refine wl_if rfl (fun h16r h16 => ?_) (fun h16r h16 => ?_)
    · obtain ⟨j, rfl⟩ : ∃ j, i = j + 1 := ⟨i - 1, by omega⟩
      have ek1 : (((j + 1 : Nat) : Int) - 1) = (j : Int) := by omega
      have hol := hP.1
      have hb1 := pas_bd hP (by omega) (x := j + 1) (by omega)
      have hb2 := pas_bd hP (by omega) (x := j) (by omega)
      refine zg4 ?_
      refine wl_regD 11 (by decide +kernel) ?_
      refine zg21 ?_
      exact nx2 j (o.set (j + 1) (o.getD (j + 1) 0 + o.getD j 0)) ⟨by omega, pas_step hP hi⟩
    · obtain rfl : i = 0 := by omega
      have hE := pas_end hP
      subst hE
      refine zg11 ?_
      exact nx1 (k + 1) (by omega)
  · obtain rfl : n = k := by omega
    refine zg12 ?_
    exact ret1f [11] rfl rfl (imm_refm i64E rfl rfl (by rw [rowI_len]))
open H0 in
theorem c_shaped (U V : Nat) (c : List Rat) (hc : c.length = (U + 1) * (V + 1)) (hl : c.length ≤ 1048576) : CallP Tryz.prog 121 [.agg [nI64 U, nI64 V, .list 3 (c.map ratL)]] (bL true) := by
  have hU : U + 1 ≤ c.length := by rw [hc]; exact Nat.le_mul_of_pos_right _ (Nat.succ_pos V)
  have hV : V + 1 ≤ c.length := by rw [hc]; exact Nat.le_mul_of_pos_left _ (Nat.succ_pos U)
  have hnp := net_pureN U V c
  refine fnP Tryz.func121 ?_
  refine zg12 ?_
  refine st_pure (guardX (v := true) rfl rfl ((decide_eq_true (by omega))) rfl) fa27 ?_
  refine st_pure (guardX (v := true) rfl rfl ((decide_eq_true (by omega))) rfl) ld3 ?_
  refine st_pure (guardX (v := true) rfl rfl ((decide_eq_true (by omega))) rfl) (.bin rfl rfl rfl) ?_
  refine st_pure rfl (.pickT rfl ((decide_eq_true (by omega)))) ?_
  refine zg1 ?_
  refine st_pure (guardX (v := true) rfl rfl ((decide_eq_true (by omega))) rfl) fa27 ?_
  refine st_pure (guardX (v := true) rfl rfl ((decide_eq_true (by omega))) rfl) ld3 ?_
  refine st_pure (guardX (v := true) rfl rfl ((decide_eq_true (by omega))) rfl) fa27 ?_
  refine st_pure (guardX (v := true) rfl rfl ((decide_eq_true (by omega))) rfl) ld25 ?_
  refine st_pure (guardX (v := true) rfl rfl ((decide_eq_true (by omega))) rfl) ln25 ?_
  refine st_pure (guardX (v := true) rfl rfl ((decide_eq_true (by omega))) rfl) (.bin rfl rfl rfl) ?_
  refine st_pure rfl (.pickT rfl ((decide_eq_true (by omega)))) ?_
  refine zg1 ?_
  refine st_pure (guardX (v := true) rfl rfl ((decide_eq_true (by omega))) rfl) fa27 ?_
  refine st_pure (guardX (v := true) rfl rfl ((decide_eq_true (by omega))) rfl) ld3 ?_
  refine st_pure (guardX (v := true) rfl rfl ((decide_eq_true (by omega))) rfl) fa27 ?_
  refine st_pure (guardX (v := true) rfl rfl ((decide_eq_true (by omega))) rfl) ld25 ?_
  refine st_pure (guardX (v := true) rfl rfl ((decide_eq_true (by omega))) rfl) ln25 ?_
  refine st_pure (guardX (v := true) rfl rfl ((decide_eq_true (by omega))) rfl) (.bin rfl rfl rfl) ?_
  refine st_pure rfl (.pickT rfl ((decide_eq_true (by omega)))) ?_
  refine zg1 ?_
  refine st_pure (guardX (v := true) rfl rfl ((decide_eq_true (by omega))) rfl) fa27 ?_
  refine st_pure (guardX (v := true) rfl rfl ((decide_eq_true (by omega))) rfl) ld25 ?_
  refine st_pure (guardX (v := true) rfl rfl ((decide_eq_true (by omega))) rfl) ln25 ?_
  refine st_pure (guardX (v := true) rfl rfl ((decide_eq_true (by omega))) rfl) fa27 ?_
  refine st_pure (guardX (v := true) rfl rfl ((decide_eq_true (by omega))) rfl) ld3 ?_
  refine st_pure (guardX (v := true) rfl rfl ((decide_eq_true (by omega))) rfl) (.bin rfl rfl (add1N (by omega))) ?_
  refine st_pure (guardX (v := true) rfl rfl ((decide_eq_true (by omega))) rfl) fa27 ?_
  refine st_pure (guardX (v := true) rfl rfl ((decide_eq_true (by omega))) rfl) ld3 ?_
  refine st_pure (guardX (v := true) rfl rfl ((decide_eq_true (by omega))) rfl) (.bin rfl rfl (add1N (by omega))) ?_
  refine st_pure (guardX (v := true) rfl rfl ((decide_eq_true (by omega))) rfl) (.bin rfl rfl (mulE hc.symm (by omega))) ?_
  refine st_pure (guardX (v := true) rfl rfl ((decide_eq_true (by omega))) rfl) (.bin rfl rfl rfl) ?_
  refine st_pure rfl (.pickT rfl ((decide_eq_true (by omega)))) ?_
  refine zg4 ?_
  refine ret1 (x := .v (.bool (((c.length : Nat) : Int) == ((c.length : Nat) : Int)))) rfl ?_
  rw [beq_self_eq_true]
  exact .pure rfl
namespace H_c_weighted
theorem zSm {p q : Prop} (k : q) (e : p = q := by simp only [e1, e2, e3, e4, p1, p2, p3, q1, q2, q3, l1, t0, t1, r1, r2, r3, r4, Nat.zero_add, Nat.reduceMul, Nat.reduceAdd, b1, b2, b3, b4, b5, b6, i1, i2, i3, i4, i5, i6, Nat.reduceBEq, dfq, dfi, rowI_len, egu, egv, ewn, Nat.add_zero, take_gL, take_map_len, map_snoc, len_snoc, List.length_cons, List.length_nil, kills_map i64E, kills_map ratE, ratL_kill, spL_kill, LV.kill, kills]; exact rfl) : p := e.mpr k
end H_c_weighted
open H_c_weighted in
theorem c_weighted (U V : Nat) (c : List Rat) (hc : c.length = (U + 1) * (V + 1)) (hl : c.length ≤ 1048576) (hU4 : U ≤ 40) (hV4 : V ≤ 40) (R : Nat) (hR1 : 1 ≤ R) (hR : R ≤ 1073741824) (hcR : ∀ x ∈ c, rl x ≤ R) : CallP Tryz.prog 122 [.agg [nI64 U, nI64 V, .list 3 (c.map ratL)]] (.list 3 ((wtL U V c).map ratL)) := by
  have hU : U + 1 ≤ c.length := by rw [hc]; exact Nat.le_mul_of_pos_right _ (Nat.succ_pos V)
  have hV : V + 1 ≤ c.length := by rw [hc]; exact Nat.le_mul_of_pos_left _ (Nat.succ_pos U)
  have hnp := net_pureN U V c
  refine fnP Tryz.func122 ?_
  have egu : True := trivial
  have egv : True := trivial
  have ewn : True := trivial
  refine zg15 ?_
  refine cp am1 (c_choose7 V hV4) ?_
  refine zg8 ?_
  refine cp am1 (c_choose7 U hU4) ?_
  refine zg5 ?_
  refine wl_weak (Weak.own (t := 3) 47 3 rfl rfl) ?_
  refine lp2 (fun (i m : Nat) L => (((((((St.mk L.slot (hp [(1, ⟨3, [.agg [nI64 U, nI64 V, .list 3 (c.map ratL)]], true⟩), (47, ⟨3, (gL m (wtV U V c)).map ratL, true⟩)])).put (some 1) (.eptr 1 3 0 0)).put (some 4) (.list 1 ((rowI V).map i64L))).put (some 14) (.list 1 ((rowI U).map i64L))).put (some 15) (nI64 (U + 1))).put (some 16) (nI64 i)).put (some 3) (.ref 47 3 0 m))) (fun i m => i ≤ U + 1 ∧ i * (V + 1) = m) (fun i m => U + 1 - i) 0 0 ⟨Nat.zero_le _, Nat.zero_mul _⟩ ?_
  rintro i m L1 ⟨hi, hm⟩
  refine zg6 ?_
  refine wl_if rfl (fun h17r h17 => ?_) (fun h17r h17 => ?_)
  · have hi2 : i ≤ U := by omega
    have egu := rowI_get hi2
    have hcu := chs_40 i hU4
    refine zg21 ?_
    refine lp1 (fun (j : Nat) L => ((((((((((((St.mk L.slot (hp [(1, ⟨3, [.agg [nI64 U, nI64 V, .list 3 (c.map ratL)]], true⟩), (47, ⟨3, (gL (m + j) (wtV U V c)).map ratL, true⟩)])).put (some 1) (.eptr 1 3 0 0)).put (some 4) (.list 1 ((rowI V).map i64L))).put (some 14) (.list 1 ((rowI U).map i64L))).put (some 15) (nI64 (U + 1))).put (some 16) (nI64 i)).put (some 3) (.ref 47 3 0 (m + j))).put (some 5) (nI64 i)).put (some 6) (nI64 (chs U i))).put (some 21) (.list 1 ((rowI V).map i64L))).put (some 22) (nI64 (V + 1))).put (some 23) (nI64 j))) (fun j => j ≤ V + 1) (fun j => V + 1 - j) 0 (Nat.zero_le _) ?_
    rintro j L2 hj
    refine zg6 ?_
    refine wl_if rfl (fun h24r h24 => ?_) (fun h24r h24 => ?_)
    · have hj2 : j ≤ V := by omega
      have egv := rowI_get hj2
      have hcv := chs_40 j hV4
      have hix := ix_lt hi2 hj2
      rw [hm, ← hc] at hix
      have hgl := gL_len (m + j) (wtV U V c)
      have ewn : gL (m + (j + 1)) (wtV U V c) = gL (m + j) (wtV U V c) ++ [(((chs U i : Nat) : Int) : Rat) * (((chs V j : Nat) : Int) : Rat) * c.getD (m + j) 0] := by rw [← Nat.add_assoc, gL_succ, wtV, ← hm, ix_div hj2, ix_mod hj2]
      have hr1 := chsR_rl i hU4
      have hr2 := chsR_rl j hV4
      have hr3 := getD_rl hR1 hcR (m + j)
      have hr4 := rl_mul (((chs U i : Nat) : Int) : Rat) (((chs V j : Nat) : Int) : Rat)
      refine zg13 ?_
      refine wl_regD 19 (by decide +kernel) ?_
      refine zg2 ?_
      refine cp am1 (c_RInt ((chs U i : Nat) : Int) (by omega) (by omega)) ?_
      refine zg1 ?_
      refine cp am1 (c_RInt ((chs V j : Nat) : Int) (by omega) (by omega)) ?_
      refine cp am2 (c_RMul (((chs U i : Nat) : Int) : Rat) (((chs V j : Nat) : Int) : Rat) (by omega)) ?_
      refine zg5 ?_
      refine st_pure rfl (.bin rfl rfl (add1N (by omega))) ?_
      refine st_pure rfl (.bin rfl rfl (mulE hm (by omega))) ?_
      refine zg1 ?_
      refine st_pure rfl (.bin rfl rfl (add64N (by omega))) ?_
      refine zg2 ?_
      refine cp am2 (c_RMul ((((chs U i : Nat) : Int) : Rat) * (((chs V j : Nat) : Int) : Rat)) (c.getD (m + j) 0) (by omega)) ?_
      refine zg1 ?_
      refine st_store rfl (.app (news := [ratL ((((chs U i : Nat) : Int) : Rat) * (((chs V j : Nat) : Int) : Rat) * c.getD (m + j) 0)]) rfl rfl rfl rfl rfl (by simp [gL_len]) (.inl rfl) (by decide) Tryz.underlying25 Tryz.underlying25 Z33a T33 rfl B33 (.inl ⟨46, 0, _, rfl, by decide, rfl, rfl, by simp, rfl, by simp [pures, ratE.pure]⟩) (by simp; omega) (by simp; omega) (by decide)) ?_
      refine zg4 ?_
      refine wl_regW (Weak.kill _ 46) ?_
      refine zg4 ?_
      exact nx1 (j + 1) (by omega)
    · obtain rfl : j = V + 1 := by omega
      refine zg11 ?_
      exact nx2 (i + 1) (m + (V + 1)) ⟨by omega, by rw [Nat.succ_mul]; omega⟩
  · obtain rfl : i = U + 1 := by omega
    have hE : gL m (wtV U V c) = wtL U V c := by rw [← hm]; rfl
    refine zg12 ?_
    rw [← hE]
    exact ret1f [47] rfl rfl (imm_refm ratE rfl rfl (by rw [gL_len]))
namespace H_c_Swap
theorem zSm {p q : Prop} (k : q) (e : p = q := by simp only [e1, e2, e3, e4, p1, p2, p3, q1, q2, q3, l1, t0, t1, r1, r2, r3, r4, Nat.zero_add, Nat.reduceMul, Nat.reduceAdd, b1, b2, b3, b4, b5, b6, i1, i2, i3, i4, i5, i6, Nat.reduceBEq, dfq, esw, Rat.add_zero, Nat.add_zero, take_gL, take_map_len, map_snoc, len_snoc, List.length_cons, List.length_nil, kills_map i64E, kills_map ratE, ratL_kill, spL_kill, LV.kill, kills]; exact rfl) : p := e.mpr k
end H_c_Swap
open H_c_Swap in
theorem c_Swap (U V : Nat) (c : List Rat) (hc : c.length = (U + 1) * (V + 1)) (hl : c.length ≤ 1048576) (hcR : ∀ x ∈ c, rl x ≤ 274877906944) : CallP Tryz.prog 81 [.agg [nI64 U, nI64 V, .list 3 (c.map ratL)]] (.agg [nI64 V, nI64 U, .list 3 ((swL U V c).map ratL)]) := by
  have hU : U + 1 ≤ c.length := by rw [hc]; exact Nat.le_mul_of_pos_right _ (Nat.succ_pos V)
  have hV : V + 1 ≤ c.length := by rw [hc]; exact Nat.le_mul_of_pos_left _ (Nat.succ_pos U)
  have hnp := net_pureN U V c
  refine fnP Tryz.func81 (ht := (fun g => LV.ren_pure g _ (net_pureN _ _ _))) ?_
  have esw : True := trivial
  refine zg21 ?_
  refine cp am1 (c_shaped U V c hc hl) ?_
  refine zg11 ?_
  refine st_pure rfl (.bin rfl rfl (add1N (by omega))) ?_
  refine zg4 ?_
  refine wl_weak ((Weak.cell 3 rfl (fun Z μ w cs h => rep_net 43 3 _ _ Z μ w cs h)).trans (Weak.newB _ 43 3 rfl)) ?_
  refine lp2 (fun (j m : Nat) L => ((((((St.mk L.slot (hp [(1, ⟨3, [.agg [nI64 U, nI64 V, .list 3 (c.map ratL)]], true⟩), (2, ⟨3, [.agg [.v (.int .i64 0), .v (.int .i64 0), .v (.slice none 0 0)]], true⟩), (3, ⟨3, [.agg [nI64 V, nI64 U, .ref 43 3 0 m]], true⟩), (43, ⟨3, (gL m (swV U V c)).map ratL, true⟩)])).put (some 1) (.eptr 1 3 0 0)).put (some 2) (.eptr 2 3 0 0)).put (some 3) (.eptr 3 3 0 0)).put (some 17) (nI64 (V + 1))).put (some 18) (nI64 j))) (fun j m => j ≤ V + 1 ∧ j * (U + 1) = m) (fun j m => V + 1 - j) 0 0 ⟨Nat.zero_le _, Nat.zero_mul _⟩ ?_
  rintro j m L1 ⟨hj, hm⟩
  refine zg6 ?_
  refine wl_if rfl (fun h19r h19 => ?_) (fun h19r h19 => ?_)
  · have hj2 : j ≤ V := by omega
    refine zg14 ?_
    refine st_pure rfl (.bin rfl rfl (add1N (by omega))) ?_
    refine zg4 ?_
    refine lp1 (fun (i : Nat) L => (((((((((St.mk L.slot (hp [(1, ⟨3, [.agg [nI64 U, nI64 V, .list 3 (c.map ratL)]], true⟩), (2, ⟨3, [.agg [.v (.int .i64 0), .v (.int .i64 0), .v (.slice none 0 0)]], true⟩), (3, ⟨3, [.agg [nI64 V, nI64 U, .ref 43 3 0 (m + i)]], true⟩), (43, ⟨3, (gL (m + i) (swV U V c)).map ratL, true⟩)])).put (some 1) (.eptr 1 3 0 0)).put (some 2) (.eptr 2 3 0 0)).put (some 3) (.eptr 3 3 0 0)).put (some 17) (nI64 (V + 1))).put (some 18) (nI64 j)).put (some 4) (nI64 j)).put (some 23) (nI64 (U + 1))).put (some 24) (nI64 i))) (fun i => i ≤ U + 1) (fun i => U + 1 - i) 0 (Nat.zero_le _) ?_
    rintro i L2 hi
    refine zg6 ?_
    refine wl_if rfl (fun h25r h25 => ?_) (fun h25r h25 => ?_)
    · have hi2 : i ≤ U := by omega
      have hmi := ix_lt (U := V) (V := U) hj2 hi2
      rw [hm, Nat.mul_comm, ← hc] at hmi
      have hix := ix_lt hi2 hj2
      rw [← hc] at hix
      have hgl := gL_len (m + i) (swV U V c)
      have esw : gL (m + (i + 1)) (swV U V c) = gL (m + i) (swV U V c) ++ [c.getD (i * (V + 1) + j) 0] := by rw [← Nat.add_assoc, gL_succ, swV, ← hm, ix_div hi2, ix_mod hi2]
      have hr1 := hcR _ (getD_mem (i := i * (V + 1) + j) hix)
      refine zg10 ?_
      refine wl_regD 16 (by decide +kernel) ?_
      refine zg7 ?_
      refine st_pure rfl (.bin rfl rfl (add1N (by omega))) ?_
      refine st_pure rfl (.bin rfl rfl (mulE rfl (by omega))) ?_
      refine zg1 ?_
      refine st_pure rfl (.bin rfl rfl (add64N (by omega))) ?_
      refine zg2 ?_
      refine st_pure rfl (.build0 SL33 Z33a) ?_
      refine cp am2 (c_RAdd (c.getD (i * (V + 1) + j) 0) 0 (by rw [show rl 0 = 1 from rfl]; omega)) ?_
      refine zg1 ?_
      refine st_store rfl (.app (news := [ratL (c.getD (i * (V + 1) + j) 0 + 0)]) rfl rfl rfl rfl rfl (by simp [gL_len]) (.inl rfl) (by decide) Tryz.underlying25 Tryz.underlying25 Z33a T33 rfl B33 (.inl ⟨42, 0, _, rfl, by decide, rfl, rfl, by simp, rfl, by simp [pures, ratE.pure]⟩) (by simp; omega) (by simp; omega) (by decide)) ?_
      refine zg5 ?_
      refine wl_regW (Weak.kill _ 42) ?_
      refine zg4 ?_
      exact nx1 (i + 1) (by omega)
    · obtain rfl : i = U + 1 := by omega
      refine zg11 ?_
      exact nx2 (j + 1) (m + (U + 1)) ⟨by omega, by rw [Nat.succ_mul]; omega⟩
  · obtain rfl : j = V + 1 := by omega
    have hE : gL m (swV U V c) = swL U V c := by rw [← hm]; rfl
    refine zg12 ?_
    rw [← hE]
    exact retC [43] rfl rfl rfl rfl rfl T27 (.agg (.cons (.pure rfl) (.cons (.pure rfl) (.cons (imm_refm ratE rfl rfl (by rw [gL_len])) .nil))))
end Go.Proofs.YthhdcfhaldcheaaGreat
