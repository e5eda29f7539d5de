/- The document's sums, products and derivatives of polynomials. -/
import Derived.Test.YthhdcfhaldcheaaGreatG1
import Derived.Test.YthhdcfhaldcheaaGreatC3
import Derived.Test.YthhdcfhaldcheaaGreatM1
set_option linter.unusedVariables false
set_option linter.unusedSimpArgs false
set_option maxHeartbeats 8000000
set_option maxRecDepth 100000
attribute [local irreducible] Go.Lg.opsL Go.Lg.wpL Go.Lg.thenL Go.Lg.blockL
namespace Go.Proofs.YthhdcfhaldcheaaGreat
open Go.Lg
end Go.Proofs.YthhdcfhaldcheaaGreat
namespace Go.Lg
/-- a list and a value that a call hands out, the list in a block of its own, told as values -/
theorem callP_own2 {P : Program} {f : FuncId} {args : List LV} {sz n : Nat} {vals : List LV} {mt : Bool} {y : LV} (h : CallOK P f args (.tup [.ref 1 sz 0 n, y]) [⟨sz, vals, mt⟩]) (hp : pures vals = true) (hn : vals.length = n) (hy : y.pure = true) : CallP P f args (.tup [.list sz vals, y]) := by
  refine ⟨⟨h.1, fun W Z0 vs hz hr => Calls.mono (h.2 W Z0 vs hz hr) (fun e w' => ?_)⟩, tame2 (by simp [LV.pure, hp]) hy⟩
  rintro ⟨v, μ, Z, he, hc, hv⟩
  have hle : Heap.le (outHeap [⟨sz, vals, mt⟩]) (outHeap [⟨sz, vals, false⟩]) := fun b blk hb => by
    unfold outHeap at hb ⊢
    by_cases h0 : b = 0
    · rw [if_pos h0] at hb; cases hb
    · rw [if_neg h0] at hb
      rcases Nat.lt_or_ge (b - 1) 1 with h1 | h1
      · have e : b - 1 = 0 := by omega
        rw [e] at hb
        simp only [List.getElem?_cons_zero, Option.some.injEq] at hb
        subst hb
        exact ⟨false, by rw [if_neg h0, e]; rfl, fun _ => rfl, fun _ _ => h0⟩
      · rw [List.getElem?_eq_none (by simpa using h1)] at hb; cases hb
  obtain ⟨Z1, k1, k2⟩ := hc.widen hle
  have hfr : Frame Z μ w' w' := ⟨fun _ _ => rfl, fun _ id _ c _ _ hh => ⟨c, hh, rfl⟩⟩
  obtain ⟨vs, rfl, v1, vs1, e1, hv1, v2, vs2, e2, hv2, e3⟩ := hv
  have hi : Imm (outHeap [⟨sz, vals, false⟩]) (.ref 1 sz 0 n) (.list sz vals) := by
    have := Imm.ref (H := outHeap [⟨sz, vals, false⟩]) (b := 1) (off := 0) (len := n) (blk := ⟨sz, vals, false⟩) rfl rfl hp (by simp [hn]) rfl
    simpa [← hn] using this
  have g1 := (RepV.of1 (fun l h => by cases h) hv1).mono k2 (fun _ _ h => h) hfr
  have g2 := (RepV.of1 (LV.pure_ne_tup hy) hv2).mono k2 (fun _ _ h => h) hfr
  refine ⟨_, drop1 μ 1, Z1, he, ?_, ⟨vs, rfl, v1, vs1, e1, hi.soundV k1 g1, v2, vs2, e2, (Imm.pure hy).soundV k1 g2, e3⟩⟩
  have kk := Core.kill (L := ⟨fun _ => .any, outHeap [⟨sz, vals, false⟩]⟩) 1 (by decide) k1
  refine kk.reheap fun b id hb => ?_
  have hb1 : b ≠ 1 := fun e => by rw [e] at hb; simp [drop1] at hb
  have hb2 : μ b = some id := by unfold drop1 at hb; split at hb <;> first | exact hb | cases hb
  obtain ⟨blk, g1, _⟩ := k1.heap b id hb2
  unfold outHeap at g1
  split at g1
  · cases g1
  · rw [List.getElem?_eq_none (by simp; omega)] at g1; cases g1
end Go.Lg
namespace Go.Proofs.YthhdcfhaldcheaaGreat
open Go.Lg
theorem rm1 : ((-1 : Int) : Rat) = -1 := by decide +kernel
theorem set_zip {a w B : List Rat} {g : Rat → Rat → Rat} {i : Nat} (hi : i < a.length) (hwl : w.length = a.length) (hwt : w.take i = (zipG g a B).take i) : (w.set i (g (a.getD i 0) (B.getD i 0))).take (i + 1) = (zipG g a B).take (i + 1) :=
  set_takeR (by rw [zipG_len]; exact hi) (by rw [zipG_len]; exact hwl) hwt (by rw [zipG_get hi])
theorem difP_rl' {p : List Rat} {R : Nat} (hR : 1 ≤ R) (hl : p.length ≤ 1000) (h : ∀ x ∈ p, rl x ≤ R) : ∀ x ∈ difP p, rl x ≤ 2 * R + 4 := difP_rl hR hl h
theorem mul_bdS {i j l R : Nat} (hi : i ≤ 41) (hl : l ≤ 41) (hj : j ≤ l) (hR : R ≤ 1048576) : 1 + i * (l * (2 * R + 5)) + j * (2 * R + 5) ≤ 4000000000 := by
  have h1 := Nat.mul_le_mul hi (Nat.mul_le_mul hl (show 2 * R + 5 ≤ 2097157 by omega))
  have h2 := Nat.mul_le_mul (show j ≤ 41 by omega) (show 2 * R + 5 ≤ 2097157 by omega)
  omega
namespace H_c_FAdd5
theorem zSm {p q : Prop} (k : q) (e : p = q := by simp only [e1, e2, e3, e4, p1, p2, p3, q1, q2, q3, l1, t0, t1, r1, r2, r3, r4, Nat.zero_add, Nat.reduceMul, Nat.reduceAdd, b1, b2, b3, b4, b5, b6, i1, i2, i3, i4, i5, i6, Nat.reduceBEq, frz_nil, dfq, hmx1, hlp, hlq, egw, List.length_set, take_map_len, map_snoc, len_snoc, List.length_cons, List.length_nil, List.nil_append, List.map_nil, List.take_nil, List.append_nil, kills_map ratE, ratL_kill, spL_kill, LV.kill, kills]; exact rfl) : p := e.mpr k
end H_c_FAdd5
open H_c_FAdd5 in
theorem c_FAdd5 (p q : List Rat) (n : Nat) (hp0 : 0 < p.length) (hq0 : 0 < q.length) (hn : n ≤ 40) (hpn : p.length ≤ n + 1) (hqn : q.length ≤ n + 1) (hpq : p.length = n + 1 ∨ q.length = n + 1) (hps : upS p n) (hqs : upS q n) : CallP Tryz.prog 35 [.list 3 (p.map ratL), .list 3 (q.map ratL)] (.list 3 ((zipG (· + ·) (upP p n) (upP q n)).map ratL)) := by
  have hmx1 := emx hp0 hpn hqn hpq
  have hlp := upP_len hpn
  have hlq := upP_len hqn
  have hzl : (zipG (· + ·) (upP p n) (upP q n)).length = n + 1 := by rw [zipG_len, hlp]
  refine fnP Tryz.func35 ?_
  have egw : True := trivial
  refine zg12 ?_
  refine st_pure rfl (.bin rfl rfl (subMx hp0 hpn hqn hpq (by omega))) ?_
  refine zg7 ?_
  refine st_call1 [] rfl rfl (.cons im0 (.cons im0 .nil)) (c_FElev p n hp0 hn hpn hps) (pures_map ratE _) rfl ?_
  refine zg1 ?_
  refine st_pure rfl (.extract (r := .ref 1000321 3 0 (n + 1)) rfl rfl (fun m h => by cases h)) ?_
  refine st_pure rfl (.extract (r := iL 0) rfl rfl (fun m h => by cases h)) ?_
  refine zg8 ?_
  refine st_call1 [] rfl rfl (.cons im0 (.cons im0 .nil)) (c_FElev q n hq0 hn hqn hqs) (pures_map ratE _) rfl ?_
  refine zg1 ?_
  refine st_pure rfl (.extract (r := .ref 1000417 3 0 (n + 1)) rfl rfl (fun m h => by cases h)) ?_
  refine st_pure rfl (.extract (r := iL 0) rfl rfl (fun m h => by cases h)) ?_
  refine zg11 ?_
  refine lp2 (fun (i : Nat) (w : List Rat) L => ((((St.mk L.slot (hp [(1000321, ⟨3, w.map ratL, true⟩), (1000417, ⟨3, (upP q n).map ratL, true⟩)])).put (some 6) (.ref 1000321 3 0 (n + 1))).put (some 8) (.ref 1000417 3 0 (n + 1))).put (some 10) (nI64 i))) (fun i w => i ≤ n + 1 ∧ w.length = n + 1 ∧ w.take i = (zipG (· + ·) (upP p n) (upP q n)).take i ∧ ∀ x, i ≤ x → w.getD x 0 = (upP p n).getD x 0) (fun i w => n + 1 - i) 0 (upP p n) ⟨Nat.zero_le _, hlp, rfl, fun _ _ => rfl⟩ ?_
  rintro i w L1 ⟨hi, hwl, hwt, hz⟩
  refine zg9 ?_
  refine wl_if rfl (fun h32r h32 => ?_) (fun h32r h32 => ?_)
  · have hi2 : i < n + 1 := by omega
    have egw := hz i (Nat.le_refl _)
    have hr1 := upP_rl (show n ≤ 1000 by omega) hp0 hpn hps i
    have hr2 := upP_rl (show n ≤ 1000 by omega) hq0 hqn hqs i
    refine zg4 ?_
    refine wl_regD 12 (by decide +kernel) ?_
    refine zg10 ?_
    simp only [t1, dfq, Nat.zero_add, egw]
    refine cp am2 (c_FRAdd ((upP p n).getD i 0) ((upP q n).getD i 0) (by omega)) ?_
    refine zg7 ?_
    refine st_pure rfl (.bin rfl rfl (add1N (by omega))) ?_
    refine zg3 ?_
    exact nx2 (i + 1) (w.set i ((upP p n).getD i 0 + (upP q n).getD i 0)) ⟨by omega, by simp [hwl], set_zip (by omega) (by omega) hwt, fun x hx => by rw [set_getD _ _ _ _ (by omega), if_neg (by omega)]; exact hz x (by omega)⟩
  · obtain rfl : i = n + 1 := by omega
    have hE : w = (zipG (· + ·) (upP p n) (upP q n)) := by
      rw [List.take_of_length_le (by omega), List.take_of_length_le (by omega)] at hwt
      exact hwt
    subst hE
    refine zg12 ?_
    exact ret1f [1000321] rfl rfl (imm_refm ratE rfl rfl hzl.symm)
namespace H_c_FSub5
theorem zSm {p q : Prop} (k : q) (e : p = q := by simp only [e1, e2, e3, e4, p1, p2, p3, q1, q2, q3, l1, t0, t1, r1, r2, r3, r4, Nat.zero_add, Nat.reduceMul, Nat.reduceAdd, b1, b2, b3, b4, b5, b6, i1, i2, i3, i4, i5, i6, Nat.reduceBEq, rm1, kills_map ratE, ratL_kill, spL_kill, LV.kill, kills]; exact rfl) : p := e.mpr k
end H_c_FSub5
open H_c_FSub5 in
theorem c_FSub5 (p q : List Rat) (n : Nat) (hp0 : 0 < p.length) (hq0 : 0 < q.length) (hn : n ≤ 40) (hpn : p.length ≤ n + 1) (hqn : q.length ≤ n + 1) (hpq : p.length = n + 1 ∨ q.length = n + 1) (hps : upS p n) (hqs : upS q n) (hqs2 : upS (scP (-1) q) n) : CallP Tryz.prog 37 [.list 3 (p.map ratL), .list 3 (q.map ratL)] (.list 3 ((zipG (· - ·) (upP p n) (upP q n)).map ratL)) := by
  have hA := c_FAdd5 p (scP (-1) q) n hp0 (by rw [scP_len]; exact hq0) hn hpn (by rw [scP_len]; exact hqn) (by rw [scP_len]; exact hpq) hps hqs2
  rw [up_sc, zip_neg] at hA
  have hrm : rl (-1) ≤ 1 := by decide +kernel
  have hS := c_FScale (-1) q (by omega) (fun x hx => by have := hqs.1 x hx; omega)
  have hI := c_FInt (-1) (by decide) (by decide)
  rw [rm1] at hI
  refine fnP Tryz.func37 ?_
  refine zg8 ?_
  refine cp am1 (hI) ?_
  refine zg1 ?_
  refine cp am2 (hS) ?_
  refine cp am2 (hA) ?_
  refine zg4 ?_
  exact ret1 rfl (by first | exact .pure rfl | exact .pure (limL_pure _) | exact .pure (magL_pure _) | exact .pure (ratE.pure _) | exact .pure (pure_lst u32E _ _) | exact .pure (pure_lst ratE _ _))
namespace H_c_FDiff5
theorem zSm {p q : Prop} (k : q) (e : p = q := by simp only [e1, e2, e3, e4, p1, p2, p3, q1, q2, q3, l1, t0, t1, r1, r2, r3, r4, Nat.zero_add, Nat.reduceMul, Nat.reduceAdd, b1, b2, b3, b4, b5, b6, i1, i2, i3, i4, i5, i6, Nat.reduceBEq, dfq, etk, ers, take_map_len, map_snoc, len_snoc, List.length_cons, List.length_nil, List.nil_append, List.map_nil, List.take_nil, List.append_nil, kills_map ratE, ratL_kill, spL_kill, LV.kill, kills]; exact rfl) : p := e.mpr k
end H_c_FDiff5
open H_c_FDiff5 in
theorem c_FDiff5 (p : List Rat) (hp0 : 0 < p.length) (hl : p.length ≤ 1000) (hpr : ∀ x ∈ p, rl x ≤ 1073741824) : CallP Tryz.prog 41 [.list 3 (p.map ratL)] (.list 3 ((difP p).map ratL)) := by
  refine fnP Tryz.func41 ?_
  have etk : True := trivial
  have ers : True := trivial
  refine zg13 ?_
  refine wl_if rfl (fun h8r h8 => ?_) (fun h8r h8 => ?_)
  · have hE : difP p = [0] := by unfold difP; rw [if_pos (by omega)]
    refine zg2 ?_
    refine st_pure rfl (.build0 SL33 Z33a) ?_
    refine zg6 ?_
    rw [hE]
    exact ret1f [10] rfl rfl (imm_refm ratE rfl rfl rfl)
  · have hdl : (difP p).length = p.length - 1 := by rw [difP_len, if_neg (by omega)]
    refine zg6 ?_
    refine st_pure rfl (.bin rfl rfl (sub1N (by omega) (by omega))) ?_
    refine cp am1 (c_FInt ((p.length - 1 : Nat) : Int) (by omega) (by omega)) ?_
    refine zg16 ?_
    refine wl_weak (Weak.own (t := 4) 36 3 rfl rfl) ?_
    refine lp1 (fun (i : Nat) L => (((((St.mk L.slot (hp [(3, ⟨3, [ratL (((p.length - 1 : Nat) : Int) : Rat)], true⟩), (36, ⟨3, ((difP p).take i).map ratL, true⟩)])).put (some 0) (.list 3 (p.map ratL))).put (some 3) (.eptr 3 3 0 0)).put (some 4) (.ref 36 3 0 i)).put (some 5) (nI64 i))) (fun i => i ≤ p.length - 1) (fun i => p.length - 1 - i) 0 (Nat.zero_le _) ?_
    rintro i L1 hi
    refine zg4 ?_
    refine st_pure rfl (.bin rfl rfl (add1N (by omega))) ?_
    refine zg5 ?_
    refine wl_if rfl (fun h19r h19 => ?_) (fun h19r h19 => ?_)
    · have hi2 : i < p.length - 1 := by omega
      have hr1 := hpr _ (getD_mem (i := i) (by omega))
      have hr2 := hpr _ (getD_mem (i := i + 1) (by omega))
      have hr3 := rl_sub (p.getD (i + 1) 0) (p.getD i 0)
      have hr4 := rl_int (n := ((p.length - 1 : Nat) : Int)) (by omega)
      have hdt : ((difP p).take i).length = i := by rw [List.length_take]; omega
      have etk : (((difP p).take i).map ratL).take i = ((difP p).take i).map ratL := List.take_of_length_le (by rw [List.length_map]; omega)
      have ers : (difP p).take i ++ [((((p.length - 1 : Nat) : Int) : Rat) * (p.getD (i + 1) 0 - p.getD i 0))] = (difP p).take (i + 1) := by rw [← difP_get (by omega), List.take_add_one, List.getD_eq_getElem?_getD, List.getElem?_eq_getElem (by omega)]; rfl
      refine zg4 ?_
      refine wl_regD 14 (by decide +kernel) ?_
      refine zg4 ?_
      refine st_pure rfl (.bin rfl rfl (add1N (by omega))) ?_
      refine zg6 ?_
      refine cp am2 (c_FRSub (p.getD (i + 1) 0) (p.getD i 0) (by omega)) ?_
      refine cp am2 (c_FRMul (((p.length - 1 : Nat) : Int) : Rat) (p.getD (i + 1) 0 - p.getD i 0) (by omega)) ?_
      refine zg1 ?_
      refine st_store rfl (.app (news := [ratL ((((p.length - 1 : Nat) : Int) : Rat) * (p.getD (i + 1) 0 - p.getD i 0))]) rfl rfl rfl rfl rfl (by rw [List.length_map]; omega) (.inl rfl) (by decide) Tryz.underlying38 Tryz.underlying38 Z33a T33 rfl B33 (.inl ⟨35, 0, _, rfl, by decide, rfl, rfl, by simp, rfl, by simp [pures, ratE.pure]⟩) (by simp; omega) (by simp; omega) (by decide)) ?_
      refine zg4 ?_
      refine wl_regW (Weak.kill _ 35) ?_
      refine zg1 ?_
      refine st_pure rfl (.bin rfl rfl (add1N (by omega))) ?_
      refine zg3 ?_
      exact nx1 (i + 1) (by omega)
    · obtain rfl : i = p.length - 1 := by omega
      have hE : (difP p).take (p.length - 1) = difP p := List.take_of_length_le (by omega)
      refine zg12 ?_
      simp only [hE]
      exact ret1f [36] rfl rfl (imm_refm ratE rfl rfl (by omega))
namespace H_c_FMul5
theorem zSm {p q : Prop} (k : q) (e : p = q := by simp only [e1, e2, e3, e4, p1, p2, p3, q1, q2, q3, l1, t0, t1, r1, r2, r3, r4, Nat.zero_add, Nat.reduceMul, Nat.reduceAdd, b1, b2, b3, b4, b5, b6, i1, i2, i3, i4, i5, i6, Nat.reduceBEq, dfq, List.length_set, rowM_len, allM_len, eij, esm, kills_map ratE, ratL_kill, spL_kill, LV.kill, kills]; exact rfl) : p := e.mpr k
end H_c_FMul5
open H_c_FMul5 in
theorem c_FMul5 (p q : List Rat) (R : Nat) (hp0 : 0 < p.length) (hq0 : 0 < q.length) (h : p.length - 1 + (q.length - 1) ≤ 40) (hR1 : 1 ≤ R) (hR : R ≤ 1048576) (hpR : ∀ x ∈ p, rl x ≤ R) (hqR : ∀ x ∈ q, rl x ≤ R) : CallP Tryz.prog 32 [.list 3 (p.map ratL), .list 3 (q.map ratL)] (.tup [.list 3 ((mulP p q).map ratL), iL 0]) := by
  have hpl : p.length ≤ 41 := by omega
  have hql : q.length ≤ 41 := by omega
  refine fnP Tryz.func32 ?_
  have eij : True := trivial
  have esm : True := trivial
  refine zg10 ?_
  refine st_pure rfl (.bin rfl rfl (sub1N (by omega) (by omega))) ?_
  refine zg2 ?_
  refine st_pure rfl (.bin rfl rfl (sub1N (by omega) (by omega))) ?_
  refine zg9 ?_
  refine st_pure rfl (.bin rfl rfl (add64N (by omega))) ?_
  refine zg3 ?_
  refine wl_if rfl (fun h22r h22 => ?_) (fun h22r h22 => ?_)
  · omega
  · refine zg6 ?_
    refine st_pure rfl (.bin rfl rfl (add64N (by omega))) ?_
    refine st_pure rfl (.bin rfl rfl (add1N (by omega))) ?_
    refine st_alloc rfl rfl (.mkE (n := (p.length - 1 + (q.length - 1) + 1)) (m := (p.length - 1 + (q.length - 1) + 1)) ml ml om om om) ?_
    refine zg10 ?_
    refine lp1 (fun (i : Nat) L => (((((((St.mk L.slot (hp [(27, ⟨3, (allM p q i).map ratL, true⟩)])).put (some 0) (.list 3 (p.map ratL))).put (some 1) (.list 3 (q.map ratL))).put (some 6) (nI64 (p.length - 1))).put (some 7) (nI64 (q.length - 1))).put (some 8) (.ref 27 3 0 (p.length - 1 + (q.length - 1) + 1))).put (some 9) (nI64 i))) (fun i => i ≤ p.length) (fun i => p.length - i) 0 (Nat.zero_le _) ?_
    rintro i L1 hi
    refine zg8 ?_
    refine wl_if rfl (fun h30r h30 => ?_) (fun h30r h30 => ?_)
    · have hip : i < p.length := by omega
      have hx1 := chR_rl (n := p.length - 1) (by omega) _ (getD_mem (i := i) (by rw [chR_len]; omega))
      have hx2 := hpR _ (getD_mem (i := i) hip)
      have hx3 := rl_mul ((chR (p.length - 1)).getD i 0) (p.getD i 0)
      refine zg10 ?_
      refine lp1 (fun (j : Nat) L => ((((((((St.mk L.slot (hp [(27, ⟨3, (rowM ((chR (p.length - 1)).getD i 0 * p.getD i 0) i (chR (q.length - 1)) q (allM p q i) j).map ratL, true⟩)])).put (some 0) (.list 3 (p.map ratL))).put (some 1) (.list 3 (q.map ratL))).put (some 6) (nI64 (p.length - 1))).put (some 7) (nI64 (q.length - 1))).put (some 8) (.ref 27 3 0 (p.length - 1 + (q.length - 1) + 1))).put (some 9) (nI64 i)).put (some 10) (nI64 j))) (fun j => j ≤ q.length) (fun j => q.length - j) 0 (Nat.zero_le _) ?_
      rintro j L2 hj
      refine zg8 ?_
      refine wl_if rfl (fun h35r h35 => ?_) (fun h35r h35 => ?_)
      · have hjq : j < q.length := by omega
        have eij : ((i : Int) + (j : Int)).toNat = i + j := by omega
        have hlr : (rowM ((chR (p.length - 1)).getD i 0 * p.getD i 0) i (chR (q.length - 1)) q (allM p q i) j).length = (p.length - 1 + (q.length - 1) + 1) := by rw [rowM_len, allM_len]
        have hS := allM_rl hpl hql hR1 hpR hqR i
        have ho := rowM_rl (i := i) (by omega) hS (show rl ((chR (p.length - 1)).getD i 0 * p.getD i 0) ≤ R + 2 by omega) (chR_rl (n := q.length - 1) (by omega)) hqR hR1 j
        have hbd := mul_bdS (i := i) (j := j) (by omega) hql hj hR
        have hg1 := getD_rl (by omega) ho (i + j)
        have hc1 := chsQ_rl (n := p.length - 1) i (by omega)
        have hc2 := chsQ_rl (n := q.length - 1) j (by omega)
        have hc3 := rl_mul (((chs (p.length - 1) i : Nat) : Int) : Rat) (((chs (q.length - 1) j : Nat) : Int) : Rat)
        have hg3 := hqR _ (getD_mem (i := j) hjq)
        have hg4 := rl_mul (p.getD i 0) (q.getD j 0)
        have hg5 := rl_mul ((((chs (p.length - 1) i : Nat) : Int) : Rat) * (((chs (q.length - 1) j : Nat) : Int) : Rat)) (p.getD i 0 * q.getD j 0)
        have esm : (((chs (p.length - 1) i : Nat) : Int) : Rat) * (((chs (q.length - 1) j : Nat) : Int) : Rat) * (p.getD i 0 * q.getD j 0) = ((chR (p.length - 1)).getD i 0 * p.getD i 0) * ((chR (q.length - 1)).getD j 0 * q.getD j 0) := by rw [chR_get (by omega), chR_get (by omega)]; exact mul_same _ _ _ _
        refine zg8 ?_
        refine cp am2 (c_FChoose (p.length - 1) i (by omega) (by omega)) ?_
        refine zg2 ?_
        refine cp am2 (c_FChoose (q.length - 1) j (by omega) (by omega)) ?_
        refine cp am2 (c_FRMul (((chs (p.length - 1) i : Nat) : Int) : Rat) (((chs (q.length - 1) j : Nat) : Int) : Rat) (by omega)) ?_
        refine zg4 ?_
        refine wl_regD 23 (by decide +kernel) ?_
        refine zg3 ?_
        refine st_pure rfl (.bin rfl rfl (add64N (by omega))) ?_
        refine zg3 ?_
        refine st_pure rfl (.bin rfl rfl (add64N (by omega))) ?_
        refine zg11 ?_
        try simp only [t1, dfq, Nat.zero_add]
        refine cp am2 (c_FRMul _ _ (by omega)) ?_
        try simp only [t1, dfq, Nat.zero_add]
        refine cp am2 (c_FRMul _ _ (by omega)) ?_
        try simp only [t1, dfq, Nat.zero_add]
        refine cp am2 (c_FRAdd _ _ (by omega)) ?_
        refine zg5 ?_
        refine wl_regW (Weak.kill _ 11) ?_
        refine zg1 ?_
        refine st_pure rfl (.bin rfl rfl (add1N (by omega))) ?_
        refine zg3 ?_
        exact nx1 (j + 1) (by omega)
      · obtain rfl : j = q.length := by omega
        refine zg8 ?_
        refine st_pure rfl (.bin rfl rfl (add1N (by omega))) ?_
        refine zg3 ?_
        exact nx1 (i + 1) (by omega)
    · obtain rfl : i = p.length := by omega
      refine zg12 ?_
      refine lp2 (fun (k : Nat) (w : List Rat) L => (((((St.mk L.slot (hp [(27, ⟨3, w.map ratL, true⟩)])).put (some 6) (nI64 (p.length - 1))).put (some 7) (nI64 (q.length - 1))).put (some 8) (.ref 27 3 0 (p.length - 1 + (q.length - 1) + 1))).put (some 12) (nI64 k))) (fun k w => k ≤ (p.length - 1 + (q.length - 1) + 1) ∧ w.length = (p.length - 1 + (q.length - 1) + 1) ∧ w.take k = (mulP p q).take k ∧ ∀ x, k ≤ x → w.getD x 0 = (allM p q p.length).getD x 0) (fun k w => (p.length - 1 + (q.length - 1) + 1) - k) 0 (allM p q p.length) ⟨Nat.zero_le _, allM_len _ _ _, rfl, fun x _ => rfl⟩ ?_
      rintro k w L3 ⟨hk, hwl, hwt, hz⟩
      refine zg6 ?_
      refine st_pure rfl (.bin rfl rfl (add64N (by omega))) ?_
      refine zg3 ?_
      refine wl_if rfl (fun h72r h72 => ?_) (fun h72r h72 => ?_)
      · have hkm : k < (p.length - 1 + (q.length - 1) + 1) := by omega
        have hS := allM_rl hpl hql hR1 hpR hqR p.length
        have hbd := mul_bdS (i := p.length) (j := 0) hpl hql (by omega) hR
        have hg1 := getD_rl (by omega) hS k
        have hg2 := chsQ_rl (n := p.length - 1 + (q.length - 1)) k h
        have hzk := hz k (Nat.le_refl _)
        rw [← hzk] at hg1
        refine zg4 ?_
        refine wl_regD 13 (by decide +kernel) ?_
        refine zg8 ?_
        refine st_pure rfl (.bin rfl rfl (add64N (by omega))) ?_
        refine zg1 ?_
        refine cp am2 (c_FChoose (p.length - 1 + (q.length - 1)) k (by omega) (by omega)) ?_
        try simp only [t1, dfq, Nat.zero_add]
        refine cp am2 (c_FOver _ _ (by omega)) ?_
        refine zg7 ?_
        refine st_pure rfl (.bin rfl rfl (add1N (by omega))) ?_
        refine zg3 ?_
        exact nx2 (k + 1) (w.set k (w.getD k 0 / (((chs (p.length - 1 + (q.length - 1)) k : Nat) : Int) : Rat))) ⟨by omega, by simp [hwl], set_takeR (by rw [mulP_len]; omega) (by rw [mulP_len, hwl]) hwt (by rw [mulP_get (by omega), hz k (Nat.le_refl _), chR_get (by omega)]), fun x hx => by rw [set_getD _ _ _ _ (by omega), if_neg (by omega)]; exact hz x (by omega)⟩
      · obtain rfl : k = (p.length - 1 + (q.length - 1) + 1) := by omega
        have hE : w = mulP p q := by
          rw [List.take_of_length_le (by omega), List.take_of_length_le (by rw [mulP_len]; omega)] at hwt
          exact hwt
        refine zg13 ?_
        rw [← hE]
        exact ret2f [27] rfl rfl (imm_refm ratE rfl rfl (by omega)) rfl (.pure rfl)
end Go.Proofs.YthhdcfhaldcheaaGreat
