/- Texts G2, S1, E4, G4, T10, T11, T12, T13, T14, V1, T15, T16, T17 of this proof, joined. -/
import Derived.Test.YthhdcfhaldcheaaGreatTS5
set_option linter.unusedVariables false
set_option linter.unusedSimpArgs false
section
set_option linter.unusedVariables false
set_option linter.unusedSimpArgs false
set_option maxHeartbeats 8000000
set_option maxRecDepth 100000
attribute [local irreducible] Go.Lg.opsL Go.Lg.wpL Go.Lg.thenL Go.Lg.blockL
namespace Go.Proofs.YthhdcfhaldcheaaGreat
open Go.Lg
end Go.Proofs.YthhdcfhaldcheaaGreat
namespace Go.Lg
/-- a list and a value that a call hands out, the list in a block of its own, told as values -/
theorem callP_own2 {P : Program} {f : FuncId} {args : List LV} {sz n : Nat} {vals : List LV} {mt : Bool} {y : LV} (h : CallOK P f args (.tup [.ref 1 sz 0 n, y]) [⟨sz, vals, mt⟩]) (hp : pures vals = true) (hn : vals.length = n) (hy : y.pure = true) : CallP P f args (.tup [.list sz vals, y]) := by
  refine ⟨⟨h.1, fun W Z0 vs hz hr => Calls.mono (h.2 W Z0 vs hz hr) (fun e w' => ?_)⟩, tame2 (by simp [LV.pure, hp]) hy⟩
  rintro ⟨v, μ, Z, he, hc, hv⟩
  have hle : Heap.le (outHeap [⟨sz, vals, mt⟩]) (outHeap [⟨sz, vals, false⟩]) := fun b blk hb => by
    unfold outHeap at hb ⊢
    by_cases h0 : b = 0
    · rw [if_pos h0] at hb; cases hb
    · rw [if_neg h0] at hb
      rcases Nat.lt_or_ge (b - 1) 1 with h1 | h1
      · have e : b - 1 = 0 := by omega
        rw [e] at hb
        simp only [List.getElem?_cons_zero, Option.some.injEq] at hb
        subst hb
        exact ⟨false, by rw [if_neg h0, e]; rfl, fun _ => rfl, fun _ _ => h0⟩
      · rw [List.getElem?_eq_none (by simpa using h1)] at hb; cases hb
  obtain ⟨Z1, k1, k2⟩ := hc.widen hle
  have hfr : Frame Z μ w' w' := ⟨fun _ _ => rfl, fun _ id _ c _ _ hh => ⟨c, hh, rfl⟩⟩
  obtain ⟨vs, rfl, v1, vs1, e1, hv1, v2, vs2, e2, hv2, e3⟩ := hv
  have hi : Imm (outHeap [⟨sz, vals, false⟩]) (.ref 1 sz 0 n) (.list sz vals) := by
    have := Imm.ref (H := outHeap [⟨sz, vals, false⟩]) (b := 1) (off := 0) (len := n) (blk := ⟨sz, vals, false⟩) rfl rfl hp (by simp [hn]) rfl
    simpa [← hn] using this
  have g1 := (RepV.of1 (fun l h => by cases h) hv1).mono k2 (fun _ _ h => h) hfr
  have g2 := (RepV.of1 (LV.pure_ne_tup hy) hv2).mono k2 (fun _ _ h => h) hfr
  refine ⟨_, drop1 μ 1, Z1, he, ?_, ⟨vs, rfl, v1, vs1, e1, hi.soundV k1 g1, v2, vs2, e2, (Imm.pure hy).soundV k1 g2, e3⟩⟩
  have kk := Core.kill (L := ⟨fun _ => .any, outHeap [⟨sz, vals, false⟩]⟩) 1 (by decide) k1
  refine kk.reheap fun b id hb => ?_
  have hb1 : b ≠ 1 := fun e => by rw [e] at hb; simp [drop1] at hb
  have hb2 : μ b = some id := by unfold drop1 at hb; split at hb <;> first | exact hb | cases hb
  obtain ⟨blk, g1, _⟩ := k1.heap b id hb2
  unfold outHeap at g1
  split at g1
  · cases g1
  · rw [List.getElem?_eq_none (by simp; omega)] at g1; cases g1
end Go.Lg
namespace Go.Proofs.YthhdcfhaldcheaaGreat
open Go.Lg
theorem rm1 : ((-1 : Int) : Rat) = -1 := by decide +kernel
theorem set_zip {a w B : List Rat} {g : Rat → Rat → Rat} {i : Nat} (hi : i < a.length) (hwl : w.length = a.length) (hwt : w.take i = (zipG g a B).take i) : (w.set i (g (a.getD i 0) (B.getD i 0))).take (i + 1) = (zipG g a B).take (i + 1) :=
  set_takeR (by rw [zipG_len]; exact hi) (by rw [zipG_len]; exact hwl) hwt (by rw [zipG_get hi])
theorem mul_bdS {i j l R : Nat} (hi : i ≤ 41) (hl : l ≤ 41) (hj : j ≤ l) (hR : R ≤ 1048576) : 1 + i * (l * (2 * R + 5)) + j * (2 * R + 5) ≤ 4000000000 := by
  have h1 := Nat.mul_le_mul hi (Nat.mul_le_mul hl (show 2 * R + 5 ≤ 2097157 by omega))
  have h2 := Nat.mul_le_mul (show j ≤ 41 by omega) (show 2 * R + 5 ≤ 2097157 by omega)
  omega
namespace H_c_FAdd5
theorem zSm {p q : Prop} (k : q) (e : p = q := by simp only [e1, e2, e3, e4, p1, p2, p3, q1, q2, q3, l1, t0, t1, r1, r2, r3, r4, Nat.zero_add, Nat.reduceMul, Nat.reduceAdd, b1, b2, b3, b4, b5, b6, i1, i2, i3, i4, i5, i6, Nat.reduceBEq, frz_nil, dfq, hmx1, hlp, hlq, egw, List.length_set, take_map_len, map_snoc, len_snoc, List.length_cons, List.length_nil, List.nil_append, List.map_nil, List.take_nil, List.append_nil, kills_map ratE, ratL_kill, spL_kill, LV.kill, kills]; exact rfl) : p := e.mpr k
end H_c_FAdd5
open H_c_FAdd5 in
theorem c_FAdd5 (p q : List Rat) (n : Nat) (hp0 : 0 < p.length) (hq0 : 0 < q.length) (hn : n ≤ 40) (hpn : p.length ≤ n + 1) (hqn : q.length ≤ n + 1) (hpq : p.length = n + 1 ∨ q.length = n + 1) (hps : upS p n) (hqs : upS q n) : CallP Tryz.prog 35 [.list 3 (p.map ratL), .list 3 (q.map ratL)] (.list 3 ((zipG (· + ·) (upP p n) (upP q n)).map ratL)) := by
  have hmx1 := emx hp0 hpn hqn hpq
  have hlp := upP_len hpn
  have hlq := upP_len hqn
  have hzl : (zipG (· + ·) (upP p n) (upP q n)).length = n + 1 := by rw [zipG_len, hlp]
  refine fnP Tryz.func35 ?_
  have egw : True := trivial
  refine zg12 ?_
  refine st_pure rfl (.bin rfl rfl (subMx hp0 hpn hqn hpq (by omega))) ?_
  refine zg7 ?_
  refine st_call1 [] rfl rfl (.cons im0 (.cons im0 .nil)) (c_FElev p n hp0 hn hpn hps) (pures_map ratE _) rfl ?_
  refine zg1 ?_
  refine st_pure rfl (.extract (r := .ref 1000321 3 0 (n + 1)) rfl rfl (fun m h => by cases h)) ?_
  refine st_pure rfl (.extract (r := iL 0) rfl rfl (fun m h => by cases h)) ?_
  refine zg8 ?_
  refine st_call1 [] rfl rfl (.cons im0 (.cons im0 .nil)) (c_FElev q n hq0 hn hqn hqs) (pures_map ratE _) rfl ?_
  refine zg1 ?_
  refine st_pure rfl (.extract (r := .ref 1000417 3 0 (n + 1)) rfl rfl (fun m h => by cases h)) ?_
  refine st_pure rfl (.extract (r := iL 0) rfl rfl (fun m h => by cases h)) ?_
  refine zg11 ?_
  refine lp2 (fun (i : Nat) (w : List Rat) L => ((((St.mk L.slot (hp [(1000321, ⟨3, w.map ratL, true⟩), (1000417, ⟨3, (upP q n).map ratL, true⟩)])).put (some 6) (.ref 1000321 3 0 (n + 1))).put (some 8) (.ref 1000417 3 0 (n + 1))).put (some 10) (nI64 i))) (fun i w => i ≤ n + 1 ∧ w.length = n + 1 ∧ w.take i = (zipG (· + ·) (upP p n) (upP q n)).take i ∧ ∀ x, i ≤ x → w.getD x 0 = (upP p n).getD x 0) (fun i w => n + 1 - i) 0 (upP p n) ⟨Nat.zero_le _, hlp, rfl, fun _ _ => rfl⟩ ?_
  rintro i w L1 ⟨hi, hwl, hwt, hz⟩
  refine zg9 ?_
  refine wl_if rfl (fun h32r h32 => ?_) (fun h32r h32 => ?_)
  · have hi2 : i < n + 1 := by omega
    have egw := hz i (Nat.le_refl _)
    have hr1 := upP_rl (show n ≤ 1000 by omega) hp0 hpn hps i
    have hr2 := upP_rl (show n ≤ 1000 by omega) hq0 hqn hqs i
    refine zg4 ?_
    refine wl_regD 12 (by decide +kernel) ?_
    refine zg10 ?_
    simp only [t1, dfq, Nat.zero_add, egw]
    refine cp am2 (c_FRAdd ((upP p n).getD i 0) ((upP q n).getD i 0) (by omega)) ?_
    refine zg7 ?_
    refine st_pure rfl (.bin rfl rfl (add1N (by omega))) ?_
    refine zg3 ?_
    exact nx2 (i + 1) (w.set i ((upP p n).getD i 0 + (upP q n).getD i 0)) ⟨by omega, by simp [hwl], set_zip (by omega) (by omega) hwt, fun x hx => by rw [set_getD _ _ _ _ (by omega), if_neg (by omega)]; exact hz x (by omega)⟩
  · obtain rfl : i = n + 1 := by omega
    have hE : w = (zipG (· + ·) (upP p n) (upP q n)) := by
      rw [List.take_of_length_le (by omega), List.take_of_length_le (by omega)] at hwt
      exact hwt
    subst hE
    refine zg12 ?_
    exact ret1f [1000321] rfl rfl (imm_refm ratE rfl rfl hzl.symm)
namespace H_c_FDiff5
theorem zSm {p q : Prop} (k : q) (e : p = q := by simp only [e1, e2, e3, e4, p1, p2, p3, q1, q2, q3, l1, t0, t1, r1, r2, r3, r4, Nat.zero_add, Nat.reduceMul, Nat.reduceAdd, b1, b2, b3, b4, b5, b6, i1, i2, i3, i4, i5, i6, Nat.reduceBEq, dfq, etk, ers, take_map_len, map_snoc, len_snoc, List.length_cons, List.length_nil, List.nil_append, List.map_nil, List.take_nil, List.append_nil, kills_map ratE, ratL_kill, spL_kill, LV.kill, kills]; exact rfl) : p := e.mpr k
end H_c_FDiff5
open H_c_FDiff5 in
theorem c_FDiff5 (p : List Rat) (hp0 : 0 < p.length) (hl : p.length ≤ 1000) (hpr : ∀ x ∈ p, rl x ≤ 1073741824) : CallP Tryz.prog 41 [.list 3 (p.map ratL)] (.list 3 ((difP p).map ratL)) := by
  refine fnP Tryz.func41 ?_
  have etk : True := trivial
  have ers : True := trivial
  refine zg13 ?_
  refine wl_if rfl (fun h8r h8 => ?_) (fun h8r h8 => ?_)
  · have hE : difP p = [0] := by unfold difP; rw [if_pos (by omega)]
    refine zg2 ?_
    refine st_pure rfl (.build0 SL33 Z33a) ?_
    refine zg6 ?_
    rw [hE]
    exact ret1f [10] rfl rfl (imm_refm ratE rfl rfl rfl)
  · have hdl : (difP p).length = p.length - 1 := by rw [difP_len, if_neg (by omega)]
    refine zg6 ?_
    refine st_pure rfl (.bin rfl rfl (sub1N (by omega) (by omega))) ?_
    refine cp am1 (c_FInt ((p.length - 1 : Nat) : Int) (by omega) (by omega)) ?_
    refine zg16 ?_
    refine wl_weak (Weak.own (t := 4) 36 3 rfl rfl) ?_
    refine lp1 (fun (i : Nat) L => (((((St.mk L.slot (hp [(3, ⟨3, [ratL (((p.length - 1 : Nat) : Int) : Rat)], true⟩), (36, ⟨3, ((difP p).take i).map ratL, true⟩)])).put (some 0) (.list 3 (p.map ratL))).put (some 3) (.eptr 3 3 0 0)).put (some 4) (.ref 36 3 0 i)).put (some 5) (nI64 i))) (fun i => i ≤ p.length - 1) (fun i => p.length - 1 - i) 0 (Nat.zero_le _) ?_
    rintro i L1 hi
    refine zg4 ?_
    refine st_pure rfl (.bin rfl rfl (add1N (by omega))) ?_
    refine zg5 ?_
    refine wl_if rfl (fun h19r h19 => ?_) (fun h19r h19 => ?_)
    · have hi2 : i < p.length - 1 := by omega
      have hr1 := hpr _ (getD_mem (i := i) (by omega))
      have hr2 := hpr _ (getD_mem (i := i + 1) (by omega))
      have hr3 := rl_sub (p.getD (i + 1) 0) (p.getD i 0)
      have hr4 := rl_int (n := ((p.length - 1 : Nat) : Int)) (by omega)
      have hdt : ((difP p).take i).length = i := by rw [List.length_take]; omega
      have etk : (((difP p).take i).map ratL).take i = ((difP p).take i).map ratL := List.take_of_length_le (by rw [List.length_map]; omega)
      have ers : (difP p).take i ++ [((((p.length - 1 : Nat) : Int) : Rat) * (p.getD (i + 1) 0 - p.getD i 0))] = (difP p).take (i + 1) := by rw [← difP_get (by omega), List.take_add_one, List.getD_eq_getElem?_getD, List.getElem?_eq_getElem (by omega)]; rfl
      refine zg4 ?_
      refine wl_regD 14 (by decide +kernel) ?_
      refine zg4 ?_
      refine st_pure rfl (.bin rfl rfl (add1N (by omega))) ?_
      refine zg6 ?_
      refine cp am2 (c_FRSub (p.getD (i + 1) 0) (p.getD i 0) (by omega)) ?_
      refine cp am2 (c_FRMul (((p.length - 1 : Nat) : Int) : Rat) (p.getD (i + 1) 0 - p.getD i 0) (by omega)) ?_
      refine zg1 ?_
      refine st_store rfl (.app (news := [ratL ((((p.length - 1 : Nat) : Int) : Rat) * (p.getD (i + 1) 0 - p.getD i 0))]) rfl rfl rfl rfl rfl (by rw [List.length_map]; omega) (.inl rfl) (by decide) Tryz.underlying38 Tryz.underlying38 Z33a T33 rfl B33 (.inl ⟨35, 0, _, rfl, by decide, rfl, rfl, by simp, rfl, by simp [pures, ratE.pure]⟩) (by simp; omega) (by simp; omega) (by decide)) ?_
      refine zg4 ?_
      refine wl_regW (Weak.kill _ 35) ?_
      refine zg1 ?_
      refine st_pure rfl (.bin rfl rfl (add1N (by omega))) ?_
      refine zg3 ?_
      exact nx1 (i + 1) (by omega)
    · obtain rfl : i = p.length - 1 := by omega
      have hE : (difP p).take (p.length - 1) = difP p := List.take_of_length_le (by omega)
      refine zg12 ?_
      simp only [hE]
      exact ret1f [36] rfl rfl (imm_refm ratE rfl rfl (by omega))
namespace H_c_FMul5
theorem zSm {p q : Prop} (k : q) (e : p = q := by simp only [e1, e2, e3, e4, p1, p2, p3, q1, q2, q3, l1, t0, t1, r1, r2, r3, r4, Nat.zero_add, Nat.reduceMul, Nat.reduceAdd, b1, b2, b3, b4, b5, b6, i1, i2, i3, i4, i5, i6, Nat.reduceBEq, dfq, List.length_set, rowM_len, allM_len, eij, esm, kills_map ratE, ratL_kill, spL_kill, LV.kill, kills]; exact rfl) : p := e.mpr k
end H_c_FMul5
open H_c_FMul5 in
theorem c_FMul5 (p q : List Rat) (R : Nat) (hp0 : 0 < p.length) (hq0 : 0 < q.length) (h : p.length - 1 + (q.length - 1) ≤ 40) (hR1 : 1 ≤ R) (hR : R ≤ 1048576) (hpR : ∀ x ∈ p, rl x ≤ R) (hqR : ∀ x ∈ q, rl x ≤ R) : CallP Tryz.prog 32 [.list 3 (p.map ratL), .list 3 (q.map ratL)] (.tup [.list 3 ((mulP p q).map ratL), iL 0]) := by
  have hpl : p.length ≤ 41 := by omega
  have hql : q.length ≤ 41 := by omega
  refine fnP Tryz.func32 ?_
  have eij : True := trivial
  have esm : True := trivial
  refine zg10 ?_
  refine st_pure rfl (.bin rfl rfl (sub1N (by omega) (by omega))) ?_
  refine zg2 ?_
  refine st_pure rfl (.bin rfl rfl (sub1N (by omega) (by omega))) ?_
  refine zg9 ?_
  refine st_pure rfl (.bin rfl rfl (add64N (by omega))) ?_
  refine zg3 ?_
  refine wl_if rfl (fun h22r h22 => ?_) (fun h22r h22 => ?_)
  · omega
  · refine zg6 ?_
    refine st_pure rfl (.bin rfl rfl (add64N (by omega))) ?_
    refine st_pure rfl (.bin rfl rfl (add1N (by omega))) ?_
    refine st_alloc rfl rfl (.mkE (n := (p.length - 1 + (q.length - 1) + 1)) (m := (p.length - 1 + (q.length - 1) + 1)) ml ml om om om) ?_
    refine zg10 ?_
    refine lp1 (fun (i : Nat) L => (((((((St.mk L.slot (hp [(27, ⟨3, (allM p q i).map ratL, true⟩)])).put (some 0) (.list 3 (p.map ratL))).put (some 1) (.list 3 (q.map ratL))).put (some 6) (nI64 (p.length - 1))).put (some 7) (nI64 (q.length - 1))).put (some 8) (.ref 27 3 0 (p.length - 1 + (q.length - 1) + 1))).put (some 9) (nI64 i))) (fun i => i ≤ p.length) (fun i => p.length - i) 0 (Nat.zero_le _) ?_
    rintro i L1 hi
    refine zg8 ?_
    refine wl_if rfl (fun h30r h30 => ?_) (fun h30r h30 => ?_)
    · have hip : i < p.length := by omega
      have hx1 := chR_rl (n := p.length - 1) (by omega) _ (getD_mem (i := i) (by rw [chR_len]; omega))
      have hx2 := hpR _ (getD_mem (i := i) hip)
      have hx3 := rl_mul ((chR (p.length - 1)).getD i 0) (p.getD i 0)
      refine zg10 ?_
      refine lp1 (fun (j : Nat) L => ((((((((St.mk L.slot (hp [(27, ⟨3, (rowM ((chR (p.length - 1)).getD i 0 * p.getD i 0) i (chR (q.length - 1)) q (allM p q i) j).map ratL, true⟩)])).put (some 0) (.list 3 (p.map ratL))).put (some 1) (.list 3 (q.map ratL))).put (some 6) (nI64 (p.length - 1))).put (some 7) (nI64 (q.length - 1))).put (some 8) (.ref 27 3 0 (p.length - 1 + (q.length - 1) + 1))).put (some 9) (nI64 i)).put (some 10) (nI64 j))) (fun j => j ≤ q.length) (fun j => q.length - j) 0 (Nat.zero_le _) ?_
      rintro j L2 hj
      refine zg8 ?_
      refine wl_if rfl (fun h35r h35 => ?_) (fun h35r h35 => ?_)
      · have hjq : j < q.length := by omega
        have eij : ((i : Int) + (j : Int)).toNat = i + j := by omega
        have hlr : (rowM ((chR (p.length - 1)).getD i 0 * p.getD i 0) i (chR (q.length - 1)) q (allM p q i) j).length = (p.length - 1 + (q.length - 1) + 1) := by rw [rowM_len, allM_len]
        have hS := allM_rl hpl hql hR1 hpR hqR i
        have ho := rowM_rl (i := i) (by omega) hS (show rl ((chR (p.length - 1)).getD i 0 * p.getD i 0) ≤ R + 2 by omega) (chR_rl (n := q.length - 1) (by omega)) hqR hR1 j
        have hbd := mul_bdS (i := i) (j := j) (by omega) hql hj hR
        have hg1 := getD_rl (by omega) ho (i + j)
        have hc1 := chsQ_rl (n := p.length - 1) i (by omega)
        have hc2 := chsQ_rl (n := q.length - 1) j (by omega)
        have hc3 := rl_mul (((chs (p.length - 1) i : Nat) : Int) : Rat) (((chs (q.length - 1) j : Nat) : Int) : Rat)
        have hg3 := hqR _ (getD_mem (i := j) hjq)
        have hg4 := rl_mul (p.getD i 0) (q.getD j 0)
        have hg5 := rl_mul ((((chs (p.length - 1) i : Nat) : Int) : Rat) * (((chs (q.length - 1) j : Nat) : Int) : Rat)) (p.getD i 0 * q.getD j 0)
        have esm : (((chs (p.length - 1) i : Nat) : Int) : Rat) * (((chs (q.length - 1) j : Nat) : Int) : Rat) * (p.getD i 0 * q.getD j 0) = ((chR (p.length - 1)).getD i 0 * p.getD i 0) * ((chR (q.length - 1)).getD j 0 * q.getD j 0) := by rw [chR_get (by omega), chR_get (by omega)]; exact mul_same _ _ _ _
        refine zg8 ?_
        refine cp am2 (c_FChoose (p.length - 1) i (by omega) (by omega)) ?_
        refine zg2 ?_
        refine cp am2 (c_FChoose (q.length - 1) j (by omega) (by omega)) ?_
        refine cp am2 (c_FRMul (((chs (p.length - 1) i : Nat) : Int) : Rat) (((chs (q.length - 1) j : Nat) : Int) : Rat) (by omega)) ?_
        refine zg4 ?_
        refine wl_regD 23 (by decide +kernel) ?_
        refine zg3 ?_
        refine st_pure rfl (.bin rfl rfl (add64N (by omega))) ?_
        refine zg3 ?_
        refine st_pure rfl (.bin rfl rfl (add64N (by omega))) ?_
        refine zg11 ?_
        try simp only [t1, dfq, Nat.zero_add]
        refine cp am2 (c_FRMul _ _ (by omega)) ?_
        try simp only [t1, dfq, Nat.zero_add]
        refine cp am2 (c_FRMul _ _ (by omega)) ?_
        try simp only [t1, dfq, Nat.zero_add]
        refine cp am2 (c_FRAdd _ _ (by omega)) ?_
        refine zg5 ?_
        refine wl_regW (Weak.kill _ 11) ?_
        refine zg1 ?_
        refine st_pure rfl (.bin rfl rfl (add1N (by omega))) ?_
        refine zg3 ?_
        exact nx1 (j + 1) (by omega)
      · obtain rfl : j = q.length := by omega
        refine zg8 ?_
        refine st_pure rfl (.bin rfl rfl (add1N (by omega))) ?_
        refine zg3 ?_
        exact nx1 (i + 1) (by omega)
    · obtain rfl : i = p.length := by omega
      refine zg12 ?_
      refine lp2 (fun (k : Nat) (w : List Rat) L => (((((St.mk L.slot (hp [(27, ⟨3, w.map ratL, true⟩)])).put (some 6) (nI64 (p.length - 1))).put (some 7) (nI64 (q.length - 1))).put (some 8) (.ref 27 3 0 (p.length - 1 + (q.length - 1) + 1))).put (some 12) (nI64 k))) (fun k w => k ≤ (p.length - 1 + (q.length - 1) + 1) ∧ w.length = (p.length - 1 + (q.length - 1) + 1) ∧ w.take k = (mulP p q).take k ∧ ∀ x, k ≤ x → w.getD x 0 = (allM p q p.length).getD x 0) (fun k w => (p.length - 1 + (q.length - 1) + 1) - k) 0 (allM p q p.length) ⟨Nat.zero_le _, allM_len _ _ _, rfl, fun x _ => rfl⟩ ?_
      rintro k w L3 ⟨hk, hwl, hwt, hz⟩
      refine zg6 ?_
      refine st_pure rfl (.bin rfl rfl (add64N (by omega))) ?_
      refine zg3 ?_
      refine wl_if rfl (fun h72r h72 => ?_) (fun h72r h72 => ?_)
      · have hkm : k < (p.length - 1 + (q.length - 1) + 1) := by omega
        have hS := allM_rl hpl hql hR1 hpR hqR p.length
        have hbd := mul_bdS (i := p.length) (j := 0) hpl hql (by omega) hR
        have hg1 := getD_rl (by omega) hS k
        have hg2 := chsQ_rl (n := p.length - 1 + (q.length - 1)) k h
        have hzk := hz k (Nat.le_refl _)
        rw [← hzk] at hg1
        refine zg4 ?_
        refine wl_regD 13 (by decide +kernel) ?_
        refine zg8 ?_
        refine st_pure rfl (.bin rfl rfl (add64N (by omega))) ?_
        refine zg1 ?_
        refine cp am2 (c_FChoose (p.length - 1 + (q.length - 1)) k (by omega) (by omega)) ?_
        try simp only [t1, dfq, Nat.zero_add]
        refine cp am2 (c_FOver _ _ (by omega)) ?_
        refine zg7 ?_
        refine st_pure rfl (.bin rfl rfl (add1N (by omega))) ?_
        refine zg3 ?_
        exact nx2 (k + 1) (w.set k (w.getD k 0 / (((chs (p.length - 1 + (q.length - 1)) k : Nat) : Int) : Rat))) ⟨by omega, by simp [hwl], set_takeR (by rw [mulP_len]; omega) (by rw [mulP_len, hwl]) hwt (by rw [mulP_get (by omega), hz k (Nat.le_refl _), chR_get (by omega)]), fun x hx => by rw [set_getD _ _ _ _ (by omega), if_neg (by omega)]; exact hz x (by omega)⟩
      · obtain rfl : k = (p.length - 1 + (q.length - 1) + 1) := by omega
        have hE : w = mulP p q := by
          rw [List.take_of_length_le (by omega), List.take_of_length_le (by rw [mulP_len]; omega)] at hwt
          exact hwt
        refine zg13 ?_
        rw [← hE]
        exact ret2f [27] rfl rfl (imm_refm ratE rfl rfl (by omega)) rfl (.pure rfl)
end Go.Proofs.YthhdcfhaldcheaaGreat
end
section
set_option linter.unusedVariables false
set_option linter.unusedSimpArgs false
set_option maxHeartbeats 8000000
set_option maxRecDepth 100000
attribute [local irreducible] Go.Lg.opsL Go.Lg.wpL Go.Lg.thenL Go.Lg.blockL
namespace Go.Proofs.YthhdcfhaldcheaaGreat
open Go.Lg
/-- the coefficients of (α + β z) times a polynomial, c the coefficient before -/
def lin (α β : Rat) : Rat → List Rat → List Rat
  | c, [] => [β * c]
  | c, x :: l => (β * c + α * x) :: lin α β x l
/-- the scaled coefficients of a product of n factors with a root between 0 and 1, and of others -/
inductive KS : Nat → List Rat → Prop
  | z {s : Int} {l : List Rat} : l ≠ [] → s = 1 ∨ s = -1 → (∀ x ∈ l, sgnR x = s) → KS 0 l
  | r {n : Nat} {l : List Rat} {a b : Rat} : KS n l → 0 < a → 0 < b → KS (n + 1) (lin (-a) b 0 l)
end Go.Proofs.YthhdcfhaldcheaaGreat
end
section
set_option linter.unusedVariables false
set_option linter.unusedSimpArgs false
set_option maxHeartbeats 8000000
set_option maxRecDepth 100000
attribute [local irreducible] Go.Lg.opsL Go.Lg.wpL Go.Lg.thenL Go.Lg.blockL
namespace Go.Proofs.YthhdcfhaldcheaaGreat
open Go.Lg
open H0 in
theorem c_FPoint (a : Rat) : CallP Tryz.prog 130 [ratL a] (spL (a, a)) := by
  refine fnP Tryz.func130 ?_
  refine zg15 ?_
  exact retC [] rfl rfl rfl (spE.csize _) (spL_all _) T55 (.pure (spE.pure _))
open H0 in
theorem c_FHull (s t : Rat × Rat) (h1 : rl s.1 + rl t.1 ≤ 34359738368) (h2 : rl s.2 + rl t.2 ≤ 34359738368) : CallP Tryz.prog 131 [spL s, spL t] (spL (hulP s t)) := by
  refine fnP Tryz.func131 ?_
  refine zg8 ?_
  refine wl_regD 11 (by decide +kernel) ?_
  refine zg4 ?_
  refine cp am2 (c_FMin _ _ (by omega)) ?_
  refine zg4 ?_
  refine cp am2 (c_FMax _ _ (by omega)) ?_
  refine zg5 ?_
  exact retC [] rfl rfl rfl (spE.csize _) (spL_all _) T55 (.pure (spE.pure _))
open H0 in
theorem c_FSpSame (s : Rat × Rat) (h1 : rl s.1 ≤ 17179869184) (h2 : rl s.2 ≤ 17179869184) : CallP Tryz.prog 58 [spL s, spL s] (bL true) := by
  refine fnP Tryz.func58 ?_
  refine zg13 ?_
  refine cp am2 (c_FSame _ _ (by omega)) ?_
  refine zg1 ?_
  refine st_pure (guardX (v := true) rfl rfl ((decide_eq_true rfl)) rfl) fa55 ?_
  refine st_pure (guardX (v := true) rfl rfl ((decide_eq_true rfl)) rfl) ld33 ?_
  refine st_pure (guardX (v := true) rfl rfl ((decide_eq_true rfl)) rfl) fa55 ?_
  refine st_pure (guardX (v := true) rfl rfl ((decide_eq_true rfl)) rfl) ld33 ?_
  refine st_callP (guardX (v := true) rfl rfl ((decide_eq_true rfl)) rfl) (.cons im0 (.cons im0 .nil)) (c_FSame _ _ (by omega)) ?_
  refine st_pure rfl (.pickT rfl ((decide_eq_true rfl))) ?_
  refine zg4 ?_
  exact ret1 (x := bL true) rfl (.pure rfl)
end Go.Proofs.YthhdcfhaldcheaaGreat
end
section
set_option linter.unusedVariables false
set_option linter.unusedSimpArgs false
set_option maxHeartbeats 8000000
set_option maxRecDepth 100000
attribute [local irreducible] Go.Lg.opsL Go.Lg.wpL Go.Lg.thenL Go.Lg.blockL
namespace Go.Proofs.YthhdcfhaldcheaaGreat
open Go.Lg
theorem bk_one {p : List Rat} : bkP p 1 = (p.getD 0 0, p.getD 0 0) := by
  show hulP (p.getD 0 0, p.getD 0 0) (p.getD 0 0, p.getD 0 0) = _
  rw [hulP, mn_self, mx_self]
theorem bk_next {p : List Rat} {k : Nat} (h : 0 < k) : bkP p (k + 1) = hulP (bkP p k) (p.getD k 0, p.getD k 0) := by
  show hulP (if k = 0 then _ else _) _ = _
  rw [if_neg (by omega)]
theorem zer_hit {p : List Rat} {k : Nat} (hk : k < p.length) (h : ¬ sgnR (p.getD k 0) = 0) : (!(p.any fun x => sgnR x != 0)) = false := by
  rw [Bool.not_eq_false', List.any_eq_true]
  exact ⟨_, getD_mem hk, by simpa using h⟩
theorem zer_mis {p : List Rat} (h : ∀ i, i < p.length → sgnR (p.getD i 0) = 0) : (!(p.any fun x => sgnR x != 0)) = true := by
  rw [Bool.not_eq_true', List.any_eq_false]
  intro x hx
  obtain ⟨i, hi, rfl⟩ := List.getElem_of_mem hx
  have := h i hi
  rw [List.getD_eq_getElem?_getD, List.getElem?_eq_getElem hi] at this
  simpa using this
namespace H_c_FBounds
theorem zSm {p q : Prop} (k : q) (e : p = q := by simp only [e1, e2, e3, e4, p1, p2, p3, q1, q2, q3, l1, t0, t1, r1, r2, r3, r4, Nat.zero_add, Nat.reduceMul, Nat.reduceAdd, b1, b2, b3, b4, b5, b6, i1, i2, i3, i4, i5, i6, Nat.reduceBEq, dfq, tz0, ebk, kills_map ratE, ratL_kill, spL_kill, LV.kill, kills]; exact rfl) : p := e.mpr k
end H_c_FBounds
open H_c_FBounds in
theorem c_FBounds (p : List Rat) (hp0 : 0 < p.length) (hl : p.length ≤ 1048576) (hpr : ∀ x ∈ p, rl x ≤ 8589934592) : CallP Tryz.prog 60 [.list 3 (p.map ratL)] (spL (bndP p)) := by
  refine fnP Tryz.func60 ?_
  have ebk : True := trivial
  refine zg10 ?_
  refine cp am1 (c_FPoint _) ?_
  refine zg11 ?_
  refine lp1 (fun (i : Nat) L => (((((St.mk L.slot (hp [(2, ⟨6, [spL (0, 0)], true⟩), (3, ⟨6, [spL (bkP p i)], true⟩)])).put (some 0) (.list 3 (p.map ratL))).put (some 2) (.eptr 2 6 0 0)).put (some 3) (.eptr 3 6 0 0)).put (some 4) (nI64 i))) (fun i => 1 ≤ i ∧ i ≤ p.length) (fun i => p.length - i) 1 ⟨Nat.le_refl _, hp0⟩ (h0 := ⟨_, Weak.of_eq (put_id' (put_id' (put_id' (put_id' (mk_id' (by rw [bk_one]; exact cl)) cl) cl) cl) cl)⟩) ?_
  rintro i L1 ⟨hi1, hi⟩
  refine zg9 ?_
  refine wl_if rfl (fun h12r h12 => ?_) (fun h12r h12 => ?_)
  · have hi2 : i < p.length := by omega
    have ebk := bk_next (p := p) hi1
    have hr1 := getD_rl (S := 8589934592) (by decide) hpr
    have hr2 := hr1 i
    have hr3 := bk_rl (by decide) hr1 i
    have hr4 : rl ((p.getD i 0, p.getD i 0) : Rat × Rat).1 ≤ 8589934592 := hr2
    have hr5 : rl ((p.getD i 0, p.getD i 0) : Rat × Rat).2 ≤ 8589934592 := hr2
    refine zg4 ?_
    refine wl_regD 7 (by decide +kernel) ?_
    refine zg5 ?_
    refine cp am1 (c_FPoint _) ?_
    refine cp am2 (c_FHull (bkP p i) (p.getD i 0, p.getD i 0) (by omega) (by omega)) ?_
    refine zg6 ?_
    refine st_pure rfl (.bin rfl rfl (add1N (by omega))) ?_
    refine zg3 ?_
    exact nx1 (i + 1) ⟨by omega, by omega⟩
  · obtain rfl : i = p.length := by omega
    refine zg12 ?_
    exact retC [] rfl rfl rfl (spE.csize _) (spL_all _) T55 (.pure (spE.pure _))
namespace H_c_FZero
theorem zSm {p q : Prop} (k : q) (e : p = q := by simp only [e1, e2, e3, e4, p1, p2, p3, q1, q2, q3, l1, t0, t1, r1, r2, r3, r4, Nat.zero_add, Nat.reduceMul, Nat.reduceAdd, b1, b2, b3, b4, b5, b6, i1, i2, i3, i4, i5, i6, Nat.reduceBEq, dfq, kills_map ratE, ratL_kill, spL_kill, LV.kill, kills]; exact rfl) : p := e.mpr k
end H_c_FZero
open H_c_FZero in
theorem c_FZero (p : List Rat) (hl : p.length ≤ 1048576) : CallP Tryz.prog 70 [.list 3 (p.map ratL)] (bL (!(p.any fun x => sgnR x != 0))) := by
  refine fnP Tryz.func70 ?_
  refine zg12 ?_
  refine lp1 (fun (k : Nat) L => (((St.mk L.slot (hp [])).put (some 0) (.list 3 (p.map ratL))).put (some 3) (nI64 k))) (fun k => k ≤ p.length ∧ ∀ i, i < k → sgnR (p.getD i 0) = 0) (fun k => p.length - k) 0 ⟨Nat.zero_le _, fun i h => absurd h (Nat.not_lt_zero i)⟩ ?_
  rintro k L1 ⟨hk, hz⟩
  refine zg9 ?_
  refine wl_if rfl (fun h7r h7 => ?_) (fun h7r h7 => ?_)
  · have hk2 : k < p.length := by omega
    refine zg10 ?_
    refine cp am1 (c_FSign _) ?_
    refine zg3 ?_
    refine wl_if rfl (fun h15r h15 => ?_) (fun h15r h15 => ?_)
    · have hE := zer_hit hk2 h15
      refine zg11 ?_
      rw [hE]
      exact ret1 rfl (by first | exact .pure rfl | exact .pure (limL_pure _) | exact .pure (magL_pure _) | exact .pure (ratE.pure _) | exact .pure (pure_lst u32E _ _) | exact .pure (pure_lst ratE _ _))
    · refine zg5 ?_
      refine st_pure rfl (.bin rfl rfl (add1N (by omega))) ?_
      refine zg3 ?_
      exact nx1 (k + 1) ⟨by omega, fun i hi => by rcases Nat.lt_or_ge i k with h | h; exact hz i h; rw [show i = k by omega]; exact h15⟩
  · obtain rfl : k = p.length := by omega
    refine zg11 ?_
    rw [zer_mis hz]
    exact ret1 rfl (by first | exact .pure rfl | exact .pure (limL_pure _) | exact .pure (magL_pure _) | exact .pure (ratE.pure _) | exact .pure (pure_lst u32E _ _) | exact .pure (pure_lst ratE _ _))
end Go.Proofs.YthhdcfhaldcheaaGreat
end
section
set_option linter.unusedVariables false
set_option linter.unusedSimpArgs false
set_option maxHeartbeats 8000000
set_option maxRecDepth 100000
attribute [local irreducible] Go.Lg.opsL Go.Lg.wpL Go.Lg.thenL Go.Lg.blockL
namespace Go.Proofs.YthhdcfhaldcheaaGreat
open Go.Lg
theorem map_getD_range (c : List Rat) (f : Rat → Rat) : c.map f = (List.range c.length).map fun k => f (c.getD k 0) := by
  refine List.ext_getElem (by simp) fun k h1 h2 => ?_
  rw [List.getElem_map, List.getElem_map, List.getElem_range, List.getD_eq_getElem?_getD, List.getElem?_eq_getElem (by simpa using h1)]
  rfl
namespace H_c_felV
theorem zSm {p q : Prop} (k : q) (e : p = q := by simp only [e1, e2, e3, e4, p1, p2, p3, q1, q2, q3, l1, t0, t1, r1, r2, r3, r4, Nat.zero_add, Nat.reduceMul, Nat.reduceAdd, b1, b2, b3, b4, b5, b6, i1, i2, i3, i4, i5, i6, Nat.reduceBEq, dfp, etk, ers, take_map_len, map_snoc, len_snoc, List.length_cons, List.length_nil, List.nil_append, List.map_nil, List.take_nil, List.append_nil, kills_map plE, kills_map ratE, ratL_kill, spL_kill, LV.kill, kills]; exact rfl) : p := e.mpr k
end H_c_felV
open H_c_felV in
theorem c_felV (U V : Nat) (c : List Rat) (hc : c.length = (U + 1) * (V + 1)) (hl : c.length ≤ 1048576) (v : Nat) (hv : v ≤ 40) (hVv : V ≤ v) (h1 : ∀ i, i ≤ U → upS (rwL V c i) v) (hb : (U + 1) * (v + 1) ≤ 1048576) : CallP Tryz.prog 139 [.agg [nI64 U, nI64 V, .list 3 (c.map ratL)], nI64 v] (.agg [nI64 U, nI64 v, .list 3 ((rsL (fun p => upP p v) V c (U + 1)).map ratL)]) := by
  have hU : U + 1 ≤ c.length := by rw [hc]; exact Nat.le_mul_of_pos_right _ (Nat.succ_pos V)
  have hV : V + 1 ≤ c.length := by rw [hc]; exact Nat.le_mul_of_pos_left _ (Nat.succ_pos U)
  have hnp := net_pureN U V c
  have hn2 := net_pureN U v (rsL (fun p => upP p v) V c (U + 1))
  have hWW : ∀ i, i ≤ U → ((fun p => upP p v) (rwL V c i)).length = v + 1 := fun i hi => upP_len (by rw [rwL_len hc hi]; omega)
  have hR : CallP Tryz.prog 101 [.list 1 ((pvL V c (fun p => upP p v) (U + 1)).map plL)] (.agg [nI64 U, nI64 v, .list 3 ((rsL (fun p => upP p v) V c (U + 1)).map ratL)]) := by
    have := c_frows7 (pvL V c (fun p => upP p v) (U + 1)) (v) (by rw [pvL_len]; omega) (by rw [pvL_len]; exact hb) (fun p hp => by
      obtain ⟨i, hi, rfl⟩ := List.mem_map.1 hp
      have hi := List.mem_range.1 hi
      exact hWW i (by omega))
    rwa [pvL_len, pvL_flat, Nat.add_sub_cancel] at this
  refine fnP Tryz.func139 (ht := (fun g => LV.ren_pure g _ (net_pureN _ _ _))) ?_
  have etk : True := trivial
  have ers : True := trivial
  refine zg18 ?_
  refine wl_weak (Weak.own (t := 5) 26 1 rfl rfl) ?_
  refine lp1 (fun (i : Nat) L => ((((((St.mk L.slot (hp [(2, ⟨3, [.agg [nI64 U, nI64 V, .list 3 (c.map ratL)]], true⟩), (4, ⟨3, [.agg [.v (.int .i64 0), .v (.int .i64 0), .v (.slice none 0 0)]], true⟩), (26, ⟨1, (pvL V c (fun p => upP p v) i).map plL, true⟩)])).put (some 1) (nI64 v)).put (some 2) (.eptr 2 3 0 0)).put (some 4) (.eptr 4 3 0 0)).put (some 5) (.ref 26 1 0 i)).put (some 6) (nI64 i))) (fun i => i ≤ U + 1) (fun i => U + 1 - i) 0 (Nat.zero_le _) ?_
  rintro i L1 hi
  refine zg9 ?_
  refine wl_if rfl (fun h12r h12 => ?_) (fun h12r h12 => ?_)
  · have hi2 : i ≤ U := by omega
    have hpl := pvL_len V c (fun p => upP p v) i
    have etk : ((pvL V c (fun p => upP p v) i).map plL).take i = (pvL V c (fun p => upP p v) i).map plL := List.take_of_length_le (by rw [List.length_map]; omega)
    have ers : (pvL V c (fun p => upP p v) i) ++ [(fun p => upP p v) (rwL V c i)] = (pvL V c (fun p => upP p v) (i + 1)) := (pvL_succ V c (fun p => upP p v) i).symm
    have hE30 := callP_own2 (c_FElev (rwL V c i) v (by rw [rwL_len hc hi2]; omega) hv (by rw [rwL_len hc hi2]; omega) (h1 i hi2)) (pures_map ratE _) (by rw [List.length_map]; exact hWW i hi2) rfl
    refine zg8 ?_
    refine cp am2 (c_frow7 U V c hc hl i hi2) ?_
    refine zg1 ?_
    refine cp am2 (hE30) ?_
    refine zg11 ?_
    refine st_store rfl (.app (news := [plL (upP (rwL V c i) v)]) rfl rfl rfl rfl rfl (by rw [List.length_map]; omega) (.inl rfl) (by decide) Tryz.underlying86 Tryz.underlying86 plZ T38 rfl B38 (.inl ⟨25, 0, _, rfl, by decide, rfl, rfl, by simp, rfl, by simp [pures, plE.pure]⟩) (by simp; omega) (by simp; omega) (by decide)) ?_
    refine zg4 ?_
    refine wl_regW (Weak.kill _ 25) ?_
    refine zg1 ?_
    refine st_pure rfl (.bin rfl rfl (add1N (by omega))) ?_
    refine zg3 ?_
    exact nx1 (i + 1) (by omega)
  · obtain rfl : i = U + 1 := by omega
    refine zg8 ?_
    refine st_callPf [26] rfl rfl (.cons (imm_refm plE rfl rfl (pvL_len _ _ _ _).symm) .nil) hR ?_
    refine zg4 ?_
    exact retC [] rfl rfl rfl rfl rfl T27 (.pure (net_pureN _ _ _))
namespace H_c_fDiffV
theorem zSm {p q : Prop} (k : q) (e : p = q := by simp only [e1, e2, e3, e4, p1, p2, p3, q1, q2, q3, l1, t0, t1, r1, r2, r3, r4, Nat.zero_add, Nat.reduceMul, Nat.reduceAdd, b1, b2, b3, b4, b5, b6, i1, i2, i3, i4, i5, i6, Nat.reduceBEq, dfp, etk, ers, take_map_len, map_snoc, len_snoc, List.length_cons, List.length_nil, List.nil_append, List.map_nil, List.take_nil, List.append_nil, kills_map plE, kills_map ratE, ratL_kill, spL_kill, LV.kill, kills]; exact rfl) : p := e.mpr k
end H_c_fDiffV
open H_c_fDiffV in
theorem c_fDiffV (U V : Nat) (c : List Rat) (hc : c.length = (U + 1) * (V + 1)) (hl : c.length ≤ 1048576) (hcR : ∀ x ∈ c, rl x ≤ 1073741824) (hV1 : V ≤ 900) : CallP Tryz.prog 78 [.agg [nI64 U, nI64 V, .list 3 (c.map ratL)]] (.agg [nI64 U, nI64 (V - 1), .list 3 ((rsL difP V c (U + 1)).map ratL)]) := by
  have hU : U + 1 ≤ c.length := by rw [hc]; exact Nat.le_mul_of_pos_right _ (Nat.succ_pos V)
  have hV : V + 1 ≤ c.length := by rw [hc]; exact Nat.le_mul_of_pos_left _ (Nat.succ_pos U)
  have hnp := net_pureN U V c
  have hn2 := net_pureN U (V - 1) (rsL difP V c (U + 1))
  have hWW : ∀ i, i ≤ U → (difP (rwL V c i)).length = (V - 1) + 1 := fun i hi => dif_W (rwL_len hc hi)
  have hR : CallP Tryz.prog 101 [.list 1 ((pvL V c difP (U + 1)).map plL)] (.agg [nI64 U, nI64 (V - 1), .list 3 ((rsL difP V c (U + 1)).map ratL)]) := by
    have := c_frows7 (pvL V c difP (U + 1)) ((V - 1)) (by rw [pvL_len]; omega) (by rw [pvL_len]; have := Nat.mul_le_mul_left (U + 1) (show V - 1 + 1 ≤ V + 1 by omega); omega) (fun p hp => by
      obtain ⟨i, hi, rfl⟩ := List.mem_map.1 hp
      have hi := List.mem_range.1 hi
      exact hWW i (by omega))
    rwa [pvL_len, pvL_flat, Nat.add_sub_cancel] at this
  refine fnP Tryz.func78 (ht := (fun g => LV.ren_pure g _ (net_pureN _ _ _))) ?_
  have etk : True := trivial
  have ers : True := trivial
  refine zg18 ?_
  refine wl_weak (Weak.own (t := 3) 17 1 rfl rfl) ?_
  refine lp1 (fun (i : Nat) L => (((((St.mk L.slot (hp [(1, ⟨3, [.agg [nI64 U, nI64 V, .list 3 (c.map ratL)]], true⟩), (2, ⟨3, [.agg [.v (.int .i64 0), .v (.int .i64 0), .v (.slice none 0 0)]], true⟩), (17, ⟨1, (pvL V c difP i).map plL, true⟩)])).put (some 1) (.eptr 1 3 0 0)).put (some 2) (.eptr 2 3 0 0)).put (some 3) (.ref 17 1 0 i)).put (some 4) (nI64 i))) (fun i => i ≤ U + 1) (fun i => U + 1 - i) 0 (Nat.zero_le _) ?_
  rintro i L1 hi
  refine zg9 ?_
  refine wl_if rfl (fun h8r h8 => ?_) (fun h8r h8 => ?_)
  · have hi2 : i ≤ U := by omega
    have hpl := pvL_len V c difP i
    have etk : ((pvL V c difP i).map plL).take i = (pvL V c difP i).map plL := List.take_of_length_le (by rw [List.length_map]; omega)
    have ers : (pvL V c difP i) ++ [difP (rwL V c i)] = (pvL V c difP (i + 1)) := (pvL_succ V c difP i).symm
    refine zg8 ?_
    refine cp am2 (c_frow7 U V c hc hl i hi2) ?_
    refine cp am1 (c_FDiff5 (rwL V c i) (by rw [rwL_len hc hi2]; omega) (by rw [rwL_len hc hi2]; omega) (fun x hx => hcR x (rwL_mem hx))) ?_
    refine zg1 ?_
    refine st_store rfl (.app (news := [plL (difP (rwL V c i))]) rfl rfl rfl rfl rfl (by rw [List.length_map]; omega) (.inl rfl) (by decide) Tryz.underlying86 Tryz.underlying86 plZ T38 rfl B38 (.inl ⟨16, 0, _, rfl, by decide, rfl, rfl, by simp, rfl, by simp [pures, plE.pure]⟩) (by simp; omega) (by simp; omega) (by decide)) ?_
    refine zg4 ?_
    refine wl_regW (Weak.kill _ 16) ?_
    refine zg1 ?_
    refine st_pure rfl (.bin rfl rfl (add1N (by omega))) ?_
    refine zg3 ?_
    exact nx1 (i + 1) (by omega)
  · obtain rfl : i = U + 1 := by omega
    refine zg8 ?_
    refine st_callPf [17] rfl rfl (.cons (imm_refm plE rfl rfl (pvL_len _ _ _ _).symm) .nil) hR ?_
    refine zg4 ?_
    exact retC [] rfl rfl rfl rfl rfl T27 (.pure (net_pureN _ _ _))
namespace H_c_fScale7
theorem zSm {p q : Prop} (k : q) (e : p = q := by simp only [e1, e2, e3, e4, p1, p2, p3, q1, q2, q3, l1, t0, t1, r1, r2, r3, r4, Nat.zero_add, Nat.reduceMul, Nat.reduceAdd, b1, b2, b3, b4, b5, b6, i1, i2, i3, i4, i5, i6, Nat.reduceBEq, dfq, eg, take_gL, take_map_len, map_snoc, len_snoc, List.length_cons, List.length_nil, List.nil_append, List.map_nil, List.take_nil, List.append_nil, kills_map ratE, ratL_kill, spL_kill, LV.kill, kills]; exact rfl) : p := e.mpr k
end H_c_fScale7
open H_c_fScale7 in
theorem c_fScale7 (r : Rat) (U V : Nat) (c : List Rat) (hl : c.length ≤ 1048576) (h : ∀ x ∈ c, rl r + rl x ≤ 34359738368) : CallP Tryz.prog 80 [ratL r, .agg [nI64 U, nI64 V, .list 3 (c.map ratL)]] (.agg [nI64 U, nI64 V, .list 3 ((scP r c).map ratL)]) := by
  have hnp := net_pureN U V c
  refine fnP Tryz.func80 (ht := (fun g => LV.ren_pure g _ (net_pureN _ _ _))) ?_
  have eg : True := trivial
  refine zg25 ?_
  refine wl_weak ((Weak.cell 5 rfl (fun Z μ w cs h => rep_net 29 3 _ _ Z μ w cs h)).trans (Weak.newB _ 29 3 rfl)) ?_
  refine lp1 (fun (i : Nat) L => ((((((St.mk L.slot (hp [(2, ⟨3, [ratL r], true⟩), (3, ⟨3, [.agg [nI64 U, nI64 V, .list 3 (c.map ratL)]], true⟩), (4, ⟨3, [.agg [.v (.int .i64 0), .v (.int .i64 0), .v (.slice none 0 0)]], true⟩), (5, ⟨3, [.agg [nI64 U, nI64 V, .ref 29 3 0 i]], true⟩), (29, ⟨3, (gL i (fun k => r * c.getD k 0)).map ratL, true⟩)])).put (some 2) (.eptr 2 3 0 0)).put (some 3) (.eptr 3 3 0 0)).put (some 4) (.eptr 4 3 0 0)).put (some 5) (.eptr 5 3 0 0)).put (some 6) (nI64 i))) (fun i => i ≤ c.length) (fun i => c.length - i) 0 (Nat.zero_le _) ?_
  rintro i L1 hi
  refine zg10 ?_
  refine wl_if rfl (fun h16r h16 => ?_) (fun h16r h16 => ?_)
  · have hi2 : i < c.length := by omega
    have hgl := gL_len i (fun k => r * c.getD k 0)
    have eg : gL (i + 1) (fun k => r * c.getD k 0) = gL i (fun k => r * c.getD k 0) ++ [r * c.getD i 0] := gL_succ _ _
    have hri := h _ (getD_mem hi2)
    refine zg4 ?_
    refine wl_regD 10 (by decide +kernel) ?_
    refine zg8 ?_
    refine cp am2 (c_FRMul r (c.getD i 0) hri) ?_
    refine zg1 ?_
    refine st_store rfl (.app (news := [ratL (r * c.getD i 0)]) rfl rfl rfl rfl rfl (by simp [gL_len]) (.inl rfl) (by decide) Tryz.underlying25 Tryz.underlying25 Z33a T33 rfl B33 (.inl ⟨28, 0, _, rfl, by decide, rfl, rfl, by simp, rfl, by simp [pures, ratE.pure]⟩) (by simp; omega) (by simp; omega) (by decide)) ?_
    refine zg5 ?_
    refine wl_regW (Weak.kill _ 28) ?_
    refine zg1 ?_
    refine st_pure rfl (.bin rfl rfl (add1N (by omega))) ?_
    refine zg3 ?_
    exact nx1 (i + 1) (by omega)
  · obtain rfl : i = c.length := by omega
    have hE : gL c.length (fun k => r * c.getD k 0) = scP r c := by rw [scP, gL]; exact (map_getD_range c (r * ·)).symm
    refine zg12 ?_
    rw [← hE]
    exact retC [29] rfl rfl rfl rfl rfl T27 (.agg (.cons (.pure rfl) (.cons (.pure rfl) (.cons (imm_refm ratE rfl rfl (by rw [gL_len])) .nil))))
open H0 in
theorem c_fDiffU (U V : Nat) (c : List Rat) (hc : c.length = (U + 1) * (V + 1)) (hl : c.length ≤ 1048576) (hcR : ∀ x ∈ c, rl x ≤ 1073741824) (hU1 : U ≤ 900) : CallP Tryz.prog 77 [.agg [nI64 U, nI64 V, .list 3 (c.map ratL)]] (.agg [nI64 (U - 1), nI64 V, .list 3 ((dfU U V c).map ratL)]) := by
  have hU : U + 1 ≤ c.length := by rw [hc]; exact Nat.le_mul_of_pos_right _ (Nat.succ_pos V)
  have hV : V + 1 ≤ c.length := by rw [hc]; exact Nat.le_mul_of_pos_left _ (Nat.succ_pos U)
  have hnp := net_pureN U V c
  have hsl := swL_len U V c
  have hsl2 : (swL U V c).length ≤ 1048576 := by rw [hsl, Nat.mul_comm, ← hc]; exact hl
  have hn2 := net_pureN V U (swL U V c)
  have hd1 : (rsL difP U (swL U V c) (V + 1)).length = (V + 1) * (U - 1 + 1) := rsL_len (W := U - 1) (U := V) (fun i hi => dif_W (rwL_len hsl hi)) _ (Nat.le_refl _)
  have hd2 : (rsL difP U (swL U V c) (V + 1)).length ≤ 1048576 := by rw [hd1]; rw [hsl] at hsl2; exact Nat.le_trans (Nat.mul_le_mul_left _ (by omega)) hsl2
  have hn3 := net_pureN V (U - 1) (rsL difP U (swL U V c) (V + 1))
  refine fnP Tryz.func77 (ht := (fun g => LV.ren_pure g _ (net_pureN _ _ _))) ?_
  refine zg9 ?_
  refine cp am1 (c_fSwap U V c hc hl) ?_
  refine cp am1 (c_fDiffV V U (swL U V c) hsl hsl2 (sw_rl (by decide) hcR) hU1) ?_
  refine cp am1 (c_fSwap V (U - 1) (rsL difP U (swL U V c) (V + 1)) hd1 hd2) ?_
  refine zg4 ?_
  exact retC [] rfl rfl rfl rfl rfl T27 (.pure (net_pureN _ _ _))
open H0 in
theorem c_fBounds7 (u v : Int) (c : List Rat) (hp0 : 0 < c.length) (hl : c.length ≤ 1048576) (hpr : ∀ x ∈ c, rl x ≤ 8589934592) : CallP Tryz.prog 83 [.agg [iL u, iL v, .list 3 (c.map ratL)]] (spL (bndP c)) := by
  refine fnP Tryz.func83 ?_
  refine zg10 ?_
  refine cp am1 (c_FBounds c hp0 hl hpr) ?_
  refine zg4 ?_
  exact retC [] rfl rfl rfl (spE.csize _) (spL_all _) T55 (.pure (spE.pure _))
open H0 in
theorem c_fZero7 (u v : Int) (c : List Rat) (hl : c.length ≤ 1048576) : CallP Tryz.prog 84 [.agg [iL u, iL v, .list 3 (c.map ratL)]] (bL (!(c.any fun x => sgnR x != 0))) := by
  refine fnP Tryz.func84 ?_
  refine zg10 ?_
  refine cp am1 (c_FZero c hl) ?_
  refine zg4 ?_
  exact ret1 rfl (by first | exact .pure rfl | exact .pure (limL_pure _) | exact .pure (magL_pure _) | exact .pure (ratE.pure _) | exact .pure (pure_lst u32E _ _) | exact .pure (pure_lst ratE _ _))
end Go.Proofs.YthhdcfhaldcheaaGreat
end
section
set_option linter.unusedVariables false
set_option linter.unusedSimpArgs false
set_option maxHeartbeats 8000000
set_option maxRecDepth 100000
attribute [local irreducible] Go.Lg.opsL Go.Lg.wpL Go.Lg.thenL Go.Lg.blockL
namespace Go.Proofs.YthhdcfhaldcheaaGreat
open Go.Lg
end Go.Proofs.YthhdcfhaldcheaaGreat
namespace Go.Lg
theorem own1 {L : St} {d : Nat} {blk : Blk} (hd : L.heap d = some blk) (hp : pures blk.vals = true) (k b : Nat) (hk : ([d] : List Nat)[k]? = some b) : ∃ bl : Blk, L.heap b = some bl ∧ [blk][k]? = some bl ∧ pures bl.vals = true := by
  cases k with
  | zero => simp at hk; subst hk; exact ⟨blk, hd, rfl, hp⟩
  | succ k => simp at hk
/-- a record out of a variable whose last field is a slice of the call's own -/
theorem retCN {P : Program} {L : St} {a : Nat} {T : TypeId} {b sz s len d : Nat} {u v u' v' : LV} {blk : Blk} {m : Bool} {n : Nat} {ag : Bool} (h : L.slot a = .eptr b sz 0 0) (hb : L.heap b = some ⟨sz, [.agg [u, v, .ref d s 0 len]], m⟩)
    (hx : (LV.agg [u, v, .ref d s 0 len]).csize = sz) (hat : (LV.agg [u, v, .ref d s 0 len]).at 0 n ag = some (.agg [u, v, .ref d s 0 len])) (hT : TyIs P T n ag) (hu : Imm L.heap u u') (hv : Imm L.heap v v') (hd : L.heap d = some blk) (hp : pures blk.vals = true) :
    RetL P [.cell a T] L (.agg [u', v', .ref 1 s 0 len]) [blk] :=
  ⟨[_], [_], L.heap, [d], .cons ⟨b, sz, 0, 0, _, _, n, ag, h, hb, rfl, rfl, hx, hat, hT⟩ .nil, Heap.le_refl _, .cons (.net (k := 0) hu hv rfl) .nil, by simp, rfl, own1 hd hp, rfl⟩
theorem retCTN {P : Program} {L : St} {a t : Nat} {T : TypeId} {b sz s len d : Nat} {u v u' v' y y' : LV} {blk : Blk} {m : Bool} {n : Nat} {ag : Bool} (h : L.slot a = .eptr b sz 0 0) (hb : L.heap b = some ⟨sz, [.agg [u, v, .ref d s 0 len]], m⟩)
    (hx : (LV.agg [u, v, .ref d s 0 len]).csize = sz) (hat : (LV.agg [u, v, .ref d s 0 len]).at 0 n ag = some (.agg [u, v, .ref d s 0 len])) (hT : TyIs P T n ag) (hu : Imm L.heap u u') (hv : Imm L.heap v v') (hd : L.heap d = some blk) (hp : pures blk.vals = true) (h' : L.slot t = y) (hi' : Imm L.heap y y') :
    RetL P [.cell a T, .tmp t] L (.tup [.agg [u', v', .ref 1 s 0 len], y']) [blk] :=
  ⟨[_, _], [_, _], L.heap, [d], .cons ⟨b, sz, 0, 0, _, _, n, ag, h, hb, rfl, rfl, hx, hat, hT⟩ (.cons h' .nil), Heap.le_refl _, .cons (.net (k := 0) hu hv rfl) (.cons (.imm hi') .nil), by simp, rfl, own1 hd hp, rfl⟩
end Go.Lg
namespace Go.Proofs.YthhdcfhaldcheaaGreat
open Go.Lg
namespace H_c_fSwapO
theorem zSm {p q : Prop} (k : q) (e : p = q := by simp only [e1, e2, e3, e4, p1, p2, p3, q1, q2, q3, l1, t0, t1, r1, r2, r3, r4, Nat.zero_add, Nat.reduceMul, Nat.reduceAdd, b1, b2, b3, b4, b5, b6, i1, i2, i3, i4, i5, i6, Nat.reduceBEq, dfq, esw, Nat.add_zero, take_gL, take_map_len, map_snoc, len_snoc, List.length_cons, List.length_nil, List.nil_append, List.map_nil, List.take_nil, List.append_nil, kills_map ratE, ratL_kill, spL_kill, LV.kill, kills]; exact rfl) : p := e.mpr k
end H_c_fSwapO
open H_c_fSwapO in
theorem c_fSwapO (U V : Nat) (c : List Rat) (hc : c.length = (U + 1) * (V + 1)) (hl : c.length ≤ 1048576) : CallOK Tryz.prog 82 [.agg [nI64 U, nI64 V, .list 3 (c.map ratL)]] (.agg [nI64 V, nI64 U, .ref 1 3 0 ((V + 1) * (U + 1))]) [⟨3, (swL U V c).map ratL, true⟩] := by
  have hU : U + 1 ≤ c.length := by rw [hc]; exact Nat.le_mul_of_pos_right _ (Nat.succ_pos V)
  have hV : V + 1 ≤ c.length := by rw [hc]; exact Nat.le_mul_of_pos_left _ (Nat.succ_pos U)
  have hnp := net_pureN U V c
  refine fnO Tryz.func82 ?_
  have esw : True := trivial
  refine zg24 ?_
  refine wl_weak ((Weak.cell 3 rfl (fun Z μ w cs h => rep_net 37 3 _ _ Z μ w cs h)).trans (Weak.newB _ 37 3 rfl)) ?_
  refine lp2 (fun (j m : Nat) L => (((((St.mk L.slot (hp [(1, ⟨3, [.agg [nI64 U, nI64 V, .list 3 (c.map ratL)]], true⟩), (2, ⟨3, [.agg [.v (.int .i64 0), .v (.int .i64 0), .v (.slice none 0 0)]], true⟩), (3, ⟨3, [.agg [nI64 V, nI64 U, .ref 37 3 0 m]], true⟩), (37, ⟨3, (gL m (swV U V c)).map ratL, true⟩)])).put (some 1) (.eptr 1 3 0 0)).put (some 2) (.eptr 2 3 0 0)).put (some 3) (.eptr 3 3 0 0)).put (some 4) (nI64 j))) (fun j m => j ≤ V + 1 ∧ j * (U + 1) = m) (fun j m => V + 1 - j) 0 0 ⟨Nat.zero_le _, Nat.zero_mul _⟩ ?_
  rintro j m L1 ⟨hj, hm⟩
  refine zg9 ?_
  refine wl_if rfl (fun h14r h14 => ?_) (fun h14r h14 => ?_)
  · have hj2 : j ≤ V := by omega
    refine zg10 ?_
    refine lp1 (fun (i : Nat) L => ((((((St.mk L.slot (hp [(1, ⟨3, [.agg [nI64 U, nI64 V, .list 3 (c.map ratL)]], true⟩), (2, ⟨3, [.agg [.v (.int .i64 0), .v (.int .i64 0), .v (.slice none 0 0)]], true⟩), (3, ⟨3, [.agg [nI64 V, nI64 U, .ref 37 3 0 (m + i)]], true⟩), (37, ⟨3, (gL (m + i) (swV U V c)).map ratL, true⟩)])).put (some 1) (.eptr 1 3 0 0)).put (some 2) (.eptr 2 3 0 0)).put (some 3) (.eptr 3 3 0 0)).put (some 4) (nI64 j)).put (some 5) (nI64 i))) (fun i => i ≤ U + 1) (fun i => U + 1 - i) 0 (Nat.zero_le _) ?_
    rintro i L2 hi
    refine zg9 ?_
    refine wl_if rfl (fun h20r h20 => ?_) (fun h20r h20 => ?_)
    · have hi2 : i ≤ U := by omega
      have hmi := ix_lt (U := V) (V := U) hj2 hi2
      rw [hm, Nat.mul_comm, ← hc] at hmi
      have hix := ix_lt hi2 hj2
      rw [← hc] at hix
      have hgl := gL_len (m + i) (swV U V c)
      have esw : gL (m + (i + 1)) (swV U V c) = gL (m + i) (swV U V c) ++ [c.getD (i * (V + 1) + j) 0] := by rw [← Nat.add_assoc, gL_succ, swV, ← hm, ix_div hi2, ix_mod hi2]
      refine zg4 ?_
      refine wl_regD 14 (by decide +kernel) ?_
      refine zg7 ?_
      refine st_pure rfl (.bin rfl rfl (add1N (by omega))) ?_
      refine st_pure rfl (.bin rfl rfl (mulE rfl (by omega))) ?_
      refine zg1 ?_
      refine st_pure rfl (.bin rfl rfl (add64N (by omega))) ?_
      refine zg3 ?_
      refine st_store rfl (.app (news := [ratL (c.getD (i * (V + 1) + j) 0)]) rfl rfl rfl rfl rfl (by simp [gL_len]) (.inl rfl) (by decide) Tryz.underlying25 Tryz.underlying25 Z33a T33 rfl B33 (.inl ⟨36, 0, _, rfl, by decide, rfl, rfl, by simp, rfl, by simp [pures, ratE.pure]⟩) (by simp; omega) (by simp; omega) (by decide)) ?_
      refine zg5 ?_
      refine wl_regW (Weak.kill _ 36) ?_
      refine zg1 ?_
      refine st_pure rfl (.bin rfl rfl (add1N (by omega))) ?_
      refine zg3 ?_
      exact nx1 (i + 1) (by omega)
    · obtain rfl : i = U + 1 := by omega
      refine zg8 ?_
      refine st_pure rfl (.bin rfl rfl (add1N (by omega))) ?_
      refine zg3 ?_
      exact nx2 (j + 1) (m + (U + 1)) ⟨by omega, by rw [Nat.succ_mul]; omega⟩
  · obtain rfl : j = V + 1 := by omega
    subst hm
    refine zg12 ?_
    exact retCN rfl rfl rfl rfl T27 (.pure rfl) (.pure rfl) rfl (pures_map ratE _)
open H0 in
theorem c_fElevO (U V : Nat) (c : List Rat) (u v : Nat) (h : upH U V c u v) : CallOK Tryz.prog 72 [.agg [nI64 U, nI64 V, .list 3 (c.map ratL)], nI64 u, nI64 v] (.tup [.agg [nI64 u, nI64 v, .ref 1 3 0 ((u + 1) * (v + 1))], iL 0]) [⟨3, (upN U V c u v).map ratL, true⟩] := by
  have hbn := h.n
  obtain ⟨hc, hl, hR, hU, hV, hu, hv, h1, h2⟩ := h
  have hnp := net_pureN U V c
  have hl1 := upR_len hc hV
  have hb1 : (U + 1) * (v + 1) ≤ 1048576 := Nat.le_trans (Nat.mul_le_mul (show U + 1 ≤ 41 by omega) (show v + 1 ≤ 41 by omega)) (by decide)
  have hsl := swL_len U v (upR V c v U)
  have hl3 : (rsL (fun p => upP p u) U (swL U v (upR V c v U)) (v + 1)).length = (v + 1) * (u + 1) := rsL_len (W := u) (U := v) (fun j hj => upP_len (by rw [rwL_len hsl hj]; omega)) _ (Nat.le_refl _)
  have hb3 : (v + 1) * (u + 1) ≤ 1048576 := by rw [Nat.mul_comm]; omega
  have hn1 := net_pureN U v (upR V c v U)
  have hn2 := net_pureN v U (swL U v (upR V c v U))
  have hn3 := net_pureN v u (rsL (fun p => upP p u) U (swL U v (upR V c v U)) (v + 1))
  refine fnO Tryz.func72 ?_
  refine zg15 ?_
  refine op_if 12 rfl (fun h12r h12 => ?_) (fun h12r h12 => ?_)
  · exfalso
    omega
  · refine zg6 ?_
    refine op_if 18 rfl (fun h18r h18 => ?_) (fun h18r h18 => ?_)
    · exfalso
      omega
    · refine zg4 ?_
      refine op_if 22 rfl (fun h22r h22 => ?_) (fun h22r h22 => ?_)
      · exfalso
        omega
      · refine zg5 ?_
        refine wl_if rfl (fun h25r h25 => ?_) (fun h25r h25 => ?_)
        · exfalso
          omega
        · refine zg6 ?_
          refine cp am2 (c_felV U V c hc hl v hv hV h1 hb1) ?_
          refine cp am1 (c_fSwap U v (upR V c v U) hl1 (by rw [hl1]; exact hb1)) ?_
          refine zg1 ?_
          refine cp am2 (c_felV v U (swL U v (upR V c v U)) hsl (by rw [hsl, Nat.mul_comm]; exact hb1) u hu hU h2 hb3) ?_
          refine st_call1 [] rfl rfl (.cons im0 .nil) (c_fSwapO v u (rsL (fun p => upP p u) U (swL U v (upR V c v U)) (v + 1)) hl3 (by rw [hl3]; exact hb3)) (pures_map ratE _) rfl ?_
          refine zg5 ?_
          exact retCTN rfl rfl rfl rfl T27 (.pure rfl) (.pure rfl) rfl (pures_map ratE _) rfl (.pure rfl)
open H0 in
theorem c_fElevP (U V : Nat) (c : List Rat) (u v : Nat) (h : upH U V c u v) : CallP Tryz.prog 72 [.agg [nI64 U, nI64 V, .list 3 (c.map ratL)], nI64 u, nI64 v] (.tup [.agg [nI64 u, nI64 v, .list 3 ((upN U V c u v).map ratL)], iL 0]) := by
  have hbn := h.n
  obtain ⟨hc, hl, hR, hU, hV, hu, hv, h1, h2⟩ := h
  have hnp := net_pureN U V c
  have hl1 := upR_len hc hV
  have hb1 : (U + 1) * (v + 1) ≤ 1048576 := Nat.le_trans (Nat.mul_le_mul (show U + 1 ≤ 41 by omega) (show v + 1 ≤ 41 by omega)) (by decide)
  have hsl := swL_len U v (upR V c v U)
  have hl3 : (rsL (fun p => upP p u) U (swL U v (upR V c v U)) (v + 1)).length = (v + 1) * (u + 1) := rsL_len (W := u) (U := v) (fun j hj => upP_len (by rw [rwL_len hsl hj]; omega)) _ (Nat.le_refl _)
  have hb3 : (v + 1) * (u + 1) ≤ 1048576 := by rw [Nat.mul_comm]; omega
  have hn1 := net_pureN U v (upR V c v U)
  have hn2 := net_pureN v U (swL U v (upR V c v U))
  have hn3 := net_pureN v u (rsL (fun p => upP p u) U (swL U v (upR V c v U)) (v + 1))
  refine fnP Tryz.func72 (ht := (tame2 (net_pureN _ _ _) rfl)) ?_
  refine zg15 ?_
  refine op_if 12 rfl (fun h12r h12 => ?_) (fun h12r h12 => ?_)
  · exfalso
    omega
  · refine zg6 ?_
    refine op_if 18 rfl (fun h18r h18 => ?_) (fun h18r h18 => ?_)
    · exfalso
      omega
    · refine zg4 ?_
      refine op_if 22 rfl (fun h22r h22 => ?_) (fun h22r h22 => ?_)
      · exfalso
        omega
      · refine zg5 ?_
        refine wl_if rfl (fun h25r h25 => ?_) (fun h25r h25 => ?_)
        · exfalso
          omega
        · refine zg6 ?_
          refine cp am2 (c_felV U V c hc hl v hv hV h1 hb1) ?_
          refine cp am1 (c_fSwap U v (upR V c v U) hl1 (by rw [hl1]; exact hb1)) ?_
          refine zg1 ?_
          refine cp am2 (c_felV v U (swL U v (upR V c v U)) hsl (by rw [hsl, Nat.mul_comm]; exact hb1) u hu hU h2 hb3) ?_
          refine cp am1 (c_fSwap v u (rsL (fun p => upP p u) U (swL U v (upR V c v U)) (v + 1)) hl3 (by rw [hl3]; exact hb3)) ?_
          refine zg5 ?_
          exact retCT [] rfl rfl rfl rfl rfl T27 (.pure (net_pureN _ _ _)) rfl (.pure rfl)
open H0 in
theorem c_fElevErr (U V : Nat) (c : List Rat) (u v : Int) (hU : U ≤ 40) (hV : V ≤ 40) (h : u < U ∨ v < V ∨ 40 < u ∨ 40 < v) : CallP Tryz.prog 72 [.agg [nI64 U, nI64 V, .list 3 (c.map ratL)], iL u, iL v] (.tup [.agg [nI64 0, nI64 0, .list 3 (([] : List Rat).map ratL)], iL 7]) := by
  refine fnP Tryz.func72 (ht := (tame2 (net_pureN _ _ _) rfl)) ?_
  refine zg15 ?_
  refine op_if 12 rfl (fun h12r h12 => ?_) (fun h12r h12 => ?_)
  · refine zg25 ?_
    exact retCT [] rfl rfl rfl rfl rfl T27 (.agg (.cons (.pure rfl) (.cons (.pure rfl) (.cons (.nil 3) .nil)))) rfl (.pure rfl)
  · refine zg6 ?_
    refine op_if 18 rfl (fun h18r h18 => ?_) (fun h18r h18 => ?_)
    · refine zg19 ?_
      exact retCT [] rfl rfl rfl rfl rfl T27 (.agg (.cons (.pure rfl) (.cons (.pure rfl) (.cons (.nil 3) .nil)))) rfl (.pure rfl)
    · refine zg4 ?_
      refine op_if 22 rfl (fun h22r h22 => ?_) (fun h22r h22 => ?_)
      · refine zg15 ?_
        exact retCT [] rfl rfl rfl rfl rfl T27 (.agg (.cons (.pure rfl) (.cons (.pure rfl) (.cons (.nil 3) .nil)))) rfl (.pure rfl)
      · refine zg5 ?_
        refine wl_if rfl (fun h25r h25 => ?_) (fun h25r h25 => ?_)
        · refine zg9 ?_
          exact retCT [] rfl rfl rfl rfl rfl T27 (.agg (.cons (.pure rfl) (.cons (.pure rfl) (.cons (.nil 3) .nil)))) rfl (.pure rfl)
        · exfalso
          omega
end Go.Proofs.YthhdcfhaldcheaaGreat
end
section
set_option linter.unusedVariables false
set_option linter.unusedSimpArgs false
set_option maxHeartbeats 8000000
set_option maxRecDepth 100000
attribute [local irreducible] Go.Lg.opsL Go.Lg.wpL Go.Lg.thenL Go.Lg.blockL
namespace Go.Proofs.YthhdcfhaldcheaaGreat
open Go.Lg
namespace H_c_fAdd7
theorem zSm {p q : Prop} (k : q) (e : p = q := by simp only [e1, e2, e3, e4, p1, p2, p3, q1, q2, q3, l1, t0, t1, r1, r2, r3, r4, Nat.zero_add, Nat.reduceMul, Nat.reduceAdd, b1, b2, b3, b4, b5, b6, i1, i2, i3, i4, i5, i6, Nat.reduceBEq, frz_nil, dfq, hmu, hmv, egw, elp, elq, List.length_set, take_map_len, map_snoc, len_snoc, List.length_cons, List.length_nil, List.nil_append, List.map_nil, List.take_nil, List.append_nil, kills_map ratE, ratL_kill, spL_kill, LV.kill, kills]; exact rfl) : p := e.mpr k
end H_c_fAdd7
open H_c_fAdd7 in
theorem c_fAdd7 (U1 V1 U2 V2 : Nat) (a b : List Rat) (u v : Nat) (ha : upH U1 V1 a u v) (hb : upH U2 V2 b u v) (hu : U1 = u ∨ U2 = u) (hv : V1 = v ∨ V2 = v) : CallP Tryz.prog 75 [.agg [nI64 U1, nI64 V1, .list 3 (a.map ratL)], .agg [nI64 U2, nI64 V2, .list 3 (b.map ratL)]] (.agg [nI64 u, nI64 v, .list 3 ((zipG (· + ·) (upN U1 V1 a u v) (upN U2 V2 b u v)).map ratL)]) := by
  have hmu := mx_u ha.hU hb.hU hu
  have hmv := mx_u ha.hV hb.hV hv
  have elp : (upN U1 V1 a u v).length = (u + 1) * (v + 1) := upN_len _ _ _ _ _
  have elq : (upN U2 V2 b u v).length = (u + 1) * (v + 1) := upN_len _ _ _ _ _
  have hzl : (zipG (· + ·) (upN U1 V1 a u v) (upN U2 V2 b u v)).length = (u + 1) * (v + 1) := by rw [zipG_len, upN_len]
  have hn := ha.n
  have hn1 := net_pureN U1 V1 a
  have hn2 := net_pureN U2 V2 b
  refine fnP Tryz.func75 (ht := (fun g => LV.ren_pure g _ (net_pureN _ _ _))) ?_
  have egw : True := trivial
  have elp : True := trivial
  have elq : True := trivial
  refine zg20 ?_
  simp only [hmu, hmv]
  refine st_call1 [] rfl rfl (.cons im0 (.cons im0 (.cons im0 .nil))) (c_fElevO U1 V1 a u v ha) (pures_map ratE _) rfl ?_
  refine zg1 ?_
  refine st_pure rfl (.extract (r := .agg [nI64 u, nI64 v, .ref 1000353 3 0 ((u + 1) * (v + 1))]) rfl rfl (fun m h => by cases h)) ?_
  refine st_pure rfl (.extract (r := iL 0) rfl rfl (fun m h => by cases h)) ?_
  refine zg18 ?_
  simp only [hmu, hmv]
  refine st_call1 [] rfl rfl (.cons im0 (.cons im0 (.cons im0 .nil))) (c_fElevO U2 V2 b u v hb) (pures_map ratE _) rfl ?_
  refine zg1 ?_
  refine st_pure rfl (.extract (r := .agg [nI64 u, nI64 v, .ref 1000593 3 0 ((u + 1) * (v + 1))]) rfl rfl (fun m h => by cases h)) ?_
  refine st_pure rfl (.extract (r := iL 0) rfl rfl (fun m h => by cases h)) ?_
  refine zg12 ?_
  refine lp2 (fun (i : Nat) (w : List Rat) L => (((((St.mk L.slot (hp [(2, ⟨3, [.agg [nI64 U1, nI64 V1, .list 3 (a.map ratL)]], true⟩), (3, ⟨3, [.agg [nI64 U2, nI64 V2, .list 3 (b.map ratL)]], true⟩), (4, ⟨3, [.agg [.v (.int .i64 0), .v (.int .i64 0), .v (.slice none 0 0)]], true⟩), (1000353, ⟨3, w.map ratL, true⟩), (5, ⟨3, [.agg [nI64 u, nI64 v, .ref 1000353 3 0 ((u + 1) * (v + 1))]], true⟩), (1000593, ⟨3, (upN U2 V2 b u v).map ratL, true⟩), (7, ⟨3, [.agg [nI64 u, nI64 v, .ref 1000593 3 0 ((u + 1) * (v + 1))]], true⟩)])).put (some 4) (.eptr 4 3 0 0)).put (some 5) (.eptr 5 3 0 0)).put (some 7) (.eptr 7 3 0 0)).put (some 9) (nI64 i))) (fun i w => i ≤ ((u + 1) * (v + 1)) ∧ w.length = ((u + 1) * (v + 1)) ∧ w.take i = (zipG (· + ·) (upN U1 V1 a u v) (upN U2 V2 b u v)).take i ∧ ∀ x, i ≤ x → w.getD x 0 = (upN U1 V1 a u v).getD x 0) (fun i w => ((u + 1) * (v + 1)) - i) 0 (upN U1 V1 a u v) ⟨Nat.zero_le _, upN_len _ _ _ _ _, rfl, fun _ _ => rfl⟩ ?_
  rintro i w L1 ⟨hi, hwl, hwt, hz⟩
  refine zg10 ?_
  refine wl_if rfl (fun h44r h44 => ?_) (fun h44r h44 => ?_)
  · have hi2 : i < ((u + 1) * (v + 1)) := by omega
    have egw := hz i (Nat.le_refl _)
    have hr1 := ha.g i
    have hr2 := hb.g i
    refine zg4 ?_
    refine wl_regD 15 (by decide +kernel) ?_
    refine zg13 ?_
    simp only [t1, dfq, Nat.zero_add, egw]
    refine cp am2 (c_FRAdd ((upN U1 V1 a u v).getD i 0) ((upN U2 V2 b u v).getD i 0) (by omega)) ?_
    refine zg7 ?_
    refine st_pure rfl (.bin rfl rfl (add1N (by omega))) ?_
    refine zg3 ?_
    exact nx2 (i + 1) (w.set i ((upN U1 V1 a u v).getD i 0 + (upN U2 V2 b u v).getD i 0)) ⟨by omega, by simp [hwl], set_zip (by omega) (by omega) hwt, fun x hx => by rw [set_getD _ _ _ _ (by omega), if_neg (by omega)]; exact hz x (by omega)⟩
  · obtain rfl : i = ((u + 1) * (v + 1)) := by omega
    have hE : w = (zipG (· + ·) (upN U1 V1 a u v) (upN U2 V2 b u v)) := by
      rw [List.take_of_length_le (by omega), List.take_of_length_le (by omega)] at hwt
      exact hwt
    subst hE
    refine zg12 ?_
    exact retC [1000353] rfl rfl rfl rfl rfl T27 (.agg (.cons (.pure rfl) (.cons (.pure rfl) (.cons (imm_refm ratE rfl rfl hzl.symm) .nil))))
end Go.Proofs.YthhdcfhaldcheaaGreat
end
section
set_option linter.unusedVariables false
set_option linter.unusedSimpArgs false
set_option maxHeartbeats 8000000
set_option maxRecDepth 100000
attribute [local irreducible] Go.Lg.opsL Go.Lg.wpL Go.Lg.thenL Go.Lg.blockL
namespace Go.Proofs.YthhdcfhaldcheaaGreat
open Go.Lg
theorem rw_sc (V : Nat) (r : Rat) (c : List Rat) (i : Nat) : rwL V (scP r c) i = scP r (rwL V c i) := by
  rw [rwL, rwL, scP, scP, List.map_drop, List.map_take]
theorem sw_sc (U V : Nat) (r : Rat) (c : List Rat) : swL U V (scP r c) = scP r (swL U V c) := by
  refine ext0 (by rw [scP_len, swL_len, swL_len]) fun k hk => ?_
  rw [swL_len] at hk
  rw [scP_get', swL, swL, gL_get hk, gL_get hk, swV, swV, scP_get']
theorem rs_upsc (V : Nat) (r : Rat) (c : List Rat) (v : Nat) : ∀ n, rsL (fun p => upP p v) V (scP r c) n = scP r (rsL (fun p => upP p v) V c n)
  | 0 => rfl
  | n + 1 => by rw [rsL, rsL, rs_upsc V r c v n, rw_sc, up_sc, scP, scP, scP, List.map_append]
theorem upN_sc (U V : Nat) (r : Rat) (c : List Rat) (u v : Nat) : upN U V (scP r c) u v = scP r (upN U V c u v) := by
  show swL v u (rsL (fun p => upP p u) U (swL U v (rsL (fun p => upP p v) V (scP r c) (U + 1))) (v + 1)) = _
  rw [rs_upsc, sw_sc, rs_upsc, sw_sc]
  rfl
open H0 in
theorem c_fSub7 (U1 V1 U2 V2 : Nat) (a b : List Rat) (u v : Nat) (ha : upH U1 V1 a u v) (hb : upH U2 V2 b u v) (hu : U1 = u ∨ U2 = u) (hv : V1 = v ∨ V2 = v) (hb2 : upH U2 V2 (scP (-1) b) u v) (hbR : ∀ x ∈ b, rl x ≤ 1073741824) : CallP Tryz.prog 76 [.agg [nI64 U1, nI64 V1, .list 3 (a.map ratL)], .agg [nI64 U2, nI64 V2, .list 3 (b.map ratL)]] (.agg [nI64 u, nI64 v, .list 3 ((zipG (· - ·) (upN U1 V1 a u v) (upN U2 V2 b u v)).map ratL)]) := by
  have hA := c_fAdd7 U1 V1 U2 V2 a (scP (-1) b) u v ha hb2 hu hv
  rw [upN_sc, zip_neg] at hA
  have hrm : rl (-1) ≤ 1 := by decide +kernel
  have hS := c_fScale7 (-1) U2 V2 b hb.hl (fun x hx => by have := hbR x hx; omega)
  have hI := c_FInt (-1) (by decide) (by decide)
  rw [rm1] at hI
  have hn1 := net_pureN U1 V1 a
  have hn2 := net_pureN U2 V2 b
  have hn3 := net_pureN U2 V2 (scP (-1) b)
  refine fnP Tryz.func76 (ht := (fun g => LV.ren_pure g _ (net_pureN _ _ _))) ?_
  refine zg8 ?_
  refine wl_regD 5 (by decide +kernel) ?_
  refine zg1 ?_
  refine cp am1 (hI) ?_
  refine zg1 ?_
  refine cp am2 (hS) ?_
  refine cp am2 (hA) ?_
  refine zg4 ?_
  exact retC [] rfl rfl rfl rfl rfl T27 (.pure (net_pureN _ _ _))
end Go.Proofs.YthhdcfhaldcheaaGreat
end
section
set_option linter.unusedVariables false
set_option linter.unusedSimpArgs false
set_option maxHeartbeats 8000000
set_option maxRecDepth 100000
attribute [local irreducible] Go.Lg.opsL Go.Lg.wpL Go.Lg.thenL Go.Lg.blockL
namespace Go.Proofs.YthhdcfhaldcheaaGreat
open Go.Lg
theorem cm_ofR {R : Nat} : ∀ {p : List Rat}, (∀ x ∈ p, rl x ≤ R) → cmB p ((4294967296 ^ R) ^ p.length) ((4294967296 ^ R) ^ p.length)
  | [], _ => ⟨1, by decide, Nat.le_refl _, fun x hx => by cases hx⟩
  | x :: p, h => by
    obtain ⟨D, hD, hDB, hp⟩ := cm_ofR (fun y hy => h y (List.mem_cons_of_mem _ hy))
    have hx := h x (List.mem_cons_self ..)
    have hl := rl_lt x
    have e0 : 4294967296 ^ rl x ≤ 4294967296 ^ R := Nat.pow_le_pow_right (by decide) hx
    have hdp := x.den_pos
    have hdp : 0 < x.den := hdp
    rw [List.length_cons, Nat.pow_succ]
    generalize (4294967296 ^ R) ^ p.length = B at *
    generalize 4294967296 ^ R = E at *
    have hxd : ((x.den : Int) : Rat) ≠ 0 := fun e => by have := Rat.intCast_eq_zero_iff.1 e; omega
    have hDd : ((D : Int) : Rat) ≠ 0 := fun e => by have := Rat.intCast_eq_zero_iff.1 e; omega
    have e1 := Rat.mul_inv_cancel _ hxd
    have e2 := Rat.mul_inv_cancel _ hDd
    have ec : (((D * x.den : Nat) : Int) : Rat) = ((D : Int) : Rat) * ((x.den : Int) : Rat) := by rw [← Rat.intCast_mul]; simp
    refine ⟨D * x.den, Nat.mul_pos hD hdp, Nat.mul_le_mul hDB (by omega), fun y hy => ?_⟩
    rcases List.mem_cons.1 hy with rfl | hy
    · refine ⟨(D : Int) * y.num, by rw [Int.natAbs_mul, Int.natAbs_natCast]; exact Nat.mul_le_mul hDB (by omega), ?_⟩
      have hq : y = (y.num : Rat) / ((y.den : Int) : Rat) := by rw [← Rat.divInt_eq_div, Rat.num_divInt_den]
      rw [ec, Rat.intCast_mul, Rat.div_def, Rat.inv_mul_rev]
      rw [Rat.div_def] at hq
      grind
    · obtain ⟨a, ha, rfl⟩ := hp y hy
      refine ⟨a * (x.den : Int), by rw [Int.natAbs_mul, Int.natAbs_natCast]; exact Nat.mul_le_mul ha (by omega), ?_⟩
      rw [ec, Rat.intCast_mul, Rat.div_def, Rat.div_def, Rat.inv_mul_rev]
      grind
theorem up_rlR {R : Nat} {p : List Rat} {n : Nat} (h1 : ∀ x ∈ p, rl x ≤ R) (h0 : 0 < p.length) (hl : p.length ≤ 8) (hn : n ≤ 40) : ∀ k, p.length + k ≤ n + 1 → ∀ x ∈ itL k p, rl x ≤ R * 8 + 8 := fun k hk => by
  have hN : 40 ^ k ≤ 40 ^ 40 := Nat.pow_le_pow_right (by decide) (by omega)
  have hB : (4294967296 ^ R) ^ p.length ≤ (4294967296 ^ R) ^ 8 := Nat.pow_le_pow_right (Nat.pow_pos (by decide)) hl
  have hm : (4294967296 ^ R) ^ p.length * 40 ^ k < 4294967296 ^ (R * 8 + 8) := by
    refine Nat.lt_of_le_of_lt (Nat.mul_le_mul hB hN) ?_
    rw [← Nat.pow_mul, Nat.pow_add]
    exact (Nat.mul_lt_mul_left (Nat.pow_pos (by decide))).2 (by decide)
  exact cm_rl hm hm (by omega) (cm_it (N := 40) k p _ _ h0 (by omega) (cm_ofR h1))
theorem upS_cmR {R : Nat} {p : List Rat} {n : Nat} (hR : R ≤ 1000) (h1 : ∀ x ∈ p, rl x ≤ R) (h0 : 0 < p.length) (hl : p.length ≤ 8) (hn : n ≤ 40) : upS p n :=
  ⟨fun x hx => Nat.le_trans (h1 x hx) (by omega), fun k hk x hx => Nat.le_trans (up_rlR h1 h0 hl hn k hk x hx) (by omega)⟩
theorem upP_rlR {R : Nat} {p : List Rat} {n : Nat} (h1 : ∀ x ∈ p, rl x ≤ R) (h0 : 0 < p.length) (hl : p.length ≤ 8) (hpn : p.length ≤ n + 1) (hn : n ≤ 40) : ∀ x ∈ upP p n, rl x ≤ R * 8 + 8 := up_rlR h1 h0 hl hn _ (by omega)
theorem upR_rl {U V v : Nat} {c : List Rat} (hc : c.length = (U + 1) * (V + 1)) (hR : ∀ x ∈ c, rl x ≤ 1) (hV8 : V ≤ 7) (hV : V ≤ v) (hv : v ≤ 40) : ∀ x ∈ upR V c v U, rl x ≤ 16 :=
  rs_mem (U := U) (fun i hi x hx => upP_rlR (R := 1) (fun y hy => hR y (rwL_mem hy)) (by rw [rwL_len hc hi]; omega) (by rw [rwL_len hc hi]; omega) (by rw [rwL_len hc hi]; omega) hv x hx) (Nat.le_refl _)
theorem upH_of {U V u v : Nat} {c : List Rat} (hc : c.length = (U + 1) * (V + 1)) (hR : ∀ x ∈ c, rl x ≤ 1) (hU8 : U ≤ 7) (hV8 : V ≤ 7) (hU : U ≤ u) (hV : V ≤ v) (hu : u ≤ 40) (hv : v ≤ 40) : upH U V c u v where
  hc := hc
  hl := by rw [hc]; exact Nat.le_trans (Nat.mul_le_mul (show U + 1 ≤ 8 by omega) (show V + 1 ≤ 8 by omega)) (by decide)
  hR := fun x hx => Nat.le_trans (hR x hx) (by decide)
  hU := hU
  hV := hV
  hu := hu
  hv := hv
  h1 := fun i hi => upS_cmR (R := 1) (by decide) (fun x hx => hR x (rwL_mem hx)) (by rw [rwL_len hc hi]; omega) (by rw [rwL_len hc hi]; omega) hv
  h2 := fun j hj => upS_cmR (R := 16) (by decide) (fun x hx => sw_rl (by decide) (upR_rl hc hR hV8 hV hv) x (rwL_mem hx)) (by rw [rwL_len (swL_len U v _) hj]; omega) (by rw [rwL_len (swL_len U v _) hj]; omega) hu
/-- the numbers of an elevated net are short -/
theorem upN_rl {U V u v : Nat} {c : List Rat} (hc : c.length = (U + 1) * (V + 1)) (hR : ∀ x ∈ c, rl x ≤ 1) (hU8 : U ≤ 7) (hV8 : V ≤ 7) (hU : U ≤ u) (hV : V ≤ v) (hu : u ≤ 40) (hv : v ≤ 40) : ∀ x ∈ upN U V c u v, rl x ≤ 136 :=
  sw_rl (by decide) (rs_mem (U := v) (fun j hj x hx => upP_rlR (R := 16) (fun y hy => sw_rl (by decide) (upR_rl hc hR hV8 hV hv) y (rwL_mem hy)) (by rw [rwL_len (swL_len U v _) hj]; omega) (by rw [rwL_len (swL_len U v _) hj]; omega) (by rw [rwL_len (swL_len U v _) hj]; omega) hu x hx) (Nat.le_refl _))
end Go.Proofs.YthhdcfhaldcheaaGreat
end
section
set_option linter.unusedVariables false
set_option linter.unusedSimpArgs false
set_option maxHeartbeats 8000000
set_option maxRecDepth 100000
attribute [local irreducible] Go.Lg.opsL Go.Lg.wpL Go.Lg.thenL Go.Lg.blockL
namespace Go.Proofs.YthhdcfhaldcheaaGreat
open Go.Lg
def cR (n k : Nat) : Rat := ((chs n k : Nat) : Int)
/-- the coefficients times binomials, 0 behind -/
def sq (p : List Rat) (k : Nat) : Rat := cR (p.length - 1) k * p.getD k 0
theorem sq_gt {p : List Rat} {k : Nat} (h : p.length ≤ k) : sq p k = 0 := by unfold sq; rw [ge_zero h, Rat.mul_zero]
theorem cR_ne {n k : Nat} (h : k ≤ n) : cR n k ≠ 0 := by
  have := chs_pos h
  exact fun e => by have := Rat.intCast_eq_zero_iff.1 e; omega
def sm : Nat → (Nat → Rat) → Rat
  | 0, _ => 0
  | n + 1, f => sm n f + f n
theorem sm_congr : ∀ (n : Nat) (f g : Nat → Rat), (∀ i, i < n → f i = g i) → sm n f = sm n g
  | 0, _, _, _ => rfl
  | n + 1, f, g, h => by rw [sm, sm, sm_congr n f g (fun i hi => h i (by omega)), h n (by omega)]
theorem sm_add : ∀ (n : Nat) (f g : Nat → Rat), sm n (fun i => f i + g i) = sm n f + sm n g
  | 0, _, _ => by show (0 : Rat) = 0 + 0; grind
  | n + 1, f, g => by rw [sm, sm, sm, sm_add n]; grind
theorem sm_mul (c : Rat) : ∀ (n : Nat) (f : Nat → Rat), sm n (fun i => c * f i) = c * sm n f
  | 0, _ => by show (0 : Rat) = c * 0; grind
  | n + 1, f => by rw [sm, sm, sm_mul c n]; grind
theorem sm_zero (n : Nat) (f : Nat → Rat) (h : ∀ i, i < n → f i = 0) : sm n f = 0 := by
  induction n with
  | zero => rfl
  | succ n ih => rw [sm, ih (fun i hi => h i (by omega)), h n (by omega)]; exact Rat.add_zero 0
theorem sm_ext (n : Nat) (f : Nat → Rat) (h : ∀ i, n ≤ i → f i = 0) : ∀ m, sm (n + m) f = sm n f
  | 0 => rfl
  | m + 1 => by rw [← Nat.add_assoc, sm, sm_ext n f h m, h _ (by omega)]; grind
/-- products of sequences -/
def cf (f g : Nat → Rat) (k : Nat) : Rat := sm (k + 1) fun i => f i * g (k - i)
theorem rowM_get (x : Rat) (i : Nat) (y q o : List Rat) (k : Nat) : ∀ j, i + j ≤ o.length → (rowM x i y q o j).getD k 0 = o.getD k 0 + (if i ≤ k ∧ k < i + j then x * (y.getD (k - i) 0 * q.getD (k - i) 0) else 0)
  | 0, _ => by rw [rowM, if_neg (by omega), Rat.add_zero]
  | j + 1, h => by
    have ih := fun k => rowM_get x i y q o k j (by omega)
    rw [rowM, set_get0 _ _ _ _ (by rw [rowM_len]; omega)]
    by_cases h1 : i + j = k
    · subst h1
      rw [if_pos rfl, rowM_get x i y q o _ j (by omega), if_neg (by omega), if_pos (by omega), Nat.add_sub_cancel_left]
      grind
    · rw [if_neg h1, rowM_get x i y q o k j (by omega)]
      by_cases h2 : i ≤ k ∧ k < i + j
      · rw [if_pos h2, if_pos (by omega)]
      · rw [if_neg h2, if_neg (by omega)]
theorem chR_cR {n k : Nat} (h : k ≤ n) : (chR n).getD k 0 = cR n k := chR_get h
theorem allM_get {p q : List Rat} (h0 : 0 < p.length) (h1 : 0 < q.length) (k : Nat) : ∀ i, i ≤ p.length → (allM p q i).getD k 0 = sm i (fun j => if j ≤ k then sq p j * sq q (k - j) else 0)
  | 0, _ => repl_get _ _
  | i + 1, hi => by
    rw [allM, rowM_get _ _ _ _ _ _ _ (by rw [allM_len]; omega), allM_get h0 h1 k i (by omega), sm, chR_cR (by omega)]
    congr 1
    by_cases h2 : i ≤ k
    · rw [if_pos h2]
      by_cases h3 : k < i + q.length
      · rw [if_pos ⟨h2, h3⟩, chR_cR (by omega)]; rfl
      · rw [if_neg (by omega), sq_gt (p := q) (by omega), Rat.mul_zero]
    · rw [if_neg h2, if_neg (by omega)]
theorem sq_mul {p q : List Rat} (h0 : 0 < p.length) (h1 : 0 < q.length) (k : Nat) : sq (mulP p q) k = cf (sq p) (sq q) k := by
  have hl := mulP_len p q
  rcases Nat.lt_or_ge k (p.length - 1 + (q.length - 1) + 1) with hk | hk
  · have hc := cR_ne (n := p.length - 1 + (q.length - 1)) (k := k) (by omega)
    have e : sq (mulP p q) k = (allM p q p.length).getD k 0 := by
      unfold sq
      rw [hl, mulP_get hk, chR_cR (by omega), Nat.add_sub_cancel, Rat.div_def, Rat.mul_comm, Rat.mul_assoc, Rat.inv_mul_cancel _ hc, Rat.mul_one]
    rw [e, allM_get h0 h1 k _ (Nat.le_refl _)]
    have hF1 : ∀ i, p.length ≤ i → (fun j => if j ≤ k then sq p j * sq q (k - j) else 0) i = 0 := fun i hi => by
      show (if i ≤ k then sq p i * sq q (k - i) else 0) = 0
      split
      · rw [sq_gt hi, Rat.zero_mul]
      · rfl
    have hF2 : ∀ i, k + 1 ≤ i → (fun j => if j ≤ k then sq p j * sq q (k - j) else 0) i = 0 := fun i hi => if_neg (by omega)
    rw [← sm_ext _ _ hF1 (k + 1), Nat.add_comm, sm_ext _ _ hF2]
    exact sm_congr _ _ _ fun i hi => if_pos (by omega)
  · rw [sq_gt (by omega)]
    refine (sm_zero _ _ fun i hi => ?_).symm
    rcases Nat.lt_or_ge i p.length with h2 | h2
    · rw [sq_gt (p := q) (by omega), Rat.mul_zero]
    · rw [sq_gt h2, Rat.zero_mul]
end Go.Proofs.YthhdcfhaldcheaaGreat
end
section
set_option linter.unusedVariables false
set_option linter.unusedSimpArgs false
set_option maxHeartbeats 8000000
set_option maxRecDepth 100000
attribute [local irreducible] Go.Lg.opsL Go.Lg.wpL Go.Lg.thenL Go.Lg.blockL
namespace Go.Proofs.YthhdcfhaldcheaaGreat
open Go.Lg
theorem sm_comm : ∀ (n m : Nat) (f : Nat → Nat → Rat), sm n (fun i => sm m (f i)) = sm m (fun j => sm n (fun i => f i j))
  | 0, m, f => (sm_zero m _ (fun _ _ => rfl)).symm
  | n + 1, m, f => by rw [sm, sm_comm n m f, ← sm_add]; rfl
def sx (U V : Nat) (c : List Rat) (i j : Nat) : Rat := cR U i * sq (rwL V c i) j
theorem wt_sx {U V i j : Nat} {c : List Rat} (hc : c.length = (U + 1) * (V + 1)) (hi : i ≤ U) (hj : j ≤ V) : (wtL U V c).getD (i * (V + 1) + j) 0 = sx U V c i j := by
  rw [wtL, gL_get (ix_lt hi hj), wtV, ix_div hj, ix_mod hj, sx, sq, rwL_len hc hi, Nat.add_sub_cancel, rwL_get hc hi hj, Rat.mul_assoc]; rfl
theorem sx_gt {U V i j : Nat} {c : List Rat} (hc : c.length = (U + 1) * (V + 1)) (hi : i ≤ U) (hj : V < j) : sx U V c i j = 0 := by
  rw [sx, sq_gt (by rw [rwL_len hc hi]; omega), Rat.mul_zero]
theorem ix_inj {W i j r s : Nat} (hj : j ≤ W) (hs : s ≤ W) (h : i * (W + 1) + j = r * (W + 1) + s) : i = r ∧ j = s := by
  have h1 := congrArg (· / (W + 1)) h
  have h2 := congrArg (· % (W + 1)) h
  simp only [ix_div hj, ix_div hs, ix_mod hj, ix_mod hs] at h1 h2
  exact ⟨h1, h2⟩
section
variable {V1 V2 W U U2 r s : Nat} {x y o : List Rat} (i j k : Nat)
theorem mL_len : ∀ l (o : List Rat), (mL V1 V2 W x y i j k l o).length = o.length
  | 0, o => rfl
  | l + 1, o => by rw [mL, List.length_set, mL_len l o]
theorem mK_len : ∀ k (o : List Rat), (mK V1 V2 W x y i j k o).length = o.length
  | 0, o => rfl
  | k + 1, o => by rw [mK, mL_len, mK_len k o]
theorem mJ_len : ∀ j (o : List Rat), (mJ V1 V2 W U2 x y i j o).length = o.length
  | 0, o => rfl
  | j + 1, o => by rw [mJ, mK_len, mJ_len j o]
theorem mI_len : ∀ i (o : List Rat), (mI V1 V2 W U2 x y i o).length = o.length
  | 0, o => rfl
  | i + 1, o => by rw [mI, mJ_len, mI_len i o]
theorem mL_get (hik : i + k ≤ U) (ho : o.length = (U + 1) * (W + 1)) : ∀ l, j + l ≤ W + 1 → ∀ r s, s ≤ W → (mL V1 V2 W x y i j k l o).getD (r * (W + 1) + s) 0 = o.getD (r * (W + 1) + s) 0 + (if i + k = r ∧ j ≤ s ∧ s < j + l then x.getD (i * (V1 + 1) + j) 0 * y.getD (k * (V2 + 1) + (s - j)) 0 else 0)
  | 0, _, r, s, hs => by rw [mL, if_neg (by omega), Rat.add_zero]
  | l + 1, h, r, s, hs => by
    have hix := ix_lt (U := U) (V := W) (i := i + k) (j := j + l) (by omega) (by omega)
    have ih := mL_get hik ho l (by omega)
    rw [mL, set_get0 _ _ _ _ (by rw [mL_len, ho]; omega)]
    by_cases h1 : (i + k) * (W + 1) + j + l = r * (W + 1) + s
    · obtain ⟨h2, h3⟩ := ix_inj (W := W) (i := i + k) (j := j + l) (r := r) (s := s) (by omega) hs (by omega)
      rw [if_pos h1, h1, ih r s hs, if_neg (by omega), if_pos (by omega), show s - j = l by omega]; grind
    · rw [if_neg h1, ih r s hs]
      have h4 : ¬ (i + k = r ∧ j + l = s) := fun ⟨e1, e2⟩ => h1 (by rw [← e1, ← e2]; omega)
      by_cases h2 : i + k = r ∧ j ≤ s ∧ s < j + l
      · rw [if_pos h2, if_pos (by omega)]
      · rw [if_neg h2, if_neg (by omega)]
theorem mK_get (hs : s ≤ W) (hj : j + V2 ≤ W) (ho : o.length = (U + 1) * (W + 1)) : ∀ k, i + k ≤ U + 1 → (mK V1 V2 W x y i j k o).getD (r * (W + 1) + s) 0 = o.getD (r * (W + 1) + s) 0 + sm k (fun k => if i + k = r ∧ j ≤ s ∧ s < j + (V2 + 1) then x.getD (i * (V1 + 1) + j) 0 * y.getD (k * (V2 + 1) + (s - j)) 0 else 0)
  | 0, _ => by rw [mK, sm, Rat.add_zero]
  | k + 1, h => by
    rw [mK, mL_get (U := U) i j k (by omega) (by rw [mK_len]; exact ho) _ (by omega) r s hs, mK_get hs hj ho k (by omega), Rat.add_assoc]; rfl
theorem mJ_get (hs : s ≤ W) (hV : V1 + V2 ≤ W) (ho : o.length = (U + 1) * (W + 1)) (hi : i + U2 ≤ U) : ∀ j, j ≤ V1 + 1 → (mJ V1 V2 W U2 x y i j o).getD (r * (W + 1) + s) 0 = o.getD (r * (W + 1) + s) 0 + sm j (fun j => sm (U2 + 1) fun k => if i + k = r ∧ j ≤ s ∧ s < j + (V2 + 1) then x.getD (i * (V1 + 1) + j) 0 * y.getD (k * (V2 + 1) + (s - j)) 0 else 0)
  | 0, _ => by rw [mJ, sm, Rat.add_zero]
  | j + 1, h => by
    rw [mJ, mK_get (U := U) i j hs (by omega) (by rw [mJ_len]; exact ho) _ (by omega), mJ_get hs hV ho hi j (by omega), Rat.add_assoc]; rfl
theorem mI_get {U1 : Nat} (hs : s ≤ W) (hV : V1 + V2 ≤ W) (ho : o.length = (U + 1) * (W + 1)) (hU : U1 + U2 ≤ U) : ∀ i, i ≤ U1 + 1 → (mI V1 V2 W U2 x y i o).getD (r * (W + 1) + s) 0 = o.getD (r * (W + 1) + s) 0 + sm i (fun i => sm (V1 + 1) fun j => sm (U2 + 1) fun k => if i + k = r ∧ j ≤ s ∧ s < j + (V2 + 1) then x.getD (i * (V1 + 1) + j) 0 * y.getD (k * (V2 + 1) + (s - j)) 0 else 0)
  | 0, _ => by rw [mI, sm, Rat.add_zero]
  | i + 1, h => by
    rw [mI, mJ_get (U := U) i hs hV (by rw [mI_len]; exact ho) (by omega) _ (Nat.le_refl _), mI_get hs hV ho hU i (by omega), Rat.add_assoc]; rfl
end
/-- the sum of products of one entry -/
def tpS (U1 V1 U2 V2 : Nat) (a b : List Rat) (r s : Nat) : Rat := sm (U1 + 1) fun i => sm (U2 + 1) fun k => if i + k = r then cf (sx U1 V1 a i) (sx U2 V2 b k) s else 0
theorem top_get {U1 V1 U2 V2 r s : Nat} {a b : List Rat} (ha : a.length = (U1 + 1) * (V1 + 1)) (hb : b.length = (U2 + 1) * (V2 + 1)) (hs : s ≤ V1 + V2) : (mTop U1 V1 U2 V2 a b).getD (r * (V1 + V2 + 1) + s) 0 = tpS U1 V1 U2 V2 a b r s := by
  rw [mTop, mI_get (U := U1 + U2) (U1 := U1) hs (Nat.le_refl _) (by simp) (Nat.le_refl _) _ (Nat.le_refl _), repl_get, Rat.zero_add]
  refine sm_congr _ _ _ fun i hi => ?_
  rw [sm_comm]
  refine sm_congr _ _ _ fun k hk => ?_
  by_cases h : i + k = r
  · rw [if_pos h]
    have hG1 : ∀ j, V1 + 1 ≤ j → (fun j => if j ≤ s then sx U1 V1 a i j * sx U2 V2 b k (s - j) else 0) j = 0 := fun j hj => by
      show (if j ≤ s then sx U1 V1 a i j * sx U2 V2 b k (s - j) else 0) = 0
      split
      · rw [sx_gt ha (by omega) (by omega), Rat.zero_mul]
      · rfl
    have hG2 : ∀ j, s + 1 ≤ j → (fun j => if j ≤ s then sx U1 V1 a i j * sx U2 V2 b k (s - j) else 0) j = 0 := fun j hj => if_neg (by omega)
    have e : cf (sx U1 V1 a i) (sx U2 V2 b k) s = sm (V1 + 1) (fun j => if j ≤ s then sx U1 V1 a i j * sx U2 V2 b k (s - j) else 0) := by
      rw [← sm_ext _ _ hG1 (s + 1), Nat.add_comm, sm_ext _ _ hG2]
      exact sm_congr _ _ _ fun j hj => (if_pos (by omega)).symm
    rw [e]
    refine sm_congr _ _ _ fun j hj => ?_
    by_cases h2 : j ≤ s
    · rw [if_pos h2]
      by_cases h3 : s < j + (V2 + 1)
      · rw [if_pos ⟨h, h2, h3⟩, wt_sx ha (by omega) (by omega), wt_sx hb (by omega) (by omega)]
      · rw [if_neg (by omega), sx_gt hb (by omega) (by omega), Rat.mul_zero]
    · rw [if_neg h2, if_neg (by omega)]
  · rw [if_neg h]
    exact sm_zero _ _ fun j _ => if_neg (by omega)
theorem tm_len (U1 V1 U2 V2 : Nat) (a b : List Rat) : (tmL U1 V1 U2 V2 a b).length = (U1 + U2 + 1) * (V1 + V2 + 1) := gL_len _ _
theorem tm_get {U1 V1 U2 V2 r s : Nat} {a b : List Rat} (ha : a.length = (U1 + 1) * (V1 + 1)) (hb : b.length = (U2 + 1) * (V2 + 1)) (hr : r ≤ U1 + U2) (hs : s ≤ V1 + V2) : (tmL U1 V1 U2 V2 a b).getD (r * (V1 + V2 + 1) + s) 0 = tpS U1 V1 U2 V2 a b r s / (cR (U1 + U2) r * cR (V1 + V2) s) := by
  rw [tmL, gL_get (ix_lt hr hs), dvV, ix_div hs, ix_mod hs, top_get ha hb hs]; rfl
theorem cf_mul (c d : Rat) (f g : Nat → Rat) (k : Nat) : cf (fun i => c * f i) (fun i => d * g i) k = c * d * cf f g k := by
  unfold cf
  rw [← sm_mul]
  exact sm_congr _ _ _ fun i _ => by grind
def prR (U1 V1 U2 V2 : Nat) (a b : List Rat) (i k : Nat) : List Rat := scP ((((chs U1 i : Nat) : Int) : Rat) * (((chs U2 k : Nat) : Int) : Rat)) (mulP (rwL V1 a i) (rwL V2 b k))
section
variable {U1 V1 U2 V2 i k : Nat} {a b : List Rat} (ha : a.length = (U1 + 1) * (V1 + 1)) (hb : b.length = (U2 + 1) * (V2 + 1)) (hi : i ≤ U1) (hk : k ≤ U2)
theorem prR_len (ha : a.length = (U1 + 1) * (V1 + 1)) (hb : b.length = (U2 + 1) * (V2 + 1)) (hi : i ≤ U1) (hk : k ≤ U2) : (prR U1 V1 U2 V2 a b i k).length = V1 + V2 + 1 := by
  rw [prR, scP_len, mulP_len, rwL_len ha hi, rwL_len hb hk]; omega
theorem prR_get (ha : a.length = (U1 + 1) * (V1 + 1)) (hb : b.length = (U2 + 1) * (V2 + 1)) (hi : i ≤ U1) (hk : k ≤ U2) (s : Nat) : cR (V1 + V2) s * (prR U1 V1 U2 V2 a b i k).getD s 0 = cf (sx U1 V1 a i) (sx U2 V2 b k) s := by
  have h1 := rwL_len ha hi
  have h2 := rwL_len hb hk
  have h3 := sq_mul (p := rwL V1 a i) (q := rwL V2 b k) (by omega) (by omega) s
  have h4 := cf_mul (cR U1 i) (cR U2 k) (sq (rwL V1 a i)) (sq (rwL V2 b k)) s
  have e : cf (sx U1 V1 a i) (sx U2 V2 b k) s = cf (fun j => cR U1 i * sq (rwL V1 a i) j) (fun j => cR U2 k * sq (rwL V2 b k) j) s := rfl
  rw [e, h4, ← h3, prR, scP_get', sq, mulP_len, h1, h2, show V1 + 1 - 1 + (V2 + 1 - 1) + 1 - 1 = V1 + V2 by omega]
  show cR (V1 + V2) s * (cR U1 i * cR U2 k * _) = _
  grind
theorem mulP_rlR {p q : List Rat} {R : Nat} (h : p.length - 1 + (q.length - 1) ≤ 40) (hpl : p.length ≤ 41) (hql : q.length ≤ 41) (hR1 : 1 ≤ R) (hR : R ≤ 100) (hpR : ∀ x ∈ p, rl x ≤ R) (hqR : ∀ x ∈ q, rl x ≤ R) : ∀ x ∈ mulP p q, rl x ≤ 344700 := fun x hx => by
  obtain ⟨k, hk, rfl⟩ := List.mem_map.1 hx
  have hS := allM_rl hpl hql hR1 hpR hqR p.length
  have hbd : p.length * (q.length * (2 * R + 5)) ≤ 41 * (41 * 205) := Nat.mul_le_mul hpl (Nat.mul_le_mul hql (by omega))
  have hg1 := getD_rl (by omega) hS k
  have hg2 := getD_rl (S := 2) (by decide) (chR_rl (n := p.length - 1 + (q.length - 1)) h) k
  have h3 := rl_div ((allM p q p.length).getD k 0) ((chR (p.length - 1 + (q.length - 1))).getD k 0)
  omega
theorem prR_rl {R : Nat} (ha : a.length = (U1 + 1) * (V1 + 1)) (hb : b.length = (U2 + 1) * (V2 + 1)) (hi : i ≤ U1) (hk : k ≤ U2) (hu : U1 + U2 ≤ 40) (hv : V1 + V2 ≤ 40) (hR1 : 1 ≤ R) (hR : R ≤ 100) (haR : ∀ x ∈ a, rl x ≤ R) (hbR : ∀ x ∈ b, rl x ≤ R) : ∀ x ∈ prR U1 V1 U2 V2 a b i k, rl x ≤ 344705 := by
  have h1 := rwL_len ha hi
  have h2 := rwL_len hb hk
  have c1 := chsQ_rl (n := U1) i (by omega)
  have c2 := chsQ_rl (n := U2) k (by omega)
  have c3 := rl_mul (((chs U1 i : Nat) : Int) : Rat) (((chs U2 k : Nat) : Int) : Rat)
  exact fun x hx => Nat.le_trans (scP_rl (R := 5) (by omega) (mulP_rlR (by omega) (by omega) (by omega) hR1 hR (fun x hx => haR x (rwL_mem hx)) (fun x hx => hbR x (rwL_mem hx))) x hx) (by omega)
end
def oE : Option (List Rat) → LV
  | none => .v (.slice none 0 0)
  | some p => plL p
def vLo : Option (List Rat) → List Rat
  | none => []
  | some p => p
def adO (o : Option (List Rat)) (p : List Rat) : List Rat := match o with
  | none => p
  | some q => zipG (· + ·) q p
theorem gdO (w : List (Option (List Rat))) (i r : Nat) (v : Option (List Rat)) : (w.set i v).getD r none = if i = r ∧ i < w.length then v else w.getD r none := by
  rw [List.getD_eq_getElem?_getD, List.getElem?_set, List.getD_eq_getElem?_getD]
  by_cases h : i = r
  · subst h
    rw [if_pos rfl]
    by_cases h2 : i < w.length
    · rw [if_pos h2, if_pos ⟨rfl, h2⟩]; rfl
    · rw [if_neg h2, if_neg (by omega), List.getElem?_eq_none (by omega)]
  · rw [if_neg h, if_neg (by omega)]
def qK (f : Nat → List Rat) (i : Nat) : Nat → List (Option (List Rat)) → List (Option (List Rat))
  | 0, w => w
  | k + 1, w => (qK f i k w).set (i + k) (some (adO ((qK f i k w).getD (i + k) none) (f k)))
def qI (f : Nat → Nat → List Rat) (n N : Nat) : Nat → List (Option (List Rat))
  | 0 => List.replicate N none
  | i + 1 => qK (f i) i n (qI f n N i)
theorem qK_len (f : Nat → List Rat) (i : Nat) : ∀ k (w : List (Option (List Rat))), (qK f i k w).length = w.length
  | 0, w => rfl
  | k + 1, w => by rw [qK, List.length_set, qK_len f i k w]
theorem qI_len (f : Nat → Nat → List Rat) (n N : Nat) : ∀ i, (qI f n N i).length = N
  | 0 => List.length_replicate
  | i + 1 => by rw [qI, qK_len, qI_len f n N i]
def okO (W S : Nat) (w : List (Option (List Rat))) : Prop := ∀ r q, w.getD r none = some q → q.length = W + 1 ∧ ∀ x ∈ q, rl x ≤ S
theorem ad_ok {W S B : Nat} {o : Option (List Rat)} {p : List Rat} (hS : 1 ≤ S) (ho : ∀ q, o = some q → q.length = W + 1 ∧ ∀ x ∈ q, rl x ≤ S) (hp : p.length = W + 1) (hB : ∀ x ∈ p, rl x ≤ B) : (adO o p).length = W + 1 ∧ ∀ x ∈ adO o p, rl x ≤ S + (B + 1) := by
  cases o with
  | none => exact ⟨hp, fun x hx => by have := hB x hx; omega⟩
  | some q =>
    obtain ⟨h1, h2⟩ := ho q rfl
    refine ⟨by show (zipG _ q p).length = _; rw [zipG_len, h1], fun x hx => ?_⟩
    obtain ⟨i, hi, rfl⟩ := List.mem_map.1 hx
    have hi : i < q.length := List.mem_range.1 hi
    have e1 := getD_rl hS h2 i
    have e2 := hB _ (getD_mem (p := p) (i := i) (by omega))
    have e3 := rl_add (q.getD i 0) (p.getD i 0)
    show rl (q.getD i 0 + p.getD i 0) ≤ _
    omega
theorem ad_get {W s : Nat} {o : Option (List Rat)} {p : List Rat} (hs : s ≤ W) (ho : ∀ q, o = some q → q.length = W + 1) : (adO o p).getD s 0 = (vLo o).getD s 0 + p.getD s 0 := by
  cases o with
  | none => show p.getD s 0 = ([] : List Rat).getD s 0 + p.getD s 0; rw [show ([] : List Rat).getD s 0 = 0 from rfl, Rat.zero_add]
  | some q => exact zipG_get (g := (· + ·)) (by rw [ho q rfl]; omega)
theorem okO_set {W S S2 i : Nat} {w : List (Option (List Rat))} {p : List Rat} (h : okO W S w) (hS : S ≤ S2) (hp : p.length = W + 1) (hB : ∀ x ∈ p, rl x ≤ S2) : okO W S2 (w.set i (some p)) := by
  intro r q hq
  rw [gdO] at hq
  split at hq
  · cases hq; exact ⟨hp, hB⟩
  · obtain ⟨h1, h2⟩ := h r q hq
    exact ⟨h1, fun x hx => Nat.le_trans (h2 x hx) hS⟩
theorem qK_ok {W S B n i : Nat} {f : Nat → List Rat} {w : List (Option (List Rat))} (hS : 1 ≤ S) (hf : ∀ k, k < n → (f k).length = W + 1 ∧ ∀ x ∈ f k, rl x ≤ B) (h : okO W S w) : ∀ k, k ≤ n → okO W (S + k * (B + 1)) (qK f i k w)
  | 0, _ => by rw [Nat.zero_mul]; exact h
  | k + 1, hk => by
    have ih := qK_ok (i := i) hS hf h k (by omega)
    obtain ⟨h1, h2⟩ := hf k (by omega)
    obtain ⟨h3, h4⟩ := ad_ok (o := (qK f i k w).getD (i + k) none) (p := f k) (by omega) (fun q hq => ih _ q hq) h1 h2
    rw [qK]
    exact okO_set ih (Nat.add_le_add_left (Nat.mul_le_mul_right _ (by omega)) _) h3 (fun x hx => by have := h4 x hx; rw [Nat.succ_mul]; omega)
theorem qI_ok {W B n N m : Nat} {f : Nat → Nat → List Rat} (hf : ∀ i, i < m → ∀ k, k < n → (f i k).length = W + 1 ∧ ∀ x ∈ f i k, rl x ≤ B) : ∀ i, i ≤ m → okO W (1 + i * (n * (B + 1))) (qI f n N i)
  | 0, _ => by
    intro r q hq
    rw [qI, List.getD_eq_getElem?_getD, List.getElem?_replicate] at hq
    split at hq <;> cases hq
  | i + 1, hi => by
    have ih := qI_ok (N := N) hf i (by omega)
    have := qK_ok (i := i) (by omega) (hf i (by omega)) ih n (Nat.le_refl _)
    rw [qI, Nat.succ_mul, ← Nat.add_assoc]; exact this
theorem qK_get {W S B n i r s : Nat} {f : Nat → List Rat} {w : List (Option (List Rat))} (hS : 1 ≤ S) (hf : ∀ k, k < n → (f k).length = W + 1 ∧ ∀ x ∈ f k, rl x ≤ B) (h : okO W S w) (hs : s ≤ W) (hw : i + n ≤ w.length) : ∀ k, k ≤ n → (vLo ((qK f i k w).getD r none)).getD s 0 = (vLo (w.getD r none)).getD s 0 + sm k (fun k => if i + k = r then (f k).getD s 0 else 0)
  | 0, _ => by rw [qK, sm, Rat.add_zero]
  | k + 1, hk => by
    have ih := qK_get (r := r) hS hf h hs hw k (by omega)
    have hok := qK_ok (i := i) hS hf h k (by omega)
    rw [qK, gdO, sm]
    by_cases h1 : i + k = r
    · rw [if_pos ⟨h1, by rw [qK_len]; omega⟩, if_pos h1]
      show (adO _ _).getD s 0 = _
      rw [ad_get hs (fun q hq => (hok _ q hq).1), h1, ih, Rat.add_assoc]
    · rw [if_neg (by omega), if_neg h1, ih, Rat.add_zero]
theorem qI_get {W B n N m r s : Nat} {f : Nat → Nat → List Rat} (hf : ∀ i, i < m → ∀ k, k < n → (f i k).length = W + 1 ∧ ∀ x ∈ f i k, rl x ≤ B) (hs : s ≤ W) (hN : m + n ≤ N + 1) : ∀ i, i ≤ m → (vLo ((qI f n N i).getD r none)).getD s 0 = sm i (fun i => sm n fun k => if i + k = r then (f i k).getD s 0 else 0)
  | 0, _ => by
    have e : (List.replicate N (none : Option (List Rat))).getD r none = none := by
      rw [List.getD_eq_getElem?_getD, List.getElem?_replicate]; split <;> rfl
    rw [qI, sm, e]; rfl
  | i + 1, hi => by
    rw [qI, qK_get (by omega) (hf i (by omega)) (qI_ok hf i (by omega)) hs (by rw [qI_len]; omega) n (Nat.le_refl _), qI_get hf hs hN i (by omega), sm]
theorem qK_some1 {f : Nat → List Rat} {i r : Nat} {w : List (Option (List Rat))} (h : ∃ q, w.getD r none = some q) : ∀ k, ∃ q, (qK f i k w).getD r none = some q
  | 0 => h
  | k + 1 => by
    rw [qK, gdO]
    split
    · exact ⟨_, rfl⟩
    · exact qK_some1 h k
theorem qK_some2 {f : Nat → List Rat} {i r : Nat} {w : List (Option (List Rat))} (h1 : i ≤ r) (hr : r < w.length) : ∀ k, r < i + k → ∃ q, (qK f i k w).getD r none = some q
  | 0, h => absurd h (by omega)
  | k + 1, h => by
    rw [qK, gdO]
    split
    · exact ⟨_, rfl⟩
    · rename_i h2
      rw [qK_len] at h2
      exact qK_some2 h1 hr k (by omega)
theorem qI_some {f : Nat → Nat → List Rat} {n N r : Nat} (hn : 0 < n) (hr : r < N) : ∀ i, r < i + n → ∃ q, (qI f n N (i + 1)).getD r none = some q
  | 0, h => by rw [qI]; exact qK_some2 (Nat.zero_le _) (by rw [qI_len]; exact hr) n h
  | i + 1, h => by
    rw [qI]
    rcases Nat.lt_or_ge r (i + 1) with h2 | h2
    · exact qK_some1 (qI_some hn hr i (by omega)) n
    · exact qK_some2 h2 (by rw [qI_len]; exact hr) n h
/-- the cells of the last loop -/
def fI (h : Nat → Rat) (Q : List (Option (List Rat))) : Nat → List (Option (List Rat))
  | 0 => Q
  | r + 1 => (fI h Q r).set r (some (scP (h r) (vLo (Q.getD r none))))
theorem fI_len (h : Nat → Rat) (Q : List (Option (List Rat))) : ∀ r, (fI h Q r).length = Q.length
  | 0 => rfl
  | r + 1 => by rw [fI, List.length_set, fI_len h Q r]
theorem fI_get (h : Nat → Rat) (Q : List (Option (List Rat))) (x : Nat) : ∀ r, (fI h Q r).getD x none = if x < r ∧ x < Q.length then some (scP (h x) (vLo (Q.getD x none))) else Q.getD x none
  | 0 => by rw [fI, if_neg (by omega)]
  | r + 1 => by
    rw [fI, gdO, fI_len, fI_get h Q x r]
    by_cases h1 : r = x
    · subst h1
      by_cases h2 : r < Q.length
      · rw [if_pos ⟨rfl, h2⟩, if_pos ⟨by omega, h2⟩]
      · rw [if_neg (by omega), if_neg (by omega), if_neg (by omega)]
    · rw [if_neg (by omega)]
      by_cases h2 : x < r ∧ x < Q.length
      · rw [if_pos h2, if_pos (by omega)]
      · rw [if_neg h2, if_neg (by omega)]
def lsO (h : Nat → Rat) (Q : List (Option (List Rat))) : List (List Rat) := (List.range Q.length).map fun x => scP (h x) (vLo (Q.getD x none))
theorem lsO_len (h : Nat → Rat) (Q : List (Option (List Rat))) : (lsO h Q).length = Q.length := by simp [lsO]
theorem lsO_get {h : Nat → Rat} {Q : List (Option (List Rat))} {x : Nat} (hx : x < Q.length) : (lsO h Q).getD x [] = scP (h x) (vLo (Q.getD x none)) := by
  rw [List.getD_eq_getElem?_getD, List.getElem?_eq_getElem (by rw [lsO_len]; exact hx)]; simp [lsO]
theorem fI_all (h : Nat → Rat) (Q : List (Option (List Rat))) : (fI h Q Q.length).map oE = (lsO h Q).map plL := by
  refine List.ext_getElem (by rw [List.length_map, List.length_map, fI_len, lsO_len]) fun x h1 h2 => ?_
  rw [List.length_map, fI_len] at h1
  have e := fI_get h Q x Q.length
  rw [if_pos ⟨h1, h1⟩, List.getD_eq_getElem?_getD, List.getElem?_eq_getElem (by rw [fI_len]; exact h1)] at e
  have e2 := lsO_get (h := h) h1
  rw [List.getD_eq_getElem?_getD, List.getElem?_eq_getElem (by rw [lsO_len]; exact h1)] at e2
  simp only [Option.getD_some] at e e2
  rw [List.getElem_map, List.getElem_map, e, e2]; rfl
theorem fl_get {W : Nat} : ∀ {ls : List (List Rat)} (h : ∀ p ∈ ls, p.length = W + 1) {r s : Nat} (hs : s ≤ W) (hr : r < ls.length), ls.flatten.getD (r * (W + 1) + s) 0 = (ls.getD r []).getD s 0
  | [], h, r, s, hs, hr => absurd hr (by simp)
  | p :: ls, h, 0, s, hs, _ => by
    have := h p (List.mem_cons_self ..)
    rw [List.flatten_cons, Nat.zero_mul, Nat.zero_add, getD_app1 _ _ _ (by omega)]; rfl
  | p :: ls, h, r + 1, s, hs, hr => by
    have := h p (List.mem_cons_self ..)
    have hr : r < ls.length := by simpa using hr
    rw [List.flatten_cons, getD_app2 _ _ _ (by rw [Nat.succ_mul]; omega), this, Nat.succ_mul, show r * (W + 1) + (W + 1) + s - (W + 1) = r * (W + 1) + s by omega, fl_get (fun q hq => h q (List.mem_cons_of_mem _ hq)) hs hr]; rfl
theorem net_ext {U V : Nat} {c d : List Rat} (hc : c.length = (U + 1) * (V + 1)) (hd : d.length = (U + 1) * (V + 1)) (h : ∀ i j, i ≤ U → j ≤ V → c.getD (i * (V + 1) + j) 0 = d.getD (i * (V + 1) + j) 0) : c = d := by
  refine ext0 (by rw [hc, hd]) fun k hk => ?_
  rw [hc] at hk
  have h1 : k / (V + 1) < U + 1 := Nat.div_lt_of_lt_mul (by rw [Nat.mul_comm]; exact hk)
  have h2 := Nat.mod_lt k (show V + 1 > 0 by omega)
  have e : k = k / (V + 1) * (V + 1) + k % (V + 1) := by rw [Nat.mul_comm]; exact (Nat.div_add_mod k (V + 1)).symm
  rw [e]; exact h _ _ (by omega) (by omega)
def rcU (U : Nat) (r : Nat) : Rat := 1 / (((chs U r : Nat) : Int) : Rat)
section
variable {U1 V1 U2 V2 R : Nat} {a b : List Rat}
theorem pr_all (ha : a.length = (U1 + 1) * (V1 + 1)) (hb : b.length = (U2 + 1) * (V2 + 1)) (hu : U1 + U2 ≤ 40) (hv : V1 + V2 ≤ 40) (hR1 : 1 ≤ R) (hR : R ≤ 100) (haR : ∀ x ∈ a, rl x ≤ R) (hbR : ∀ x ∈ b, rl x ≤ R) :
    ∀ i, i < U1 + 1 → ∀ k, k < U2 + 1 → (prR U1 V1 U2 V2 a b i k).length = V1 + V2 + 1 ∧ ∀ x ∈ prR U1 V1 U2 V2 a b i k, rl x ≤ 344705 :=
  fun i hi k hk => ⟨prR_len ha hb (by omega) (by omega), prR_rl ha hb (by omega) (by omega) hu hv hR1 hR haR hbR⟩
theorem ls_tm (ha : a.length = (U1 + 1) * (V1 + 1)) (hb : b.length = (U2 + 1) * (V2 + 1)) (hu : U1 + U2 ≤ 40) (hv : V1 + V2 ≤ 40) (hR1 : 1 ≤ R) (hRR : R ≤ 100) (haR : ∀ x ∈ a, rl x ≤ R) (hbR : ∀ x ∈ b, rl x ≤ R) :
    (∀ p ∈ lsO (rcU (U1 + U2)) (qI (prR U1 V1 U2 V2 a b) (U2 + 1) (U1 + U2 + 1) (U1 + 1)), p.length = V1 + V2 + 1) ∧
    (lsO (rcU (U1 + U2)) (qI (prR U1 V1 U2 V2 a b) (U2 + 1) (U1 + U2 + 1) (U1 + 1))).flatten = tmL U1 V1 U2 V2 a b := by
  have hf := pr_all ha hb hu hv hR1 hRR haR hbR
  have hQl := qI_len (prR U1 V1 U2 V2 a b) (U2 + 1) (U1 + U2 + 1) (U1 + 1)
  have hok := qI_ok (N := U1 + U2 + 1) hf _ (Nat.le_refl _)
  have hsm := fun r (hr : r < U1 + U2 + 1) => qI_some (f := prR U1 V1 U2 V2 a b) (n := U2 + 1) (N := U1 + U2 + 1) (r := r) (by omega) hr U1 (by omega)
  have hg := fun r s (hs : s ≤ V1 + V2) => qI_get (r := r) (s := s) (N := U1 + U2 + 1) hf hs (by omega) _ (Nat.le_refl _)
  generalize qI (prR U1 V1 U2 V2 a b) (U2 + 1) (U1 + U2 + 1) (U1 + 1) = Q at *
  have hl : ∀ p ∈ lsO (rcU (U1 + U2)) Q, p.length = V1 + V2 + 1 := fun p hp => by
    obtain ⟨x, hx, rfl⟩ := List.mem_map.1 hp
    have hx := List.mem_range.1 hx
    obtain ⟨q, hq⟩ := hsm x (by omega)
    rw [scP_len, hq]; exact (hok x q hq).1
  refine ⟨hl, net_ext (U := U1 + U2) (V := V1 + V2) (by rw [fl_len hl, lsO_len, hQl]) (tm_len _ _ _ _ _ _) fun r s hr hs => ?_⟩
  rw [fl_get hl hs (by rw [lsO_len]; omega), lsO_get (by omega), scP_get', hg r s hs, tm_get ha hb hr hs]
  have hc1 := cR_ne hr
  have hc2 := cR_ne hs
  have e : tpS U1 V1 U2 V2 a b r s = cR (V1 + V2) s * sm (U1 + 1) (fun i => sm (U2 + 1) fun k => if i + k = r then (prR U1 V1 U2 V2 a b i k).getD s 0 else 0) := by
    rw [← sm_mul]
    refine sm_congr _ _ _ fun i hi => ?_
    rw [← sm_mul]
    refine sm_congr _ _ _ fun k hk => ?_
    by_cases h : i + k = r
    · rw [if_pos h, if_pos h, prR_get ha hb (by omega) (by omega)]
    · rw [if_neg h, if_neg h, Rat.mul_zero]
  rw [e]
  generalize sm (U1 + 1) (fun i => sm (U2 + 1) fun k => if i + k = r then (prR U1 V1 U2 V2 a b i k).getD s 0 else 0) = T
  show 1 / cR (U1 + U2) r * T = _
  have e1 := Rat.mul_inv_cancel _ hc1
  have e2 := Rat.mul_inv_cancel _ hc2
  rw [Rat.div_def, Rat.div_def, Rat.inv_mul_rev]
  grind
end
theorem dfo : (default : Option (List Rat)) = none := rfl
theorem oE_some (p : List Rat) : oE (some p) = .list 3 (p.map ratL) := rfl
theorem oE_ok : EncOK oE 1 false := ⟨fun o => by cases o <;> rfl, fun o => by cases o <;> rfl, fun o => by
  cases o with
  | none => rfl
  | some p => exact pure_lst ratE 3 p⟩
theorem oE_z : ZeroOK Tryz.prog 38 (oE none) := ⟨Tryz.t38, _, by kernel_rfl, rfl, rfl, fun _ _ _ => ⟨rfl, rfl⟩⟩
instance : EC Tryz.prog 38 oE 1 false none := ⟨oE_ok, oE_z, T38⟩
theorem op_isnil {P : Program} {H : Heap} {ρ : Operand → LV} {T U d : TypeId} {x y : Operand} {o : Option (List Rat)} (h : ∀ q, o = some q → 0 < q.length) (hx : ρ x = oE o) (hy : ρ y = .v (.slice none 0 0)) (hT : P.underlying T = some (.slice d)) : OpP P H ρ (.binOp .eql T x y U) (.v (.bool o.isNone)) := by
  cases o with
  | none => exact .eqN hx hy hT
  | some q =>
    cases q with
    | nil => exact absurd (h _ rfl) (by decide)
    | cons a q => exact .eqNL (v := ratL a) (l := q.map ratL) hx hy hT
theorem isn_f {o : Option (List Rat)} (h : o.isNone = false) : ∃ q, o = some q := by
  cases o with
  | none => cases h
  | some q => exact ⟨q, rfl⟩
theorem isn_t {o : Option (List Rat)} (h : o.isNone = true) : o = none := by
  cases o with
  | none => rfl
  | some q => cases h
theorem c_FAdd5s (p q : List Rat) (n : Nat) (hn : n ≤ 40) (hp : p.length = n + 1) (hq : q.length = n + 1) (hpR : ∀ x ∈ p, rl x ≤ 1073741824) (hqR : ∀ x ∈ q, rl x ≤ 1073741824) : CallP Tryz.prog 35 [.list 3 (p.map ratL), .list 3 (q.map ratL)] (.list 3 ((zipG (· + ·) p q).map ratL)) := by
  have h1 : ∀ {p : List Rat}, p.length = n + 1 → (∀ x ∈ p, rl x ≤ 1073741824) → upS p n := fun {p} hp hpR => ⟨hpR, fun k hk => by
    obtain rfl : k = 0 := by omega
    exact hpR⟩
  have := c_FAdd5 p q n (by omega) (by omega) hn (by omega) (by omega) (.inl hp) (h1 hp hpR) (h1 hq hqR)
  rwa [upP_self (by omega), upP_self (by omega)] at this
namespace H_c_fMul7
theorem zSm {p q : Prop} (k : q) (e : p = q := by simp only [e1, e2, e3, e4, p1, p2, p3, q1, q2, q3, l1, t0, t1, r1, r2, r3, r4, Nat.zero_add, Nat.reduceMul, Nat.reduceAdd, b1, b2, b3, b4, b5, b6, i1, i2, i3, i4, i5, i6, Nat.reduceBEq, frz_nil, dfo, dfq, qK_len, qI_len, fI_len, List.length_set, egq, egf, esq, esf, kills_map oE_ok, kills_map ratE, ratL_kill, spL_kill, LV.kill, kills]; exact rfl) : p := e.mpr k
end H_c_fMul7
open H_c_fMul7 in
theorem c_fMul7 (U1 V1 U2 V2 : Nat) (a b : List Rat) (ha : a.length = (U1 + 1) * (V1 + 1)) (hb : b.length = (U2 + 1) * (V2 + 1)) (hal : a.length ≤ 1048576) (hbl : b.length ≤ 1048576) (hu : U1 + U2 ≤ 40) (hv : V1 + V2 ≤ 40) (R : Nat) (hR1 : 1 ≤ R) (hRR : R ≤ 100) (haR : ∀ x ∈ a, rl x ≤ R) (hbR : ∀ x ∈ b, rl x ≤ R) : CallP Tryz.prog 73 [.agg [nI64 U1, nI64 V1, .list 3 (a.map ratL)], .agg [nI64 U2, nI64 V2, .list 3 (b.map ratL)]] (.tup [.agg [nI64 (U1 + U2), nI64 (V1 + V2), .list 3 ((tmL U1 V1 U2 V2 a b).map ratL)], iL 0]) := by
  have hnp1 := net_pureN U1 V1 a
  have hnp2 := net_pureN U2 V2 b
  have hf := pr_all ha hb hu hv hR1 hRR haR hbR
  have hQl := qI_len (prR U1 V1 U2 V2 a b) (U2 + 1) (U1 + U2 + 1) (U1 + 1)
  obtain ⟨hls, hfl⟩ := ls_tm ha hb hu hv hR1 hRR haR hbR
  have hll : (lsO (rcU (U1 + U2)) (qI (prR U1 V1 U2 V2 a b) (U2 + 1) (U1 + U2 + 1) (U1 + 1))).length = (U1 + U2 + 1) := by rw [lsO_len, hQl]
  have htl := tm_len U1 V1 U2 V2 a b
  have hT : (U1 + U2 + 1) * (V1 + V2 + 1) ≤ 1681 := Nat.le_trans (Nat.mul_le_mul (show U1 + U2 + 1 ≤ 41 by omega) (show V1 + V2 + 1 ≤ 41 by omega)) (by decide)
  have hn3 := net_pureN (U1 + U2) (V1 + V2) (tmL U1 V1 U2 V2 a b)
  have hR : CallP Tryz.prog 101 [.list 1 ((fI (rcU (U1 + U2)) (qI (prR U1 V1 U2 V2 a b) (U2 + 1) (U1 + U2 + 1) (U1 + 1)) (U1 + U2 + 1)).map oE)] (.agg [nI64 (U1 + U2), nI64 (V1 + V2), .list 3 ((tmL U1 V1 U2 V2 a b).map ratL)]) := by
    have h1 := c_frows7 (lsO (rcU (U1 + U2)) (qI (prR U1 V1 U2 V2 a b) (U2 + 1) (U1 + U2 + 1) (U1 + 1))) (V1 + V2) (by omega) (by rw [hll]; omega) hls
    have h2 := fI_all (rcU (U1 + U2)) (qI (prR U1 V1 U2 V2 a b) (U2 + 1) (U1 + U2 + 1) (U1 + 1))
    rw [hQl] at h2
    rw [hll, hfl] at h1
    rw [h2]
    exact h1
  refine fnP Tryz.func73 (ht := (tame2 (net_pureN _ _ _) rfl)) ?_
  have egq : True := trivial
  have egf : True := trivial
  have esq : True := trivial
  have esf : True := trivial
  refine zg15 ?_
  refine st_pure rfl (.bin rfl rfl (add64N (by omega))) ?_
  refine zg2 ?_
  refine st_pure (guardX (v := false) rfl rfl ((decide_eq_false (by omega))) rfl) fa27 ?_
  refine st_pure (guardX (v := false) rfl rfl ((decide_eq_false (by omega))) rfl) ld3 ?_
  refine st_pure (guardX (v := false) rfl rfl ((decide_eq_false (by omega))) rfl) fa27 ?_
  refine st_pure (guardX (v := false) rfl rfl ((decide_eq_false (by omega))) rfl) ld3 ?_
  refine st_pure (guardX (v := false) rfl rfl ((decide_eq_false (by omega))) rfl) (.bin rfl rfl (add64N (by omega))) ?_
  refine st_pure (guardX (v := false) rfl rfl ((decide_eq_false (by omega))) rfl) (.bin rfl rfl rfl) ?_
  refine st_pure rfl (.pickF rfl ((decide_eq_false (by omega)))) ?_
  refine zg2 ?_
  refine wl_condY (b := _) rfl (decide_eq_false (by omega)) ?_
  refine zg8 ?_
  refine st_pure rfl (.bin rfl rfl (add64N (by omega))) ?_
  refine st_pure rfl (.bin rfl rfl (add1N (by omega))) ?_
  refine st_alloc rfl rfl (.mkE (n := (U1 + U2 + 1)) (m := (U1 + U2 + 1)) ml ml om om om) ?_
  refine zg10 ?_
  refine lp1 (fun (i : Nat) L => ((((((St.mk L.slot (hp [(2, ⟨3, [.agg [nI64 U1, nI64 V1, .list 3 (a.map ratL)]], true⟩), (3, ⟨3, [.agg [nI64 U2, nI64 V2, .list 3 (b.map ratL)]], true⟩), (4, ⟨3, [.agg [.v (.int .i64 0), .v (.int .i64 0), .v (.slice none 0 0)]], true⟩), (33, ⟨1, (qI (prR U1 V1 U2 V2 a b) (U2 + 1) (U1 + U2 + 1) i).map oE, true⟩)])).put (some 2) (.eptr 2 3 0 0)).put (some 3) (.eptr 3 3 0 0)).put (some 4) (.eptr 4 3 0 0)).put (some 6) (.ref 33 1 0 (U1 + U2 + 1))).put (some 7) (nI64 i))) (fun i => i ≤ U1 + 1) (fun i => U1 + 1 - i) 0 (Nat.zero_le _) ?_
  rintro i L1 hi
  refine zg9 ?_
  refine wl_if rfl (fun h37r h37 => ?_) (fun h37r h37 => ?_)
  · have hi2 : i ≤ U1 := by omega
    have hri := rwL_len ha hi2
    have hoI := qI_ok (N := (U1 + U2 + 1)) hf i (by omega)
    have hq5 : i * ((U2 + 1) * (344705 + 1)) ≤ 40 * (41 * 344706) := Nat.mul_le_mul (by omega) (Nat.mul_le_mul (by omega) (by omega))
    have hIl := qI_len (prR U1 V1 U2 V2 a b) (U2 + 1) (U1 + U2 + 1) i
    refine zg10 ?_
    refine lp1 (fun (k : Nat) L => (((((((St.mk L.slot (hp [(2, ⟨3, [.agg [nI64 U1, nI64 V1, .list 3 (a.map ratL)]], true⟩), (3, ⟨3, [.agg [nI64 U2, nI64 V2, .list 3 (b.map ratL)]], true⟩), (4, ⟨3, [.agg [.v (.int .i64 0), .v (.int .i64 0), .v (.slice none 0 0)]], true⟩), (33, ⟨1, (qK ((prR U1 V1 U2 V2 a b) i) i k (qI (prR U1 V1 U2 V2 a b) (U2 + 1) (U1 + U2 + 1) i)).map oE, true⟩)])).put (some 2) (.eptr 2 3 0 0)).put (some 3) (.eptr 3 3 0 0)).put (some 4) (.eptr 4 3 0 0)).put (some 6) (.ref 33 1 0 (U1 + U2 + 1))).put (some 7) (nI64 i)).put (some 8) (nI64 k))) (fun k => k ≤ U2 + 1) (fun k => U2 + 1 - k) 0 (Nat.zero_le _) ?_
    rintro k L2 hk
    refine zg9 ?_
    refine wl_if rfl (fun h43r h43 => ?_) (fun h43r h43 => ?_)
    · have hk2 : k ≤ U2 := by omega
      have hrk := rwL_len hb hk2
      have hpl := prR_len ha hb hi2 hk2
      have hpr := prR_rl ha hb hi2 hk2 hu hv hR1 hRR haR hbR
      have hoK := qK_ok (i := i) (f := (prR U1 V1 U2 V2 a b) i) (by omega) (hf i (by omega)) hoI k (by omega)
      have hq6 : k * (344705 + 1) ≤ 40 * 344706 := Nat.mul_le_mul (by omega) (by omega)
      have hKl := qK_len ((prR U1 V1 U2 V2 a b) i) i k (qI (prR U1 V1 U2 V2 a b) (U2 + 1) (U1 + U2 + 1) i)
      have hc1 := chsQ_rl (n := U1) i (by omega)
      have hc2 := chsQ_rl (n := U2) k (by omega)
      have hc3 := rl_mul (((chs U1 i : Nat) : Int) : Rat) (((chs U2 k : Nat) : Int) : Rat)
      have hmr := mulP_rlR (p := rwL V1 a i) (q := rwL V2 b k) (R := R) (by omega) (by omega) (by omega) hR1 hRR (fun x hx => haR x (rwL_mem hx)) (fun x hx => hbR x (rwL_mem hx))
      have hml := mulP_len (rwL V1 a i) (rwL V2 b k)
      have hii : ((i : Int) + (k : Int)).toNat = i + k := by omega
      refine zg5 ?_
      refine wl_regD 12 (by decide +kernel) ?_
      refine zg2 ?_
      refine cp am2 (c_frow7 U1 V1 a ha hal i hi2) ?_
      refine zg2 ?_
      refine cp am2 (c_frow7 U2 V2 b hb hbl k hk2) ?_
      refine cp am2 (c_FMul5 (rwL V1 a i) (rwL V2 b k) R (by omega) (by omega) (by omega) hR1 (by omega) (fun x hx => haR x (rwL_mem hx)) (fun x hx => hbR x (rwL_mem hx))) ?_
      refine zg8 ?_
      refine wl_regD 12 (by decide +kernel) ?_
      refine zg3 ?_
      refine cp am2 (c_FChoose U1 i (by omega) (by omega)) ?_
      refine zg3 ?_
      refine cp am2 (c_FChoose U2 k (by omega) (by omega)) ?_
      refine cp am2 (c_FRMul (((chs U1 i : Nat) : Int) : Rat) (((chs U2 k : Nat) : Int) : Rat) (by omega)) ?_
      refine zg1 ?_
      refine cp am2 (c_FScale ((((chs U1 i : Nat) : Int) : Rat) * (((chs U2 k : Nat) : Int) : Rat)) (mulP (rwL V1 a i) (rwL V2 b k)) (by omega) (fun x hx => by have := hmr x hx; omega)) ?_
      refine zg8 ?_
      refine st_pure rfl (.bin rfl rfl (add64N (by omega))) ?_
      refine zg2 ?_
      refine st_pure rfl (op_isnil (fun q hq => by have := (hoK _ q hq).1; omega) rfl rfl Tryz.underlying38) ?_
      refine zg2 ?_
      refine wl_if rfl (fun h73r h73 => ?_) (fun h73r h73 => ?_)
      · have egq := isn_t h73
        have esq : (qK ((prR U1 V1 U2 V2 a b) i) i k (qI (prR U1 V1 U2 V2 a b) (U2 + 1) (U1 + U2 + 1) i)).set (i + k) (some (scP ((((chs U1 i : Nat) : Int) : Rat) * (((chs U2 k : Nat) : Int) : Rat)) (mulP (rwL V1 a i) (rwL V2 b k)))) = (qK ((prR U1 V1 U2 V2 a b) i) i (k + 1) (qI (prR U1 V1 U2 V2 a b) (U2 + 1) (U1 + U2 + 1) i)) := by rw [qK, egq]; rfl
        refine zg4 ?_
        refine st_pure rfl (.bin rfl rfl (add64N (by omega))) ?_
        refine zg2 ?_
        refine st_store rfl (.storeM (a := some ((scP ((((chs U1 i : Nat) : Int) : Rat) * (((chs U2 k : Nat) : Int) : Rat)) (mulP (rwL V1 a i) (rwL V2 b k))))) oE_ok rfl rfl rfl T38 (by rw [hKl, hIl]; omega)) ?_
        refine zg5 ?_
        refine st_pure rfl (.bin rfl rfl (add1N (by omega))) ?_
        refine zg3 ?_
        exact nx1 (k + 1) (by omega)
      · obtain ⟨q, egq⟩ := isn_f h73
        obtain ⟨hq1, hq2⟩ := hoK _ q egq
        have esq : (qK ((prR U1 V1 U2 V2 a b) i) i k (qI (prR U1 V1 U2 V2 a b) (U2 + 1) (U1 + U2 + 1) i)).set (i + k) (some (zipG (· + ·) q (scP ((((chs U1 i : Nat) : Int) : Rat) * (((chs U2 k : Nat) : Int) : Rat)) (mulP (rwL V1 a i) (rwL V2 b k))))) = (qK ((prR U1 V1 U2 V2 a b) i) i (k + 1) (qI (prR U1 V1 U2 V2 a b) (U2 + 1) (U1 + U2 + 1) i)) := by rw [qK, egq]; rfl
        have hadd := c_FAdd5s q (scP ((((chs U1 i : Nat) : Int) : Rat) * (((chs U2 k : Nat) : Int) : Rat)) (mulP (rwL V1 a i) (rwL V2 b k))) (V1 + V2) hv hq1 hpl (fun x hx => by have := hq2 x hx; omega) (fun x hx => by have := hpr x hx; omega)
        refine zg4 ?_
        refine st_pure rfl (.bin rfl rfl (add64N (by omega))) ?_
        refine zg3 ?_
        refine st_pure rfl (.bin rfl rfl (add64N (by omega))) ?_
        refine zg3 ?_
        simp only [t1, dfo, Nat.zero_add, egq, oE_some]
        refine cp am2 (hadd) ?_
        refine zg1 ?_
        refine st_store rfl (.storeM (a := some (zipG (· + ·) q (scP ((((chs U1 i : Nat) : Int) : Rat) * (((chs U2 k : Nat) : Int) : Rat)) (mulP (rwL V1 a i) (rwL V2 b k))))) oE_ok rfl rfl rfl T38 (by rw [hKl, hIl]; omega)) ?_
        refine zg5 ?_
        refine st_pure rfl (.bin rfl rfl (add1N (by omega))) ?_
        refine zg3 ?_
        exact nx1 (k + 1) (by omega)
    · obtain rfl : k = U2 + 1 := by omega
      refine zg8 ?_
      refine st_pure rfl (.bin rfl rfl (add1N (by omega))) ?_
      refine zg3 ?_
      exact nx1 (i + 1) (by omega)
  · obtain rfl : i = U1 + 1 := by omega
    refine zg12 ?_
    refine lp1 (fun (i : Nat) L => ((((((St.mk L.slot (hp [(2, ⟨3, [.agg [nI64 U1, nI64 V1, .list 3 (a.map ratL)]], true⟩), (3, ⟨3, [.agg [nI64 U2, nI64 V2, .list 3 (b.map ratL)]], true⟩), (4, ⟨3, [.agg [.v (.int .i64 0), .v (.int .i64 0), .v (.slice none 0 0)]], true⟩), (33, ⟨1, (fI (rcU (U1 + U2)) (qI (prR U1 V1 U2 V2 a b) (U2 + 1) (U1 + U2 + 1) (U1 + 1)) i).map oE, true⟩)])).put (some 2) (.eptr 2 3 0 0)).put (some 3) (.eptr 3 3 0 0)).put (some 4) (.eptr 4 3 0 0)).put (some 6) (.ref 33 1 0 (U1 + U2 + 1))).put (some 11) (nI64 i))) (fun i => i ≤ (U1 + U2 + 1)) (fun i => (U1 + U2 + 1) - i) 0 (Nat.zero_le _) ?_
    rintro i L3 hi
    refine zg9 ?_
    refine wl_if rfl (fun h96r h96 => ?_) (fun h96r h96 => ?_)
    · have hi2 : i ≤ U1 + U2 := by omega
      obtain ⟨q, hq⟩ := qI_some (f := (prR U1 V1 U2 V2 a b)) (n := U2 + 1) (N := (U1 + U2 + 1)) (r := i) (by omega) (by omega) U1 (by omega)
      have hok := qI_ok (N := (U1 + U2 + 1)) hf (U1 + 1) (Nat.le_refl _)
      obtain ⟨hq1, hq2⟩ := hok i q hq
      have hq5 : (U1 + 1) * ((U2 + 1) * (344705 + 1)) ≤ 41 * (41 * 344706) := Nat.mul_le_mul (by omega) (Nat.mul_le_mul (by omega) (by omega))
      have egf : (fI (rcU (U1 + U2)) (qI (prR U1 V1 U2 V2 a b) (U2 + 1) (U1 + U2 + 1) (U1 + 1)) i).getD i none = some q := by rw [fI_get, if_neg (by omega), hq]
      have esf : (fI (rcU (U1 + U2)) (qI (prR U1 V1 U2 V2 a b) (U2 + 1) (U1 + U2 + 1) (U1 + 1)) i).set i (some (scP (1 / (((chs (U1 + U2) i : Nat) : Int) : Rat)) q)) = (fI (rcU (U1 + U2)) (qI (prR U1 V1 U2 V2 a b) (U2 + 1) (U1 + U2 + 1) (U1 + 1)) (i + 1)) := by rw [fI, hq]; rfl
      have hFl := fI_len (rcU (U1 + U2)) (qI (prR U1 V1 U2 V2 a b) (U2 + 1) (U1 + U2 + 1) (U1 + 1)) i
      have hc1 := chsQ_rl (n := U1 + U2) i hu
      have hc3 := rl_div 1 (((chs (U1 + U2) i : Nat) : Int) : Rat)
      have hr1 : rl 1 = 1 := rfl
      refine zg4 ?_
      refine wl_regD 17 (by decide +kernel) ?_
      refine zg2 ?_
      refine cp am1 (c_FInt 1 (by decide) (by decide)) ?_
      refine zg4 ?_
      refine st_pure rfl (.bin rfl rfl (add64N (by omega))) ?_
      refine zg1 ?_
      refine cp am2 (c_FChoose (U1 + U2) i (by omega) (by omega)) ?_
      refine cp am2 (c_FOver 1 (((chs (U1 + U2) i : Nat) : Int) : Rat) (by omega)) ?_
      refine zg4 ?_
      simp only [t1, dfo, Nat.zero_add, egf, oE_some]
      refine cp am2 (c_FScale (1 / (((chs (U1 + U2) i : Nat) : Int) : Rat)) q (by omega) (fun x hx => by have := hq2 x hx; omega)) ?_
      refine zg1 ?_
      refine st_store rfl (.storeM (a := some (scP (1 / (((chs (U1 + U2) i : Nat) : Int) : Rat)) q)) oE_ok rfl rfl rfl T38 (by rw [hFl, hQl]; omega)) ?_
      refine zg5 ?_
      refine st_pure rfl (.bin rfl rfl (add1N (by omega))) ?_
      refine zg3 ?_
      exact nx1 (i + 1) (by omega)
    · obtain rfl : i = (U1 + U2 + 1) := by omega
      refine zg8 ?_
      refine st_callPf [33] rfl rfl (.cons (imm_refm oE_ok rfl rfl (by rw [fI_len, hQl])) .nil) hR ?_
      refine zg5 ?_
      exact retCT [] rfl rfl rfl rfl rfl T27 (.pure (net_pureN _ _ _)) rfl (.pure rfl)
end Go.Proofs.YthhdcfhaldcheaaGreat
end
section
set_option linter.unusedVariables false
set_option linter.unusedSimpArgs false
set_option maxHeartbeats 8000000
set_option maxRecDepth 100000
attribute [local irreducible] Go.Lg.opsL Go.Lg.wpL Go.Lg.thenL Go.Lg.blockL
namespace Go.Proofs.YthhdcfhaldcheaaGreat
open Go.Lg
theorem dfV_len {U V : Nat} {c : List Rat} (hc : c.length = (U + 1) * (V + 1)) : (dfV U V c).length = (U + 1) * (V - 1 + 1) :=
  rsL_len (W := V - 1) (U := U) (fun i hi => dif_W (rwL_len hc hi)) _ (Nat.le_refl _)
theorem dfU_len (U V : Nat) (c : List Rat) : (dfU U V c).length = (U - 1 + 1) * (V + 1) := swL_len _ _ _
theorem sm_rl {B : Nat} : ∀ (n : Nat) (f : Nat → Rat), (∀ i, i < n → rl (f i) ≤ B) → rl (sm n f) ≤ 1 + n * (B + 1)
  | 0, f, _ => by show rl 0 ≤ _; rw [show rl 0 = 1 from rfl]; omega
  | n + 1, f, h => by
    have h1 := sm_rl n f (fun i hi => h i (by omega))
    have h2 := h n (by omega)
    have h3 := rl_add (sm n f) (f n)
    rw [sm, Nat.succ_mul]; omega
theorem sx_rl {U V i j : Nat} {c : List Rat} (hU : U ≤ 40) (hV : V ≤ 40) (hc : c.length = (U + 1) * (V + 1)) (hi : i ≤ U) (h : ∀ x ∈ c, rl x ≤ 1) : rl (sx U V c i j) ≤ 5 := by
  have h1 := chsQ_rl (n := U) i hU
  have h2 := chsQ_rl (n := V) j hV
  have h3 := getD_rl (S := 1) (Nat.le_refl _) (fun x hx => h x (rwL_mem (V := V) (i := i) hx)) j
  have h4 := rl_mul (cR V j) ((rwL V c i).getD j 0)
  have h5 := rl_mul (cR U i) (cR V j * (rwL V c i).getD j 0)
  rw [sx, sq, rwL_len hc hi, Nat.add_sub_cancel]
  unfold cR at *
  omega
theorem tm_rl {U1 V1 U2 V2 : Nat} {a b : List Rat} (ha : a.length = (U1 + 1) * (V1 + 1)) (hb : b.length = (U2 + 1) * (V2 + 1)) (hU1 : U1 ≤ 3) (hV1 : V1 ≤ 3) (hU2 : U2 ≤ 3) (hV2 : V2 ≤ 3) (haR : ∀ x ∈ a, rl x ≤ 1) (hbR : ∀ x ∈ b, rl x ≤ 1) : ∀ x ∈ tmL U1 V1 U2 V2 a b, rl x ≤ 1400 := by
  intro x hx
  have ht := tm_len U1 V1 U2 V2 a b
  obtain ⟨k, hk, rfl⟩ := List.getElem_of_mem hx
  rw [ht] at hk
  have h1 : k / (V1 + V2 + 1) < U1 + U2 + 1 := Nat.div_lt_of_lt_mul (by rw [Nat.mul_comm]; exact hk)
  have h2 := Nat.mod_lt k (show V1 + V2 + 1 > 0 by omega)
  have e : k = k / (V1 + V2 + 1) * (V1 + V2 + 1) + k % (V1 + V2 + 1) := by rw [Nat.mul_comm]; exact (Nat.div_add_mod k _).symm
  have e2 : (tmL U1 V1 U2 V2 a b)[k] = (tmL U1 V1 U2 V2 a b).getD k 0 := by rw [List.getD_eq_getElem?_getD, List.getElem?_eq_getElem (by rw [ht]; exact hk)]; rfl
  rw [e2, e]
  generalize k / (V1 + V2 + 1) = r at *
  generalize k % (V1 + V2 + 1) = s at *
  rw [tm_get ha hb (by omega) (by omega)]
  have c1 := chsQ_rl (n := U1 + U2) r (by omega)
  have c2 := chsQ_rl (n := V1 + V2) s (by omega)
  have c3 := rl_mul (cR (U1 + U2) r) (cR (V1 + V2) s)
  have hcf : ∀ i, i < U1 + 1 → ∀ k, k < U2 + 1 → rl (if i + k = r then cf (sx U1 V1 a i) (sx U2 V2 b k) s else 0) ≤ 78 := fun i hi k hk => by
    split
    · have := sm_rl (B := 10) (s + 1) (fun j => sx U1 V1 a i j * sx U2 V2 b k (s - j)) (fun j _ => by
        have g1 := sx_rl (j := j) (show U1 ≤ 40 by omega) (show V1 ≤ 40 by omega) ha (show i ≤ U1 by omega) haR
        have g2 := sx_rl (j := s - j) (show U2 ≤ 40 by omega) (show V2 ≤ 40 by omega) hb (show k ≤ U2 by omega) hbR
        have g3 := rl_mul (sx U1 V1 a i j) (sx U2 V2 b k (s - j))
        omega)
      exact Nat.le_trans this (by omega)
    · decide
  have h3 := sm_rl (B := 320) (U1 + 1) _ (fun i hi => Nat.le_trans (sm_rl (B := 78) (U2 + 1) _ (hcf i hi)) (by omega))
  have h4 := rl_div (tpS U1 V1 U2 V2 a b r s) (cR (U1 + U2) r * cR (V1 + V2) s)
  have h5 : rl (tpS U1 V1 U2 V2 a b r s) ≤ 1 + (U1 + 1) * (320 + 1) := h3
  unfold cR at *
  omega
theorem upH_same {U V : Nat} {c : List Rat} (hc : c.length = (U + 1) * (V + 1)) (hU : U ≤ 40) (hV : V ≤ 40) (hR : ∀ x ∈ c, rl x ≤ 1073741824) : upH U V c U V := by
  have h1 : upR V c V U = c := by
    rw [upR, rs_congr (h := fun p => p) (fun i hi => upP_self (by rw [rwL_len hc hi]; omega)) (Nat.le_refl _), rs_one, List.take_of_length_le (by omega)]
  have h2 : ∀ {p : List Rat} {n : Nat}, p.length = n + 1 → (∀ x ∈ p, rl x ≤ 1073741824) → upS p n := fun {p n} hp hpR => ⟨hpR, fun k hk => by
    obtain rfl : k = 0 := by omega
    exact hpR⟩
  refine ⟨hc, ?_, fun x hx => Nat.le_trans (hR x hx) (by decide), Nat.le_refl _, Nat.le_refl _, hU, hV, fun i hi => h2 (rwL_len hc hi) (fun x hx => hR x (rwL_mem hx)), fun j hj => ?_⟩
  · rw [hc]; exact Nat.le_trans (Nat.mul_le_mul (show U + 1 ≤ 41 by omega) (show V + 1 ≤ 41 by omega)) (by decide)
  · rw [h1]
    exact h2 (rwL_len (swL_len U V c) hj) (fun x hx => hR x (sw_mem hc (rwL_mem hx)))
theorem dfV_rl {U V R : Nat} {c : List Rat} (hc : c.length = (U + 1) * (V + 1)) (hV : V ≤ 900) (hR : 1 ≤ R) (h : ∀ x ∈ c, rl x ≤ R) : ∀ x ∈ dfV U V c, rl x ≤ 2 * R + 4 :=
  rs_mem (U := U) (fun i hi => difP_rl hR (by rw [rwL_len hc hi]; omega) (fun x hx => h x (rwL_mem hx))) (Nat.le_refl _)
theorem dfU_rl {U V R : Nat} {c : List Rat} (hc : c.length = (U + 1) * (V + 1)) (hU : U ≤ 900) (hR : 1 ≤ R) (h : ∀ x ∈ c, rl x ≤ R) : ∀ x ∈ dfU U V c, rl x ≤ 2 * R + 4 :=
  sw_rl (by omega) (rs_mem (U := V) (fun j hj => difP_rl hR (by rw [rwL_len (swL_len U V c) hj]; omega) (fun x hx => h x (sw_mem hc (rwL_mem hx)))) (Nat.le_refl _))
theorem dice_len {l : List Int} {k u v : Nat} (hu : u ≤ 7) (hv : v ≤ 7) : (ntC l k u v).length ≤ 64 := by
  have h1 := nU_le l k u
  have h2 := nU_le l (nxK l k) v
  rw [ntC_len]; exact Nat.le_trans (Nat.mul_le_mul (show nU l k u + 1 ≤ 8 by omega) (show nU l (nxK l k) v + 1 ≤ 8 by omega)) (by decide)
theorem zipS_rl {R : Nat} {p q : List Rat} {g : Rat → Rat → Rat} (hg : ∀ a b, rl (g a b) ≤ rl a + rl b + 1) (hR : 1 ≤ R) (hp : ∀ x ∈ p, rl x ≤ R) (hq : ∀ x ∈ q, rl x ≤ R) : ∀ x ∈ zipG g p q, rl x ≤ 2 * R + 1 := fun x hx => by
  obtain ⟨i, _, rfl⟩ := List.mem_map.1 hx
  have h1 := getD_rl hR hp i
  have h2 := getD_rl hR hq i
  have h3 := hg (p.getD i 0) (q.getD i 0)
  omega
end Go.Proofs.YthhdcfhaldcheaaGreat
end
section
set_option linter.unusedVariables false
set_option linter.unusedSimpArgs false
set_option maxHeartbeats 8000000
set_option maxRecDepth 100000
attribute [local irreducible] Go.Lg.opsL Go.Lg.wpL Go.Lg.thenL Go.Lg.blockL
namespace Go.Proofs.YthhdcfhaldcheaaGreat
open Go.Lg
theorem el7_any (U V : Nat) (c : List Rat) (hc : c.length = (U + 1) * (V + 1)) (hR : ∀ x ∈ c, rl x ≤ 1) (hU8 : U ≤ 7) (hV8 : V ≤ 7) (u v : Int) : ∃ (U' V' : Nat) (A : List Rat) (f : Int), A.length ≤ 1681 ∧ (∀ x ∈ A, rl x ≤ 136) ∧
    CallP Tryz.prog 71 [.agg [nI64 U, nI64 V, .list 3 (c.map ratL)], iL u, iL v] (.tup [.agg [nI64 U', nI64 V', .list 3 (A.map ratL)], iL f]) ∧
    CallP Tryz.prog 72 [.agg [nI64 U, nI64 V, .list 3 (c.map ratL)], iL u, iL v] (.tup [.agg [nI64 U', nI64 V', .list 3 (A.map ratL)], iL f]) := by
  by_cases h : u < U ∨ v < V ∨ 40 < u ∨ 40 < v
  · exact ⟨0, 0, [], 7, by decide, fun x hx => (by cases hx), c_TElevErr U V c u v (by omega) (by omega) h, c_fElevErr U V c u v (by omega) (by omega) h⟩
  · obtain ⟨m, rfl⟩ : ∃ m : Nat, u = (m : Int) := ⟨u.toNat, by omega⟩
    obtain ⟨n, rfl⟩ : ∃ n : Nat, v = (n : Int) := ⟨v.toNat, by omega⟩
    have hH := upH_of hc hR hU8 hV8 (u := m) (v := n) (by omega) (by omega) (by omega) (by omega)
    exact ⟨m, n, upN U V c m n, 0, by rw [upN_len]; exact hH.n, upN_rl hc hR hU8 hV8 (by omega) (by omega) (by omega) (by omega), c_TElev U V c m n hH, c_fElevP U V c m n hH⟩
theorem scm_rl {c : List Rat} (h : ∀ x ∈ c, rl x ≤ 1) : ∀ x ∈ scP (-1) c, rl x ≤ 1 := fun x hx => by
  obtain ⟨y, hy, rfl⟩ := List.mem_map.1 hx
  show rl (-1 * y) ≤ 1
  rw [show -1 * y = -y by grind, rl_neg]
  exact h y hy
namespace H_c_TensorSums
theorem zSm {p q : Prop} (k : q) (e : p = q := by simp only [e1, e2, e3, e4, p1, p2, p3, q1, q2, q3, l1, t0, t1, r1, r2, r3, r4, Nat.zero_add, Nat.reduceMul, Nat.reduceAdd, b1, b2, b3, b4, b5, b6, i1, i2, i3, i4, i5, i6, Nat.reduceBEq, dfq, tz0, kills_map ratE, ratL_kill, spL_kill, LV.kill, kills, dice_kill]; exact rfl) : p := e.mpr k
end H_c_TensorSums
open H_c_TensorSums in
theorem c_TensorSums (l : List Int) (u v r : Int) (hl : l.length ≤ 9223372036854775807 ∧ ∀ n ∈ l, -9223372036854775808 ≤ n ∧ n ≤ 9223372036854775807) (hu : -9223372036854775808 ≤ u ∧ u ≤ 9223372036854775807) (hv : -9223372036854775808 ≤ v ∧ v ≤ 9223372036854775807) (hr : -9223372036854775808 ≤ r ∧ r ≤ 9223372036854775807) : CallP Tryz.prog 8 [.list 1 (l.map i64L), iL u, iL v, iL r] (bL true) := by
  have hUA : (nU l 0 3) ≤ 3 := nU_le _ _ _
  have hVA : (nU l (nxK l 0) 3) ≤ 3 := nU_le _ _ _
  have hUB : (nU l (ntK l 0 3 3) 3) ≤ 3 := nU_le _ _ _
  have hVB : (nU l (nxK l (ntK l 0 3 3)) 3) ≤ 3 := nU_le _ _ _
  have hal := ntC_len l 0 3 3
  have haR := ntC_rl l 0 3 3
  have hbl := ntC_len l (ntK l 0 3 3) 3 3
  have hbR := ntC_rl l (ntK l 0 3 3) 3 3
  have has : (ntC l 0 3 3).length ≤ 64 := dice_len (by decide) (by decide)
  have hbs : (ntC l (ntK l 0 3 3) 3 3).length ≤ 64 := dice_len (by decide) (by decide)
  have ha0 : 0 < (ntC l 0 3 3).length := by rw [hal]; exact Nat.mul_pos (Nat.succ_pos _) (Nat.succ_pos _)
  have hfr := rtV_rl r 1
  obtain ⟨EU, EV, E, e, hEl, hEr, hTE, hFE⟩ := el7_any (nU l 0 3) (nU l (nxK l 0) 3) (ntC l 0 3 3) hal haR (by omega) (by omega) u v
  have htl := tm_len (nU l 0 3) (nU l (nxK l 0) 3) (nU l (ntK l 0 3 3) 3) (nU l (nxK l (ntK l 0 3 3)) 3) (ntC l 0 3 3) (ntC l (ntK l 0 3 3) 3 3)
  have htR := tm_rl hal hbl hUA hVA hUB hVB haR hbR
  have hts : (tmL (nU l 0 3) (nU l (nxK l 0) 3) (nU l (ntK l 0 3 3) 3) (nU l (nxK l (ntK l 0 3 3)) 3) (ntC l 0 3 3) (ntC l (ntK l 0 3 3) 3 3)).length ≤ 49 := by rw [htl]; exact Nat.le_trans (Nat.mul_le_mul (show (nU l 0 3) + (nU l (ntK l 0 3 3) 3) + 1 ≤ 7 by omega) (show (nU l (nxK l 0) 3) + (nU l (nxK l (ntK l 0 3 3)) 3) + 1 ≤ 7 by omega)) (by decide)
  have hHA := upH_of hal haR (by omega) (by omega) (u := (max (nU l 0 3) (nU l (ntK l 0 3 3) 3))) (v := (max (nU l (nxK l 0) 3) (nU l (nxK l (ntK l 0 3 3)) 3))) (by omega) (by omega) (by omega) (by omega)
  have hHB := upH_of hbl hbR (by omega) (by omega) (u := (max (nU l 0 3) (nU l (ntK l 0 3 3) 3))) (v := (max (nU l (nxK l 0) 3) (nU l (nxK l (ntK l 0 3 3)) 3))) (by omega) (by omega) (by omega) (by omega)
  have hHC := upH_of (c := scP (-1) (ntC l (ntK l 0 3 3) 3 3)) (by rw [scP_len]; exact hbl) (scm_rl hbR) (by omega) (by omega) (u := (max (nU l 0 3) (nU l (ntK l 0 3 3) 3))) (v := (max (nU l (nxK l 0) 3) (nU l (nxK l (ntK l 0 3 3)) 3))) (by omega) (by omega) (by omega) (by omega)
  have hHS := upH_same hal (by omega) (by omega) (fun x hx => Nat.le_trans (haR x hx) (by decide))
  have hTA := c_TAdd (nU l 0 3) (nU l (nxK l 0) 3) (nU l (ntK l 0 3 3) 3) (nU l (nxK l (ntK l 0 3 3)) 3) (ntC l 0 3 3) (ntC l (ntK l 0 3 3) 3 3) (max (nU l 0 3) (nU l (ntK l 0 3 3) 3)) (max (nU l (nxK l 0) 3) (nU l (nxK l (ntK l 0 3 3)) 3)) hHA hHB (by omega) (by omega)
  have hFA := c_fAdd7 (nU l 0 3) (nU l (nxK l 0) 3) (nU l (ntK l 0 3 3) 3) (nU l (nxK l (ntK l 0 3 3)) 3) (ntC l 0 3 3) (ntC l (ntK l 0 3 3) 3 3) (max (nU l 0 3) (nU l (ntK l 0 3 3) 3)) (max (nU l (nxK l 0) 3) (nU l (nxK l (ntK l 0 3 3)) 3)) hHA hHB (by omega) (by omega)
  have hTS := c_TSub (nU l 0 3) (nU l (nxK l 0) 3) (nU l (ntK l 0 3 3) 3) (nU l (nxK l (ntK l 0 3 3)) 3) (ntC l 0 3 3) (ntC l (ntK l 0 3 3) 3 3) (max (nU l 0 3) (nU l (ntK l 0 3 3) 3)) (max (nU l (nxK l 0) 3) (nU l (nxK l (ntK l 0 3 3)) 3)) hHA hHB (by omega) (by omega)
  have hFS := c_fSub7 (nU l 0 3) (nU l (nxK l 0) 3) (nU l (ntK l 0 3 3) 3) (nU l (nxK l (ntK l 0 3 3)) 3) (ntC l 0 3 3) (ntC l (ntK l 0 3 3) 3 3) (max (nU l 0 3) (nU l (ntK l 0 3 3) 3)) (max (nU l (nxK l 0) 3) (nU l (nxK l (ntK l 0 3 3)) 3)) hHA hHB (by omega) (by omega) hHC (fun x hx => Nat.le_trans (hbR x hx) (by decide))
  have hZA := zipS_rl (R := 1073741824) (g := (· + ·)) rl_add (by decide) hHA.rl hHB.rl
  have hZS := zipS_rl (R := 1073741824) (g := (· - ·)) rl_sub (by decide) hHA.rl hHB.rl
  have hZZ := zipS_rl (R := 1073741824) (g := (· - ·)) rl_sub (by decide) hHS.rl hHS.rl
  have hzl1 : (zipG (· + ·) (upN (nU l 0 3) (nU l (nxK l 0) 3) (ntC l 0 3 3) (max (nU l 0 3) (nU l (ntK l 0 3 3) 3)) (max (nU l (nxK l 0) 3) (nU l (nxK l (ntK l 0 3 3)) 3))) (upN (nU l (ntK l 0 3 3) 3) (nU l (nxK l (ntK l 0 3 3)) 3) (ntC l (ntK l 0 3 3) 3 3) (max (nU l 0 3) (nU l (ntK l 0 3 3) 3)) (max (nU l (nxK l 0) 3) (nU l (nxK l (ntK l 0 3 3)) 3)))).length ≤ 1681 := by rw [zipG_len, upN_len]; exact hHA.n
  have hzl2 : (zipG (· - ·) (upN (nU l 0 3) (nU l (nxK l 0) 3) (ntC l 0 3 3) (max (nU l 0 3) (nU l (ntK l 0 3 3) 3)) (max (nU l (nxK l 0) 3) (nU l (nxK l (ntK l 0 3 3)) 3))) (upN (nU l (ntK l 0 3 3) 3) (nU l (nxK l (ntK l 0 3 3)) 3) (ntC l (ntK l 0 3 3) 3 3) (max (nU l 0 3) (nU l (ntK l 0 3 3) 3)) (max (nU l (nxK l 0) 3) (nU l (nxK l (ntK l 0 3 3)) 3)))).length ≤ 1681 := by rw [zipG_len, upN_len]; exact hHA.n
  have hzl3 : (zipG (· - ·) (upN (nU l 0 3) (nU l (nxK l 0) 3) (ntC l 0 3 3) (nU l 0 3) (nU l (nxK l 0) 3)) (upN (nU l 0 3) (nU l (nxK l 0) 3) (ntC l 0 3 3) (nU l 0 3) (nU l (nxK l 0) 3))).length ≤ 1681 := by rw [zipG_len, upN_len]; exact hHS.n
  have hTZ := c_TSub (nU l 0 3) (nU l (nxK l 0) 3) (nU l 0 3) (nU l (nxK l 0) 3) (ntC l 0 3 3) (ntC l 0 3 3) (nU l 0 3) (nU l (nxK l 0) 3) hHS hHS (.inl rfl) (.inl rfl)
  have hdVl := dfV_len hal
  have hdVR := dfV_rl hal (by omega) (by decide) haR
  have hdUl := dfU_len (nU l 0 3) (nU l (nxK l 0) 3) (ntC l 0 3 3)
  have hdUR := dfU_rl hal (by omega) (by decide) haR
  have hdVs : (dfV (nU l 0 3) (nU l (nxK l 0) 3) (ntC l 0 3 3)).length ≤ 64 := by rw [hdVl]; exact Nat.le_trans (Nat.mul_le_mul (show (nU l 0 3) + 1 ≤ 4 by omega) (show (nU l (nxK l 0) 3) - 1 + 1 ≤ 4 by omega)) (by decide)
  have hdUs : (dfU (nU l 0 3) (nU l (nxK l 0) 3) (ntC l 0 3 3)).length ≤ 64 := by rw [hdUl]; exact Nat.le_trans (Nat.mul_le_mul (show (nU l 0 3) - 1 + 1 ≤ 4 by omega) (show (nU l (nxK l 0) 3) + 1 ≤ 4 by omega)) (by decide)
  have hTD := c_DiffU (nU l 0 3) (nU l (nxK l 0) 3) (ntC l 0 3 3) hal (by omega) (fun x hx => Nat.le_trans (haR x hx) (by decide)) (by omega)
  have hFD := c_fDiffU (nU l 0 3) (nU l (nxK l 0) 3) (ntC l 0 3 3) hal (by omega) (fun x hx => Nat.le_trans (haR x hx) (by decide)) (by omega)
  have hTW := c_DiffV (nU l 0 3) (nU l (nxK l 0) 3) (ntC l 0 3 3) hal (by omega) (fun x hx => Nat.le_trans (haR x hx) (by decide)) (by omega)
  have hFW := c_fDiffV (nU l 0 3) (nU l (nxK l 0) 3) (ntC l 0 3 3) hal (by omega) (fun x hx => Nat.le_trans (haR x hx) (by decide)) (by omega)
  have hSl := scP_len (rtV r 1) (ntC l 0 3 3)
  have hSr := scP_rl (r := (rtV r 1)) (p := (ntC l 0 3 3)) hfr haR
  have hTC := c_TScale (rtV r 1) (nU l 0 3) (nU l (nxK l 0) 3) (ntC l 0 3 3) hal (by omega) (fun x hx => by have := haR x hx; omega)
  have hFC := c_fScale7 (rtV r 1) (nU l 0 3) (nU l (nxK l 0) 3) (ntC l 0 3 3) (by omega) (fun x hx => by have := haR x hx; omega)
  have hWl : (swL (nU l 0 3) (nU l (nxK l 0) 3) (ntC l 0 3 3)).length ≤ 64 := by rw [swL_len, Nat.mul_comm, ← hal]; exact has
  have hWr := sw_rl (U := (nU l 0 3)) (V := (nU l (nxK l 0) 3)) (by decide) haR
  have hbr := bnd_rl (R := 1) (by decide) haR
  have hn1 := net_pureN (nU l 0 3) (nU l (nxK l 0) 3) (ntC l 0 3 3)
  have hn2 := net_pureN (nU l (ntK l 0 3 3) 3) (nU l (nxK l (ntK l 0 3 3)) 3) (ntC l (ntK l 0 3 3) 3 3)
  have hn3 := net_pureN ((nU l 0 3) + (nU l (ntK l 0 3 3) 3)) ((nU l (nxK l 0) 3) + (nU l (nxK l (ntK l 0 3 3)) 3)) (tmL (nU l 0 3) (nU l (nxK l 0) 3) (nU l (ntK l 0 3 3) 3) (nU l (nxK l (ntK l 0 3 3)) 3) (ntC l 0 3 3) (ntC l (ntK l 0 3 3) 3 3))
  have hn4 := net_pureN EU EV E
  have hn5 := net_pureN (max (nU l 0 3) (nU l (ntK l 0 3 3) 3)) (max (nU l (nxK l 0) 3) (nU l (nxK l (ntK l 0 3 3)) 3)) (zipG (· + ·) (upN (nU l 0 3) (nU l (nxK l 0) 3) (ntC l 0 3 3) (max (nU l 0 3) (nU l (ntK l 0 3 3) 3)) (max (nU l (nxK l 0) 3) (nU l (nxK l (ntK l 0 3 3)) 3))) (upN (nU l (ntK l 0 3 3) 3) (nU l (nxK l (ntK l 0 3 3)) 3) (ntC l (ntK l 0 3 3) 3 3) (max (nU l 0 3) (nU l (ntK l 0 3 3) 3)) (max (nU l (nxK l 0) 3) (nU l (nxK l (ntK l 0 3 3)) 3))))
  have hn6 := net_pureN (max (nU l 0 3) (nU l (ntK l 0 3 3) 3)) (max (nU l (nxK l 0) 3) (nU l (nxK l (ntK l 0 3 3)) 3)) (zipG (· - ·) (upN (nU l 0 3) (nU l (nxK l 0) 3) (ntC l 0 3 3) (max (nU l 0 3) (nU l (ntK l 0 3 3) 3)) (max (nU l (nxK l 0) 3) (nU l (nxK l (ntK l 0 3 3)) 3))) (upN (nU l (ntK l 0 3 3) 3) (nU l (nxK l (ntK l 0 3 3)) 3) (ntC l (ntK l 0 3 3) 3 3) (max (nU l 0 3) (nU l (ntK l 0 3 3) 3)) (max (nU l (nxK l 0) 3) (nU l (nxK l (ntK l 0 3 3)) 3))))
  have hn7 := net_pureN (nU l 0 3) ((nU l (nxK l 0) 3) - 1) (dfV (nU l 0 3) (nU l (nxK l 0) 3) (ntC l 0 3 3))
  have hn8 := net_pureN ((nU l 0 3) - 1) (nU l (nxK l 0) 3) (dfU (nU l 0 3) (nU l (nxK l 0) 3) (ntC l 0 3 3))
  have hn9 := net_pureN (nU l 0 3) (nU l (nxK l 0) 3) (scP (rtV r 1) (ntC l 0 3 3))
  have hn10 := net_pureN (nU l (nxK l 0) 3) (nU l 0 3) (swL (nU l 0 3) (nU l (nxK l 0) 3) (ntC l 0 3 3))
  have hn11 := net_pureN (nU l 0 3) (nU l (nxK l 0) 3) (zipG (· - ·) (upN (nU l 0 3) (nU l (nxK l 0) 3) (ntC l 0 3 3) (nU l 0 3) (nU l (nxK l 0) 3)) (upN (nU l 0 3) (nU l (nxK l 0) 3) (ntC l 0 3 3) (nU l 0 3) (nU l (nxK l 0) 3)))
  refine fnP Tryz.func8 ?_
  refine zg9 ?_
  refine cp am1 (c_Light l (by omega)) ?_
  refine zg3 ?_
  refine wl_if rfl (fun h22r h22 => ?_) (fun h22r h22 => ?_)
  · refine zg2 ?_
    refine cp am0 (c_awake7) ?_
    refine zg5 ?_
    exact ret1 rfl (by first | exact .pure rfl | exact .pure (limL_pure _) | exact .pure (magL_pure _) | exact .pure (ratE.pure _) | exact .pure (pure_lst u32E _ _) | exact .pure (pure_lst ratE _ _))
  · have hk1 := ntK_le (l := l) (k := 0) (by omega) (by omega) 3 3
    refine zg5 ?_
    refine st_call1 [] rfl rfl (.cons im0 .nil) (c_Roll l) (dice_pure l 0) rfl ?_
    refine zg6 ?_
    refine st_callMp 1000401 rfl rfl rfl (dice_pure l _) (.cons .ptr (.cons (.imm (.pure rfl)) (.cons (.imm (.pure rfl)) .nil))) .ptr (c_Net l 0 3 3 (by omega) (by omega) (by decide) (by decide)) rfl (dice_pure l _) (net_pureN _ _ _) ?_
    refine zg1 ?_
    refine st_callMp 1000401 rfl rfl rfl (dice_pure l _) (.cons .ptr (.cons (.imm (.pure rfl)) (.cons (.imm (.pure rfl)) .nil))) .ptr (c_Net l (ntK l 0 3 3) 3 3 (by omega) (by omega) (by decide) (by decide)) rfl (dice_pure l _) (net_pureN _ _ _) ?_
    refine zg11 ?_
    refine cp am3 (hTE) ?_
    refine zg13 ?_
    refine cp am3 (hFE) ?_
    refine zg12 ?_
    refine cp am2 (c_TMul (nU l 0 3) (nU l (nxK l 0) 3) (nU l (ntK l 0 3 3) 3) (nU l (nxK l (ntK l 0 3 3)) 3) (ntC l 0 3 3) (ntC l (ntK l 0 3 3) 3 3) hal hbl (by omega) (by omega) (by omega) (by omega) 1 (by decide) (by decide) haR hbR) ?_
    refine zg12 ?_
    refine cp am2 (c_fMul7 (nU l 0 3) (nU l (nxK l 0) 3) (nU l (ntK l 0 3 3) 3) (nU l (nxK l (ntK l 0 3 3)) 3) (ntC l 0 3 3) (ntC l (ntK l 0 3 3) 3 3) hal hbl (by omega) (by omega) (by omega) (by omega) 1 (by decide) (by decide) haR hbR) ?_
    refine zg9 ?_
    refine wl_regD 91 (by decide +kernel) ?_
    refine zg4 ?_
    refine st_pure (guardX (v := true) rfl rfl ((beq_self_eq_true _)) rfl) ld27 ?_
    refine st_pure (guardX (v := true) rfl rfl ((beq_self_eq_true _)) rfl) ld27 ?_
    refine st_callP (guardX (v := true) rfl rfl ((beq_self_eq_true _)) rfl) (.cons im0 (.cons im0 .nil)) (c_fSame7 EU EV E E (by omega) (by omega) (fun x hx => Nat.le_trans (hEr x hx) (by decide)) (fun x hx => Nat.le_trans (hEr x hx) (by decide))) ?_
    refine st_pure rfl (.pickT rfl ((beq_self_eq_true _))) ?_
    refine zg1 ?_
    refine st_pure (guardX (v := true) rfl rfl ((decide_eq_true rfl)) rfl) (.move _) ?_
    refine st_pure (guardX (v := true) rfl rfl ((decide_eq_true rfl)) rfl) (.bin rfl rfl rfl) ?_
    refine st_pure rfl (.pickT rfl ((decide_eq_true rfl))) ?_
    refine zg1 ?_
    refine st_pure (guardX (v := true) rfl rfl ((beq_self_eq_true _)) rfl) ld27 ?_
    refine st_pure (guardX (v := true) rfl rfl ((beq_self_eq_true _)) rfl) ld27 ?_
    refine st_callP (guardX (v := true) rfl rfl ((beq_self_eq_true _)) rfl) (.cons im0 (.cons im0 .nil)) (c_fSame7 ((nU l 0 3) + (nU l (ntK l 0 3 3) 3)) ((nU l (nxK l 0) 3) + (nU l (nxK l (ntK l 0 3 3)) 3)) (tmL (nU l 0 3) (nU l (nxK l 0) 3) (nU l (ntK l 0 3 3) 3) (nU l (nxK l (ntK l 0 3 3)) 3) (ntC l 0 3 3) (ntC l (ntK l 0 3 3) 3 3)) (tmL (nU l 0 3) (nU l (nxK l 0) 3) (nU l (ntK l 0 3 3) 3) (nU l (nxK l (ntK l 0 3 3)) 3) (ntC l 0 3 3) (ntC l (ntK l 0 3 3) 3 3)) (by omega) (by omega) (fun x hx => Nat.le_trans (htR x hx) (by decide)) (fun x hx => Nat.le_trans (htR x hx) (by decide))) ?_
    refine st_pure rfl (.pickT rfl ((beq_self_eq_true _))) ?_
    refine zg1 ?_
    refine st_pure (guardX (v := true) rfl rfl ((decide_eq_true rfl)) rfl) ld27 ?_
    refine st_pure (guardX (v := true) rfl rfl ((decide_eq_true rfl)) rfl) ld27 ?_
    refine st_callP (guardX (v := true) rfl rfl ((decide_eq_true rfl)) rfl) (.cons im0 (.cons im0 .nil)) (hTA) ?_
    refine st_pure (guardX (v := true) rfl rfl ((decide_eq_true rfl)) rfl) ld27 ?_
    refine st_pure (guardX (v := true) rfl rfl ((decide_eq_true rfl)) rfl) ld27 ?_
    refine st_callP (guardX (v := true) rfl rfl ((decide_eq_true rfl)) rfl) (.cons im0 (.cons im0 .nil)) (hFA) ?_
    refine st_callP (guardX (v := true) rfl rfl ((decide_eq_true rfl)) rfl) (.cons im0 (.cons im0 .nil)) (c_fSame7 (max (nU l 0 3) (nU l (ntK l 0 3 3) 3)) (max (nU l (nxK l 0) 3) (nU l (nxK l (ntK l 0 3 3)) 3)) (zipG (· + ·) (upN (nU l 0 3) (nU l (nxK l 0) 3) (ntC l 0 3 3) (max (nU l 0 3) (nU l (ntK l 0 3 3) 3)) (max (nU l (nxK l 0) 3) (nU l (nxK l (ntK l 0 3 3)) 3))) (upN (nU l (ntK l 0 3 3) 3) (nU l (nxK l (ntK l 0 3 3)) 3) (ntC l (ntK l 0 3 3) 3 3) (max (nU l 0 3) (nU l (ntK l 0 3 3) 3)) (max (nU l (nxK l 0) 3) (nU l (nxK l (ntK l 0 3 3)) 3)))) (zipG (· + ·) (upN (nU l 0 3) (nU l (nxK l 0) 3) (ntC l 0 3 3) (max (nU l 0 3) (nU l (ntK l 0 3 3) 3)) (max (nU l (nxK l 0) 3) (nU l (nxK l (ntK l 0 3 3)) 3))) (upN (nU l (ntK l 0 3 3) 3) (nU l (nxK l (ntK l 0 3 3)) 3) (ntC l (ntK l 0 3 3) 3 3) (max (nU l 0 3) (nU l (ntK l 0 3 3) 3)) (max (nU l (nxK l 0) 3) (nU l (nxK l (ntK l 0 3 3)) 3)))) (by omega) (by omega) (fun x hx => Nat.le_trans (hZA x hx) (by decide)) (fun x hx => Nat.le_trans (hZA x hx) (by decide))) ?_
    refine st_pure rfl (.pickT rfl ((decide_eq_true rfl))) ?_
    refine zg1 ?_
    refine st_pure (guardX (v := true) rfl rfl ((decide_eq_true rfl)) rfl) ld27 ?_
    refine st_pure (guardX (v := true) rfl rfl ((decide_eq_true rfl)) rfl) ld27 ?_
    refine st_callP (guardX (v := true) rfl rfl ((decide_eq_true rfl)) rfl) (.cons im0 (.cons im0 .nil)) (hTS) ?_
    refine st_pure (guardX (v := true) rfl rfl ((decide_eq_true rfl)) rfl) ld27 ?_
    refine st_pure (guardX (v := true) rfl rfl ((decide_eq_true rfl)) rfl) ld27 ?_
    refine st_callP (guardX (v := true) rfl rfl ((decide_eq_true rfl)) rfl) (.cons im0 (.cons im0 .nil)) (hFS) ?_
    refine st_callP (guardX (v := true) rfl rfl ((decide_eq_true rfl)) rfl) (.cons im0 (.cons im0 .nil)) (c_fSame7 (max (nU l 0 3) (nU l (ntK l 0 3 3) 3)) (max (nU l (nxK l 0) 3) (nU l (nxK l (ntK l 0 3 3)) 3)) (zipG (· - ·) (upN (nU l 0 3) (nU l (nxK l 0) 3) (ntC l 0 3 3) (max (nU l 0 3) (nU l (ntK l 0 3 3) 3)) (max (nU l (nxK l 0) 3) (nU l (nxK l (ntK l 0 3 3)) 3))) (upN (nU l (ntK l 0 3 3) 3) (nU l (nxK l (ntK l 0 3 3)) 3) (ntC l (ntK l 0 3 3) 3 3) (max (nU l 0 3) (nU l (ntK l 0 3 3) 3)) (max (nU l (nxK l 0) 3) (nU l (nxK l (ntK l 0 3 3)) 3)))) (zipG (· - ·) (upN (nU l 0 3) (nU l (nxK l 0) 3) (ntC l 0 3 3) (max (nU l 0 3) (nU l (ntK l 0 3 3) 3)) (max (nU l (nxK l 0) 3) (nU l (nxK l (ntK l 0 3 3)) 3))) (upN (nU l (ntK l 0 3 3) 3) (nU l (nxK l (ntK l 0 3 3)) 3) (ntC l (ntK l 0 3 3) 3 3) (max (nU l 0 3) (nU l (ntK l 0 3 3) 3)) (max (nU l (nxK l 0) 3) (nU l (nxK l (ntK l 0 3 3)) 3)))) (by omega) (by omega) (fun x hx => Nat.le_trans (hZS x hx) (by decide)) (fun x hx => Nat.le_trans (hZS x hx) (by decide))) ?_
    refine st_pure rfl (.pickT rfl ((decide_eq_true rfl))) ?_
    refine zg1 ?_
    refine st_pure (guardX (v := true) rfl rfl ((decide_eq_true rfl)) rfl) ld27 ?_
    refine st_callP (guardX (v := true) rfl rfl ((decide_eq_true rfl)) rfl) (.cons im0 .nil) (hTD) ?_
    refine st_pure (guardX (v := true) rfl rfl ((decide_eq_true rfl)) rfl) ld27 ?_
    refine st_callP (guardX (v := true) rfl rfl ((decide_eq_true rfl)) rfl) (.cons im0 .nil) (hFD) ?_
    refine st_callP (guardX (v := true) rfl rfl ((decide_eq_true rfl)) rfl) (.cons im0 (.cons im0 .nil)) (c_fSame7 ((nU l 0 3) - 1) (nU l (nxK l 0) 3) (dfU (nU l 0 3) (nU l (nxK l 0) 3) (ntC l 0 3 3)) (dfU (nU l 0 3) (nU l (nxK l 0) 3) (ntC l 0 3 3)) (by omega) (by omega) (fun x hx => Nat.le_trans (hdUR x hx) (by decide)) (fun x hx => Nat.le_trans (hdUR x hx) (by decide))) ?_
    refine st_pure rfl (.pickT rfl ((decide_eq_true rfl))) ?_
    refine zg1 ?_
    refine st_pure (guardX (v := true) rfl rfl ((decide_eq_true rfl)) rfl) ld27 ?_
    refine st_callP (guardX (v := true) rfl rfl ((decide_eq_true rfl)) rfl) (.cons im0 .nil) (hTW) ?_
    refine st_pure (guardX (v := true) rfl rfl ((decide_eq_true rfl)) rfl) ld27 ?_
    refine st_callP (guardX (v := true) rfl rfl ((decide_eq_true rfl)) rfl) (.cons im0 .nil) (hFW) ?_
    refine st_callP (guardX (v := true) rfl rfl ((decide_eq_true rfl)) rfl) (.cons im0 (.cons im0 .nil)) (c_fSame7 (nU l 0 3) ((nU l (nxK l 0) 3) - 1) (dfV (nU l 0 3) (nU l (nxK l 0) 3) (ntC l 0 3 3)) (dfV (nU l 0 3) (nU l (nxK l 0) 3) (ntC l 0 3 3)) (by omega) (by omega) (fun x hx => Nat.le_trans (hdVR x hx) (by decide)) (fun x hx => Nat.le_trans (hdVR x hx) (by decide))) ?_
    refine st_pure rfl (.pickT rfl ((decide_eq_true rfl))) ?_
    refine zg1 ?_
    refine st_pure (guardX (v := true) rfl rfl ((decide_eq_true rfl)) rfl) (.move _) ?_
    refine st_callP (guardX (v := true) rfl rfl ((decide_eq_true rfl)) rfl) (.cons im0 (.cons im0 .nil)) (c_MRat r 1 hr (by decide)) ?_
    refine st_pure (guardX (v := true) rfl rfl ((decide_eq_true rfl)) rfl) ld27 ?_
    refine st_callP (guardX (v := true) rfl rfl ((decide_eq_true rfl)) rfl) (.cons im0 (.cons im0 .nil)) (hTC) ?_
    refine st_pure (guardX (v := true) rfl rfl ((decide_eq_true rfl)) rfl) (.move _) ?_
    refine st_callP (guardX (v := true) rfl rfl ((decide_eq_true rfl)) rfl) (.cons im0 (.cons im0 .nil)) (c_MRat r 1 hr (by decide)) ?_
    refine st_pure (guardX (v := true) rfl rfl ((decide_eq_true rfl)) rfl) ld27 ?_
    refine st_callP (guardX (v := true) rfl rfl ((decide_eq_true rfl)) rfl) (.cons im0 (.cons im0 .nil)) (hFC) ?_
    refine st_callP (guardX (v := true) rfl rfl ((decide_eq_true rfl)) rfl) (.cons im0 (.cons im0 .nil)) (c_fSame7 (nU l 0 3) (nU l (nxK l 0) 3) (scP (rtV r 1) (ntC l 0 3 3)) (scP (rtV r 1) (ntC l 0 3 3)) (by omega) (by omega) (fun x hx => Nat.le_trans (hSr x hx) (by decide)) (fun x hx => Nat.le_trans (hSr x hx) (by decide))) ?_
    refine st_pure rfl (.pickT rfl ((decide_eq_true rfl))) ?_
    refine zg1 ?_
    refine st_pure (guardX (v := true) rfl rfl ((decide_eq_true rfl)) rfl) ld27 ?_
    refine st_callP (guardX (v := true) rfl rfl ((decide_eq_true rfl)) rfl) (.cons im0 .nil) (c_Swap (nU l 0 3) (nU l (nxK l 0) 3) (ntC l 0 3 3) hal (by omega) (fun x hx => Nat.le_trans (haR x hx) (by decide))) ?_
    refine st_pure (guardX (v := true) rfl rfl ((decide_eq_true rfl)) rfl) ld27 ?_
    refine st_callP (guardX (v := true) rfl rfl ((decide_eq_true rfl)) rfl) (.cons im0 .nil) (c_fSwap (nU l 0 3) (nU l (nxK l 0) 3) (ntC l 0 3 3) hal (by omega)) ?_
    refine st_callP (guardX (v := true) rfl rfl ((decide_eq_true rfl)) rfl) (.cons im0 (.cons im0 .nil)) (c_fSame7 (nU l (nxK l 0) 3) (nU l 0 3) (swL (nU l 0 3) (nU l (nxK l 0) 3) (ntC l 0 3 3)) (swL (nU l 0 3) (nU l (nxK l 0) 3) (ntC l 0 3 3)) (by omega) (by omega) (fun x hx => Nat.le_trans (hWr x hx) (by decide)) (fun x hx => Nat.le_trans (hWr x hx) (by decide))) ?_
    refine st_pure rfl (.pickT rfl ((decide_eq_true rfl))) ?_
    refine zg1 ?_
    refine st_pure (guardX (v := true) rfl rfl ((decide_eq_true rfl)) rfl) ld27 ?_
    refine st_callP (guardX (v := true) rfl rfl ((decide_eq_true rfl)) rfl) (.cons im0 .nil) (c_TBnd (nU l 0 3) (nU l (nxK l 0) 3) (ntC l 0 3 3) (by omega) (fun x hx => Nat.le_trans (haR x hx) (by decide))) ?_
    refine st_pure (guardX (v := true) rfl rfl ((decide_eq_true rfl)) rfl) ld27 ?_
    refine st_callP (guardX (v := true) rfl rfl ((decide_eq_true rfl)) rfl) (.cons im0 .nil) (c_fBounds7 (nU l 0 3) (nU l (nxK l 0) 3) (ntC l 0 3 3) ha0 (by omega) (fun x hx => Nat.le_trans (haR x hx) (by decide))) ?_
    refine st_callP (guardX (v := true) rfl rfl ((decide_eq_true rfl)) rfl) (.cons im0 (.cons im0 .nil)) (c_FSpSame (bndP (ntC l 0 3 3)) (by omega) (by omega)) ?_
    refine st_pure rfl (.pickT rfl ((decide_eq_true rfl))) ?_
    refine zg2 ?_
    refine cp am1 (c_TZero (nU l 0 3) (nU l (nxK l 0) 3) (ntC l 0 3 3) (by omega) (fun x hx => Nat.le_trans (haR x hx) (by decide))) ?_
    refine zg1 ?_
    refine cp am1 (c_fZero7 (nU l 0 3) (nU l (nxK l 0) 3) (ntC l 0 3 3) (by omega)) ?_
    refine zg3 ?_
    refine st_pure (guardX (v := true) rfl rfl ((beq_self_eq_true _)) rfl) ld27 ?_
    refine st_pure (guardX (v := true) rfl rfl ((beq_self_eq_true _)) rfl) ld27 ?_
    refine st_callP (guardX (v := true) rfl rfl ((beq_self_eq_true _)) rfl) (.cons im0 (.cons im0 .nil)) (hTZ) ?_
    refine st_callP (guardX (v := true) rfl rfl ((beq_self_eq_true _)) rfl) (.cons im0 .nil) (c_TZero (nU l 0 3) (nU l (nxK l 0) 3) (zipG (· - ·) (upN (nU l 0 3) (nU l (nxK l 0) 3) (ntC l 0 3 3) (nU l 0 3) (nU l (nxK l 0) 3)) (upN (nU l 0 3) (nU l (nxK l 0) 3) (ntC l 0 3 3) (nU l 0 3) (nU l (nxK l 0) 3))) (by omega) (fun x hx => Nat.le_trans (hZZ x hx) (by decide))) ?_
    refine st_pure rfl (.pickT rfl ((beq_self_eq_true _))) ?_
    refine zg1 ?_
    refine st_callP (guardX (v := true) rfl rfl ((by rw [zip_self]; rfl)) rfl) .nil (c_awake7) ?_
    refine st_pure rfl (.pickT rfl ((by rw [zip_self]; rfl))) ?_
    refine zg4 ?_
    exact ret1 rfl (by first | exact .pure rfl | exact .pure (limL_pure _) | exact .pure (magL_pure _) | exact .pure (ratE.pure _) | exact .pure (pure_lst u32E _ _) | exact .pure (pure_lst ratE _ _))
end Go.Proofs.YthhdcfhaldcheaaGreat
end
