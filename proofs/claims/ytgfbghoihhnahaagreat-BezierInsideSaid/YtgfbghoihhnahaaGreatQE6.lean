/- Texts K13, K2, K10, K7, K6b, K11, K14, K16, P2, P3, K17, K12, K18, K15, K19, P4, K20 of this proof, joined. -/
import Derived.Test.YtgfbghoihhnahaaGreatQE5
set_option linter.unusedVariables false
set_option linter.unusedSimpArgs false
section
set_option linter.unusedVariables false
set_option linter.unusedSimpArgs false
set_option maxHeartbeats 8000000
set_option maxRecDepth 100000
attribute [local irreducible] Go.Lg.opsL Go.Lg.wpL Go.Lg.thenL Go.Lg.blockL
namespace Go.Proofs.YtgfbghoihhnahaaGreat
open Go.Lg
def sqS (s : Rat × Rat) : Rat × Rat := if hasR s 0 = true then (0, mxR (s.1 * s.1) (s.2 * s.2)) else (mnR (s.1 * s.1) (s.2 * s.2), mxR (s.1 * s.1) (s.2 * s.2))
def muS (a b : Rat × Rat) : Rat × Rat := hulP (hulP (hulP (a.1 * b.1, a.1 * b.1) (a.1 * b.2, a.1 * b.2)) (a.2 * b.1, a.2 * b.1)) (a.2 * b.2, a.2 * b.2)
def rcS (b : Rat × Rat) : Rat × Rat := (mnR (1 / b.1) (1 / b.2), mxR (1 / b.1) (1 / b.2))
def quS (a b : Rat × Rat) : Rat × Rat := muS a (rcS b)
def bdS (R : Nat) (s : Rat × Rat) : Prop := rl s.1 ≤ R ∧ rl s.2 ≤ R
theorem bdS.le {R S : Nat} {s : Rat × Rat} (h : bdS R s) (k : R ≤ S) : bdS S s := ⟨Nat.le_trans h.1 k, Nat.le_trans h.2 k⟩
theorem mn_rl {a b : Rat} {R : Nat} (ha : rl a ≤ R) (hb : rl b ≤ R) : rl (mnR a b) ≤ R := by unfold mnR; split <;> assumption
theorem mx_rl3 {a b : Rat} {R : Nat} (ha : rl a ≤ R) (hb : rl b ≤ R) : rl (mxR a b) ≤ R := by unfold mxR; split <;> assumption
theorem hul_bd {R : Nat} {s t : Rat × Rat} (hs : bdS R s) (ht : bdS R t) : bdS R (hulP s t) := ⟨mn_rl hs.1 ht.1, mx_rl3 hs.2 ht.2⟩
theorem muS_bd {R S : Nat} {a b : Rat × Rat} (ha : bdS R a) (hb : bdS S b) : bdS (R + S) (muS a b) := by
  obtain ⟨a1, a2⟩ := ha
  obtain ⟨b1, b2⟩ := hb
  have h : ∀ x y : Rat, rl x ≤ R → rl y ≤ S → bdS (R + S) (x * y, x * y) := fun x y hx hy => by
    have := rl_mul x y
    exact ⟨by show rl (x * y) ≤ _; omega, by show rl (x * y) ≤ _; omega⟩
  exact hul_bd (hul_bd (hul_bd (h _ _ a1 b1) (h _ _ a1 b2)) (h _ _ a2 b1)) (h _ _ a2 b2)
theorem rc_bd {R : Nat} {b : Rat × Rat} (hb : bdS R b) : bdS (R + 1) (rcS b) := by
  have h : ∀ x : Rat, rl x ≤ R → rl (1 / x) ≤ R + 1 := fun x hx => by
    have := rl_div 1 x
    have : rl 1 = 1 := rfl
    omega
  exact ⟨mn_rl (h _ hb.1) (h _ hb.2), mx_rl3 (h _ hb.1) (h _ hb.2)⟩
theorem quS_bd {R S : Nat} {a b : Rat × Rat} (ha : bdS R a) (hb : bdS S b) : bdS (R + (S + 1)) (quS a b) := muS_bd ha (rc_bd hb)
theorem sqS_bd {R : Nat} {s : Rat × Rat} (hs : bdS R s) (hR : 1 ≤ R) : bdS (2 * R) (sqS s) := by
  have h1 := rl_mul s.1 s.1
  have h2 := rl_mul s.2 s.2
  have h3 := hs.1
  have h4 := hs.2
  have h0 : rl 0 = 1 := rfl
  unfold sqS
  split
  · exact ⟨by show rl 0 ≤ _; omega, mx_rl3 (by omega) (by omega)⟩
  · exact ⟨mn_rl (by omega) (by omega), mx_rl3 (by omega) (by omega)⟩
structure _root_.Go.Lg.Bx3 where
  x : Rat × Rat
  y : Rat × Rat
  z : Rat × Rat
abbrev bxL (b : Bx3) : LV := .agg [spL b.x, spL b.y, spL b.z]
theorem bxE : EncOK bxL 18 true := by
  refine ⟨fun b => ?_, fun b => rfl, fun b => ?_⟩
  · simp [bxL, LV.csize, csizes, spE.csize]
  · simp [bxL, LV.pure, pures, spE.pure]
def bdB (R : Nat) (b : Bx3) : Prop := bdS R b.x ∧ bdS R b.y ∧ bdS R b.z
namespace H_c_SMul
theorem zSm {p q : Prop} (k : q) (e : p = q := by simp only [e1, e2, e3, e4, p1, p2, p3, q1, q2, q3, l1, t0, t1, r1, r2, r3, r4, Nat.zero_add, Nat.reduceMul, Nat.reduceAdd, b1, b2, b3, b4, b5, b6, i1, i2, i3, i4, i5, i6, Nat.reduceBEq, List.set_cons_zero, List.set_cons_succ, Nat.reduceEqDiff, reduceIte, if_true, if_false, ptL_kill, poL_kill, kills_map ptE, kills_map poE, kills_map ratE, ratL_kill, spL_kill, LV.kill, kills]; exact rfl) : p := e.mpr k
end H_c_SMul
open H_c_SMul in
theorem c_SMul (a b : Rat × Rat) (R : Nat) (hR : R ≤ 1000000000) (ha : bdS R a) (hb : bdS R b) : CallP Tryz.prog 195 [spL a, spL b] (spL (muS a b)) := by
  obtain ⟨a1, a2⟩ := ha
  obtain ⟨y1, y2⟩ := hb
  have m11 := rl_mul a.1 b.1
  have m12 := rl_mul a.1 b.2
  have m21 := rl_mul a.2 b.1
  have m22 := rl_mul a.2 b.2
  have hP : ∀ x : Rat, rl x ≤ 2 * R → bdS (2 * R) (x, x) := fun x hx => ⟨hx, hx⟩
  have c0 := hP (a.1 * b.1) (by omega)
  have c1 := hul_bd c0 (hP (a.1 * b.2) (by omega))
  have c2 := hul_bd c1 (hP (a.2 * b.1) (by omega))
  obtain ⟨d1, d2⟩ := c1
  obtain ⟨f1, f2⟩ := c2
  refine fnP Tryz.func195 ?_
  refine zg13 ?_
  refine cp am2 (c_RMul a.1 b.1 (by omega)) ?_
  refine cp am1 (c_SPoint (a.1 * b.1) (by omega)) ?_
  refine zg27 ?_
  refine wl_unroll ?_
  refine zg6 ?_
  refine wl_condX (b := _) rfl (by decide) ?_
  refine zg11 ?_
  refine wl_regD 8 (by decide +kernel) ?_
  refine zg5 ?_
  refine cp am2 (c_RMul a.1 b.2 (by omega)) ?_
  refine cp am1 (c_SPoint (a.1 * b.2) (by omega)) ?_
  refine cp am2 (c_SHull ((a.1 * b.1), (a.1 * b.1)) ((a.1 * b.2), (a.1 * b.2)) (by show rl (a.1 * b.1) + rl (a.1 * b.2) ≤ _; omega) (by show rl (a.1 * b.1) + rl (a.1 * b.2) ≤ _; omega)) ?_
  refine zg4 ?_
  refine wl_regW (Weak.kill _ 7) ?_
  refine zg4 ?_
  refine wl_unroll ?_
  refine zg6 ?_
  refine wl_condX (b := _) rfl (by decide) ?_
  refine zg11 ?_
  refine wl_regD 8 (by decide +kernel) ?_
  refine zg5 ?_
  refine cp am2 (c_RMul a.2 b.1 (by omega)) ?_
  refine cp am1 (c_SPoint (a.2 * b.1) (by omega)) ?_
  refine cp am2 (c_SHull (hulP ((a.1 * b.1), (a.1 * b.1)) ((a.1 * b.2), (a.1 * b.2))) ((a.2 * b.1), (a.2 * b.1)) (by show _ + rl (a.2 * b.1) ≤ _; omega) (by show _ + rl (a.2 * b.1) ≤ _; omega)) ?_
  refine zg4 ?_
  refine wl_regW (Weak.kill _ 7) ?_
  refine zg4 ?_
  refine wl_unroll ?_
  refine zg6 ?_
  refine wl_condX (b := _) rfl (by decide) ?_
  refine zg11 ?_
  refine wl_regD 8 (by decide +kernel) ?_
  refine zg5 ?_
  refine cp am2 (c_RMul a.2 b.2 (by omega)) ?_
  refine cp am1 (c_SPoint (a.2 * b.2) (by omega)) ?_
  refine cp am2 (c_SHull (hulP (hulP ((a.1 * b.1), (a.1 * b.1)) ((a.1 * b.2), (a.1 * b.2))) ((a.2 * b.1), (a.2 * b.1))) ((a.2 * b.2), (a.2 * b.2)) (by show _ + rl (a.2 * b.2) ≤ _; omega) (by show _ + rl (a.2 * b.2) ≤ _; omega)) ?_
  refine zg4 ?_
  refine wl_regW (Weak.kill _ 7) ?_
  refine zg4 ?_
  refine wl_unroll ?_
  refine zg6 ?_
  refine wl_condY (b := _) rfl (by decide) ?_
  refine zg12 ?_
  exact retC [] rfl rfl rfl (spE.csize _) (spL_all _) T42 (.pure (spE.pure _))
open H0 in
theorem c_SHas (s : Rat × Rat) (x : Rat) (h1 : rl s.1 + rl x ≤ 549755813888) (h2 : rl x + rl s.2 ≤ 549755813888) : CallP Tryz.prog 216 [spL s, ratL x] (bL (hasR s x)) := by
  refine fnP Tryz.func216 ?_
  refine zg12 ?_
  refine cp am2 (c_RCmp _ _ (by omega)) ?_
  refine zg2 ?_
  refine op_if 10 rfl (fun h10r h10 => ?_) (fun h10r h10 => ?_)
  · refine zg3 ?_
    refine cp am2 (c_RCmp _ _ (by omega)) ?_
    refine zg6 ?_
    rw [← has1 h10r]
    exact ret1 rfl (by first | exact .pure rfl | exact .pure (limL_pure _) | exact .pure (magL_pure _) | exact .pure (ratE.pure _) | exact .pure (pure_lst u32E _ _) | exact .pure (pure_lst ratE _ _))
  · refine zg10 ?_
    rw [← has2 h10r]
    exact ret1 rfl (by first | exact .pure rfl | exact .pure (limL_pure _) | exact .pure (magL_pure _) | exact .pure (ratE.pure _) | exact .pure (pure_lst u32E _ _) | exact .pure (pure_lst ratE _ _))
namespace H_c_SSqr
theorem zSm {p q : Prop} (k : q) (e : p = q := by simp only [e1, e2, e3, e4, p1, p2, p3, q1, q2, q3, l1, t0, t1, r1, r2, r3, r4, Nat.zero_add, Nat.reduceMul, Nat.reduceAdd, b1, b2, b3, b4, b5, b6, i1, i2, i3, i4, i5, i6, Nat.reduceBEq, List.set_cons_zero, List.set_cons_succ, Nat.reduceEqDiff, reduceIte, if_true, if_false, ptL_kill, poL_kill, kills_map ptE, kills_map poE, kills_map ratE, ratL_kill, spL_kill, LV.kill, kills]; exact rfl) : p := e.mpr k
end H_c_SSqr
open H_c_SSqr in
theorem c_SSqr (s : Rat × Rat) (R : Nat) (hR : R ≤ 1000000000) (ha : bdS R s) : CallP Tryz.prog 142 [spL s] (spL (sqS s)) := by
  obtain ⟨a1, a2⟩ := ha
  have m1 := rl_mul s.1 s.1
  have m2 := rl_mul s.2 s.2
  have h0 : rl 0 = 1 := rfl
  refine fnP Tryz.func142 ?_
  refine zg7 ?_
  refine wl_regD 12 (by decide +kernel) ?_
  refine zg4 ?_
  refine cp am2 (c_RMul s.1 s.1 (by omega)) ?_
  refine zg4 ?_
  refine cp am2 (c_RMul s.2 s.2 (by omega)) ?_
  refine cp am2 (c_SOf (s.1 * s.1) (s.2 * s.2) (by omega)) ?_
  refine zg8 ?_
  refine st_pure rfl (.build0 SL29 Z29a) ?_
  refine cp am2 (c_SHas s 0 (by omega) (by omega)) ?_
  refine zg2 ?_
  refine wl_if rfl (fun h17r h17 => ?_) (fun h17r h17 => ?_)
  · have hS : sqS s = (0, mxR (s.1 * s.1) (s.2 * s.2)) := if_pos h17
    refine zg1 ?_
    refine st_pure rfl (.build0 SL29 Z29a) ?_
    refine zg11 ?_
    rw [hS]
    exact retC [] rfl rfl rfl (spE.csize _) (spL_all _) T42 (.pure (spE.pure _))
  · have hS : sqS s = (mnR (s.1 * s.1) (s.2 * s.2), mxR (s.1 * s.1) (s.2 * s.2)) := if_neg (by rw [h17]; decide)
    refine zg9 ?_
    rw [hS]
    exact retC [] rfl rfl rfl (spE.csize _) (spL_all _) T42 (.pure (spE.pure _))
namespace H_c_SQuo
theorem zSm {p q : Prop} (k : q) (e : p = q := by simp only [e1, e2, e3, e4, p1, p2, p3, q1, q2, q3, l1, t0, t1, r1, r2, r3, r4, Nat.zero_add, Nat.reduceMul, Nat.reduceAdd, b1, b2, b3, b4, b5, b6, i1, i2, i3, i4, i5, i6, Nat.reduceBEq, List.set_cons_zero, List.set_cons_succ, Nat.reduceEqDiff, reduceIte, if_true, if_false, ptL_kill, poL_kill, kills_map ptE, kills_map poE, kills_map ratE, ratL_kill, spL_kill, LV.kill, kills]; exact rfl) : p := e.mpr k
end H_c_SQuo
open H_c_SQuo in
theorem c_SQuo (a b : Rat × Rat) (R : Nat) (hR : R ≤ 100000000) (ha : bdS R a) (hb : bdS R b) (hz : hasR b 0 = false) : CallP Tryz.prog 143 [spL a, spL b] (.tup [spL (quS a b), iL 0]) := by
  have ha2 := ha.le (Nat.le_succ R)
  have hrc := rc_bd hb
  obtain ⟨y1, y2⟩ := hb
  have h0 : rl 0 = 1 := rfl
  have hr1 : rl 1 = 1 := rfl
  have qd1 := rl_div 1 b.1
  have qd2 := rl_div 1 b.2
  have h1c : CallP Tryz.prog 126 [iL 1] (ratL 1) := c_RInt 1 (by decide) (by decide)
  have hq1 := c_RQuo 1 b.1 (by omega)
  have hq2 := c_RQuo 1 b.2 (by omega)
  refine fnP Tryz.func143 (ht := (tame2 (spE.pure _) rfl)) ?_
  refine zg12 ?_
  refine st_pure rfl (.build0 SL29 Z29a) ?_
  refine cp am2 (c_SHas b 0 (by omega) (by omega)) ?_
  refine zg2 ?_
  refine wl_if rfl (fun h13r h13 => ?_) (fun h13r h13 => ?_)
  · rw [hz] at h13r
    cases h13r
  · refine zg4 ?_
    refine cp am1 (h1c) ?_
    refine zg9 ?_
    refine cp am2 (hq1) ?_
    refine zg13 ?_
    refine cp am2 (hq2) ?_
    refine zg9 ?_
    refine wl_regD 5 (by decide +kernel) ?_
    refine zg3 ?_
    refine cp am2 (c_SOf (1 / b.1) (1 / b.2) (by omega)) ?_
    refine cp am2 (c_SMul a (rcS b) (R + 1) (by omega) ha2 hrc) ?_
    refine zg5 ?_
    exact retCT [] rfl rfl rfl (spE.csize _) (spL_all _) T42 (.pure (spE.pure _)) rfl (.pure rfl)
end Go.Proofs.YtgfbghoihhnahaaGreat
end
section
set_option linter.unusedVariables false
set_option linter.unusedSimpArgs false
set_option maxHeartbeats 8000000
set_option maxRecDepth 100000
attribute [local irreducible] Go.Lg.opsL Go.Lg.wpL Go.Lg.thenL Go.Lg.blockL
namespace Go.Proofs.YtgfbghoihhnahaaGreat
open Go.Lg
def d3V (l : List Int) (k : Nat) : V3 := ⟨(nbV l k).1, (nbV l (nbV l k).2).1, (nbV l (nbV l (nbV l k).2).2).1⟩
def d3K (l : List Int) (k : Nat) : Nat := (nbV l (nbV l (nbV l k).2).2).2
theorem d3_rl (l : List Int) (k : Nat) : bd3 1 (d3V l k) := ⟨nb_rl _ _, nb_rl _ _, nb_rl _ _⟩
theorem d3K_le {l : List Int} {k : Nat} (hl : l.length ≤ 500) (hk : k ≤ 500) : d3K l k ≤ 500 := nbK_le hl (nbK_le hl (nbK_le hl hk))
def dwV (l : List Int) (k : Nat) : Rat := ((1 + (nxV l k 3).tmod 3 : Int) : Rat)
def dpV (l : List Int) (k : Nat) : PoR := ⟨d3V l k, dwV l (d3K l k)⟩
def dpK (l : List Int) (k : Nat) : Nat := nxK l (d3K l k)
theorem dw_in (l : List Int) (k : Nat) : 1 ≤ 1 + (nxV l k 3).tmod 3 ∧ 1 + (nxV l k 3).tmod 3 ≤ 3 := by
  have h := nxV_lt (l := l) (k := k) (n := 3) (by decide)
  rw [Int.tmod_eq_emod_of_nonneg h.1]
  omega
theorem dw_rl (l : List Int) (k : Nat) : rl (dwV l k) ≤ 1 := by
  have := dw_in l k
  exact rl_int (by omega)
theorem dw_pos (l : List Int) (k : Nat) : 0 < dwV l k := by
  have := dw_in l k
  exact Rat.intCast_pos.2 (by omega)
theorem dpK_le {l : List Int} {k : Nat} (hl : l.length ≤ 500) (hk : k ≤ 500) : dpK l k ≤ 500 := nxK_le hl (d3K_le hl hk)
/-- poles one after the other -/
def dqV (l : List Int) : Nat → Nat → List PoR
  | _, 0 => []
  | k, c + 1 => dpV l k :: dqV l (dpK l k) c
def dqK (l : List Int) : Nat → Nat → Nat
  | k, 0 => k
  | k, c + 1 => dqK l (dpK l k) c
theorem dqV_len (l : List Int) : ∀ k c, (dqV l k c).length = c
  | _, 0 => rfl
  | k, c + 1 => by simp [dqV, dqV_len l]
/-- short poles with a positive weight -/
theorem dqV_ok (l : List Int) : ∀ k c, ∀ q ∈ dqV l k c, okP 1 q
  | _, 0, q, h => by simp [dqV] at h
  | k, c + 1, q, h => by
    simp only [dqV, List.mem_cons] at h
    rcases h with rfl | h
    · exact ⟨d3_rl l k, dw_rl _ _, dw_pos _ _⟩
    · exact dqV_ok l _ c q h
/-- knots without inner ones -/
def kn0 (d : Nat) (t : Rat) : List Rat := List.replicate (d + 1) t ++ List.replicate (d + 1) (t + 1)
theorem kn0_len (d : Nat) (t : Rat) : (kn0 d t).length = 2 * (d + 1) := by simp [kn0]; omega
def dtV (l : List Int) (k : Nat) : Rat := ((nxV l k 4 - 2 : Int) : Rat)
theorem dt_rl (l : List Int) (k : Nat) : rl (dtV l k) ≤ 1 ∧ rl (dtV l k + 1) ≤ 1 := by
  have h := nxV_lt (l := l) (k := k) (n := 4) (by decide)
  refine ⟨rl_int (by omega), ?_⟩
  have e : dtV l k + 1 = ((nxV l k 4 - 1 : Int) : Rat) := by
    unfold dtV
    rw [show nxV l k 4 - 1 = (nxV l k 4 - 2) + 1 by omega, Rat.intCast_add]; rfl
  rw [e]
  exact rl_int (by omega)
/-- a curve of at most a degree, without inner knots -/
def cD (l : List Int) (k : Nat) (n : Nat) : Nat := (1 + nxV l k (n : Int)).toNat
def cT (l : List Int) (k : Nat) : Rat := dtV l (nxK l k)
def cP (l : List Int) (k : Nat) (n : Nat) : List PoR := dqV l (nxK l (nxK l (nxK l k))) (cD l k n + 1)
def cK (l : List Int) (k : Nat) (n : Nat) : Nat := dqK l (nxK l (nxK l (nxK l k))) (cD l k n + 1)
theorem cD_in (l : List Int) (k : Nat) {n : Nat} (hn : 0 < n) : 1 ≤ cD l k n ∧ cD l k n ≤ n ∧ (cD l k n : Int) = 1 + nxV l k (n : Int) := by
  have h := nxV_lt (l := l) (k := k) (n := (n : Int)) (by omega)
  unfold cD
  omega
theorem cP_len (l : List Int) (k n : Nat) : (cP l k n).length = cD l k n + 1 := dqV_len _ _ _
theorem cP_ok (l : List Int) (k n : Nat) : ∀ q ∈ cP l k n, okP 1 q := dqV_ok _ _ _
theorem any_3 {P : Program} {ops : Array Oper} {D : Array Bool} {L : St} {K : St → Prop} {fuel : Nat} (i j k : Nat) (o o2 o3 : Oper) (hr : Region.ready .any ops D = [i, j, k]) (ho : ops[i]? = some o) (ho2 : ops[j]? = some o2) (ho3 : ops[k]? = some o3)
    (h : opsL P false ops [o] L (fun L' => anyL P ops fuel (D.setIfInBounds i true) L' K)) (h2 : opsL P false ops [o2] L (fun L' => anyL P ops fuel (D.setIfInBounds j true) L' K)) (h3 : opsL P false ops [o3] L (fun L' => anyL P ops fuel (D.setIfInBounds k true) L' K)) : anyL P ops (fuel + 1) D L K := by
  simp only [opsL] at h h2 h3
  refine ⟨fun e => (by rw [hr] at e; cases e), fun x hx => ?_⟩
  rw [hr] at hx
  simp only [List.mem_cons, List.not_mem_nil, or_false] at hx
  rcases hx with rfl | rfl | rfl
  · obtain ⟨L', h1, h4⟩ := h
    exact ⟨o, L', ho, h1, h4⟩
  · obtain ⟨L', h1, h4⟩ := h2
    exact ⟨o2, L', ho2, h1, h4⟩
  · obtain ⟨L', h1, h4⟩ := h3
    exact ⟨o3, L', ho3, h1, h4⟩
theorem nxV1 (l : List Int) (k : Nat) : nxV l k 1 = 0 := by
  have := nxV_lt (l := l) (k := k) (n := 1) (by decide)
  omega
theorem rep_snoc {α : Type} (n : Nat) (t : α) : List.replicate n t ++ [t] = List.replicate (n + 1) t := by
  rw [List.replicate_succ']
section
variable {P : Program} {H : Heap} {ρ : Operand → LV} {T : TypeId}
theorem bdPo {o0 o1 : Operand} {p : V3} {r : Rat} [z : ZI P T (.agg [.agg [ratL 0, ratL 0, ratL 0], ratL 0])] [s : SI P T [(9, true), (3, true)]] (h0 : ρ o0 = ptL p) (h1 : ρ o1 = ratL r) :
    OpP P H ρ (.build T #[(0, o0), (1, o1)]) (poL ⟨p, r⟩) := by
  have := OpP.bd (H := H) (ρ := ρ) (ps := #[(0, o0), (1, o1)]) (z := z) (s := s) (by simp [lay, LV.csize, csizes, ratE.csize, ratE.isAgg, isAgg_agg]) (by
    intro q hq
    simp only [List.mem_cons, List.not_mem_nil, or_false] at hq
    rcases hq with rfl | rfl
    · exact ⟨_, rfl, by rw [h0]; simp [lay, ptE.csize, LV.csize, csizes, ratE.csize]; rfl, by rw [h0]; exact LV.pure_ne_any (ptE.pure _), by rw [h0]; exact LV.pure_ne_tup (ptE.pure _)⟩
    · exact ⟨_, rfl, by rw [h1]; simp [lay, ratE.csize, ratE.isAgg], by rw [h1]; exact LV.pure_ne_any (ratE.pure _), by rw [h1]; exact LV.pure_ne_tup (ratE.pure _)⟩)
  simp only [buildL, List.map, List.foldl, List.set, h0, h1] at this
  exact this
end
/-- the knots while the second half is being made -/
def knL (d : Nat) (T : Rat) : Nat → List Rat
  | 0 => List.replicate (d + 1) T
  | i + 1 => knL d T i ++ [T + 1]
theorem knL_eq (d : Nat) (T : Rat) : ∀ i, knL d T i = List.replicate (d + 1) T ++ List.replicate i (T + 1)
  | 0 => by rw [knL, List.replicate_zero, List.append_nil]
  | i + 1 => by rw [knL, knL_eq d T i, List.append_assoc, List.replicate_succ' (n := i)]
theorem knL_len (d : Nat) (T : Rat) (i : Nat) : (knL d T i).length = d + 1 + i := by rw [knL_eq]; simp
theorem knL_end (d : Nat) (T : Rat) : knL d T (d + 1) = kn0 d T := knL_eq d T (d + 1)
theorem retMCf {P : Program} {L : St} {a : Nat} {T : TypeId} {b sz : Nat} {x y : LV} {m : Bool} {n : Nat} {ag : Bool} {blk : Blk} (bs : List Nat) (h0 : bs.contains 0 = false) (h : L.slot a = .eptr b sz 0 0) (hb : L.heap b = some ⟨sz, [x], m⟩)
    (hx : x.csize = sz) (hat : x.at 0 n ag = some x) (hT : TyIs P T n ag) (hi : Imm (L.frz bs).heap x y) (hc : (L.frz bs).heap 0 = some blk) (hm : blk.mt = true) (hp : pures blk.vals = true) : RetM P [.cell a T] L y blk :=
  ⟨[x], [y], (L.frz bs).heap, .cons ⟨b, sz, 0, 0, _, x, n, ag, h, hb, rfl, rfl, hx, hat, hT⟩ .nil, frz_le bs h0, .cons (.imm hi) .nil, hc, hm, hp, rfl⟩
namespace H_c_DPoint
theorem zSm {p q : Prop} (k : q) (e : p = q := by simp only [e1, e2, e3, e4, p1, p2, p3, q1, q2, q3, l1, t0, t1, r1, r2, r3, r4, Nat.zero_add, Nat.reduceMul, Nat.reduceAdd, b1, b2, b3, b4, b5, b6, i1, i2, i3, i4, i5, i6, Nat.reduceBEq, l1, List.set_cons_zero, List.set_cons_succ, Nat.reduceEqDiff, reduceIte, if_true, if_false, ptL_kill, poL_kill, kills_map poE, kills_map ratE, ratL_kill, spL_kill, LV.kill, kills, dice_kill]; exact rfl) : p := e.mpr k
end H_c_DPoint
open H_c_DPoint in
theorem c_DPoint (l : List Int) (k : Nat) (hl : l.length ≤ 500) (hk : k ≤ 500) : CallOKM Tryz.prog 17 ⟨2, [diceL l k], true⟩ [.eptr 0 2 0 0] (ptL (d3V l k)) ⟨2, [diceL l (d3K l k)], true⟩ := by
  have k1 := nbK_le (l := l) hl hk
  have k2 := nbK_le (l := l) hl k1
  refine fnM Tryz.func17 ?_
  refine zg8 ?_
  refine st_callMp 0 rfl rfl rfl (dice_pure l _) (.cons .ptr .nil) .ptr (c_number l k (by omega) (by omega)) rfl (dice_pure l _) (ratE.pure _) ?_
  refine zg1 ?_
  refine st_callMp 0 rfl rfl rfl (dice_pure l _) (.cons .ptr .nil) .ptr (c_number l (nbV l k).2 (by omega) (by omega)) rfl (dice_pure l _) (ratE.pure _) ?_
  refine zg1 ?_
  refine st_callMp 0 rfl rfl rfl (dice_pure l _) (.cons .ptr .nil) .ptr (c_number l (nbV l (nbV l k).2).2 (by omega) (by omega)) rfl (dice_pure l _) (ratE.pure _) ?_
  refine zg5 ?_
  exact retMC rfl rfl cs (at_all cs rfl) T31 (.pure pu) rfl rfl (dice_pure l _)
namespace H_c_Dpole
theorem zSm {p q : Prop} (k : q) (e : p = q := by simp only [e1, e2, e3, e4, p1, p2, p3, q1, q2, q3, l1, t0, t1, r1, r2, r3, r4, Nat.zero_add, Nat.reduceMul, Nat.reduceAdd, b1, b2, b3, b4, b5, b6, i1, i2, i3, i4, i5, i6, Nat.reduceBEq, l1, List.set_cons_zero, List.set_cons_succ, Nat.reduceEqDiff, reduceIte, if_true, if_false, ptL_kill, poL_kill, kills_map poE, kills_map ratE, ratL_kill, spL_kill, LV.kill, kills, dice_kill]; exact rfl) : p := e.mpr k
end H_c_Dpole
open H_c_Dpole in
theorem c_Dpole (l : List Int) (k : Nat) (hl : l.length ≤ 500) (hk : k ≤ 500) : CallOKM Tryz.prog 102 ⟨2, [diceL l k], true⟩ [.eptr 0 2 0 0, bL false] (poL (dpV l k)) ⟨2, [diceL l (dpK l k)], true⟩ := by
  have k1 := d3K_le (l := l) hl hk
  have hb := nxV_lt (l := l) (k := d3K l k) (n := 3) (by decide)
  have hd := dw_in l (d3K l k)
  refine fnM Tryz.func102 ?_
  refine zg8 ?_
  refine st_callMp 0 rfl rfl rfl (dice_pure l _) (.cons .ptr .nil) .ptr (c_DPoint l k (by omega) (by omega)) rfl (dice_pure l _) (ptE.pure _) ?_
  refine zg10 ?_
  refine wl_if rfl (fun h8r h8 => ?_) (fun h8r h8 => ?_)
  · first | exact h8.elim | cases h8r
  · refine zg3 ?_
    refine wl_regA ?_
    refine any_2 0 1 _ _ (by decide +kernel) rfl rfl ?_ ?_
    · refine zg1 ?_
      refine st_nil ?_
      refine any_1 1 _ (by decide +kernel) rfl ?_
      refine zg1 ?_
      refine st_nil ?_
      refine any_1 2 _ (by decide +kernel) rfl ?_
      refine st_callMp 0 rfl rfl rfl (dice_pure l _) (.cons .ptr (.cons (.imm (.pure rfl)) .nil)) .ptr (c_Next l (d3K l k) 3 (by omega) (by omega) (by omega) (by omega)) rfl (dice_pure l _) rfl ?_
      refine st_nil ?_
      refine any_1 3 _ (by decide +kernel) rfl ?_
      refine st_pure rfl (.bin rfl rfl (rem64 (by decide))) ?_
      refine st_nil ?_
      refine any_1 4 _ (by decide +kernel) rfl ?_
      refine st_pure rfl (.bin rfl rfl (add64 (by omega) (by omega))) ?_
      refine st_nil ?_
      refine any_1 5 _ (by decide +kernel) rfl ?_
      refine cp am1 (c_FInt (1 + (nxV l (d3K l k) 3).tmod 3) (by omega) (by omega)) ?_
      refine st_nil ?_
      refine any_1 6 _ (by decide +kernel) rfl ?_
      refine s0bd (bdPo rfl rfl) ?_
      refine st_nil ?_
      refine any_1 7 _ (by decide +kernel) rfl ?_
      refine zg1 ?_
      refine st_nil ?_
      refine any_0 (by decide +kernel) ?_
      refine zg2 ?_
      exact retMC rfl rfl cs (at_all cs rfl) T100 (.pure pu) rfl rfl (dice_pure l _)
    · refine zg1 ?_
      refine st_nil ?_
      refine any_2 0 2 _ _ (by decide +kernel) rfl rfl ?_ ?_
      · refine zg1 ?_
        refine st_nil ?_
        refine any_1 2 _ (by decide +kernel) rfl ?_
        refine st_callMp 0 rfl rfl rfl (dice_pure l _) (.cons .ptr (.cons (.imm (.pure rfl)) .nil)) .ptr (c_Next l (d3K l k) 3 (by omega) (by omega) (by omega) (by omega)) rfl (dice_pure l _) rfl ?_
        refine st_nil ?_
        refine any_1 3 _ (by decide +kernel) rfl ?_
        refine st_pure rfl (.bin rfl rfl (rem64 (by decide))) ?_
        refine st_nil ?_
        refine any_1 4 _ (by decide +kernel) rfl ?_
        refine st_pure rfl (.bin rfl rfl (add64 (by omega) (by omega))) ?_
        refine st_nil ?_
        refine any_1 5 _ (by decide +kernel) rfl ?_
        refine cp am1 (c_FInt (1 + (nxV l (d3K l k) 3).tmod 3) (by omega) (by omega)) ?_
        refine st_nil ?_
        refine any_1 6 _ (by decide +kernel) rfl ?_
        refine s0bd (bdPo rfl rfl) ?_
        refine st_nil ?_
        refine any_1 7 _ (by decide +kernel) rfl ?_
        refine zg1 ?_
        refine st_nil ?_
        refine any_0 (by decide +kernel) ?_
        refine zg2 ?_
        exact retMC rfl rfl cs (at_all cs rfl) T100 (.pure pu) rfl rfl (dice_pure l _)
      · refine st_callMp 0 rfl rfl rfl (dice_pure l _) (.cons .ptr (.cons (.imm (.pure rfl)) .nil)) .ptr (c_Next l (d3K l k) 3 (by omega) (by omega) (by omega) (by omega)) rfl (dice_pure l _) rfl ?_
        refine st_nil ?_
        refine any_2 0 3 _ _ (by decide +kernel) rfl rfl ?_ ?_
        · refine zg1 ?_
          refine st_nil ?_
          refine any_1 3 _ (by decide +kernel) rfl ?_
          refine st_pure rfl (.bin rfl rfl (rem64 (by decide))) ?_
          refine st_nil ?_
          refine any_1 4 _ (by decide +kernel) rfl ?_
          refine st_pure rfl (.bin rfl rfl (add64 (by omega) (by omega))) ?_
          refine st_nil ?_
          refine any_1 5 _ (by decide +kernel) rfl ?_
          refine cp am1 (c_FInt (1 + (nxV l (d3K l k) 3).tmod 3) (by omega) (by omega)) ?_
          refine st_nil ?_
          refine any_1 6 _ (by decide +kernel) rfl ?_
          refine s0bd (bdPo rfl rfl) ?_
          refine st_nil ?_
          refine any_1 7 _ (by decide +kernel) rfl ?_
          refine zg1 ?_
          refine st_nil ?_
          refine any_0 (by decide +kernel) ?_
          refine zg2 ?_
          exact retMC rfl rfl cs (at_all cs rfl) T100 (.pure pu) rfl rfl (dice_pure l _)
        · refine st_pure rfl (.bin rfl rfl (rem64 (by decide))) ?_
          refine st_nil ?_
          refine any_2 0 4 _ _ (by decide +kernel) rfl rfl ?_ ?_
          · refine zg1 ?_
            refine st_nil ?_
            refine any_1 4 _ (by decide +kernel) rfl ?_
            refine st_pure rfl (.bin rfl rfl (add64 (by omega) (by omega))) ?_
            refine st_nil ?_
            refine any_1 5 _ (by decide +kernel) rfl ?_
            refine cp am1 (c_FInt (1 + (nxV l (d3K l k) 3).tmod 3) (by omega) (by omega)) ?_
            refine st_nil ?_
            refine any_1 6 _ (by decide +kernel) rfl ?_
            refine s0bd (bdPo rfl rfl) ?_
            refine st_nil ?_
            refine any_1 7 _ (by decide +kernel) rfl ?_
            refine zg1 ?_
            refine st_nil ?_
            refine any_0 (by decide +kernel) ?_
            refine zg2 ?_
            exact retMC rfl rfl cs (at_all cs rfl) T100 (.pure pu) rfl rfl (dice_pure l _)
          · refine st_pure rfl (.bin rfl rfl (add64 (by omega) (by omega))) ?_
            refine st_nil ?_
            refine any_2 0 5 _ _ (by decide +kernel) rfl rfl ?_ ?_
            · refine zg1 ?_
              refine st_nil ?_
              refine any_1 5 _ (by decide +kernel) rfl ?_
              refine cp am1 (c_FInt (1 + (nxV l (d3K l k) 3).tmod 3) (by omega) (by omega)) ?_
              refine st_nil ?_
              refine any_1 6 _ (by decide +kernel) rfl ?_
              refine s0bd (bdPo rfl rfl) ?_
              refine st_nil ?_
              refine any_1 7 _ (by decide +kernel) rfl ?_
              refine zg1 ?_
              refine st_nil ?_
              refine any_0 (by decide +kernel) ?_
              refine zg2 ?_
              exact retMC rfl rfl cs (at_all cs rfl) T100 (.pure pu) rfl rfl (dice_pure l _)
            · refine cp am1 (c_FInt (1 + (nxV l (d3K l k) 3).tmod 3) (by omega) (by omega)) ?_
              refine st_nil ?_
              refine any_1 0 _ (by decide +kernel) rfl ?_
              refine zg1 ?_
              refine st_nil ?_
              refine any_1 6 _ (by decide +kernel) rfl ?_
              refine s0bd (bdPo rfl rfl) ?_
              refine st_nil ?_
              refine any_1 7 _ (by decide +kernel) rfl ?_
              refine zg1 ?_
              refine st_nil ?_
              refine any_0 (by decide +kernel) ?_
              refine zg2 ?_
              exact retMC rfl rfl cs (at_all cs rfl) T100 (.pure pu) rfl rfl (dice_pure l _)
namespace H_c_DKnots0
theorem zSm {p q : Prop} (k : q) (e : p = q := by simp only [e1, e2, e3, e4, p1, p2, p3, q1, q2, q3, l1, t0, t1, r1, r2, r3, r4, Nat.zero_add, Nat.reduceMul, Nat.reduceAdd, b1, b2, b3, b4, b5, b6, i1, i2, i3, i4, i5, i6, Nat.reduceBEq, l1, etkA, etkB, ers, ers2, dfq, List.replicate_zero, Nat.add_zero, take_map_len, map_snoc, len_snoc, List.length_cons, List.length_nil, List.nil_append, List.length_append, List.length_replicate, List.set_cons_zero, List.set_cons_succ, Nat.reduceEqDiff, reduceIte, if_true, if_false, ptL_kill, poL_kill, kills_map poE, kills_map ratE, ratL_kill, spL_kill, LV.kill, kills, dice_kill]; exact rfl) : p := e.mpr k
end H_c_DKnots0
open H_c_DKnots0 in
theorem c_DKnots0 (l : List Int) (k : Nat) (hl : l.length ≤ 500) (d : Nat) (hd : d ≤ 6) (hk : k ≤ 500) : CallOKM Tryz.prog 101 ⟨2, [diceL l k], true⟩ [.eptr 0 2 0 0, nI64 d, iL 0] (.list 3 ((kn0 d (dtV l k)).map ratL)) ⟨2, [diceL l (nxK l (nxK l k))], true⟩ := by
  have k1 := nxK_le (l := l) hl hk
  have hb := nxV_lt (l := l) (k := k) (n := 4) (by decide)
  have hn1 := nxV1 l (nxK l k)
  obtain ⟨ht1, ht2⟩ := dt_rl l k
  have h1r : rl 1 = 1 := rfl
  refine fnM Tryz.func101 ?_
  have etkA : True := trivial
  have etkB : True := trivial
  have ers : True := trivial
  have ers2 : True := trivial
  refine zg8 ?_
  refine st_callMp 0 rfl rfl rfl (dice_pure l _) (.cons .ptr (.cons (.imm (.pure rfl)) .nil)) .ptr (c_Next l k 4 (by omega) (by omega) (by omega) (by omega)) rfl (dice_pure l _) rfl ?_
  refine st_pure rfl (.bin rfl rfl (sub64 (by omega) (by omega))) ?_
  refine cp am1 (c_FInt (nxV l k 4 - 2) (by omega) (by omega)) ?_
  refine zg16 ?_
  refine wl_weak (Weak.own (t := 8) 24 3 rfl rfl) ?_
  refine lp1 (fun (i : Nat) L => (((((((St.mk L.slot (hp [(0, ⟨2, [diceL l (nxK l k)], true⟩), (7, ⟨3, [ratL (dtV l k)], true⟩), (24, ⟨3, (List.replicate i (dtV l k)).map ratL, true⟩)])).put (some 0) (.eptr 0 2 0 0)).put (some 2) (iL 0)).put (some 1) (nI64 d)).put (some 7) (.eptr 7 3 0 0)).put (some 8) (.ref 24 3 0 i)).put (some 9) (nI64 i))) (fun i => i ≤ d + 1) (fun i => d + 1 - i) 0 (Nat.zero_le _) ?_
  rintro i L1 hi
  refine zg8 ?_
  refine wl_if rfl (fun h18r h18 => ?_) (fun h18r h18 => ?_)
  · have hi2 : i ≤ d := by omega
    have ers := rep_snoc i (dtV l k)
    have etkA : ((List.replicate i (dtV l k)).map ratL).take i = (List.replicate i (dtV l k)).map ratL := List.take_of_length_le (by simp)
    refine zg8 ?_
    refine st_store rfl (.appX (d := 24) (news := [ratL ((dtV l k))]) rfl rfl rfl rfl (by simp [knL_len]) (.inl rfl) (by decide) Tryz.underlying33 Tryz.underlying33 Z29a T29 rfl B29 (.inl ⟨23, 0, _, rfl, by decide, rfl, rfl, by simp, rfl, by simp [pures, ratE.pure]⟩) (by simp; omega) (by simp; omega) (by decide)) ?_
    refine zg4 ?_
    refine wl_regW (Weak.kill _ 23) ?_
    refine zg1 ?_
    refine st_pure rfl (.bin rfl rfl (add1N (by omega))) ?_
    refine zg3 ?_
    exact nx1 (i + 1) (by omega)
  · obtain rfl : i = d + 1 := by omega
    refine zg10 ?_
    refine st_pure rfl (.bin rfl rfl (add64 (by omega) (by omega))) ?_
    refine st_callMp 0 rfl rfl rfl (dice_pure l _) (.cons .ptr (.cons (.imm (.pure rfl)) .nil)) .ptr (c_Next l (nxK l k) 1 (by omega) (by omega) (by omega) (by omega)) rfl (dice_pure l _) rfl ?_
    refine zg4 ?_
    refine wl_unroll ?_
    refine zg7 ?_
    refine wl_condY (b := _) rfl (decide_eq_false (by omega)) ?_
    refine zg6 ?_
    refine wl_regD 3 (by decide +kernel) ?_
    refine zg1 ?_
    refine cp am1 (c_FInt 1 (by decide) (by decide)) ?_
    refine cp am2 (c_FRAdd (dtV l k) 1 (by omega)) ?_
    refine zg10 ?_
    refine lp1 (fun (i : Nat) L => (((((St.mk L.slot (hp [(0, ⟨2, [diceL l (nxK l (nxK l k))], true⟩), (7, ⟨3, [ratL ((dtV l k) + 1)], true⟩), (24, ⟨3, (knL d (dtV l k) i).map ratL, true⟩)])).put (some 1) (nI64 d)).put (some 7) (.eptr 7 3 0 0)).put (some 8) (.ref 24 3 0 (d + 1 + i))).put (some 11) (nI64 i))) (fun i => i ≤ d + 1) (fun i => d + 1 - i) 0 (Nat.zero_le _) ?_
    rintro i L3 hi
    refine zg8 ?_
    refine wl_if rfl (fun h72r h72 => ?_) (fun h72r h72 => ?_)
    · have hi2 : i ≤ d := by omega
      have ers2 : knL d (dtV l k) i ++ [(dtV l k) + 1] = knL d (dtV l k) (i + 1) := rfl
      have hkL := knL_len d (dtV l k) i
      have etkB : ((knL d (dtV l k) i).map ratL).take (d + 1 + i) = (knL d (dtV l k) i).map ratL := List.take_of_length_le (by simp; omega)
      refine zg8 ?_
      refine st_store rfl (.appX (d := 24) (news := [ratL ((dtV l k) + 1)]) rfl rfl rfl rfl (by simp [knL_len]) (.inl rfl) (by decide) Tryz.underlying33 Tryz.underlying33 Z29a T29 rfl B29 (.inl ⟨77, 0, _, rfl, by decide, rfl, rfl, by simp, rfl, by simp [pures, ratE.pure]⟩) (by simp; omega) (by simp; omega) (by decide)) ?_
      refine zg4 ?_
      refine wl_regW (Weak.kill _ 77) ?_
      refine zg1 ?_
      refine st_pure rfl (.bin rfl rfl (add1N (by omega))) ?_
      refine zg3 ?_
      exact nx1 (i + 1) (by omega)
    · obtain rfl : i = d + 1 := by omega
      refine zg12 ?_
      rw [← knL_end]
      exact retMf [24] rfl rfl (imm_refm ratE rfl rfl (knL_len _ _ _).symm) rfl rfl (dice_pure l _)
namespace H_c_DCurve
theorem zSm {p q : Prop} (k : q) (e : p = q := by simp only [e1, e2, e3, e4, p1, p2, p3, q1, q2, q3, l1, t0, t1, r1, r2, r3, r4, Nat.zero_add, Nat.reduceMul, Nat.reduceAdd, b1, b2, b3, b4, b5, b6, i1, i2, i3, i4, i5, i6, Nat.reduceBEq, l1, frz_nil, kn0_len, take_map_len, map_snoc, len_snoc, List.length_cons, List.length_nil, List.length_map, List.set_cons_zero, List.set_cons_succ, Nat.reduceEqDiff, reduceIte, if_true, if_false, ptL_kill, poL_kill, kills_map poE, kills_map ratE, ratL_kill, spL_kill, LV.kill, kills, dice_kill]; exact rfl) : p := e.mpr k
end H_c_DCurve
open H_c_DCurve in
theorem c_DCurve (l : List Int) (k : Nat) (hl : l.length ≤ 500) (n : Nat) (hn : 0 < n) (hn6 : n ≤ 6) (hk : k ≤ 500) : CallOKM Tryz.prog 18 ⟨2, [diceL l k], true⟩ [.eptr 0 2 0 0, nI64 n, iL 0, bL false] (.agg [nI64 (cD l k n), .list 3 ((kn0 (cD l k n) (cT l k)).map ratL), .list 12 ((cP l k n).map poL)]) ⟨2, [diceL l (cK l k n)], true⟩ := by
  have k1 := nxK_le (l := l) hl hk
  have k2 := nxK_le (l := l) hl k1
  have k3 := nxK_le (l := l) hl k2
  obtain ⟨hd1, hd2, hd3⟩ := cD_in l k hn
  have hb := nxV_lt (l := l) (k := k) (n := (n : Int)) (by omega)
  have gD : 1 + nxV l k (n : Int) = (((cD l k n) : Nat) : Int) := hd3.symm
  have hA : binI .add .i64 1 (nxV l k (n : Int)) = some (.int .i64 (((cD l k n) : Nat) : Int)) := by rw [← gD]; exact add64 (by omega) (by omega)
  have hkl := kn0_len (cD l k n) (cT l k)
  have hkp := pure_lst ratE 3 (kn0 (cD l k n) (cT l k))
  refine fnM Tryz.func18 ?_
  refine zg9 ?_
  refine st_callMp 0 rfl rfl rfl (dice_pure l _) (.cons .ptr (.cons (.imm (.pure rfl)) .nil)) .ptr (c_Next l k n (by omega) (by omega) (by omega) (by omega)) rfl (dice_pure l _) rfl ?_
  refine st_pure rfl (.bin rfl rfl (hA)) ?_
  refine zg11 ?_
  refine st_callMp 0 rfl rfl rfl (dice_pure l _) (.cons .ptr (.cons (.imm (.pure rfl)) (.cons (.imm (.pure rfl)) .nil))) .ptr (c_DKnots0 l (nxK l k) (by omega) (cD l k n) (by omega) (by omega)) rfl (dice_pure l _) hkp ?_
  refine zg11 ?_
  refine wl_weak ((Weak.cell 9 rfl (fun Z μ w cs h => rep_net 39 12 _ _ Z μ w cs h)).trans (Weak.newB _ 39 12 rfl)) ?_
  refine lp3 (fun (c j : Nat) (o : List PoR) L => ((((((St.mk L.slot (hp [(0, ⟨2, [diceL l j], true⟩), (8, ⟨3, [.agg [.v (.int .i64 0), .v (.slice none 0 0), .v (.slice none 0 0)]], true⟩), (9, ⟨3, [.agg [nI64 (cD l k n), .list 3 ((kn0 (cD l k n) (cT l k)).map ratL), .ref 39 12 0 o.length]], true⟩), (39, ⟨12, o.map poL, true⟩)])).put (some 0) (.eptr 0 2 0 0)).put (some 3) (bL false)).put (some 8) (.eptr 8 3 0 0)).put (some 9) (.eptr 9 3 0 0)).put (some 10) (nI64 o.length))) (fun c j o => j ≤ 500 ∧ o.length + c = (cD l k n) + 1 ∧ o ++ dqV l j c = cP l k n ∧ dqK l j c = cK l k n) (fun c j o => c) ((cD l k n) + 1) (nxK l (nxK l (nxK l k))) ([]) ⟨k3, by simp, rfl, rfl⟩ ?_
  rintro c j o L1 ⟨hj, ho, hV, hK⟩
  refine zg9 ?_
  refine st_pure rfl (.bin rfl rfl (sub64 (by omega) (by omega))) ?_
  refine st_pure rfl (.bin rfl rfl (sub64 (by omega) (by omega))) ?_
  refine zg3 ?_
  refine wl_if rfl (fun h30r h30 => ?_) (fun h30r h30 => ?_)
  · obtain ⟨e, rfl⟩ : ∃ e, c = e + 1 := ⟨c - 1, by omega⟩
    refine zg4 ?_
    refine wl_cut (fun L => ∃  (L1 : St), (True) ∧ L = ((((((St.mk L1.slot (hp [(0, ⟨2, [diceL l (dpK l j)], true⟩), (8, ⟨3, [.agg [.v (.int .i64 0), .v (.slice none 0 0), .v (.slice none 0 0)]], true⟩), (9, ⟨3, [.agg [nI64 (cD l k n), .list 3 ((kn0 (cD l k n) (cT l k)).map ratL), .ref 39 12 0 (o.length + 1)]], true⟩), (38, ⟨12, [dpV l j].map poL, true⟩), (39, ⟨12, (o ++ [dpV l j]).map poL, true⟩)])).put (some 0) (.eptr 0 2 0 0)).put (some 3) (bL false)).put (some 8) (.eptr 8 3 0 0)).put (some 9) (.eptr 9 3 0 0)).put (some 10) (nI64 o.length))) ?_ ?_
    · refine wl_regA ?_
      refine any_3 0 2 3 _ _ _ (by decide +kernel) rfl rfl rfl ?_ ?_ ?_
      · refine zg1 ?_
        refine st_nil ?_
        refine any_3 1 2 3 _ _ _ (by decide +kernel) rfl rfl rfl ?_ ?_ ?_
        · refine zg1 ?_
          refine st_nil ?_
          refine any_2 2 3 _ _ (by decide +kernel) rfl rfl ?_ ?_
          · refine zg1 ?_
            refine st_nil ?_
            refine any_1 3 _ (by decide +kernel) rfl ?_
            refine zg1 ?_
            refine st_nil ?_
            refine any_1 4 _ (by decide +kernel) rfl ?_
            refine st_callMp 0 rfl rfl rfl (dice_pure l _) (.cons .ptr (.cons (.imm (.pure rfl)) .nil)) .ptr (c_Dpole l j (by omega) (by omega)) rfl (dice_pure l _) (poE.pure _) ?_
            refine st_nil ?_
            refine any_1 5 _ (by decide +kernel) rfl ?_
            refine zg1 ?_
            refine st_nil ?_
            refine any_1 6 _ (by decide +kernel) rfl ?_
            refine st_store rfl (.appX (d := 39) (news := [poL (dpV l j)]) rfl rfl rfl rfl (by simp) (.inl rfl) (by decide) Tryz.underlying34 Tryz.underlying34 Z100 T100 cs B100 (.inl ⟨38, 0, _, rfl, by decide, rfl, rfl, by simp, rfl, by simp [pures, poE.pure]⟩) (by simp; omega) (by simp; omega) (by decide)) ?_
            refine st_nil ?_
            refine any_1 7 _ (by decide +kernel) rfl ?_
            refine zg1 ?_
            refine st_nil ?_
            refine any_1 8 _ (by decide +kernel) rfl ?_
            refine zg1 ?_
            refine st_nil ?_
            refine any_0 (by decide +kernel) ?_
            refine zg1 ?_
            exact ⟨_, trivial, ((put_id' (put_id' (put_id' (put_id' (put_id' (mk_id' cl) cl) cl) cl) cl) cl)).symm⟩
          · refine zg1 ?_
            refine st_nil ?_
            refine any_1 2 _ (by decide +kernel) rfl ?_
            refine zg1 ?_
            refine st_nil ?_
            refine any_1 4 _ (by decide +kernel) rfl ?_
            refine st_callMp 0 rfl rfl rfl (dice_pure l _) (.cons .ptr (.cons (.imm (.pure rfl)) .nil)) .ptr (c_Dpole l j (by omega) (by omega)) rfl (dice_pure l _) (poE.pure _) ?_
            refine st_nil ?_
            refine any_1 5 _ (by decide +kernel) rfl ?_
            refine zg1 ?_
            refine st_nil ?_
            refine any_1 6 _ (by decide +kernel) rfl ?_
            refine st_store rfl (.appX (d := 39) (news := [poL (dpV l j)]) rfl rfl rfl rfl (by simp) (.inl rfl) (by decide) Tryz.underlying34 Tryz.underlying34 Z100 T100 cs B100 (.inl ⟨38, 0, _, rfl, by decide, rfl, rfl, by simp, rfl, by simp [pures, poE.pure]⟩) (by simp; omega) (by simp; omega) (by decide)) ?_
            refine st_nil ?_
            refine any_1 7 _ (by decide +kernel) rfl ?_
            refine zg1 ?_
            refine st_nil ?_
            refine any_1 8 _ (by decide +kernel) rfl ?_
            refine zg1 ?_
            refine st_nil ?_
            refine any_0 (by decide +kernel) ?_
            refine zg1 ?_
            exact ⟨_, trivial, ((put_id' (put_id' (put_id' (put_id' (put_id' (mk_id' cl) cl) cl) cl) cl) cl)).symm⟩
        · refine zg1 ?_
          refine st_nil ?_
          refine any_2 1 3 _ _ (by decide +kernel) rfl rfl ?_ ?_
          · refine zg1 ?_
            refine st_nil ?_
            refine any_1 3 _ (by decide +kernel) rfl ?_
            refine zg1 ?_
            refine st_nil ?_
            refine any_1 4 _ (by decide +kernel) rfl ?_
            refine st_callMp 0 rfl rfl rfl (dice_pure l _) (.cons .ptr (.cons (.imm (.pure rfl)) .nil)) .ptr (c_Dpole l j (by omega) (by omega)) rfl (dice_pure l _) (poE.pure _) ?_
            refine st_nil ?_
            refine any_1 5 _ (by decide +kernel) rfl ?_
            refine zg1 ?_
            refine st_nil ?_
            refine any_1 6 _ (by decide +kernel) rfl ?_
            refine st_store rfl (.appX (d := 39) (news := [poL (dpV l j)]) rfl rfl rfl rfl (by simp) (.inl rfl) (by decide) Tryz.underlying34 Tryz.underlying34 Z100 T100 cs B100 (.inl ⟨38, 0, _, rfl, by decide, rfl, rfl, by simp, rfl, by simp [pures, poE.pure]⟩) (by simp; omega) (by simp; omega) (by decide)) ?_
            refine st_nil ?_
            refine any_1 7 _ (by decide +kernel) rfl ?_
            refine zg1 ?_
            refine st_nil ?_
            refine any_1 8 _ (by decide +kernel) rfl ?_
            refine zg1 ?_
            refine st_nil ?_
            refine any_0 (by decide +kernel) ?_
            refine zg1 ?_
            exact ⟨_, trivial, ((put_id' (put_id' (put_id' (put_id' (put_id' (mk_id' cl) cl) cl) cl) cl) cl)).symm⟩
          · refine zg1 ?_
            refine st_nil ?_
            refine any_2 1 4 _ _ (by decide +kernel) rfl rfl ?_ ?_
            · refine zg1 ?_
              refine st_nil ?_
              refine any_1 4 _ (by decide +kernel) rfl ?_
              refine st_callMp 0 rfl rfl rfl (dice_pure l _) (.cons .ptr (.cons (.imm (.pure rfl)) .nil)) .ptr (c_Dpole l j (by omega) (by omega)) rfl (dice_pure l _) (poE.pure _) ?_
              refine st_nil ?_
              refine any_1 5 _ (by decide +kernel) rfl ?_
              refine zg1 ?_
              refine st_nil ?_
              refine any_1 6 _ (by decide +kernel) rfl ?_
              refine st_store rfl (.appX (d := 39) (news := [poL (dpV l j)]) rfl rfl rfl rfl (by simp) (.inl rfl) (by decide) Tryz.underlying34 Tryz.underlying34 Z100 T100 cs B100 (.inl ⟨38, 0, _, rfl, by decide, rfl, rfl, by simp, rfl, by simp [pures, poE.pure]⟩) (by simp; omega) (by simp; omega) (by decide)) ?_
              refine st_nil ?_
              refine any_1 7 _ (by decide +kernel) rfl ?_
              refine zg1 ?_
              refine st_nil ?_
              refine any_1 8 _ (by decide +kernel) rfl ?_
              refine zg1 ?_
              refine st_nil ?_
              refine any_0 (by decide +kernel) ?_
              refine zg1 ?_
              exact ⟨_, trivial, ((put_id' (put_id' (put_id' (put_id' (put_id' (mk_id' cl) cl) cl) cl) cl) cl)).symm⟩
            · refine st_callMp 0 rfl rfl rfl (dice_pure l _) (.cons .ptr (.cons (.imm (.pure rfl)) .nil)) .ptr (c_Dpole l j (by omega) (by omega)) rfl (dice_pure l _) (poE.pure _) ?_
              refine st_nil ?_
              refine any_2 1 5 _ _ (by decide +kernel) rfl rfl ?_ ?_
              · refine zg1 ?_
                refine st_nil ?_
                refine any_1 5 _ (by decide +kernel) rfl ?_
                refine zg1 ?_
                refine st_nil ?_
                refine any_1 6 _ (by decide +kernel) rfl ?_
                refine st_store rfl (.appX (d := 39) (news := [poL (dpV l j)]) rfl rfl rfl rfl (by simp) (.inl rfl) (by decide) Tryz.underlying34 Tryz.underlying34 Z100 T100 cs B100 (.inl ⟨38, 0, _, rfl, by decide, rfl, rfl, by simp, rfl, by simp [pures, poE.pure]⟩) (by simp; omega) (by simp; omega) (by decide)) ?_
                refine st_nil ?_
                refine any_1 7 _ (by decide +kernel) rfl ?_
                refine zg1 ?_
                refine st_nil ?_
                refine any_1 8 _ (by decide +kernel) rfl ?_
                refine zg1 ?_
                refine st_nil ?_
                refine any_0 (by decide +kernel) ?_
                refine zg1 ?_
                exact ⟨_, trivial, ((put_id' (put_id' (put_id' (put_id' (put_id' (mk_id' cl) cl) cl) cl) cl) cl)).symm⟩
              · refine zg1 ?_
                refine st_nil ?_
                refine any_1 1 _ (by decide +kernel) rfl ?_
                refine zg1 ?_
                refine st_nil ?_
                refine any_1 6 _ (by decide +kernel) rfl ?_
                refine st_store rfl (.appX (d := 39) (news := [poL (dpV l j)]) rfl rfl rfl rfl (by simp) (.inl rfl) (by decide) Tryz.underlying34 Tryz.underlying34 Z100 T100 cs B100 (.inl ⟨38, 0, _, rfl, by decide, rfl, rfl, by simp, rfl, by simp [pures, poE.pure]⟩) (by simp; omega) (by simp; omega) (by decide)) ?_
                refine st_nil ?_
                refine any_1 7 _ (by decide +kernel) rfl ?_
                refine zg1 ?_
                refine st_nil ?_
                refine any_1 8 _ (by decide +kernel) rfl ?_
                refine zg1 ?_
                refine st_nil ?_
                refine any_0 (by decide +kernel) ?_
                refine zg1 ?_
                exact ⟨_, trivial, ((put_id' (put_id' (put_id' (put_id' (put_id' (mk_id' cl) cl) cl) cl) cl) cl)).symm⟩
        · refine zg1 ?_
          refine st_nil ?_
          refine any_2 1 2 _ _ (by decide +kernel) rfl rfl ?_ ?_
          · refine zg1 ?_
            refine st_nil ?_
            refine any_1 2 _ (by decide +kernel) rfl ?_
            refine zg1 ?_
            refine st_nil ?_
            refine any_1 4 _ (by decide +kernel) rfl ?_
            refine st_callMp 0 rfl rfl rfl (dice_pure l _) (.cons .ptr (.cons (.imm (.pure rfl)) .nil)) .ptr (c_Dpole l j (by omega) (by omega)) rfl (dice_pure l _) (poE.pure _) ?_
            refine st_nil ?_
            refine any_1 5 _ (by decide +kernel) rfl ?_
            refine zg1 ?_
            refine st_nil ?_
            refine any_1 6 _ (by decide +kernel) rfl ?_
            refine st_store rfl (.appX (d := 39) (news := [poL (dpV l j)]) rfl rfl rfl rfl (by simp) (.inl rfl) (by decide) Tryz.underlying34 Tryz.underlying34 Z100 T100 cs B100 (.inl ⟨38, 0, _, rfl, by decide, rfl, rfl, by simp, rfl, by simp [pures, poE.pure]⟩) (by simp; omega) (by simp; omega) (by decide)) ?_
            refine st_nil ?_
            refine any_1 7 _ (by decide +kernel) rfl ?_
            refine zg1 ?_
            refine st_nil ?_
            refine any_1 8 _ (by decide +kernel) rfl ?_
            refine zg1 ?_
            refine st_nil ?_
            refine any_0 (by decide +kernel) ?_
            refine zg1 ?_
            exact ⟨_, trivial, ((put_id' (put_id' (put_id' (put_id' (put_id' (mk_id' cl) cl) cl) cl) cl) cl)).symm⟩
          · refine zg1 ?_
            refine st_nil ?_
            refine any_2 1 4 _ _ (by decide +kernel) rfl rfl ?_ ?_
            · refine zg1 ?_
              refine st_nil ?_
              refine any_1 4 _ (by decide +kernel) rfl ?_
              refine st_callMp 0 rfl rfl rfl (dice_pure l _) (.cons .ptr (.cons (.imm (.pure rfl)) .nil)) .ptr (c_Dpole l j (by omega) (by omega)) rfl (dice_pure l _) (poE.pure _) ?_
              refine st_nil ?_
              refine any_1 5 _ (by decide +kernel) rfl ?_
              refine zg1 ?_
              refine st_nil ?_
              refine any_1 6 _ (by decide +kernel) rfl ?_
              refine st_store rfl (.appX (d := 39) (news := [poL (dpV l j)]) rfl rfl rfl rfl (by simp) (.inl rfl) (by decide) Tryz.underlying34 Tryz.underlying34 Z100 T100 cs B100 (.inl ⟨38, 0, _, rfl, by decide, rfl, rfl, by simp, rfl, by simp [pures, poE.pure]⟩) (by simp; omega) (by simp; omega) (by decide)) ?_
              refine st_nil ?_
              refine any_1 7 _ (by decide +kernel) rfl ?_
              refine zg1 ?_
              refine st_nil ?_
              refine any_1 8 _ (by decide +kernel) rfl ?_
              refine zg1 ?_
              refine st_nil ?_
              refine any_0 (by decide +kernel) ?_
              refine zg1 ?_
              exact ⟨_, trivial, ((put_id' (put_id' (put_id' (put_id' (put_id' (mk_id' cl) cl) cl) cl) cl) cl)).symm⟩
            · refine st_callMp 0 rfl rfl rfl (dice_pure l _) (.cons .ptr (.cons (.imm (.pure rfl)) .nil)) .ptr (c_Dpole l j (by omega) (by omega)) rfl (dice_pure l _) (poE.pure _) ?_
              refine st_nil ?_
              refine any_2 1 5 _ _ (by decide +kernel) rfl rfl ?_ ?_
              · refine zg1 ?_
                refine st_nil ?_
                refine any_1 5 _ (by decide +kernel) rfl ?_
                refine zg1 ?_
                refine st_nil ?_
                refine any_1 6 _ (by decide +kernel) rfl ?_
                refine st_store rfl (.appX (d := 39) (news := [poL (dpV l j)]) rfl rfl rfl rfl (by simp) (.inl rfl) (by decide) Tryz.underlying34 Tryz.underlying34 Z100 T100 cs B100 (.inl ⟨38, 0, _, rfl, by decide, rfl, rfl, by simp, rfl, by simp [pures, poE.pure]⟩) (by simp; omega) (by simp; omega) (by decide)) ?_
                refine st_nil ?_
                refine any_1 7 _ (by decide +kernel) rfl ?_
                refine zg1 ?_
                refine st_nil ?_
                refine any_1 8 _ (by decide +kernel) rfl ?_
                refine zg1 ?_
                refine st_nil ?_
                refine any_0 (by decide +kernel) ?_
                refine zg1 ?_
                exact ⟨_, trivial, ((put_id' (put_id' (put_id' (put_id' (put_id' (mk_id' cl) cl) cl) cl) cl) cl)).symm⟩
              · refine zg1 ?_
                refine st_nil ?_
                refine any_1 1 _ (by decide +kernel) rfl ?_
                refine zg1 ?_
                refine st_nil ?_
                refine any_1 6 _ (by decide +kernel) rfl ?_
                refine st_store rfl (.appX (d := 39) (news := [poL (dpV l j)]) rfl rfl rfl rfl (by simp) (.inl rfl) (by decide) Tryz.underlying34 Tryz.underlying34 Z100 T100 cs B100 (.inl ⟨38, 0, _, rfl, by decide, rfl, rfl, by simp, rfl, by simp [pures, poE.pure]⟩) (by simp; omega) (by simp; omega) (by decide)) ?_
                refine st_nil ?_
                refine any_1 7 _ (by decide +kernel) rfl ?_
                refine zg1 ?_
                refine st_nil ?_
                refine any_1 8 _ (by decide +kernel) rfl ?_
                refine zg1 ?_
                refine st_nil ?_
                refine any_0 (by decide +kernel) ?_
                refine zg1 ?_
                exact ⟨_, trivial, ((put_id' (put_id' (put_id' (put_id' (put_id' (mk_id' cl) cl) cl) cl) cl) cl)).symm⟩
      · refine zg1 ?_
        refine st_nil ?_
        refine any_2 0 3 _ _ (by decide +kernel) rfl rfl ?_ ?_
        · refine zg1 ?_
          refine st_nil ?_
          refine any_2 1 3 _ _ (by decide +kernel) rfl rfl ?_ ?_
          · refine zg1 ?_
            refine st_nil ?_
            refine any_1 3 _ (by decide +kernel) rfl ?_
            refine zg1 ?_
            refine st_nil ?_
            refine any_1 4 _ (by decide +kernel) rfl ?_
            refine st_callMp 0 rfl rfl rfl (dice_pure l _) (.cons .ptr (.cons (.imm (.pure rfl)) .nil)) .ptr (c_Dpole l j (by omega) (by omega)) rfl (dice_pure l _) (poE.pure _) ?_
            refine st_nil ?_
            refine any_1 5 _ (by decide +kernel) rfl ?_
            refine zg1 ?_
            refine st_nil ?_
            refine any_1 6 _ (by decide +kernel) rfl ?_
            refine st_store rfl (.appX (d := 39) (news := [poL (dpV l j)]) rfl rfl rfl rfl (by simp) (.inl rfl) (by decide) Tryz.underlying34 Tryz.underlying34 Z100 T100 cs B100 (.inl ⟨38, 0, _, rfl, by decide, rfl, rfl, by simp, rfl, by simp [pures, poE.pure]⟩) (by simp; omega) (by simp; omega) (by decide)) ?_
            refine st_nil ?_
            refine any_1 7 _ (by decide +kernel) rfl ?_
            refine zg1 ?_
            refine st_nil ?_
            refine any_1 8 _ (by decide +kernel) rfl ?_
            refine zg1 ?_
            refine st_nil ?_
            refine any_0 (by decide +kernel) ?_
            refine zg1 ?_
            exact ⟨_, trivial, ((put_id' (put_id' (put_id' (put_id' (put_id' (mk_id' cl) cl) cl) cl) cl) cl)).symm⟩
          · refine zg1 ?_
            refine st_nil ?_
            refine any_2 1 4 _ _ (by decide +kernel) rfl rfl ?_ ?_
            · refine zg1 ?_
              refine st_nil ?_
              refine any_1 4 _ (by decide +kernel) rfl ?_
              refine st_callMp 0 rfl rfl rfl (dice_pure l _) (.cons .ptr (.cons (.imm (.pure rfl)) .nil)) .ptr (c_Dpole l j (by omega) (by omega)) rfl (dice_pure l _) (poE.pure _) ?_
              refine st_nil ?_
              refine any_1 5 _ (by decide +kernel) rfl ?_
              refine zg1 ?_
              refine st_nil ?_
              refine any_1 6 _ (by decide +kernel) rfl ?_
              refine st_store rfl (.appX (d := 39) (news := [poL (dpV l j)]) rfl rfl rfl rfl (by simp) (.inl rfl) (by decide) Tryz.underlying34 Tryz.underlying34 Z100 T100 cs B100 (.inl ⟨38, 0, _, rfl, by decide, rfl, rfl, by simp, rfl, by simp [pures, poE.pure]⟩) (by simp; omega) (by simp; omega) (by decide)) ?_
              refine st_nil ?_
              refine any_1 7 _ (by decide +kernel) rfl ?_
              refine zg1 ?_
              refine st_nil ?_
              refine any_1 8 _ (by decide +kernel) rfl ?_
              refine zg1 ?_
              refine st_nil ?_
              refine any_0 (by decide +kernel) ?_
              refine zg1 ?_
              exact ⟨_, trivial, ((put_id' (put_id' (put_id' (put_id' (put_id' (mk_id' cl) cl) cl) cl) cl) cl)).symm⟩
            · refine st_callMp 0 rfl rfl rfl (dice_pure l _) (.cons .ptr (.cons (.imm (.pure rfl)) .nil)) .ptr (c_Dpole l j (by omega) (by omega)) rfl (dice_pure l _) (poE.pure _) ?_
              refine st_nil ?_
              refine any_2 1 5 _ _ (by decide +kernel) rfl rfl ?_ ?_
              · refine zg1 ?_
                refine st_nil ?_
                refine any_1 5 _ (by decide +kernel) rfl ?_
                refine zg1 ?_
                refine st_nil ?_
                refine any_1 6 _ (by decide +kernel) rfl ?_
                refine st_store rfl (.appX (d := 39) (news := [poL (dpV l j)]) rfl rfl rfl rfl (by simp) (.inl rfl) (by decide) Tryz.underlying34 Tryz.underlying34 Z100 T100 cs B100 (.inl ⟨38, 0, _, rfl, by decide, rfl, rfl, by simp, rfl, by simp [pures, poE.pure]⟩) (by simp; omega) (by simp; omega) (by decide)) ?_
                refine st_nil ?_
                refine any_1 7 _ (by decide +kernel) rfl ?_
                refine zg1 ?_
                refine st_nil ?_
                refine any_1 8 _ (by decide +kernel) rfl ?_
                refine zg1 ?_
                refine st_nil ?_
                refine any_0 (by decide +kernel) ?_
                refine zg1 ?_
                exact ⟨_, trivial, ((put_id' (put_id' (put_id' (put_id' (put_id' (mk_id' cl) cl) cl) cl) cl) cl)).symm⟩
              · refine zg1 ?_
                refine st_nil ?_
                refine any_1 1 _ (by decide +kernel) rfl ?_
                refine zg1 ?_
                refine st_nil ?_
                refine any_1 6 _ (by decide +kernel) rfl ?_
                refine st_store rfl (.appX (d := 39) (news := [poL (dpV l j)]) rfl rfl rfl rfl (by simp) (.inl rfl) (by decide) Tryz.underlying34 Tryz.underlying34 Z100 T100 cs B100 (.inl ⟨38, 0, _, rfl, by decide, rfl, rfl, by simp, rfl, by simp [pures, poE.pure]⟩) (by simp; omega) (by simp; omega) (by decide)) ?_
                refine st_nil ?_
                refine any_1 7 _ (by decide +kernel) rfl ?_
                refine zg1 ?_
                refine st_nil ?_
                refine any_1 8 _ (by decide +kernel) rfl ?_
                refine zg1 ?_
                refine st_nil ?_
                refine any_0 (by decide +kernel) ?_
                refine zg1 ?_
                exact ⟨_, trivial, ((put_id' (put_id' (put_id' (put_id' (put_id' (mk_id' cl) cl) cl) cl) cl) cl)).symm⟩
        · refine zg1 ?_
          refine st_nil ?_
          refine any_2 0 4 _ _ (by decide +kernel) rfl rfl ?_ ?_
          · refine zg1 ?_
            refine st_nil ?_
            refine any_2 1 4 _ _ (by decide +kernel) rfl rfl ?_ ?_
            · refine zg1 ?_
              refine st_nil ?_
              refine any_1 4 _ (by decide +kernel) rfl ?_
              refine st_callMp 0 rfl rfl rfl (dice_pure l _) (.cons .ptr (.cons (.imm (.pure rfl)) .nil)) .ptr (c_Dpole l j (by omega) (by omega)) rfl (dice_pure l _) (poE.pure _) ?_
              refine st_nil ?_
              refine any_1 5 _ (by decide +kernel) rfl ?_
              refine zg1 ?_
              refine st_nil ?_
              refine any_1 6 _ (by decide +kernel) rfl ?_
              refine st_store rfl (.appX (d := 39) (news := [poL (dpV l j)]) rfl rfl rfl rfl (by simp) (.inl rfl) (by decide) Tryz.underlying34 Tryz.underlying34 Z100 T100 cs B100 (.inl ⟨38, 0, _, rfl, by decide, rfl, rfl, by simp, rfl, by simp [pures, poE.pure]⟩) (by simp; omega) (by simp; omega) (by decide)) ?_
              refine st_nil ?_
              refine any_1 7 _ (by decide +kernel) rfl ?_
              refine zg1 ?_
              refine st_nil ?_
              refine any_1 8 _ (by decide +kernel) rfl ?_
              refine zg1 ?_
              refine st_nil ?_
              refine any_0 (by decide +kernel) ?_
              refine zg1 ?_
              exact ⟨_, trivial, ((put_id' (put_id' (put_id' (put_id' (put_id' (mk_id' cl) cl) cl) cl) cl) cl)).symm⟩
            · refine st_callMp 0 rfl rfl rfl (dice_pure l _) (.cons .ptr (.cons (.imm (.pure rfl)) .nil)) .ptr (c_Dpole l j (by omega) (by omega)) rfl (dice_pure l _) (poE.pure _) ?_
              refine st_nil ?_
              refine any_2 1 5 _ _ (by decide +kernel) rfl rfl ?_ ?_
              · refine zg1 ?_
                refine st_nil ?_
                refine any_1 5 _ (by decide +kernel) rfl ?_
                refine zg1 ?_
                refine st_nil ?_
                refine any_1 6 _ (by decide +kernel) rfl ?_
                refine st_store rfl (.appX (d := 39) (news := [poL (dpV l j)]) rfl rfl rfl rfl (by simp) (.inl rfl) (by decide) Tryz.underlying34 Tryz.underlying34 Z100 T100 cs B100 (.inl ⟨38, 0, _, rfl, by decide, rfl, rfl, by simp, rfl, by simp [pures, poE.pure]⟩) (by simp; omega) (by simp; omega) (by decide)) ?_
                refine st_nil ?_
                refine any_1 7 _ (by decide +kernel) rfl ?_
                refine zg1 ?_
                refine st_nil ?_
                refine any_1 8 _ (by decide +kernel) rfl ?_
                refine zg1 ?_
                refine st_nil ?_
                refine any_0 (by decide +kernel) ?_
                refine zg1 ?_
                exact ⟨_, trivial, ((put_id' (put_id' (put_id' (put_id' (put_id' (mk_id' cl) cl) cl) cl) cl) cl)).symm⟩
              · refine zg1 ?_
                refine st_nil ?_
                refine any_1 1 _ (by decide +kernel) rfl ?_
                refine zg1 ?_
                refine st_nil ?_
                refine any_1 6 _ (by decide +kernel) rfl ?_
                refine st_store rfl (.appX (d := 39) (news := [poL (dpV l j)]) rfl rfl rfl rfl (by simp) (.inl rfl) (by decide) Tryz.underlying34 Tryz.underlying34 Z100 T100 cs B100 (.inl ⟨38, 0, _, rfl, by decide, rfl, rfl, by simp, rfl, by simp [pures, poE.pure]⟩) (by simp; omega) (by simp; omega) (by decide)) ?_
                refine st_nil ?_
                refine any_1 7 _ (by decide +kernel) rfl ?_
                refine zg1 ?_
                refine st_nil ?_
                refine any_1 8 _ (by decide +kernel) rfl ?_
                refine zg1 ?_
                refine st_nil ?_
                refine any_0 (by decide +kernel) ?_
                refine zg1 ?_
                exact ⟨_, trivial, ((put_id' (put_id' (put_id' (put_id' (put_id' (mk_id' cl) cl) cl) cl) cl) cl)).symm⟩
          · refine st_callMp 0 rfl rfl rfl (dice_pure l _) (.cons .ptr (.cons (.imm (.pure rfl)) .nil)) .ptr (c_Dpole l j (by omega) (by omega)) rfl (dice_pure l _) (poE.pure _) ?_
            refine st_nil ?_
            refine any_2 0 5 _ _ (by decide +kernel) rfl rfl ?_ ?_
            · refine zg1 ?_
              refine st_nil ?_
              refine any_2 1 5 _ _ (by decide +kernel) rfl rfl ?_ ?_
              · refine zg1 ?_
                refine st_nil ?_
                refine any_1 5 _ (by decide +kernel) rfl ?_
                refine zg1 ?_
                refine st_nil ?_
                refine any_1 6 _ (by decide +kernel) rfl ?_
                refine st_store rfl (.appX (d := 39) (news := [poL (dpV l j)]) rfl rfl rfl rfl (by simp) (.inl rfl) (by decide) Tryz.underlying34 Tryz.underlying34 Z100 T100 cs B100 (.inl ⟨38, 0, _, rfl, by decide, rfl, rfl, by simp, rfl, by simp [pures, poE.pure]⟩) (by simp; omega) (by simp; omega) (by decide)) ?_
                refine st_nil ?_
                refine any_1 7 _ (by decide +kernel) rfl ?_
                refine zg1 ?_
                refine st_nil ?_
                refine any_1 8 _ (by decide +kernel) rfl ?_
                refine zg1 ?_
                refine st_nil ?_
                refine any_0 (by decide +kernel) ?_
                refine zg1 ?_
                exact ⟨_, trivial, ((put_id' (put_id' (put_id' (put_id' (put_id' (mk_id' cl) cl) cl) cl) cl) cl)).symm⟩
              · refine zg1 ?_
                refine st_nil ?_
                refine any_1 1 _ (by decide +kernel) rfl ?_
                refine zg1 ?_
                refine st_nil ?_
                refine any_1 6 _ (by decide +kernel) rfl ?_
                refine st_store rfl (.appX (d := 39) (news := [poL (dpV l j)]) rfl rfl rfl rfl (by simp) (.inl rfl) (by decide) Tryz.underlying34 Tryz.underlying34 Z100 T100 cs B100 (.inl ⟨38, 0, _, rfl, by decide, rfl, rfl, by simp, rfl, by simp [pures, poE.pure]⟩) (by simp; omega) (by simp; omega) (by decide)) ?_
                refine st_nil ?_
                refine any_1 7 _ (by decide +kernel) rfl ?_
                refine zg1 ?_
                refine st_nil ?_
                refine any_1 8 _ (by decide +kernel) rfl ?_
                refine zg1 ?_
                refine st_nil ?_
                refine any_0 (by decide +kernel) ?_
                refine zg1 ?_
                exact ⟨_, trivial, ((put_id' (put_id' (put_id' (put_id' (put_id' (mk_id' cl) cl) cl) cl) cl) cl)).symm⟩
            · refine zg1 ?_
              refine st_nil ?_
              refine any_1 0 _ (by decide +kernel) rfl ?_
              refine zg1 ?_
              refine st_nil ?_
              refine any_1 1 _ (by decide +kernel) rfl ?_
              refine zg1 ?_
              refine st_nil ?_
              refine any_1 6 _ (by decide +kernel) rfl ?_
              refine st_store rfl (.appX (d := 39) (news := [poL (dpV l j)]) rfl rfl rfl rfl (by simp) (.inl rfl) (by decide) Tryz.underlying34 Tryz.underlying34 Z100 T100 cs B100 (.inl ⟨38, 0, _, rfl, by decide, rfl, rfl, by simp, rfl, by simp [pures, poE.pure]⟩) (by simp; omega) (by simp; omega) (by decide)) ?_
              refine st_nil ?_
              refine any_1 7 _ (by decide +kernel) rfl ?_
              refine zg1 ?_
              refine st_nil ?_
              refine any_1 8 _ (by decide +kernel) rfl ?_
              refine zg1 ?_
              refine st_nil ?_
              refine any_0 (by decide +kernel) ?_
              refine zg1 ?_
              exact ⟨_, trivial, ((put_id' (put_id' (put_id' (put_id' (put_id' (mk_id' cl) cl) cl) cl) cl) cl)).symm⟩
      · refine zg1 ?_
        refine st_nil ?_
        refine any_2 0 2 _ _ (by decide +kernel) rfl rfl ?_ ?_
        · refine zg1 ?_
          refine st_nil ?_
          refine any_2 1 2 _ _ (by decide +kernel) rfl rfl ?_ ?_
          · refine zg1 ?_
            refine st_nil ?_
            refine any_1 2 _ (by decide +kernel) rfl ?_
            refine zg1 ?_
            refine st_nil ?_
            refine any_1 4 _ (by decide +kernel) rfl ?_
            refine st_callMp 0 rfl rfl rfl (dice_pure l _) (.cons .ptr (.cons (.imm (.pure rfl)) .nil)) .ptr (c_Dpole l j (by omega) (by omega)) rfl (dice_pure l _) (poE.pure _) ?_
            refine st_nil ?_
            refine any_1 5 _ (by decide +kernel) rfl ?_
            refine zg1 ?_
            refine st_nil ?_
            refine any_1 6 _ (by decide +kernel) rfl ?_
            refine st_store rfl (.appX (d := 39) (news := [poL (dpV l j)]) rfl rfl rfl rfl (by simp) (.inl rfl) (by decide) Tryz.underlying34 Tryz.underlying34 Z100 T100 cs B100 (.inl ⟨38, 0, _, rfl, by decide, rfl, rfl, by simp, rfl, by simp [pures, poE.pure]⟩) (by simp; omega) (by simp; omega) (by decide)) ?_
            refine st_nil ?_
            refine any_1 7 _ (by decide +kernel) rfl ?_
            refine zg1 ?_
            refine st_nil ?_
            refine any_1 8 _ (by decide +kernel) rfl ?_
            refine zg1 ?_
            refine st_nil ?_
            refine any_0 (by decide +kernel) ?_
            refine zg1 ?_
            exact ⟨_, trivial, ((put_id' (put_id' (put_id' (put_id' (put_id' (mk_id' cl) cl) cl) cl) cl) cl)).symm⟩
          · refine zg1 ?_
            refine st_nil ?_
            refine any_2 1 4 _ _ (by decide +kernel) rfl rfl ?_ ?_
            · refine zg1 ?_
              refine st_nil ?_
              refine any_1 4 _ (by decide +kernel) rfl ?_
              refine st_callMp 0 rfl rfl rfl (dice_pure l _) (.cons .ptr (.cons (.imm (.pure rfl)) .nil)) .ptr (c_Dpole l j (by omega) (by omega)) rfl (dice_pure l _) (poE.pure _) ?_
              refine st_nil ?_
              refine any_1 5 _ (by decide +kernel) rfl ?_
              refine zg1 ?_
              refine st_nil ?_
              refine any_1 6 _ (by decide +kernel) rfl ?_
              refine st_store rfl (.appX (d := 39) (news := [poL (dpV l j)]) rfl rfl rfl rfl (by simp) (.inl rfl) (by decide) Tryz.underlying34 Tryz.underlying34 Z100 T100 cs B100 (.inl ⟨38, 0, _, rfl, by decide, rfl, rfl, by simp, rfl, by simp [pures, poE.pure]⟩) (by simp; omega) (by simp; omega) (by decide)) ?_
              refine st_nil ?_
              refine any_1 7 _ (by decide +kernel) rfl ?_
              refine zg1 ?_
              refine st_nil ?_
              refine any_1 8 _ (by decide +kernel) rfl ?_
              refine zg1 ?_
              refine st_nil ?_
              refine any_0 (by decide +kernel) ?_
              refine zg1 ?_
              exact ⟨_, trivial, ((put_id' (put_id' (put_id' (put_id' (put_id' (mk_id' cl) cl) cl) cl) cl) cl)).symm⟩
            · refine st_callMp 0 rfl rfl rfl (dice_pure l _) (.cons .ptr (.cons (.imm (.pure rfl)) .nil)) .ptr (c_Dpole l j (by omega) (by omega)) rfl (dice_pure l _) (poE.pure _) ?_
              refine st_nil ?_
              refine any_2 1 5 _ _ (by decide +kernel) rfl rfl ?_ ?_
              · refine zg1 ?_
                refine st_nil ?_
                refine any_1 5 _ (by decide +kernel) rfl ?_
                refine zg1 ?_
                refine st_nil ?_
                refine any_1 6 _ (by decide +kernel) rfl ?_
                refine st_store rfl (.appX (d := 39) (news := [poL (dpV l j)]) rfl rfl rfl rfl (by simp) (.inl rfl) (by decide) Tryz.underlying34 Tryz.underlying34 Z100 T100 cs B100 (.inl ⟨38, 0, _, rfl, by decide, rfl, rfl, by simp, rfl, by simp [pures, poE.pure]⟩) (by simp; omega) (by simp; omega) (by decide)) ?_
                refine st_nil ?_
                refine any_1 7 _ (by decide +kernel) rfl ?_
                refine zg1 ?_
                refine st_nil ?_
                refine any_1 8 _ (by decide +kernel) rfl ?_
                refine zg1 ?_
                refine st_nil ?_
                refine any_0 (by decide +kernel) ?_
                refine zg1 ?_
                exact ⟨_, trivial, ((put_id' (put_id' (put_id' (put_id' (put_id' (mk_id' cl) cl) cl) cl) cl) cl)).symm⟩
              · refine zg1 ?_
                refine st_nil ?_
                refine any_1 1 _ (by decide +kernel) rfl ?_
                refine zg1 ?_
                refine st_nil ?_
                refine any_1 6 _ (by decide +kernel) rfl ?_
                refine st_store rfl (.appX (d := 39) (news := [poL (dpV l j)]) rfl rfl rfl rfl (by simp) (.inl rfl) (by decide) Tryz.underlying34 Tryz.underlying34 Z100 T100 cs B100 (.inl ⟨38, 0, _, rfl, by decide, rfl, rfl, by simp, rfl, by simp [pures, poE.pure]⟩) (by simp; omega) (by simp; omega) (by decide)) ?_
                refine st_nil ?_
                refine any_1 7 _ (by decide +kernel) rfl ?_
                refine zg1 ?_
                refine st_nil ?_
                refine any_1 8 _ (by decide +kernel) rfl ?_
                refine zg1 ?_
                refine st_nil ?_
                refine any_0 (by decide +kernel) ?_
                refine zg1 ?_
                exact ⟨_, trivial, ((put_id' (put_id' (put_id' (put_id' (put_id' (mk_id' cl) cl) cl) cl) cl) cl)).symm⟩
        · refine zg1 ?_
          refine st_nil ?_
          refine any_2 0 4 _ _ (by decide +kernel) rfl rfl ?_ ?_
          · refine zg1 ?_
            refine st_nil ?_
            refine any_2 1 4 _ _ (by decide +kernel) rfl rfl ?_ ?_
            · refine zg1 ?_
              refine st_nil ?_
              refine any_1 4 _ (by decide +kernel) rfl ?_
              refine st_callMp 0 rfl rfl rfl (dice_pure l _) (.cons .ptr (.cons (.imm (.pure rfl)) .nil)) .ptr (c_Dpole l j (by omega) (by omega)) rfl (dice_pure l _) (poE.pure _) ?_
              refine st_nil ?_
              refine any_1 5 _ (by decide +kernel) rfl ?_
              refine zg1 ?_
              refine st_nil ?_
              refine any_1 6 _ (by decide +kernel) rfl ?_
              refine st_store rfl (.appX (d := 39) (news := [poL (dpV l j)]) rfl rfl rfl rfl (by simp) (.inl rfl) (by decide) Tryz.underlying34 Tryz.underlying34 Z100 T100 cs B100 (.inl ⟨38, 0, _, rfl, by decide, rfl, rfl, by simp, rfl, by simp [pures, poE.pure]⟩) (by simp; omega) (by simp; omega) (by decide)) ?_
              refine st_nil ?_
              refine any_1 7 _ (by decide +kernel) rfl ?_
              refine zg1 ?_
              refine st_nil ?_
              refine any_1 8 _ (by decide +kernel) rfl ?_
              refine zg1 ?_
              refine st_nil ?_
              refine any_0 (by decide +kernel) ?_
              refine zg1 ?_
              exact ⟨_, trivial, ((put_id' (put_id' (put_id' (put_id' (put_id' (mk_id' cl) cl) cl) cl) cl) cl)).symm⟩
            · refine st_callMp 0 rfl rfl rfl (dice_pure l _) (.cons .ptr (.cons (.imm (.pure rfl)) .nil)) .ptr (c_Dpole l j (by omega) (by omega)) rfl (dice_pure l _) (poE.pure _) ?_
              refine st_nil ?_
              refine any_2 1 5 _ _ (by decide +kernel) rfl rfl ?_ ?_
              · refine zg1 ?_
                refine st_nil ?_
                refine any_1 5 _ (by decide +kernel) rfl ?_
                refine zg1 ?_
                refine st_nil ?_
                refine any_1 6 _ (by decide +kernel) rfl ?_
                refine st_store rfl (.appX (d := 39) (news := [poL (dpV l j)]) rfl rfl rfl rfl (by simp) (.inl rfl) (by decide) Tryz.underlying34 Tryz.underlying34 Z100 T100 cs B100 (.inl ⟨38, 0, _, rfl, by decide, rfl, rfl, by simp, rfl, by simp [pures, poE.pure]⟩) (by simp; omega) (by simp; omega) (by decide)) ?_
                refine st_nil ?_
                refine any_1 7 _ (by decide +kernel) rfl ?_
                refine zg1 ?_
                refine st_nil ?_
                refine any_1 8 _ (by decide +kernel) rfl ?_
                refine zg1 ?_
                refine st_nil ?_
                refine any_0 (by decide +kernel) ?_
                refine zg1 ?_
                exact ⟨_, trivial, ((put_id' (put_id' (put_id' (put_id' (put_id' (mk_id' cl) cl) cl) cl) cl) cl)).symm⟩
              · refine zg1 ?_
                refine st_nil ?_
                refine any_1 1 _ (by decide +kernel) rfl ?_
                refine zg1 ?_
                refine st_nil ?_
                refine any_1 6 _ (by decide +kernel) rfl ?_
                refine st_store rfl (.appX (d := 39) (news := [poL (dpV l j)]) rfl rfl rfl rfl (by simp) (.inl rfl) (by decide) Tryz.underlying34 Tryz.underlying34 Z100 T100 cs B100 (.inl ⟨38, 0, _, rfl, by decide, rfl, rfl, by simp, rfl, by simp [pures, poE.pure]⟩) (by simp; omega) (by simp; omega) (by decide)) ?_
                refine st_nil ?_
                refine any_1 7 _ (by decide +kernel) rfl ?_
                refine zg1 ?_
                refine st_nil ?_
                refine any_1 8 _ (by decide +kernel) rfl ?_
                refine zg1 ?_
                refine st_nil ?_
                refine any_0 (by decide +kernel) ?_
                refine zg1 ?_
                exact ⟨_, trivial, ((put_id' (put_id' (put_id' (put_id' (put_id' (mk_id' cl) cl) cl) cl) cl) cl)).symm⟩
          · refine st_callMp 0 rfl rfl rfl (dice_pure l _) (.cons .ptr (.cons (.imm (.pure rfl)) .nil)) .ptr (c_Dpole l j (by omega) (by omega)) rfl (dice_pure l _) (poE.pure _) ?_
            refine st_nil ?_
            refine any_2 0 5 _ _ (by decide +kernel) rfl rfl ?_ ?_
            · refine zg1 ?_
              refine st_nil ?_
              refine any_2 1 5 _ _ (by decide +kernel) rfl rfl ?_ ?_
              · refine zg1 ?_
                refine st_nil ?_
                refine any_1 5 _ (by decide +kernel) rfl ?_
                refine zg1 ?_
                refine st_nil ?_
                refine any_1 6 _ (by decide +kernel) rfl ?_
                refine st_store rfl (.appX (d := 39) (news := [poL (dpV l j)]) rfl rfl rfl rfl (by simp) (.inl rfl) (by decide) Tryz.underlying34 Tryz.underlying34 Z100 T100 cs B100 (.inl ⟨38, 0, _, rfl, by decide, rfl, rfl, by simp, rfl, by simp [pures, poE.pure]⟩) (by simp; omega) (by simp; omega) (by decide)) ?_
                refine st_nil ?_
                refine any_1 7 _ (by decide +kernel) rfl ?_
                refine zg1 ?_
                refine st_nil ?_
                refine any_1 8 _ (by decide +kernel) rfl ?_
                refine zg1 ?_
                refine st_nil ?_
                refine any_0 (by decide +kernel) ?_
                refine zg1 ?_
                exact ⟨_, trivial, ((put_id' (put_id' (put_id' (put_id' (put_id' (mk_id' cl) cl) cl) cl) cl) cl)).symm⟩
              · refine zg1 ?_
                refine st_nil ?_
                refine any_1 1 _ (by decide +kernel) rfl ?_
                refine zg1 ?_
                refine st_nil ?_
                refine any_1 6 _ (by decide +kernel) rfl ?_
                refine st_store rfl (.appX (d := 39) (news := [poL (dpV l j)]) rfl rfl rfl rfl (by simp) (.inl rfl) (by decide) Tryz.underlying34 Tryz.underlying34 Z100 T100 cs B100 (.inl ⟨38, 0, _, rfl, by decide, rfl, rfl, by simp, rfl, by simp [pures, poE.pure]⟩) (by simp; omega) (by simp; omega) (by decide)) ?_
                refine st_nil ?_
                refine any_1 7 _ (by decide +kernel) rfl ?_
                refine zg1 ?_
                refine st_nil ?_
                refine any_1 8 _ (by decide +kernel) rfl ?_
                refine zg1 ?_
                refine st_nil ?_
                refine any_0 (by decide +kernel) ?_
                refine zg1 ?_
                exact ⟨_, trivial, ((put_id' (put_id' (put_id' (put_id' (put_id' (mk_id' cl) cl) cl) cl) cl) cl)).symm⟩
            · refine zg1 ?_
              refine st_nil ?_
              refine any_1 0 _ (by decide +kernel) rfl ?_
              refine zg1 ?_
              refine st_nil ?_
              refine any_1 1 _ (by decide +kernel) rfl ?_
              refine zg1 ?_
              refine st_nil ?_
              refine any_1 6 _ (by decide +kernel) rfl ?_
              refine st_store rfl (.appX (d := 39) (news := [poL (dpV l j)]) rfl rfl rfl rfl (by simp) (.inl rfl) (by decide) Tryz.underlying34 Tryz.underlying34 Z100 T100 cs B100 (.inl ⟨38, 0, _, rfl, by decide, rfl, rfl, by simp, rfl, by simp [pures, poE.pure]⟩) (by simp; omega) (by simp; omega) (by decide)) ?_
              refine st_nil ?_
              refine any_1 7 _ (by decide +kernel) rfl ?_
              refine zg1 ?_
              refine st_nil ?_
              refine any_1 8 _ (by decide +kernel) rfl ?_
              refine zg1 ?_
              refine st_nil ?_
              refine any_0 (by decide +kernel) ?_
              refine zg1 ?_
              exact ⟨_, trivial, ((put_id' (put_id' (put_id' (put_id' (put_id' (mk_id' cl) cl) cl) cl) cl) cl)).symm⟩
    · rintro _ ⟨LR6, -, rfl⟩
      refine zg2 ?_
      refine wl_regW (Weak.kill _ 38) ?_
      refine zg1 ?_
      refine st_pure rfl (.bin rfl rfl (add1N (by omega))) ?_
      refine zg3 ?_
      exact nx3 e (dpK l j) (o ++ [dpV l j]) ⟨dpK_le hl hj, by simp; omega, by rw [List.append_assoc]; exact hV, hK⟩
  · obtain rfl : c = 0 := by omega
    rw [dqV, List.append_nil] at hV
    rw [dqK] at hK
    refine zg12 ?_
    rw [← hV, ← hK]
    exact retMCf [39] rfl rfl rfl rfl rfl T36 (.agg (.cons (.pure rfl) (.cons (.pure hkp) (.cons (imm_refm poE rfl rfl rfl) .nil)))) rfl rfl (dice_pure l _)
end Go.Proofs.YtgfbghoihhnahaaGreat
end
section
set_option linter.unusedVariables false
set_option linter.unusedSimpArgs false
set_option maxHeartbeats 8000000
set_option maxRecDepth 100000
attribute [local irreducible] Go.Lg.opsL Go.Lg.wpL Go.Lg.thenL Go.Lg.blockL
namespace Go.Proofs.YtgfbghoihhnahaaGreat
open Go.Lg
theorem gD1 {a b : List Rat} {i : Nat} (h : i < a.length) : (a ++ b).getD i 0 = a.getD i 0 := by
  rw [List.getD_eq_getElem?_getD, List.getD_eq_getElem?_getD, List.getElem?_append_left h]
theorem gD2 {a b : List Rat} {i : Nat} (h : a.length ≤ i) : (a ++ b).getD i 0 = b.getD (i - a.length) 0 := by
  rw [List.getD_eq_getElem?_getD, List.getD_eq_getElem?_getD, List.getElem?_append_right h]
theorem getD_rep {n i : Nat} {T : Rat} (h : i < n) : (List.replicate n T).getD i 0 = T := by
  rw [List.getD_eq_getElem?_getD, List.getElem?_eq_getElem (by simpa using h)]; simp
/-- the numbers of a curve: knots, then poles -/
def cvN (kn : List Rat) (po : List PoR) : Nat → List Rat
  | 0 => kn
  | i + 1 => cvN kn po i ++ [(po.getD i default).p.x, (po.getD i default).p.y, (po.getD i default).p.z, (po.getD i default).w]
theorem cvN_len (kn : List Rat) (po : List PoR) : ∀ i, (cvN kn po i).length = kn.length + 4 * i
  | 0 => rfl
  | i + 1 => by rw [cvN, List.length_append, cvN_len kn po i]; simp; omega
theorem cvN_rl {kn : List Rat} {po : List PoR} {R : Nat} (hk : ∀ x ∈ kn, rl x ≤ R) (hp : ∀ q ∈ po, okP R q) : ∀ i, i ≤ po.length → ∀ x ∈ cvN kn po i, rl x ≤ R
  | 0, _, x, hx => hk x hx
  | i + 1, hi, x, hx => by
    rw [cvN] at hx
    rcases List.mem_append.1 hx with hx | hx
    · exact cvN_rl hk hp i (by omega) x hx
    · obtain ⟨⟨h1, h2, h3⟩, h4, _⟩ := hp _ (getD_memP (po := po) (j := i) (by omega))
      simp only [List.mem_cons, List.not_mem_nil, or_false] at hx
      rcases hx with rfl | rfl | rfl | rfl <;> assumption
/-- a curve without inner knots has valid knots -/
theorem tm_rep (a b : List Rat) (t : Rat) : ∀ i, i ≤ a.length → tmN (a ++ b) t i = tmN a t i
  | 0, _ => rfl
  | i + 1, h => by rw [tmN, tmN, tm_rep a b t i (by omega), gD1 (by omega)]
theorem tm_app (a b : List Rat) (t : Rat) : ∀ i, tmN (a ++ b) t (a.length + i) = tmN a t a.length + tmN b t i
  | 0 => by rw [Nat.add_zero, tm_rep _ _ _ _ (Nat.le_refl _)]; rfl
  | i + 1 => by
    rw [← Nat.add_assoc, tmN, tm_app a b t i, tmN, gD2 (by omega), Nat.add_sub_cancel_left]; omega
theorem tm_const (n : Nat) (T t : Rat) : ∀ i, i ≤ n → tmN (List.replicate n T) t i = if T = t then i else 0
  | 0, _ => by split <;> rfl
  | i + 1, h => by
    rw [tmN, tm_const n T t i (by omega), getD_rep (by omega)]
    split <;> rfl
theorem kn0_tm (d : Nat) (T t : Rat) : tmN (kn0 d T) t (kn0 d T).length = (if T = t then d + 1 else 0) + (if T + 1 = t then d + 1 else 0) := by
  have h := tm_app (List.replicate (d + 1) T) (List.replicate (d + 1) (T + 1)) t (d + 1)
  rw [List.length_replicate] at h
  have e : (kn0 d T).length = d + 1 + (d + 1) := by rw [kn0_len]; omega
  rw [e]
  show tmN (List.replicate (d + 1) T ++ _) t _ = _
  rw [h, tm_const _ _ _ _ (Nat.le_refl _), tm_const _ _ _ _ (Nat.le_refl _)]
theorem kn0_get (d : Nat) (T : Rat) (i : Nat) (h : i < 2 * (d + 1)) : (kn0 d T).getD i 0 = if i < d + 1 then T else T + 1 := by
  unfold kn0
  split
  · rw [gD1 (by simp; omega), getD_rep (by omega)]
  · rw [gD2 (by simp; omega), List.length_replicate, getD_rep (by omega)]
theorem kn0_ok {d : Nat} {T : Rat} (h1 : 1 ≤ d) (h6 : d ≤ 6) (hT : rl T ≤ 64) (hT1 : rl (T + 1) ≤ 64) : kOK (kn0 d T) d := by
  have hl := kn0_len d T
  have hne : T ≠ T + 1 := by grind
  have e0 : (kn0 d T).getD 0 0 = T := by rw [kn0_get _ _ _ (by omega), if_pos (by omega)]
  have e1 : (kn0 d T).getD ((kn0 d T).length - 1) 0 = T + 1 := by rw [hl, kn0_get _ _ _ (by omega), if_neg (by omega)]
  have hm : ∀ x ∈ kn0 d T, x = T ∨ x = T + 1 := fun x hx => by
    rcases List.mem_append.1 hx with h | h
    · exact .inl (List.mem_replicate.1 h).2
    · exact .inr (List.mem_replicate.1 h).2
  refine ⟨h1, h6, by omega, by omega, fun i hi => ?_, by rw [e0, e1]; exact hne, fun t ht he => ?_, fun t ht g0 g1 => ?_, fun x hx => ?_⟩
  · rw [kn0_get _ _ _ (by omega), kn0_get _ _ _ (by omega)]
    split <;> split
    · exact Rat.le_refl
    · grind
    · omega
    · exact Rat.le_refl
  · rw [kn0_tm]
    rcases hm t ht with rfl | rfl
    · rw [if_pos rfl, if_neg (fun e => hne e.symm)]
    · rw [if_neg hne, if_pos rfl, Nat.zero_add]
  · rw [e0] at g0; rw [e1] at g1
    rcases hm t ht with h | h
    · exact absurd h g0
    · exact absurd h g1
  · rcases hm x hx with rfl | rfl <;> assumption
theorem any_ff {α : Type} (l : List α) : l.any (fun _ => false) = false := by simp
namespace H_c_numbers
theorem zSm {p q : Prop} (k : q) (e : p = q := by simp only [e1, e2, e3, e4, p1, p2, p3, q1, q2, q3, l1, t0, t1, r1, r2, r3, r4, Nat.zero_add, Nat.reduceMul, Nat.reduceAdd, b1, b2, b3, b4, b5, b6, i1, i2, i3, i4, i5, i6, Nat.reduceBEq, ers, etk, map4, take_map_len, map_snoc, len_snoc, List.length_cons, List.length_nil, List.nil_append, List.map_nil, List.take_nil, List.append_nil, List.set_cons_zero, List.set_cons_succ, Nat.reduceEqDiff, reduceIte, if_true, if_false, ptL_kill, poL_kill, kills_map ptE, kills_map poE, kills_map ratE, ratL_kill, spL_kill, LV.kill, kills]; exact rfl) : p := e.mpr k
end H_c_numbers
open H_c_numbers in
theorem c_numbers (d : Nat) (kn : List Rat) (po : List PoR) (h0 : 0 < kn.length) (hk : kn.length ≤ 1000) (hpo : po.length ≤ 1000) : CallP Tryz.prog 240 [.agg [nI64 d, .list 3 (kn.map ratL), .list 12 (po.map poL)]] (.list 3 ((cvN kn po po.length).map ratL)) := by
  have hcp : LV.pure (.agg [nI64 d, .list 3 (kn.map ratL), .list 12 (po.map poL)]) = true := by simp [LV.pure, pures, pures_map ratE, pures_map poE]
  refine fnP Tryz.func240 ?_
  have ers : True := trivial
  have etk : True := trivial
  refine zg10 ?_
  refine st_call1 [] rfl rfl (.cons (.pure (pure_lst ratE _ _)) .nil) (c_CloneR kn h0 (by omega)) (pures_map ratE _) rfl ?_
  refine zg13 ?_
  refine lp1 (fun (i : Nat) L => ((((((St.mk L.slot (hp [(1, ⟨3, [.agg [nI64 d, .list 3 (kn.map ratL), .list 12 (po.map poL)]], true⟩), (1000129, ⟨3, (cvN kn po i).map ratL, true⟩)])).put (some 1) (.eptr 1 3 0 0)).put (some 3) (.ref 1000129 3 0 (kn.length + 4 * i))).put (some 10) (.list 12 (po.map poL))).put (some 11) (nI64 po.length)).put (some 12) (nI64 i))) (fun i => i ≤ po.length) (fun i => po.length - i) 0 (Nat.zero_le _) ?_
  rintro i L1 hi
  refine zg6 ?_
  refine wl_if rfl (fun h13r h13 => ?_) (fun h13r h13 => ?_)
  · have hi2 : i < po.length := by omega
    have hlc := cvN_len kn po i
    have ers : cvN kn po i ++ [(po.getD i default).p.x, (po.getD i default).p.y, (po.getD i default).p.z, (po.getD i default).w] = cvN kn po (i + 1) := rfl
    have etk : ((cvN kn po i).map ratL).take (kn.length + 4 * i) = (cvN kn po i).map ratL := List.take_of_length_le (by rw [List.length_map]; omega)
    refine zg26 ?_
    refine st_store rfl (.appX (d := 1000129) (news := [ratL (po.getD i default).p.x, ratL (po.getD i default).p.y, ratL (po.getD i default).p.z, ratL (po.getD i default).w]) rfl rfl rfl rfl (by simp; omega) (.inl rfl) (by decide) Tryz.underlying33 Tryz.underlying33 Z29a T29 rfl B29 (.inl ⟨28, 0, _, rfl, by decide, rfl, rfl, by simp, rfl, by simp [pures, ratE.pure]⟩) (by simp; omega) (by simp; omega) (by decide)) ?_
    refine zg4 ?_
    refine wl_regW ((Weak.kill _ 5).trans (Weak.kill _ 28)) ?_
    refine st_pure rfl (.bin rfl rfl (add1N (by omega))) ?_
    refine zg3 ?_
    exact nx1 (i + 1) (by omega)
  · obtain rfl : i = po.length := by omega
    refine zg12 ?_
    exact ret1f [1000129] rfl rfl (imm_refm ratE rfl rfl (by rw [cvN_len]))
open H0 in
theorem c_CChk1 (q : Rat) (h : rl q ≤ 1000) : CallP Tryz.prog 242 [ratL q] (bL false) := by
  refine fnP Tryz.func242 ?_
  refine zg9 ?_
  refine cp am1 (c_RValid _ (by omega)) ?_
  refine zg5 ?_
  exact ret1 rfl (.pure rfl)
namespace H_c_CChk2
theorem zSm {p q : Prop} (k : q) (e : p = q := by simp only [e1, e2, e3, e4, p1, p2, p3, q1, q2, q3, l1, t0, t1, r1, r2, r3, r4, Nat.zero_add, Nat.reduceMul, Nat.reduceAdd, b1, b2, b3, b4, b5, b6, i1, i2, i3, i4, i5, i6, Nat.reduceBEq, hsg]; exact rfl) : p := e.mpr k
end H_c_CChk2
open H_c_CChk2 in
theorem c_CChk2 (q : PoR) (h : okP 1000 q) : CallP Tryz.prog 247 [poL q] (bL false) := by
  obtain ⟨_, hw, hp⟩ := h
  have hsg : sgnR q.w = 1 := sgn_pos hp
  refine fnP Tryz.func247 ?_
  refine zg10 ?_
  refine cp am1 (c_RSign q.w (by omega)) ?_
  refine zg5 ?_
  exact ret1 rfl (.pure rfl)
open H0 in
theorem c_CChk3 (q : Rat) (h : rl q ≤ 64) : CallP Tryz.prog 248 [ratL q] (bL false) := by
  have hb := bitR_le h
  refine fnP Tryz.func248 ?_
  refine zg9 ?_
  refine cp am1 (c_RBits q (by omega)) ?_
  refine zg5 ?_
  refine ret1 (x := bL (decide ((bitR q : Int) > 2048))) rfl ?_
  rw [decide_eq_false (by omega)]
  exact .pure rfl
namespace H_c_CCheck
theorem zSm {p q : Prop} (k : q) (e : p = q := by simp only [e1, e2, e3, e4, p1, p2, p3, q1, q2, q3, l1, t0, t1, r1, r2, r3, r4, Nat.zero_add, Nat.reduceMul, Nat.reduceAdd, b1, b2, b3, b4, b5, b6, i1, i2, i3, i4, i5, i6, Nat.reduceBEq, any_ff, List.set_cons_zero, List.set_cons_succ, Nat.reduceEqDiff, reduceIte, if_true, if_false, ptL_kill, poL_kill, kills_map ptE, kills_map poE, kills_map ratE, ratL_kill, spL_kill, LV.kill, kills]; exact rfl) : p := e.mpr k
end H_c_CCheck
open H_c_CCheck in
theorem c_CCheck (d : Nat) (kn : List Rat) (po : List PoR) (hk : kOK kn d) (hpo : po.length = kn.length - d - 1) (hq : ∀ q ∈ po, okP 64 q) : CallP Tryz.prog 155 [.agg [nI64 d, .list 3 (kn.map ratL), .list 12 (po.map poL)]] (iL 0) := by
  have hcp : LV.pure (.agg [nI64 d, .list 3 (kn.map ratL), .list 12 (po.map poL)]) = true := by simp [LV.pure, pures, pures_map ratE, pures_map poE]
  have hd1 := hk.d1
  have hd6 := hk.d6
  have hlen := hk.len
  have hmax := hk.max
  have hN := cvN_len kn po po.length
  have hR := cvN_rl hk.sz hq po.length (Nat.le_refl _)
  refine fnP Tryz.func155 ?_
  refine zg9 ?_
  refine cp am1 (c_numbers d kn po (by omega) (by omega) (by omega)) ?_
  refine zg7 ?_
  refine cp am2 (c_HasR 242 (fun _ => false) (cvN kn po po.length) (by omega) (fun x hx => c_CChk1 x (Nat.le_trans (hR x hx) (by decide)))) ?_
  refine zg2 ?_
  refine wl_condY (b := _) rfl (by first | rfl | exact any_ff _) ?_
  refine zg9 ?_
  refine cp am2 (c_KCheck kn d hk) ?_
  refine zg9 ?_
  refine wl_if rfl (fun h15r h15 => ?_) (fun h15r h15 => ?_)
  · refine zg8 ?_
    exact ret1 rfl (.pure rfl)
  · refine zg5 ?_
    refine wl_regD 10 (by decide +kernel) ?_
    refine zg7 ?_
    refine cp am2 (c_KPoles kn d (by omega) (by omega)) ?_
    refine zg4 ?_
    refine wl_if rfl (fun h17r h17 => ?_) (fun h17r h17 => ?_)
    · omega
    · refine zg4 ?_
      refine cp am2 (c_HasP 247 (fun _ => false) po (by omega) (fun q hx => c_CChk2 q (by obtain ⟨a, b, c⟩ := hq q hx; exact ⟨a.le (by decide), by omega, c⟩))) ?_
      refine zg3 ?_
      refine wl_condY (b := _) rfl (by first | rfl | exact any_ff _) ?_
      refine zg3 ?_
      refine cp am2 (c_HasR 248 (fun _ => false) (cvN kn po po.length) (by omega) (fun x hx => c_CChk3 x (hR x hx))) ?_
      refine zg3 ?_
      refine wl_condY (b := _) rfl (by first | rfl | exact any_ff _) ?_
      refine zg9 ?_
      exact ret1 rfl (.pure rfl)
namespace H_c_BzCheck
theorem zSm {p q : Prop} (k : q) (e : p = q := by simp only [e1, e2, e3, e4, p1, p2, p3, q1, q2, q3, l1, t0, t1, r1, r2, r3, r4, Nat.zero_add, Nat.reduceMul, Nat.reduceAdd, b1, b2, b3, b4, b5, b6, i1, i2, i3, i4, i5, i6, Nat.reduceBEq, List.set_cons_zero, List.set_cons_succ, Nat.reduceEqDiff, reduceIte, if_true, if_false, ptL_kill, poL_kill, kills_map ptE, kills_map poE, kills_map ratE, ratL_kill, spL_kill, LV.kill, kills]; exact rfl) : p := e.mpr k
end H_c_BzCheck
open H_c_BzCheck in
theorem c_BzCheck (d : Nat) (kn : List Rat) (po : List PoR) (h : cvF po d) (hk : kOK kn d) (hkl : kn.length = 2 * (d + 1)) : CallP Tryz.prog 57 [.agg [nI64 d, .list 3 (kn.map ratL), .list 12 (po.map poL)]] (iL 0) := by
  have hl := h.hl
  have hd := h.hd
  have h6 := h.h6
  have hcp : LV.pure (.agg [nI64 d, .list 3 (kn.map ratL), .list 12 (po.map poL)]) = true := by simp [LV.pure, pures, pures_map ratE, pures_map poE]
  have hq : ∀ q ∈ po, okP 64 q := fun q hx => by obtain ⟨a, b, c⟩ := h.ok q hx; exact ⟨a.le (by decide), by omega, c⟩
  refine fnP Tryz.func57 ?_
  refine zg10 ?_
  refine cp am1 (c_CCheck d kn po hk (by omega) hq) ?_
  refine zg9 ?_
  refine wl_if rfl (fun h7r h7 => ?_) (fun h7r h7 => ?_)
  · refine zg8 ?_
    exact ret1 rfl (.pure rfl)
  · refine zg10 ?_
    refine st_pure rfl (.bin rfl rfl (add64 (by omega) (by omega))) ?_
    refine zg3 ?_
    refine wl_if rfl (fun h15r h15 => ?_) (fun h15r h15 => ?_)
    · omega
    · refine zg8 ?_
      exact ret1 rfl (.pure rfl)
end Go.Proofs.YtgfbghoihhnahaaGreat
end
section
set_option linter.unusedVariables false
set_option linter.unusedSimpArgs false
set_option maxHeartbeats 8000000
set_option maxRecDepth 100000
attribute [local irreducible] Go.Lg.opsL Go.Lg.wpL Go.Lg.thenL Go.Lg.blockL
namespace Go.Proofs.YtgfbghoihhnahaaGreat
open Go.Lg
theorem knB_lo (d : Nat) (T : Rat) : (kn0 d T).getD 0 0 = T := by rw [kn0_get _ _ _ (by omega), if_pos (by omega)]
theorem knB_hi (d : Nat) (T : Rat) : (kn0 d T).getD (2 * (d + 1) - 1) 0 = T + 1 := by rw [kn0_get _ _ _ (by omega), if_neg (by omega)]
theorem mn_lt1 (T : Rat) : mnR T (T + 1) = T := by unfold mnR; rw [if_neg (by grind)]
theorem mx_lt1 (T : Rat) : mxR T (T + 1) = T + 1 := by unfold mxR; rw [if_pos (by grind)]
theorem wid1 (T : Rat) : T + 1 - T = 1 := by grind
theorem div1 (x : Rat) : x / 1 = x := by grind
/-- the derivative -/
def tanV (po : List PoR) (x : Rat) : V3 := v3m (1 / (evP (wtP po) x * evP (wtP po) x)) ⟨evP (trP po 0) x, evP (trP po 1) x, evP (trP po 2) x⟩
theorem retCCT {P : Program} {L : St} {a u v : Nat} {T U : TypeId} {b c sz sy : Nat} {x y x' y' z z' : LV} {m m' : Bool} {n n' : Nat} {ag ag' : Bool} (bs : List Nat) (h0 : bs.contains 0 = false) (h : L.slot a = .eptr b sz 0 0) (hb : L.heap b = some ⟨sz, [x], m⟩)
    (hx : x.csize = sz) (hat : x.at 0 n ag = some x) (hT : TyIs P T n ag) (hi : Imm (L.frz bs).heap x y) (h' : L.slot u = .eptr c sy 0 0) (hc : L.heap c = some ⟨sy, [x'], m'⟩)
    (hx' : x'.csize = sy) (hat' : x'.at 0 n' ag' = some x') (hT' : TyIs P U n' ag') (hi' : Imm (L.frz bs).heap x' y') (hz : L.slot v = z) (hiz : Imm (L.frz bs).heap z z') : RetL P [.cell a T, .cell u U, .tmp v] L (.tup [y, y', z']) [] :=
  ⟨[x, x', z], [y, y', z'], (L.frz bs).heap, [], .cons ⟨b, sz, 0, 0, _, x, n, ag, h, hb, rfl, rfl, hx, hat, hT⟩ (.cons ⟨c, sy, 0, 0, _, x', n', ag', h', hc, rfl, rfl, hx', hat', hT'⟩ (.cons hz .nil)), frz_le bs h0, .cons (.imm hi) (.cons (.imm hi') (.cons (.imm hiz) .nil)), List.nodup_nil, rfl, fun k b h => by simp at h, rfl⟩
theorem hs_ofK {p : List Rat} {x : Rat} (hl : p.length ≤ 10) (hp : ∀ y ∈ p, rl y ≤ 700000) (hx : rl x ≤ 100000) : HS p x := by
  have h1 := rl_sub 1 x
  have h0 : rl 1 = 1 := rfl
  refine ⟨rl (1 - x) + rl x + 1, Nat.le_refl _, by omega, fun y hy => ?_⟩
  have h2 := hp y hy
  have h3 : 2 ^ p.length ≤ 2 ^ 10 := Nat.pow_le_pow_right (by decide) hl
  have h4 : (rl y + (rl (1 - x) + rl x + 1)) * 2 ^ p.length ≤ 1000000 * 2 ^ 10 := Nat.mul_le_mul (by omega) h3
  omega
open H0 in
theorem c_SWidth (s : Rat × Rat) (h : rl s.2 + rl s.1 ≤ 549755813888) : CallP Tryz.prog 140 [spL s] (ratL (s.2 - s.1)) := by
  refine fnP Tryz.func140 ?_
  refine zg12 ?_
  refine cp am2 (c_RSub s.2 s.1 h) ?_
  refine zg4 ?_
  exact retC [] rfl rfl rfl (ratE.csize _) (ratL_all _) T29 (.pure (ratE.pure _))
namespace H_c_Dom
theorem zSm {p q : Prop} (k : q) (e : p = q := by simp only [e1, e2, e3, e4, p1, p2, p3, q1, q2, q3, l1, t0, t1, r1, r2, r3, r4, Nat.zero_add, Nat.reduceMul, Nat.reduceAdd, b1, b2, b3, b4, b5, b6, i1, i2, i3, i4, i5, i6, Nat.reduceBEq, dfq, hkl, hlo, hhi, List.length_map, List.set_cons_zero, List.set_cons_succ, Nat.reduceEqDiff, reduceIte, if_true, if_false, ptL_kill, poL_kill, kills_map ptE, kills_map poE, kills_map ratE, ratL_kill, spL_kill, LV.kill, kills]; exact rfl) : p := e.mpr k
end H_c_Dom
open H_c_Dom in
theorem c_Dom (d : Nat) (T : Rat) (po : List PoR) (hT : rl T ≤ 1) (hT1 : rl (T + 1) ≤ 1) (h9 : d ≤ 6) : CallP Tryz.prog 141 [.agg [nI64 d, .list 3 ((kn0 d T).map ratL), .list 12 (po.map poL)]] (spL (T, T + 1)) := by
  have hpu : ∀ l : List Rat, pures (l.map ratL) = true := fun l => pures_map ratE l
  have hkl := kn0_len d T
  have hlo := knB_lo d T
  have hhi := knB_hi d T
  have hcp : LV.pure (.agg [nI64 d, .list 3 ((kn0 d T).map ratL), .list 12 (po.map poL)]) = true := by simp [LV.pure, pures, pures_map ratE, pures_map poE]
  have hS := c_SOf T (T + 1) (by omega)
  rw [mn_lt1, mx_lt1] at hS
  refine fnP Tryz.func141 ?_
  refine zg15 ?_
  refine wl_if rfl (fun h6r h6 => ?_) (fun h6r h6 => ?_)
  · omega
  · refine zg3 ?_
    refine wl_regD 13 (by decide +kernel) ?_
    refine zg9 ?_
    refine st_pure rfl (.bin rfl rfl (sub1N (by omega) (by omega))) ?_
    refine zg2 ?_
    try simp only [t1, dfq, hkl, hlo, hhi, List.length_map]
    refine cp am2 (hS) ?_
    refine zg4 ?_
    exact retC [] rfl rfl rfl (spE.csize _) (spL_all _) T42 (.pure (spE.pure _))
namespace H_c_FDom
theorem zSm {p q : Prop} (k : q) (e : p = q := by simp only [e1, e2, e3, e4, p1, p2, p3, q1, q2, q3, l1, t0, t1, r1, r2, r3, r4, Nat.zero_add, Nat.reduceMul, Nat.reduceAdd, b1, b2, b3, b4, b5, b6, i1, i2, i3, i4, i5, i6, Nat.reduceBEq, dfq, hkl, hlo, hhi, List.length_map, List.set_cons_zero, List.set_cons_succ, Nat.reduceEqDiff, reduceIte, if_true, if_false, ptL_kill, poL_kill, kills_map ptE, kills_map poE, kills_map ratE, ratL_kill, spL_kill, LV.kill, kills]; exact rfl) : p := e.mpr k
end H_c_FDom
open H_c_FDom in
theorem c_FDom (d : Nat) (T : Rat) (po : List PoR) (hT : rl T ≤ 1) (hT1 : rl (T + 1) ≤ 1) (h9 : d ≤ 6) : CallP Tryz.prog 24 [.agg [nI64 d, .list 3 ((kn0 d T).map ratL), .list 12 (po.map poL)]] (spL (T, T + 1)) := by
  have hpu : ∀ l : List Rat, pures (l.map ratL) = true := fun l => pures_map ratE l
  have hkl := kn0_len d T
  have hlo := knB_lo d T
  have hhi := knB_hi d T
  have hcp : LV.pure (.agg [nI64 d, .list 3 ((kn0 d T).map ratL), .list 12 (po.map poL)]) = true := by simp [LV.pure, pures, pures_map ratE, pures_map poE]
  refine fnP Tryz.func24 ?_
  refine zg7 ?_
  refine wl_regD 13 (by decide +kernel) ?_
  refine zg9 ?_
  refine st_pure rfl (.bin rfl rfl (sub1N (by omega) (by omega))) ?_
  refine zg7 ?_
  exact retC [] rfl rfl rfl (spE.csize _) (spL_all _) T42 (.pure (spE.pure _))
namespace H_c_own
theorem zSm {p q : Prop} (k : q) (e : p = q := by simp only [e1, e2, e3, e4, p1, p2, p3, q1, q2, q3, l1, t0, t1, r1, r2, r3, r4, Nat.zero_add, Nat.reduceMul, Nat.reduceAdd, b1, b2, b3, b4, b5, b6, i1, i2, i3, i4, i5, i6, Nat.reduceBEq, List.set_cons_zero, List.set_cons_succ, Nat.reduceEqDiff, reduceIte, if_true, if_false, ptL_kill, poL_kill, kills_map ptE, kills_map poE, kills_map ratE, ratL_kill, spL_kill, LV.kill, kills]; exact rfl) : p := e.mpr k
end H_c_own
open H_c_own in
theorem c_own (d : Nat) (T : Rat) (po : List PoR) (hT : rl T ≤ 1) (hT1 : rl (T + 1) ≤ 1) (h9 : d ≤ 6) (t : Rat) (ht : rl t ≤ 1000) (hin : hasR (T, T + 1) t = true) (hp0 : 0 < po.length) : CallP Tryz.prog 123 [.agg [nI64 d, .list 3 ((kn0 d T).map ratL), .list 12 (po.map poL)], ratL t] (.tup [ratL (t - T), ratL 1, bL true]) := by
  have hpu : ∀ l : List Rat, pures (l.map ratL) = true := fun l => pures_map ratE l
  have hkl := kn0_len d T
  have hlo := knB_lo d T
  have hhi := knB_hi d T
  have hcp : LV.pure (.agg [nI64 d, .list 3 ((kn0 d T).map ratL), .list 12 (po.map poL)]) = true := by simp [LV.pure, pures, pures_map ratE, pures_map poE]
  have hz1 := rl_sub t T
  have hr1 : rl 1 = 1 := rfl
  have hD := c_Dom d T po hT hT1 h9
  have hW : CallP Tryz.prog 140 [spL (T, T + 1)] (ratL 1) := by
    have := c_SWidth (T, T + 1) (by show rl (T + 1) + rl T ≤ _; omega)
    simp only [wid1] at this
    exact this
  have hQ : CallP Tryz.prog 125 [ratL (t - T), ratL 1] (.tup [ratL (t - T), iL 0]) := by
    have := c_RQuo (t - T) 1 (by omega)
    rw [div1, if_neg (by decide)] at this
    exact this
  have hH : CallP Tryz.prog 216 [spL (T, T + 1), ratL t] (bL true) := by
    have := c_SHas (T, T + 1) t (by show rl T + rl t ≤ _; omega) (by show rl t + rl (T + 1) ≤ _; omega)
    rwa [hin] at this
  refine fnP Tryz.func123 (ht := (tame3 (ratE.pure _) (ratE.pure _) rfl)) ?_
  refine zg12 ?_
  refine cp am1 (hD) ?_
  refine zg12 ?_
  refine op_if 15 rfl (fun h15r h15 => ?_) (fun h15r h15 => ?_)
  · omega
  · refine zg2 ?_
    refine cp am2 (hH) ?_
    refine zg4 ?_
    refine wl_if rfl (fun h20r h20 => ?_) (fun h20r h20 => ?_)
    · first | exact h20.elim | cases h20r
    · refine zg5 ?_
      refine cp am1 (hW) ?_
      refine zg4 ?_
      refine wl_regF 9 [8] (by decide +kernel) ?_
      refine zg3 ?_
      refine cp am2 (c_RSub t T (by omega)) ?_
      refine zg1 ?_
      refine cp am2 (hQ) ?_
      refine zg8 ?_
      refine wl_regA ?_
      refine any_3 0 1 2 _ _ _ (by decide +kernel) rfl rfl rfl ?_ ?_ ?_
      · refine zg1 ?_
        refine st_nil ?_
        refine any_3 1 2 4 _ _ _ (by decide +kernel) rfl rfl rfl ?_ ?_ ?_
        · refine zg1 ?_
          refine st_nil ?_
          refine any_2 2 4 _ _ (by decide +kernel) rfl rfl ?_ ?_
          · refine zg1 ?_
            refine st_nil ?_
            refine any_2 3 4 _ _ (by decide +kernel) rfl rfl ?_ ?_
            · refine zg1 ?_
              refine st_nil ?_
              refine any_1 4 _ (by decide +kernel) rfl ?_
              refine zg1 ?_
              refine st_nil ?_
              refine any_1 5 _ (by decide +kernel) rfl ?_
              refine zg1 ?_
              refine st_nil ?_
              refine any_1 6 _ (by decide +kernel) rfl ?_
              refine zg1 ?_
              refine st_nil ?_
              refine any_0 (by decide +kernel) ?_
              refine zg2 ?_
              exact retCCT [] rfl rfl rfl (ratE.csize _) (ratL_all _) T29 (.pure (ratE.pure _)) rfl rfl (ratE.csize _) (ratL_all _) T29 (.pure (ratE.pure _)) rfl (.pure rfl)
            · refine zg1 ?_
              refine st_nil ?_
              refine any_2 3 5 _ _ (by decide +kernel) rfl rfl ?_ ?_
              · refine zg1 ?_
                refine st_nil ?_
                refine any_1 5 _ (by decide +kernel) rfl ?_
                refine zg1 ?_
                refine st_nil ?_
                refine any_1 6 _ (by decide +kernel) rfl ?_
                refine zg1 ?_
                refine st_nil ?_
                refine any_0 (by decide +kernel) ?_
                refine zg2 ?_
                exact retCCT [] rfl rfl rfl (ratE.csize _) (ratL_all _) T29 (.pure (ratE.pure _)) rfl rfl (ratE.csize _) (ratL_all _) T29 (.pure (ratE.pure _)) rfl (.pure rfl)
              · refine zg1 ?_
                refine st_nil ?_
                refine any_1 3 _ (by decide +kernel) rfl ?_
                refine zg1 ?_
                refine st_nil ?_
                refine any_1 6 _ (by decide +kernel) rfl ?_
                refine zg1 ?_
                refine st_nil ?_
                refine any_0 (by decide +kernel) ?_
                refine zg2 ?_
                exact retCCT [] rfl rfl rfl (ratE.csize _) (ratL_all _) T29 (.pure (ratE.pure _)) rfl rfl (ratE.csize _) (ratL_all _) T29 (.pure (ratE.pure _)) rfl (.pure rfl)
          · refine zg1 ?_
            refine st_nil ?_
            refine any_2 2 5 _ _ (by decide +kernel) rfl rfl ?_ ?_
            · refine zg1 ?_
              refine st_nil ?_
              refine any_2 3 5 _ _ (by decide +kernel) rfl rfl ?_ ?_
              · refine zg1 ?_
                refine st_nil ?_
                refine any_1 5 _ (by decide +kernel) rfl ?_
                refine zg1 ?_
                refine st_nil ?_
                refine any_1 6 _ (by decide +kernel) rfl ?_
                refine zg1 ?_
                refine st_nil ?_
                refine any_0 (by decide +kernel) ?_
                refine zg2 ?_
                exact retCCT [] rfl rfl rfl (ratE.csize _) (ratL_all _) T29 (.pure (ratE.pure _)) rfl rfl (ratE.csize _) (ratL_all _) T29 (.pure (ratE.pure _)) rfl (.pure rfl)
              · refine zg1 ?_
                refine st_nil ?_
                refine any_1 3 _ (by decide +kernel) rfl ?_
                refine zg1 ?_
                refine st_nil ?_
                refine any_1 6 _ (by decide +kernel) rfl ?_
                refine zg1 ?_
                refine st_nil ?_
                refine any_0 (by decide +kernel) ?_
                refine zg2 ?_
                exact retCCT [] rfl rfl rfl (ratE.csize _) (ratL_all _) T29 (.pure (ratE.pure _)) rfl rfl (ratE.csize _) (ratL_all _) T29 (.pure (ratE.pure _)) rfl (.pure rfl)
            · refine zg1 ?_
              refine st_nil ?_
              refine any_1 2 _ (by decide +kernel) rfl ?_
              refine zg1 ?_
              refine st_nil ?_
              refine any_1 3 _ (by decide +kernel) rfl ?_
              refine zg1 ?_
              refine st_nil ?_
              refine any_1 6 _ (by decide +kernel) rfl ?_
              refine zg1 ?_
              refine st_nil ?_
              refine any_0 (by decide +kernel) ?_
              refine zg2 ?_
              exact retCCT [] rfl rfl rfl (ratE.csize _) (ratL_all _) T29 (.pure (ratE.pure _)) rfl rfl (ratE.csize _) (ratL_all _) T29 (.pure (ratE.pure _)) rfl (.pure rfl)
        · refine zg1 ?_
          refine st_nil ?_
          refine any_3 1 3 4 _ _ _ (by decide +kernel) rfl rfl rfl ?_ ?_ ?_
          · refine zg1 ?_
            refine st_nil ?_
            refine any_2 3 4 _ _ (by decide +kernel) rfl rfl ?_ ?_
            · refine zg1 ?_
              refine st_nil ?_
              refine any_1 4 _ (by decide +kernel) rfl ?_
              refine zg1 ?_
              refine st_nil ?_
              refine any_1 5 _ (by decide +kernel) rfl ?_
              refine zg1 ?_
              refine st_nil ?_
              refine any_1 6 _ (by decide +kernel) rfl ?_
              refine zg1 ?_
              refine st_nil ?_
              refine any_0 (by decide +kernel) ?_
              refine zg2 ?_
              exact retCCT [] rfl rfl rfl (ratE.csize _) (ratL_all _) T29 (.pure (ratE.pure _)) rfl rfl (ratE.csize _) (ratL_all _) T29 (.pure (ratE.pure _)) rfl (.pure rfl)
            · refine zg1 ?_
              refine st_nil ?_
              refine any_2 3 5 _ _ (by decide +kernel) rfl rfl ?_ ?_
              · refine zg1 ?_
                refine st_nil ?_
                refine any_1 5 _ (by decide +kernel) rfl ?_
                refine zg1 ?_
                refine st_nil ?_
                refine any_1 6 _ (by decide +kernel) rfl ?_
                refine zg1 ?_
                refine st_nil ?_
                refine any_0 (by decide +kernel) ?_
                refine zg2 ?_
                exact retCCT [] rfl rfl rfl (ratE.csize _) (ratL_all _) T29 (.pure (ratE.pure _)) rfl rfl (ratE.csize _) (ratL_all _) T29 (.pure (ratE.pure _)) rfl (.pure rfl)
              · refine zg1 ?_
                refine st_nil ?_
                refine any_1 3 _ (by decide +kernel) rfl ?_
                refine zg1 ?_
                refine st_nil ?_
                refine any_1 6 _ (by decide +kernel) rfl ?_
                refine zg1 ?_
                refine st_nil ?_
                refine any_0 (by decide +kernel) ?_
                refine zg2 ?_
                exact retCCT [] rfl rfl rfl (ratE.csize _) (ratL_all _) T29 (.pure (ratE.pure _)) rfl rfl (ratE.csize _) (ratL_all _) T29 (.pure (ratE.pure _)) rfl (.pure rfl)
          · refine zg1 ?_
            refine st_nil ?_
            refine any_2 1 4 _ _ (by decide +kernel) rfl rfl ?_ ?_
            · refine zg1 ?_
              refine st_nil ?_
              refine any_1 4 _ (by decide +kernel) rfl ?_
              refine zg1 ?_
              refine st_nil ?_
              refine any_1 5 _ (by decide +kernel) rfl ?_
              refine zg1 ?_
              refine st_nil ?_
              refine any_1 6 _ (by decide +kernel) rfl ?_
              refine zg1 ?_
              refine st_nil ?_
              refine any_0 (by decide +kernel) ?_
              refine zg2 ?_
              exact retCCT [] rfl rfl rfl (ratE.csize _) (ratL_all _) T29 (.pure (ratE.pure _)) rfl rfl (ratE.csize _) (ratL_all _) T29 (.pure (ratE.pure _)) rfl (.pure rfl)
            · refine zg1 ?_
              refine st_nil ?_
              refine any_1 1 _ (by decide +kernel) rfl ?_
              refine zg1 ?_
              refine st_nil ?_
              refine any_1 5 _ (by decide +kernel) rfl ?_
              refine zg1 ?_
              refine st_nil ?_
              refine any_1 6 _ (by decide +kernel) rfl ?_
              refine zg1 ?_
              refine st_nil ?_
              refine any_0 (by decide +kernel) ?_
              refine zg2 ?_
              exact retCCT [] rfl rfl rfl (ratE.csize _) (ratL_all _) T29 (.pure (ratE.pure _)) rfl rfl (ratE.csize _) (ratL_all _) T29 (.pure (ratE.pure _)) rfl (.pure rfl)
          · refine zg1 ?_
            refine st_nil ?_
            refine any_2 1 3 _ _ (by decide +kernel) rfl rfl ?_ ?_
            · refine zg1 ?_
              refine st_nil ?_
              refine any_2 3 5 _ _ (by decide +kernel) rfl rfl ?_ ?_
              · refine zg1 ?_
                refine st_nil ?_
                refine any_1 5 _ (by decide +kernel) rfl ?_
                refine zg1 ?_
                refine st_nil ?_
                refine any_1 6 _ (by decide +kernel) rfl ?_
                refine zg1 ?_
                refine st_nil ?_
                refine any_0 (by decide +kernel) ?_
                refine zg2 ?_
                exact retCCT [] rfl rfl rfl (ratE.csize _) (ratL_all _) T29 (.pure (ratE.pure _)) rfl rfl (ratE.csize _) (ratL_all _) T29 (.pure (ratE.pure _)) rfl (.pure rfl)
              · refine zg1 ?_
                refine st_nil ?_
                refine any_1 3 _ (by decide +kernel) rfl ?_
                refine zg1 ?_
                refine st_nil ?_
                refine any_1 6 _ (by decide +kernel) rfl ?_
                refine zg1 ?_
                refine st_nil ?_
                refine any_0 (by decide +kernel) ?_
                refine zg2 ?_
                exact retCCT [] rfl rfl rfl (ratE.csize _) (ratL_all _) T29 (.pure (ratE.pure _)) rfl rfl (ratE.csize _) (ratL_all _) T29 (.pure (ratE.pure _)) rfl (.pure rfl)
            · refine zg1 ?_
              refine st_nil ?_
              refine any_1 1 _ (by decide +kernel) rfl ?_
              refine zg1 ?_
              refine st_nil ?_
              refine any_1 5 _ (by decide +kernel) rfl ?_
              refine zg1 ?_
              refine st_nil ?_
              refine any_1 6 _ (by decide +kernel) rfl ?_
              refine zg1 ?_
              refine st_nil ?_
              refine any_0 (by decide +kernel) ?_
              refine zg2 ?_
              exact retCCT [] rfl rfl rfl (ratE.csize _) (ratL_all _) T29 (.pure (ratE.pure _)) rfl rfl (ratE.csize _) (ratL_all _) T29 (.pure (ratE.pure _)) rfl (.pure rfl)
        · refine zg1 ?_
          refine st_nil ?_
          refine any_2 1 2 _ _ (by decide +kernel) rfl rfl ?_ ?_
          · refine zg1 ?_
            refine st_nil ?_
            refine any_2 2 5 _ _ (by decide +kernel) rfl rfl ?_ ?_
            · refine zg1 ?_
              refine st_nil ?_
              refine any_2 3 5 _ _ (by decide +kernel) rfl rfl ?_ ?_
              · refine zg1 ?_
                refine st_nil ?_
                refine any_1 5 _ (by decide +kernel) rfl ?_
                refine zg1 ?_
                refine st_nil ?_
                refine any_1 6 _ (by decide +kernel) rfl ?_
                refine zg1 ?_
                refine st_nil ?_
                refine any_0 (by decide +kernel) ?_
                refine zg2 ?_
                exact retCCT [] rfl rfl rfl (ratE.csize _) (ratL_all _) T29 (.pure (ratE.pure _)) rfl rfl (ratE.csize _) (ratL_all _) T29 (.pure (ratE.pure _)) rfl (.pure rfl)
              · refine zg1 ?_
                refine st_nil ?_
                refine any_1 3 _ (by decide +kernel) rfl ?_
                refine zg1 ?_
                refine st_nil ?_
                refine any_1 6 _ (by decide +kernel) rfl ?_
                refine zg1 ?_
                refine st_nil ?_
                refine any_0 (by decide +kernel) ?_
                refine zg2 ?_
                exact retCCT [] rfl rfl rfl (ratE.csize _) (ratL_all _) T29 (.pure (ratE.pure _)) rfl rfl (ratE.csize _) (ratL_all _) T29 (.pure (ratE.pure _)) rfl (.pure rfl)
            · refine zg1 ?_
              refine st_nil ?_
              refine any_1 2 _ (by decide +kernel) rfl ?_
              refine zg1 ?_
              refine st_nil ?_
              refine any_1 3 _ (by decide +kernel) rfl ?_
              refine zg1 ?_
              refine st_nil ?_
              refine any_1 6 _ (by decide +kernel) rfl ?_
              refine zg1 ?_
              refine st_nil ?_
              refine any_0 (by decide +kernel) ?_
              refine zg2 ?_
              exact retCCT [] rfl rfl rfl (ratE.csize _) (ratL_all _) T29 (.pure (ratE.pure _)) rfl rfl (ratE.csize _) (ratL_all _) T29 (.pure (ratE.pure _)) rfl (.pure rfl)
          · refine zg1 ?_
            refine st_nil ?_
            refine any_2 1 3 _ _ (by decide +kernel) rfl rfl ?_ ?_
            · refine zg1 ?_
              refine st_nil ?_
              refine any_2 3 5 _ _ (by decide +kernel) rfl rfl ?_ ?_
              · refine zg1 ?_
                refine st_nil ?_
                refine any_1 5 _ (by decide +kernel) rfl ?_
                refine zg1 ?_
                refine st_nil ?_
                refine any_1 6 _ (by decide +kernel) rfl ?_
                refine zg1 ?_
                refine st_nil ?_
                refine any_0 (by decide +kernel) ?_
                refine zg2 ?_
                exact retCCT [] rfl rfl rfl (ratE.csize _) (ratL_all _) T29 (.pure (ratE.pure _)) rfl rfl (ratE.csize _) (ratL_all _) T29 (.pure (ratE.pure _)) rfl (.pure rfl)
              · refine zg1 ?_
                refine st_nil ?_
                refine any_1 3 _ (by decide +kernel) rfl ?_
                refine zg1 ?_
                refine st_nil ?_
                refine any_1 6 _ (by decide +kernel) rfl ?_
                refine zg1 ?_
                refine st_nil ?_
                refine any_0 (by decide +kernel) ?_
                refine zg2 ?_
                exact retCCT [] rfl rfl rfl (ratE.csize _) (ratL_all _) T29 (.pure (ratE.pure _)) rfl rfl (ratE.csize _) (ratL_all _) T29 (.pure (ratE.pure _)) rfl (.pure rfl)
            · refine zg1 ?_
              refine st_nil ?_
              refine any_1 1 _ (by decide +kernel) rfl ?_
              refine zg1 ?_
              refine st_nil ?_
              refine any_1 5 _ (by decide +kernel) rfl ?_
              refine zg1 ?_
              refine st_nil ?_
              refine any_1 6 _ (by decide +kernel) rfl ?_
              refine zg1 ?_
              refine st_nil ?_
              refine any_0 (by decide +kernel) ?_
              refine zg2 ?_
              exact retCCT [] rfl rfl rfl (ratE.csize _) (ratL_all _) T29 (.pure (ratE.pure _)) rfl rfl (ratE.csize _) (ratL_all _) T29 (.pure (ratE.pure _)) rfl (.pure rfl)
      · refine zg1 ?_
        refine st_nil ?_
        refine any_2 0 2 _ _ (by decide +kernel) rfl rfl ?_ ?_
        · refine zg1 ?_
          refine st_nil ?_
          refine any_2 2 4 _ _ (by decide +kernel) rfl rfl ?_ ?_
          · refine zg1 ?_
            refine st_nil ?_
            refine any_2 3 4 _ _ (by decide +kernel) rfl rfl ?_ ?_
            · refine zg1 ?_
              refine st_nil ?_
              refine any_1 4 _ (by decide +kernel) rfl ?_
              refine zg1 ?_
              refine st_nil ?_
              refine any_1 5 _ (by decide +kernel) rfl ?_
              refine zg1 ?_
              refine st_nil ?_
              refine any_1 6 _ (by decide +kernel) rfl ?_
              refine zg1 ?_
              refine st_nil ?_
              refine any_0 (by decide +kernel) ?_
              refine zg2 ?_
              exact retCCT [] rfl rfl rfl (ratE.csize _) (ratL_all _) T29 (.pure (ratE.pure _)) rfl rfl (ratE.csize _) (ratL_all _) T29 (.pure (ratE.pure _)) rfl (.pure rfl)
            · refine zg1 ?_
              refine st_nil ?_
              refine any_2 3 5 _ _ (by decide +kernel) rfl rfl ?_ ?_
              · refine zg1 ?_
                refine st_nil ?_
                refine any_1 5 _ (by decide +kernel) rfl ?_
                refine zg1 ?_
                refine st_nil ?_
                refine any_1 6 _ (by decide +kernel) rfl ?_
                refine zg1 ?_
                refine st_nil ?_
                refine any_0 (by decide +kernel) ?_
                refine zg2 ?_
                exact retCCT [] rfl rfl rfl (ratE.csize _) (ratL_all _) T29 (.pure (ratE.pure _)) rfl rfl (ratE.csize _) (ratL_all _) T29 (.pure (ratE.pure _)) rfl (.pure rfl)
              · refine zg1 ?_
                refine st_nil ?_
                refine any_1 3 _ (by decide +kernel) rfl ?_
                refine zg1 ?_
                refine st_nil ?_
                refine any_1 6 _ (by decide +kernel) rfl ?_
                refine zg1 ?_
                refine st_nil ?_
                refine any_0 (by decide +kernel) ?_
                refine zg2 ?_
                exact retCCT [] rfl rfl rfl (ratE.csize _) (ratL_all _) T29 (.pure (ratE.pure _)) rfl rfl (ratE.csize _) (ratL_all _) T29 (.pure (ratE.pure _)) rfl (.pure rfl)
          · refine zg1 ?_
            refine st_nil ?_
            refine any_2 2 5 _ _ (by decide +kernel) rfl rfl ?_ ?_
            · refine zg1 ?_
              refine st_nil ?_
              refine any_2 3 5 _ _ (by decide +kernel) rfl rfl ?_ ?_
              · refine zg1 ?_
                refine st_nil ?_
                refine any_1 5 _ (by decide +kernel) rfl ?_
                refine zg1 ?_
                refine st_nil ?_
                refine any_1 6 _ (by decide +kernel) rfl ?_
                refine zg1 ?_
                refine st_nil ?_
                refine any_0 (by decide +kernel) ?_
                refine zg2 ?_
                exact retCCT [] rfl rfl rfl (ratE.csize _) (ratL_all _) T29 (.pure (ratE.pure _)) rfl rfl (ratE.csize _) (ratL_all _) T29 (.pure (ratE.pure _)) rfl (.pure rfl)
              · refine zg1 ?_
                refine st_nil ?_
                refine any_1 3 _ (by decide +kernel) rfl ?_
                refine zg1 ?_
                refine st_nil ?_
                refine any_1 6 _ (by decide +kernel) rfl ?_
                refine zg1 ?_
                refine st_nil ?_
                refine any_0 (by decide +kernel) ?_
                refine zg2 ?_
                exact retCCT [] rfl rfl rfl (ratE.csize _) (ratL_all _) T29 (.pure (ratE.pure _)) rfl rfl (ratE.csize _) (ratL_all _) T29 (.pure (ratE.pure _)) rfl (.pure rfl)
            · refine zg1 ?_
              refine st_nil ?_
              refine any_1 2 _ (by decide +kernel) rfl ?_
              refine zg1 ?_
              refine st_nil ?_
              refine any_1 3 _ (by decide +kernel) rfl ?_
              refine zg1 ?_
              refine st_nil ?_
              refine any_1 6 _ (by decide +kernel) rfl ?_
              refine zg1 ?_
              refine st_nil ?_
              refine any_0 (by decide +kernel) ?_
              refine zg2 ?_
              exact retCCT [] rfl rfl rfl (ratE.csize _) (ratL_all _) T29 (.pure (ratE.pure _)) rfl rfl (ratE.csize _) (ratL_all _) T29 (.pure (ratE.pure _)) rfl (.pure rfl)
        · refine zg1 ?_
          refine st_nil ?_
          refine any_2 0 3 _ _ (by decide +kernel) rfl rfl ?_ ?_
          · refine zg1 ?_
            refine st_nil ?_
            refine any_2 3 4 _ _ (by decide +kernel) rfl rfl ?_ ?_
            · refine zg1 ?_
              refine st_nil ?_
              refine any_1 4 _ (by decide +kernel) rfl ?_
              refine zg1 ?_
              refine st_nil ?_
              refine any_1 5 _ (by decide +kernel) rfl ?_
              refine zg1 ?_
              refine st_nil ?_
              refine any_1 6 _ (by decide +kernel) rfl ?_
              refine zg1 ?_
              refine st_nil ?_
              refine any_0 (by decide +kernel) ?_
              refine zg2 ?_
              exact retCCT [] rfl rfl rfl (ratE.csize _) (ratL_all _) T29 (.pure (ratE.pure _)) rfl rfl (ratE.csize _) (ratL_all _) T29 (.pure (ratE.pure _)) rfl (.pure rfl)
            · refine zg1 ?_
              refine st_nil ?_
              refine any_2 3 5 _ _ (by decide +kernel) rfl rfl ?_ ?_
              · refine zg1 ?_
                refine st_nil ?_
                refine any_1 5 _ (by decide +kernel) rfl ?_
                refine zg1 ?_
                refine st_nil ?_
                refine any_1 6 _ (by decide +kernel) rfl ?_
                refine zg1 ?_
                refine st_nil ?_
                refine any_0 (by decide +kernel) ?_
                refine zg2 ?_
                exact retCCT [] rfl rfl rfl (ratE.csize _) (ratL_all _) T29 (.pure (ratE.pure _)) rfl rfl (ratE.csize _) (ratL_all _) T29 (.pure (ratE.pure _)) rfl (.pure rfl)
              · refine zg1 ?_
                refine st_nil ?_
                refine any_1 3 _ (by decide +kernel) rfl ?_
                refine zg1 ?_
                refine st_nil ?_
                refine any_1 6 _ (by decide +kernel) rfl ?_
                refine zg1 ?_
                refine st_nil ?_
                refine any_0 (by decide +kernel) ?_
                refine zg2 ?_
                exact retCCT [] rfl rfl rfl (ratE.csize _) (ratL_all _) T29 (.pure (ratE.pure _)) rfl rfl (ratE.csize _) (ratL_all _) T29 (.pure (ratE.pure _)) rfl (.pure rfl)
          · refine zg1 ?_
            refine st_nil ?_
            refine any_1 0 _ (by decide +kernel) rfl ?_
            refine zg1 ?_
            refine st_nil ?_
            refine any_1 4 _ (by decide +kernel) rfl ?_
            refine zg1 ?_
            refine st_nil ?_
            refine any_1 5 _ (by decide +kernel) rfl ?_
            refine zg1 ?_
            refine st_nil ?_
            refine any_1 6 _ (by decide +kernel) rfl ?_
            refine zg1 ?_
            refine st_nil ?_
            refine any_0 (by decide +kernel) ?_
            refine zg2 ?_
            exact retCCT [] rfl rfl rfl (ratE.csize _) (ratL_all _) T29 (.pure (ratE.pure _)) rfl rfl (ratE.csize _) (ratL_all _) T29 (.pure (ratE.pure _)) rfl (.pure rfl)
      · refine zg1 ?_
        refine st_nil ?_
        refine any_3 0 1 3 _ _ _ (by decide +kernel) rfl rfl rfl ?_ ?_ ?_
        · refine zg1 ?_
          refine st_nil ?_
          refine any_3 1 3 4 _ _ _ (by decide +kernel) rfl rfl rfl ?_ ?_ ?_
          · refine zg1 ?_
            refine st_nil ?_
            refine any_2 3 4 _ _ (by decide +kernel) rfl rfl ?_ ?_
            · refine zg1 ?_
              refine st_nil ?_
              refine any_1 4 _ (by decide +kernel) rfl ?_
              refine zg1 ?_
              refine st_nil ?_
              refine any_1 5 _ (by decide +kernel) rfl ?_
              refine zg1 ?_
              refine st_nil ?_
              refine any_1 6 _ (by decide +kernel) rfl ?_
              refine zg1 ?_
              refine st_nil ?_
              refine any_0 (by decide +kernel) ?_
              refine zg2 ?_
              exact retCCT [] rfl rfl rfl (ratE.csize _) (ratL_all _) T29 (.pure (ratE.pure _)) rfl rfl (ratE.csize _) (ratL_all _) T29 (.pure (ratE.pure _)) rfl (.pure rfl)
            · refine zg1 ?_
              refine st_nil ?_
              refine any_2 3 5 _ _ (by decide +kernel) rfl rfl ?_ ?_
              · refine zg1 ?_
                refine st_nil ?_
                refine any_1 5 _ (by decide +kernel) rfl ?_
                refine zg1 ?_
                refine st_nil ?_
                refine any_1 6 _ (by decide +kernel) rfl ?_
                refine zg1 ?_
                refine st_nil ?_
                refine any_0 (by decide +kernel) ?_
                refine zg2 ?_
                exact retCCT [] rfl rfl rfl (ratE.csize _) (ratL_all _) T29 (.pure (ratE.pure _)) rfl rfl (ratE.csize _) (ratL_all _) T29 (.pure (ratE.pure _)) rfl (.pure rfl)
              · refine zg1 ?_
                refine st_nil ?_
                refine any_1 3 _ (by decide +kernel) rfl ?_
                refine zg1 ?_
                refine st_nil ?_
                refine any_1 6 _ (by decide +kernel) rfl ?_
                refine zg1 ?_
                refine st_nil ?_
                refine any_0 (by decide +kernel) ?_
                refine zg2 ?_
                exact retCCT [] rfl rfl rfl (ratE.csize _) (ratL_all _) T29 (.pure (ratE.pure _)) rfl rfl (ratE.csize _) (ratL_all _) T29 (.pure (ratE.pure _)) rfl (.pure rfl)
          · refine zg1 ?_
            refine st_nil ?_
            refine any_2 1 4 _ _ (by decide +kernel) rfl rfl ?_ ?_
            · refine zg1 ?_
              refine st_nil ?_
              refine any_1 4 _ (by decide +kernel) rfl ?_
              refine zg1 ?_
              refine st_nil ?_
              refine any_1 5 _ (by decide +kernel) rfl ?_
              refine zg1 ?_
              refine st_nil ?_
              refine any_1 6 _ (by decide +kernel) rfl ?_
              refine zg1 ?_
              refine st_nil ?_
              refine any_0 (by decide +kernel) ?_
              refine zg2 ?_
              exact retCCT [] rfl rfl rfl (ratE.csize _) (ratL_all _) T29 (.pure (ratE.pure _)) rfl rfl (ratE.csize _) (ratL_all _) T29 (.pure (ratE.pure _)) rfl (.pure rfl)
            · refine zg1 ?_
              refine st_nil ?_
              refine any_1 1 _ (by decide +kernel) rfl ?_
              refine zg1 ?_
              refine st_nil ?_
              refine any_1 5 _ (by decide +kernel) rfl ?_
              refine zg1 ?_
              refine st_nil ?_
              refine any_1 6 _ (by decide +kernel) rfl ?_
              refine zg1 ?_
              refine st_nil ?_
              refine any_0 (by decide +kernel) ?_
              refine zg2 ?_
              exact retCCT [] rfl rfl rfl (ratE.csize _) (ratL_all _) T29 (.pure (ratE.pure _)) rfl rfl (ratE.csize _) (ratL_all _) T29 (.pure (ratE.pure _)) rfl (.pure rfl)
          · refine zg1 ?_
            refine st_nil ?_
            refine any_2 1 3 _ _ (by decide +kernel) rfl rfl ?_ ?_
            · refine zg1 ?_
              refine st_nil ?_
              refine any_2 3 5 _ _ (by decide +kernel) rfl rfl ?_ ?_
              · refine zg1 ?_
                refine st_nil ?_
                refine any_1 5 _ (by decide +kernel) rfl ?_
                refine zg1 ?_
                refine st_nil ?_
                refine any_1 6 _ (by decide +kernel) rfl ?_
                refine zg1 ?_
                refine st_nil ?_
                refine any_0 (by decide +kernel) ?_
                refine zg2 ?_
                exact retCCT [] rfl rfl rfl (ratE.csize _) (ratL_all _) T29 (.pure (ratE.pure _)) rfl rfl (ratE.csize _) (ratL_all _) T29 (.pure (ratE.pure _)) rfl (.pure rfl)
              · refine zg1 ?_
                refine st_nil ?_
                refine any_1 3 _ (by decide +kernel) rfl ?_
                refine zg1 ?_
                refine st_nil ?_
                refine any_1 6 _ (by decide +kernel) rfl ?_
                refine zg1 ?_
                refine st_nil ?_
                refine any_0 (by decide +kernel) ?_
                refine zg2 ?_
                exact retCCT [] rfl rfl rfl (ratE.csize _) (ratL_all _) T29 (.pure (ratE.pure _)) rfl rfl (ratE.csize _) (ratL_all _) T29 (.pure (ratE.pure _)) rfl (.pure rfl)
            · refine zg1 ?_
              refine st_nil ?_
              refine any_1 1 _ (by decide +kernel) rfl ?_
              refine zg1 ?_
              refine st_nil ?_
              refine any_1 5 _ (by decide +kernel) rfl ?_
              refine zg1 ?_
              refine st_nil ?_
              refine any_1 6 _ (by decide +kernel) rfl ?_
              refine zg1 ?_
              refine st_nil ?_
              refine any_0 (by decide +kernel) ?_
              refine zg2 ?_
              exact retCCT [] rfl rfl rfl (ratE.csize _) (ratL_all _) T29 (.pure (ratE.pure _)) rfl rfl (ratE.csize _) (ratL_all _) T29 (.pure (ratE.pure _)) rfl (.pure rfl)
        · refine zg1 ?_
          refine st_nil ?_
          refine any_2 0 3 _ _ (by decide +kernel) rfl rfl ?_ ?_
          · refine zg1 ?_
            refine st_nil ?_
            refine any_2 3 4 _ _ (by decide +kernel) rfl rfl ?_ ?_
            · refine zg1 ?_
              refine st_nil ?_
              refine any_1 4 _ (by decide +kernel) rfl ?_
              refine zg1 ?_
              refine st_nil ?_
              refine any_1 5 _ (by decide +kernel) rfl ?_
              refine zg1 ?_
              refine st_nil ?_
              refine any_1 6 _ (by decide +kernel) rfl ?_
              refine zg1 ?_
              refine st_nil ?_
              refine any_0 (by decide +kernel) ?_
              refine zg2 ?_
              exact retCCT [] rfl rfl rfl (ratE.csize _) (ratL_all _) T29 (.pure (ratE.pure _)) rfl rfl (ratE.csize _) (ratL_all _) T29 (.pure (ratE.pure _)) rfl (.pure rfl)
            · refine zg1 ?_
              refine st_nil ?_
              refine any_2 3 5 _ _ (by decide +kernel) rfl rfl ?_ ?_
              · refine zg1 ?_
                refine st_nil ?_
                refine any_1 5 _ (by decide +kernel) rfl ?_
                refine zg1 ?_
                refine st_nil ?_
                refine any_1 6 _ (by decide +kernel) rfl ?_
                refine zg1 ?_
                refine st_nil ?_
                refine any_0 (by decide +kernel) ?_
                refine zg2 ?_
                exact retCCT [] rfl rfl rfl (ratE.csize _) (ratL_all _) T29 (.pure (ratE.pure _)) rfl rfl (ratE.csize _) (ratL_all _) T29 (.pure (ratE.pure _)) rfl (.pure rfl)
              · refine zg1 ?_
                refine st_nil ?_
                refine any_1 3 _ (by decide +kernel) rfl ?_
                refine zg1 ?_
                refine st_nil ?_
                refine any_1 6 _ (by decide +kernel) rfl ?_
                refine zg1 ?_
                refine st_nil ?_
                refine any_0 (by decide +kernel) ?_
                refine zg2 ?_
                exact retCCT [] rfl rfl rfl (ratE.csize _) (ratL_all _) T29 (.pure (ratE.pure _)) rfl rfl (ratE.csize _) (ratL_all _) T29 (.pure (ratE.pure _)) rfl (.pure rfl)
          · refine zg1 ?_
            refine st_nil ?_
            refine any_1 0 _ (by decide +kernel) rfl ?_
            refine zg1 ?_
            refine st_nil ?_
            refine any_1 4 _ (by decide +kernel) rfl ?_
            refine zg1 ?_
            refine st_nil ?_
            refine any_1 5 _ (by decide +kernel) rfl ?_
            refine zg1 ?_
            refine st_nil ?_
            refine any_1 6 _ (by decide +kernel) rfl ?_
            refine zg1 ?_
            refine st_nil ?_
            refine any_0 (by decide +kernel) ?_
            refine zg2 ?_
            exact retCCT [] rfl rfl rfl (ratE.csize _) (ratL_all _) T29 (.pure (ratE.pure _)) rfl rfl (ratE.csize _) (ratL_all _) T29 (.pure (ratE.pure _)) rfl (.pure rfl)
        · refine zg1 ?_
          refine st_nil ?_
          refine any_2 0 1 _ _ (by decide +kernel) rfl rfl ?_ ?_
          · refine zg1 ?_
            refine st_nil ?_
            refine any_2 1 4 _ _ (by decide +kernel) rfl rfl ?_ ?_
            · refine zg1 ?_
              refine st_nil ?_
              refine any_1 4 _ (by decide +kernel) rfl ?_
              refine zg1 ?_
              refine st_nil ?_
              refine any_1 5 _ (by decide +kernel) rfl ?_
              refine zg1 ?_
              refine st_nil ?_
              refine any_1 6 _ (by decide +kernel) rfl ?_
              refine zg1 ?_
              refine st_nil ?_
              refine any_0 (by decide +kernel) ?_
              refine zg2 ?_
              exact retCCT [] rfl rfl rfl (ratE.csize _) (ratL_all _) T29 (.pure (ratE.pure _)) rfl rfl (ratE.csize _) (ratL_all _) T29 (.pure (ratE.pure _)) rfl (.pure rfl)
            · refine zg1 ?_
              refine st_nil ?_
              refine any_1 1 _ (by decide +kernel) rfl ?_
              refine zg1 ?_
              refine st_nil ?_
              refine any_1 5 _ (by decide +kernel) rfl ?_
              refine zg1 ?_
              refine st_nil ?_
              refine any_1 6 _ (by decide +kernel) rfl ?_
              refine zg1 ?_
              refine st_nil ?_
              refine any_0 (by decide +kernel) ?_
              refine zg2 ?_
              exact retCCT [] rfl rfl rfl (ratE.csize _) (ratL_all _) T29 (.pure (ratE.pure _)) rfl rfl (ratE.csize _) (ratL_all _) T29 (.pure (ratE.pure _)) rfl (.pure rfl)
          · refine zg1 ?_
            refine st_nil ?_
            refine any_1 0 _ (by decide +kernel) rfl ?_
            refine zg1 ?_
            refine st_nil ?_
            refine any_1 4 _ (by decide +kernel) rfl ?_
            refine zg1 ?_
            refine st_nil ?_
            refine any_1 5 _ (by decide +kernel) rfl ?_
            refine zg1 ?_
            refine st_nil ?_
            refine any_1 6 _ (by decide +kernel) rfl ?_
            refine zg1 ?_
            refine st_nil ?_
            refine any_0 (by decide +kernel) ?_
            refine zg2 ?_
            exact retCCT [] rfl rfl rfl (ratE.csize _) (ratL_all _) T29 (.pure (ratE.pure _)) rfl rfl (ratE.csize _) (ratL_all _) T29 (.pure (ratE.pure _)) rfl (.pure rfl)
namespace H_c_Tan
theorem zSm {p q : Prop} (k : q) (e : p = q := by simp only [e1, e2, e3, e4, p1, p2, p3, q1, q2, q3, l1, t0, t1, r1, r2, r3, r4, Nat.zero_add, Nat.reduceMul, Nat.reduceAdd, b1, b2, b3, b4, b5, b6, i1, i2, i3, i4, i5, i6, Nat.reduceBEq, List.set_cons_zero, List.set_cons_succ, Nat.reduceEqDiff, reduceIte, if_true, if_false, ptL_kill, poL_kill, kills_map ptE, kills_map poE, kills_map ratE, ratL_kill, spL_kill, LV.kill, kills]; exact rfl) : p := e.mpr k
end H_c_Tan
open H_c_Tan in
theorem c_Tan (d : Nat) (T : Rat) (po : List PoR) (hT : rl T ≤ 1) (hT1 : rl (T + 1) ≤ 1) (h9 : d ≤ 6) (t : Rat) (ht : rl t ≤ 1000) (hin : hasR (T, T + 1) t = true) (h : cvF po d) (hd5 : d ≤ 5) : CallP Tryz.prog 31 [.agg [nI64 d, .list 3 ((kn0 d T).map ratL), .list 12 (po.map poL)], ratL t] (.tup [ptL (tanV po (t - T)), iL 0]) := by
  have hp0 : 0 < po.length := by have := h.hl; omega
  have hpu : ∀ l : List Rat, pures (l.map ratL) = true := fun l => pures_map ratE l
  have hkl := kn0_len d T
  have hlo := knB_lo d T
  have hhi := knB_hi d T
  have hcp : LV.pure (.agg [nI64 d, .list 3 ((kn0 d T).map ratL), .list 12 (po.map poL)]) = true := by simp [LV.pure, pures, pures_map ratE, pures_map poE]
  have hz1 := rl_sub t T
  have hr1 : rl 1 = 1 := rfl
  have hD := c_Dom d T po hT hT1 h9
  have hW : CallP Tryz.prog 140 [spL (T, T + 1)] (ratL 1) := by
    have := c_SWidth (T, T + 1) (by show rl (T + 1) + rl T ≤ _; omega)
    simp only [wid1] at this
    exact this
  have hQ : CallP Tryz.prog 125 [ratL (t - T), ratL 1] (.tup [ratL (t - T), iL 0]) := by
    have := c_RQuo (t - T) 1 (by omega)
    rw [div1, if_neg (by decide)] at this
    exact this
  have hH : CallP Tryz.prog 216 [spL (T, T + 1), ratL t] (bL true) := by
    have := c_SHas (T, T + 1) t (by show rl T + rl t ≤ _; omega) (by show rl t + rl (T + 1) ≤ _; omega)
    rwa [hin] at this
  have hl := h.hl
  have w1 := h.w
  have hs0 : HS (wtP po) (t - T) := hs_ofK (by omega) (fun x hx => Nat.le_trans (w1.2 x hx) (by decide)) (by omega)
  have q0 := hs0.ev
  have m0 := rl_mul (evP (wtP po) (t - T)) (evP (wtP po) (t - T))
  have m1 := rl_div 1 ((evP (wtP po) (t - T)) * (evP (wtP po) (t - T)))
  have u0 := h.t 0
  have v0 : HS (trP po 0) (t - T) := hs_ofK (by omega) (fun x hx => Nat.le_trans (u0.2 x hx) (by decide)) (by omega)
  have y0 := v0.ev
  have u1 := h.t 1
  have v1 : HS (trP po 1) (t - T) := hs_ofK (by omega) (fun x hx => Nat.le_trans (u1.2 x hx) (by decide)) (by omega)
  have y1 := v1.ev
  have u2 := h.t 2
  have v2 : HS (trP po 2) (t - T) := hs_ofK (by omega) (fun x hx => Nat.le_trans (u2.2 x hx) (by decide)) (by omega)
  have y2 := v2.ev
  have h1c : CallP Tryz.prog 126 [iL 1] (ratL 1) := c_RInt 1 (by decide) (by decide)
  have hM : CallP Tryz.prog 127 [ratL 1, ratL ((evP (wtP po) (t - T)) * (evP (wtP po) (t - T)))] (ratL ((evP (wtP po) (t - T)) * (evP (wtP po) (t - T)))) := by
    have := c_RMul 1 ((evP (wtP po) (t - T)) * (evP (wtP po) (t - T))) (by omega)
    rwa [Rat.one_mul] at this
  refine fnP Tryz.func31 (ht := (tame2 (ptE.pure _) rfl)) ?_
  refine zg12 ?_
  refine cp am2 (c_own d T po hT hT1 h9 t ht hin hp0) ?_
  refine zg18 ?_
  refine wl_if rfl (fun h23r h23 => ?_) (fun h23r h23 => ?_)
  · first | exact h23.elim | cases h23r
  · refine zg3 ?_
    refine wl_regD 6 (by decide +kernel) ?_
    refine zg1 ?_
    refine cp am1 (c_BNum d (kn0 d T) po h) ?_
    refine zg2 ?_
    refine cp am2 (c_BEval (wtP po) (t - T) hs0 (by omega)) ?_
    refine zg5 ?_
    refine wl_regF 11 [9] (by decide +kernel) ?_
    refine cp am1 (h1c) ?_
    refine zg3 ?_
    refine cp am2 (c_RMul (evP (wtP po) (t - T)) (evP (wtP po) (t - T)) (by omega)) ?_
    refine cp am2 (hM) ?_
    refine cp am2 (c_RQuo 1 ((evP (wtP po) (t - T)) * (evP (wtP po) (t - T))) (by omega)) ?_
    refine zg17 ?_
    refine cp am1 (c_turns d (kn0 d T) po h) ?_
    refine zg4 ?_
    refine wl_unroll ?_
    refine zg6 ?_
    refine wl_condX (b := _) rfl (by decide) ?_
    refine zg12 ?_
    refine wl_regD 7 (by decide +kernel) ?_
    refine zg4 ?_
    refine cp am2 (c_BEval (trP po 0) (t - T) v0 (by omega)) ?_
    refine cp am2 (c_RMul (1 / ((evP (wtP po) (t - T)) * (evP (wtP po) (t - T)))) (evP (trP po 0) (t - T)) (by omega)) ?_
    refine zg10 ?_
    refine wl_unroll ?_
    refine zg6 ?_
    refine wl_condX (b := _) rfl (by decide) ?_
    refine zg12 ?_
    refine wl_regD 7 (by decide +kernel) ?_
    refine zg4 ?_
    refine cp am2 (c_BEval (trP po 1) (t - T) v1 (by omega)) ?_
    refine cp am2 (c_RMul (1 / ((evP (wtP po) (t - T)) * (evP (wtP po) (t - T)))) (evP (trP po 1) (t - T)) (by omega)) ?_
    refine zg10 ?_
    refine wl_unroll ?_
    refine zg6 ?_
    refine wl_condX (b := _) rfl (by decide) ?_
    refine zg12 ?_
    refine wl_regD 7 (by decide +kernel) ?_
    refine zg4 ?_
    refine cp am2 (c_BEval (trP po 2) (t - T) v2 (by omega)) ?_
    refine cp am2 (c_RMul (1 / ((evP (wtP po) (t - T)) * (evP (wtP po) (t - T)))) (evP (trP po 2) (t - T)) (by omega)) ?_
    refine zg10 ?_
    refine wl_unroll ?_
    refine zg6 ?_
    refine wl_condY (b := _) rfl (by decide) ?_
    refine zg13 ?_
    exact retCT [] rfl rfl rfl cs (at_all cs rfl) T31 (.pure pu) rfl (.pure rfl)
end Go.Proofs.YtgfbghoihhnahaaGreat
end
section
set_option linter.unusedVariables false
set_option linter.unusedSimpArgs false
set_option maxHeartbeats 8000000
set_option maxRecDepth 100000
attribute [local irreducible] Go.Lg.opsL Go.Lg.wpL Go.Lg.thenL Go.Lg.blockL
namespace Go.Proofs.YtgfbghoihhnahaaGreat
open Go.Lg
namespace H_c_Adv
theorem zSm {p q : Prop} (k : q) (e : p = q := by simp only [e1, e2, e3, e4, p1, p2, p3, q1, q2, q3, l1, t0, t1, r1, r2, r3, r4, Nat.zero_add, Nat.reduceMul, Nat.reduceAdd, b1, b2, b3, b4, b5, b6, i1, i2, i3, i4, i5, i6, Nat.reduceBEq, List.set_cons_zero, List.set_cons_succ, Nat.reduceEqDiff, reduceIte, if_true, if_false, ptL_kill, poL_kill, kills_map ptE, kills_map poE, kills_map ratE, ratL_kill, spL_kill, LV.kill, kills]; exact rfl) : p := e.mpr k
end H_c_Adv
open H_c_Adv in
theorem c_Adv (d : Nat) (kn : List Rat) (po : List PoR) (h : cvF po d) (v : V3) (hv : bd3 1 v) : CallP Tryz.prog 22 [.agg [nI64 d, .list 3 (kn.map ratL), .list 12 (po.map poL)], ptL v] (iL (advV (bndP (smA po v)))) := by
  have hl := h.hl
  have hd := h.hd
  have h6 := h.h6
  have hcp : LV.pure (.agg [nI64 d, .list 3 (kn.map ratL), .list 12 (po.map poL)]) = true := by simp [LV.pure, pures, pures_map ratE, pures_map poE]
  have hpu : ∀ l : List Rat, pures (l.map ratL) = true := fun l => pures_map ratE l
  obtain ⟨v0, v1, v2⟩ := hv
  have tt0 := h.t 0
  have s0 := scP_rl v0 tt0.2
  have g0 : (scP v.x (trP po 0)).length = 2 * d - 1 + 1 := by rw [scP_len]; exact tt0.1
  have tt1 := h.t 1
  have s1 := scP_rl v1 tt1.2
  have g1 : (scP v.y (trP po 1)).length = 2 * d - 1 + 1 := by rw [scP_len]; exact tt1.1
  have tt2 := h.t 2
  have s2 := scP_rl v2 tt2.2
  have g2 : (scP v.z (trP po 2)).length = 2 * d - 1 + 1 := by rw [scP_len]; exact tt2.1
  have z1 := zipK_rl2 add_rlK (by decide) (by decide) s0 s1
  have z2 := zipK_rl2 add_rlK (by decide) (by decide) z1 s2
  have gz : (zipG (· + ·) (scP v.x (trP po 0)) (scP v.y (trP po 1))).length = 2 * d - 1 + 1 := by rw [zipG_len]; exact g0
  have hbd := bnd_rl (by decide) z2
  have gs : (smA po v).length = 2 * d - 1 + 1 := by rw [smA, zipG_len]; exact gz
  refine fnP Tryz.func22 ?_
  refine zg9 ?_
  refine st_pure rfl (.build0 SL29 Z29a) ?_
  refine zg8 ?_
  refine cp am1 (c_turns d kn po h) ?_
  refine zg4 ?_
  refine wl_unroll ?_
  refine zg6 ?_
  refine wl_condX (b := _) rfl (by decide) ?_
  refine zg18 ?_
  refine cp am2 (c_BScale v.x (trP po 0) (by omega) (fun x hx => by have := tt0.2 x hx; omega)) ?_
  refine st_callPf [10] rfl rfl (.cons (imm_refm (l := [0]) ratE rfl rfl rfl) (.cons (.pure (pure_lst ratE _ _)) .nil)) (c_BAdd0 (scP v.x (trP po 0)) (2 * d - 1) (by omega) g0 (fun x hx => Nat.le_trans (s0 x hx) (by decide))) ?_
  refine zg9 ?_
  refine wl_unroll ?_
  refine zg6 ?_
  refine wl_condX (b := _) rfl (by decide) ?_
  refine zg18 ?_
  refine cp am2 (c_BScale v.y (trP po 1) (by omega) (fun x hx => by have := tt1.2 x hx; omega)) ?_
  refine cp am2 (c_BAdds (scP v.x (trP po 0)) (scP v.y (trP po 1)) (2 * d - 1) (by omega) g0 g1 (fun x hx => Nat.le_trans (s0 x hx) (by decide)) (fun x hx => Nat.le_trans (s1 x hx) (by decide))) ?_
  refine zg9 ?_
  refine wl_unroll ?_
  refine zg6 ?_
  refine wl_condX (b := _) rfl (by decide) ?_
  refine zg18 ?_
  refine cp am2 (c_BScale v.z (trP po 2) (by omega) (fun x hx => by have := tt2.2 x hx; omega)) ?_
  refine cp am2 (c_BAdds (zipG (· + ·) (scP v.x (trP po 0)) (scP v.y (trP po 1))) (scP v.z (trP po 2)) (2 * d - 1) (by omega) gz g2 (fun x hx => Nat.le_trans (z1 x hx) (by decide)) (fun x hx => Nat.le_trans (s2 x hx) (by decide))) ?_
  refine zg9 ?_
  refine wl_unroll ?_
  refine zg6 ?_
  refine wl_condY (b := _) rfl (by decide) ?_
  refine zg9 ?_
  refine cp am1 (c_Bounds (smA po v) (by omega) (fun x hx => Nat.le_trans (z2 x hx) (by decide))) ?_
  refine zg9 ?_
  refine cp am1 (c_RSign (bndP (smA po v)).1 (Nat.le_trans hbd.1 (by decide))) ?_
  refine zg4 ?_
  refine wl_if rfl (fun h27r h27 => ?_) (fun h27r h27 => ?_)
  · have hV : advV (bndP (smA po v)) = 1 := by unfold advV; rw [if_pos (by omega)]
    refine zg8 ?_
    rw [hV]
    exact ret1 rfl (.pure rfl)
  · refine zg4 ?_
    refine cp am1 (c_RSign (bndP (smA po v)).2 (Nat.le_trans hbd.2 (by decide))) ?_
    refine zg4 ?_
    refine wl_if rfl (fun h32r h32 => ?_) (fun h32r h32 => ?_)
    · have hV : advV (bndP (smA po v)) = 0 := by unfold advV; rw [if_neg (by omega), if_pos (by omega)]
      refine zg8 ?_
      rw [hV]
      exact ret1 rfl (.pure rfl)
    · have hV : advV (bndP (smA po v)) = 2 := by unfold advV; rw [if_neg (by omega), if_neg (by omega)]
      refine zg9 ?_
      rw [hV]
      exact ret1 rfl (.pure rfl)
end Go.Proofs.YtgfbghoihhnahaaGreat
end
section
set_option linter.unusedVariables false
set_option linter.unusedSimpArgs false
set_option maxHeartbeats 8000000
set_option maxRecDepth 100000
attribute [local irreducible] Go.Lg.opsL Go.Lg.wpL Go.Lg.thenL Go.Lg.blockL
namespace Go.Proofs.YtgfbghoihhnahaaGreat
open Go.Lg
section
variable {P : Program} {H : Heap} {ρ : Operand → LV} {T E : TypeId}
theorem bdW {o1 : Operand} {r : Rat} [z : ZI P T (.agg [.agg [ratL 0, ratL 0, ratL 0], ratL 0])] [s : SI P T [(9, true), (3, true)]] (h1 : ρ o1 = ratL r) :
    OpP P H ρ (.build T #[(1, o1)]) (poL ⟨⟨0, 0, 0⟩, r⟩) := by
  have := OpP.bd (H := H) (ρ := ρ) (ps := #[(1, o1)]) (z := z) (s := s) (by simp [lay, LV.csize, csizes, ratE.csize, ratE.isAgg, isAgg_agg]) (by
    intro q hq
    simp only [List.mem_cons, List.not_mem_nil, or_false] at hq
    subst hq
    exact ⟨_, rfl, by rw [h1]; simp [lay, ratE.csize, ratE.isAgg], by rw [h1]; exact LV.pure_ne_any (ratE.pure _), by rw [h1]; exact LV.pure_ne_tup (ratE.pure _)⟩)
  simp only [buildL, List.map, List.foldl, List.set, h1] at this
  exact this
theorem bdP1 {o0 : Operand} {a : Rat} [u : UN P T (.array 3 E)] [t : TI P E 3 true] [z : ZI P T (.agg [ratL 0, ratL 0, ratL 0])] (h0 : ρ o0 = ratL a) : OpP P H ρ (.build T #[(0, o0)]) (ptL ⟨a, 0, 0⟩) := by
  have := OpP.bda (H := H) (ρ := ρ) (ps := #[(0, o0)]) (u := u) (t := t) (z := z) (by simp [lay, ratE.csize, ratE.isAgg]) (by
    intro q hq
    simp only [List.mem_cons, List.not_mem_nil, or_false] at hq
    subst hq
    exact ⟨_, rfl, by rw [h0]; simp [lay, ratE.csize, ratE.isAgg], by rw [h0]; exact LV.pure_ne_any (ratE.pure _), by rw [h0]; exact LV.pure_ne_tup (ratE.pure _)⟩)
  simp only [buildL, List.map, List.foldl, List.set, h0] at this
  exact this
theorem bdP2 {o0 o1 : Operand} {a b : Rat} [u : UN P T (.array 3 E)] [t : TI P E 3 true] [z : ZI P T (.agg [ratL 0, ratL 0, ratL 0])] (h0 : ρ o0 = ratL a) (h1 : ρ o1 = ratL b) : OpP P H ρ (.build T #[(0, o0), (1, o1)]) (ptL ⟨a, b, 0⟩) := by
  have := OpP.bda (H := H) (ρ := ρ) (ps := #[(0, o0), (1, o1)]) (u := u) (t := t) (z := z) (by simp [lay, ratE.csize, ratE.isAgg]) (by
    intro q hq
    simp only [List.mem_cons, List.not_mem_nil, or_false] at hq
    rcases hq with rfl | rfl
    · exact ⟨_, rfl, by rw [h0]; simp [lay, ratE.csize, ratE.isAgg], by rw [h0]; exact LV.pure_ne_any (ratE.pure _), by rw [h0]; exact LV.pure_ne_tup (ratE.pure _)⟩
    · exact ⟨_, rfl, by rw [h1]; simp [lay, ratE.csize, ratE.isAgg], by rw [h1]; exact LV.pure_ne_any (ratE.pure _), by rw [h1]; exact LV.pure_ne_tup (ratE.pure _)⟩)
  simp only [buildL, List.map, List.foldl, List.set, h0, h1] at this
  exact this
end
def paK : List Rat := [0, 0, 0, 1, 1, 1]
def paP : List PoR := [⟨⟨0, 0, 0⟩, 1⟩, ⟨⟨1, 1, 0⟩, 1⟩, ⟨⟨2, 0, 0⟩, 1⟩]
theorem paK_eq : kn0 2 0 = paK := by decide +kernel
theorem pa_ok : cvF paP 2 := ⟨rfl, by decide, by decide, fun q hq => by
  simp only [paP, List.mem_cons, List.not_mem_nil, or_false] at hq
  rcases hq with rfl | rfl | rfl <;> exact ⟨⟨by decide +kernel, by decide +kernel, by decide +kernel⟩, by decide +kernel, by decide +kernel⟩⟩
theorem pa_kn : kOK paK 2 := paK_eq ▸ kn0_ok (by decide) (by decide) (by decide +kernel) (by decide +kernel)
theorem pa_chd : chdP paP = 1 := by decide +kernel
theorem pa_adv0 : advV (bndP (smA paP ⟨1, 0, 0⟩)) = 1 := by decide +kernel
theorem pa_adv1 : advV (bndP (smA paP ⟨0, 1, 0⟩)) = 2 := by decide +kernel
theorem pa_tan : tanV paP (0 - 0) = ⟨2, 2, 0⟩ := by
  have h1 : (tanV paP (0 - 0)).x = 2 := by decide +kernel
  have h2 : (tanV paP (0 - 0)).y = 2 := by decide +kernel
  have h3 : (tanV paP (0 - 0)).z = 0 := by decide +kernel
  generalize tanV paP (0 - 0) = v at *
  obtain ⟨a, b, c⟩ := v
  simp only at h1 h2 h3
  rw [h1, h2, h3]
theorem c_tx1 : CallP Tryz.prog 97 [ratL 1] (.v (.string ⟨#[49]⟩)) := by
  have := c_FText 1 (by decide +kernel) (by decide +kernel) (by decide +kernel)
  exact this
theorem c_tx2 : CallP Tryz.prog 97 [ratL 2] (.v (.string ⟨#[50]⟩)) := by
  have := c_FText 2 (by decide +kernel) (by decide +kernel) (by decide +kernel)
  exact this
namespace H_c_parab
theorem zSm {p q : Prop} (k : q) (e : p = q := by simp only [e1, e2, e3, e4, p1, p2, p3, q1, q2, q3, l1, t0, t1, r1, r2, r3, r4, Nat.zero_add, Nat.reduceMul, Nat.reduceAdd, b1, b2, b3, b4, b5, b6, i1, i2, i3, i4, i5, i6, Nat.reduceBEq, List.set_cons_zero, List.set_cons_succ, Nat.reduceEqDiff, reduceIte, if_true, if_false, ptL_kill, poL_kill, kills_map ptE, kills_map poE, kills_map ratE, ratL_kill, spL_kill, LV.kill, kills]; exact rfl) : p := e.mpr k
end H_c_parab
open H_c_parab in
theorem c_parab  : CallP Tryz.prog 96 [] (.agg [nI64 2, .list 3 (paK.map ratL), .list 12 (paP.map poL)]) := by
  have h1 : CallP Tryz.prog 136 [iL 1] (ratL 1) := c_FInt 1 (by decide) (by decide)
  have h2 : CallP Tryz.prog 136 [iL 2] (ratL 2) := c_FInt 2 (by decide) (by decide)
  refine fnP Tryz.func96 (ht := (fun g => LV.ren_pure g _ (by simp [LV.pure, pures, pures_map ratE, pures_map poE]))) ?_
  refine zg7 ?_
  refine cp am1 (h1) ?_
  refine cp am1 (h2) ?_
  refine zg8 ?_
  refine st_pure rfl (.build0 SL29 Z29a) ?_
  refine st_pure rfl (.build0 SL29 Z29a) ?_
  refine st_pure rfl (.build0 SL29 Z29a) ?_
  refine zg3 ?_
  refine st_alloc rfl rfl (lit6 (a0 := 0) (a1 := 0) (a2 := 0) (a3 := 1) (a4 := 1) (a5 := 1) ratE Tryz.underlying33 (ratL_zero ▸ Z29a) T29 rfl rfl rfl rfl rfl rfl (by decide) (by decide)) ?_
  refine zg1 ?_
  refine s0bd (bdW rfl) ?_
  refine zg2 ?_
  refine s0bd (bdP2 rfl rfl) ?_
  refine zg1 ?_
  refine s0bd (bdPo (p := ⟨1, 1, 0⟩) (r := 1) rfl rfl) ?_
  refine zg1 ?_
  refine s0bd (bdP1 rfl) ?_
  refine zg1 ?_
  refine s0bd (bdPo (p := ⟨2, 0, 0⟩) (r := 1) rfl rfl) ?_
  refine st_alloc rfl rfl (.lit3 (a := ⟨⟨0, 0, 0⟩, 1⟩) (b := ⟨⟨1, 1, 0⟩, 1⟩) (c := ⟨⟨2, 0, 0⟩, 1⟩) (z := ⟨⟨0, 0, 0⟩, 0⟩) poE Tryz.underlying34 (show ZeroOK _ _ (poL ⟨⟨0, 0, 0⟩, 0⟩) from Z100) T100 rfl rfl rfl (by decide) (by decide)) ?_
  refine zg5 ?_
  exact retC [11, 23] rfl rfl rfl cs (at_all cs rfl) T36 (.agg (.cons (.pure rfl) (.cons (imm_refm (l := paK) ratE rfl rfl rfl) (.cons (imm_refm (l := paP) poE rfl rfl rfl) .nil))))
namespace H_c_Unit0
theorem zSm {p q : Prop} (k : q) (e : p = q := by simp only [e1, e2, e3, e4, p1, p2, p3, q1, q2, q3, l1, t0, t1, r1, r2, r3, r4, Nat.zero_add, Nat.reduceMul, Nat.reduceAdd, b1, b2, b3, b4, b5, b6, i1, i2, i3, i4, i5, i6, Nat.reduceBEq, List.set_cons_zero, List.set_cons_succ, Nat.reduceEqDiff, reduceIte, if_true, if_false, ptL_kill, poL_kill, kills_map ptE, kills_map poE, kills_map ratE, ratL_kill, spL_kill, LV.kill, kills]; exact rfl) : p := e.mpr k
end H_c_Unit0
open H_c_Unit0 in
theorem c_Unit0  : CallP Tryz.prog 98 [iL 0] (ptL ⟨1, 0, 0⟩) := by
  have h1 : CallP Tryz.prog 136 [iL 1] (ratL 1) := c_FInt 1 (by decide) (by decide)
  refine fnP Tryz.func98 (ht := (fun r => LV.ren_pure r _ (ptE.pure _))) ?_
  refine zg13 ?_
  refine cp am1 (h1) ?_
  refine zg11 ?_
  exact retC [] rfl rfl rfl cs (at_all cs rfl) T31 (.pure pu)
namespace H_c_Unit1
theorem zSm {p q : Prop} (k : q) (e : p = q := by simp only [e1, e2, e3, e4, p1, p2, p3, q1, q2, q3, l1, t0, t1, r1, r2, r3, r4, Nat.zero_add, Nat.reduceMul, Nat.reduceAdd, b1, b2, b3, b4, b5, b6, i1, i2, i3, i4, i5, i6, Nat.reduceBEq, List.set_cons_zero, List.set_cons_succ, Nat.reduceEqDiff, reduceIte, if_true, if_false, ptL_kill, poL_kill, kills_map ptE, kills_map poE, kills_map ratE, ratL_kill, spL_kill, LV.kill, kills]; exact rfl) : p := e.mpr k
end H_c_Unit1
open H_c_Unit1 in
theorem c_Unit1  : CallP Tryz.prog 98 [iL 1] (ptL ⟨0, 1, 0⟩) := by
  have h1 : CallP Tryz.prog 136 [iL 1] (ratL 1) := c_FInt 1 (by decide) (by decide)
  refine fnP Tryz.func98 (ht := (fun r => LV.ren_pure r _ (ptE.pure _))) ?_
  refine zg13 ?_
  refine cp am1 (h1) ?_
  refine zg11 ?_
  exact retC [] rfl rfl rfl cs (at_all cs rfl) T31 (.pure pu)
namespace H_c_awake11
theorem zSm {p q : Prop} (k : q) (e : p = q := by simp only [e1, e2, e3, e4, p1, p2, p3, q1, q2, q3, l1, t0, t1, r1, r2, r3, r4, Nat.zero_add, Nat.reduceMul, Nat.reduceAdd, b1, b2, b3, b4, b5, b6, i1, i2, i3, i4, i5, i6, Nat.reduceBEq, List.set_cons_zero, List.set_cons_succ, Nat.reduceEqDiff, reduceIte, if_true, if_false, ptL_kill, poL_kill, kills_map ptE, kills_map poE, kills_map ratE, ratL_kill, spL_kill, LV.kill, kills]; exact rfl) : p := e.mpr k
end H_c_awake11
open H_c_awake11 in
theorem c_awake11  : CallP Tryz.prog 15 [] (bL true) := by
  have hcp : LV.pure (.agg [nI64 2, .list 3 (paK.map ratL), .list 12 (paP.map poL)]) = true := by simp [LV.pure, pures, pures_map ratE, pures_map poE]
  have hT : CallP Tryz.prog 31 [.agg [nI64 2, .list 3 (paK.map ratL), .list 12 (paP.map poL)], ratL 0] (.tup [ptL ⟨2, 2, 0⟩, iL 0]) := by
    have := c_Tan 2 0 paP (by decide) (by decide +kernel) (by decide) 0 (by decide +kernel) (by decide +kernel) pa_ok (by decide)
    rwa [pa_tan, paK_eq] at this
  have hC : CallP Tryz.prog 20 [.agg [nI64 2, .list 3 (paK.map ratL), .list 12 (paP.map poL)]] (ratL 1) := by
    have := c_Chord 2 paK paP pa_ok
    rwa [pa_chd] at this
  have hA0 : CallP Tryz.prog 22 [.agg [nI64 2, .list 3 (paK.map ratL), .list 12 (paP.map poL)], ptL ⟨1, 0, 0⟩] (iL 1) := by
    have := c_Adv 2 paK paP pa_ok ⟨1, 0, 0⟩ ⟨by decide +kernel, by decide +kernel, by decide +kernel⟩
    rwa [pa_adv0] at this
  have hA1 : CallP Tryz.prog 22 [.agg [nI64 2, .list 3 (paK.map ratL), .list 12 (paP.map poL)], ptL ⟨0, 1, 0⟩] (iL 2) := by
    have := c_Adv 2 paK paP pa_ok ⟨0, 1, 0⟩ ⟨by decide +kernel, by decide +kernel, by decide +kernel⟩
    rwa [pa_adv1] at this
  have hB : CallP Tryz.prog 57 [.agg [nI64 2, .list 3 (paK.map ratL), .list 12 (paP.map poL)]] (iL 0) := c_BzCheck 2 paK paP pa_ok pa_kn rfl
  refine fnP Tryz.func15 ?_
  refine zg7 ?_
  refine cp am0 (c_parab) ?_
  refine zg7 ?_
  refine st_pure rfl (.build0 SL29 Z29a) ?_
  refine cp am2 (hT) ?_
  refine zg9 ?_
  refine wl_regD 38 (by decide +kernel) ?_
  refine zg1 ?_
  refine cp am1 (hB) ?_
  refine zg2 ?_
  refine st_pure (guardX (v := true) rfl rfl ((by decide +kernel)) rfl) ldA ?_
  refine st_callP (guardX (v := true) rfl rfl ((by decide +kernel)) rfl) (.cons im0 .nil) (hC) ?_
  refine st_callP (guardX (v := true) rfl rfl ((by decide +kernel)) rfl) (.cons im0 .nil) (c_tx1) ?_
  refine st_pure (guardX (v := true) rfl rfl ((by decide +kernel)) rfl) (.eqS rfl rfl) ?_
  refine st_pure rfl (.pickT rfl ((by decide +kernel))) ?_
  refine zg1 ?_
  refine st_pure (guardX (v := true) rfl rfl ((by decide +kernel)) rfl) ldA ?_
  refine st_callP (guardX (v := true) rfl rfl ((by decide +kernel)) rfl) (.cons im0 .nil) (c_Unit0) ?_
  refine st_callP (guardX (v := true) rfl rfl ((by decide +kernel)) rfl) (.cons im0 (.cons im0 .nil)) (hA0) ?_
  refine st_pure (guardX (v := true) rfl rfl ((by decide +kernel)) rfl) (.bin rfl rfl rfl) ?_
  refine st_pure rfl (.pickT rfl ((by decide +kernel))) ?_
  refine zg1 ?_
  refine st_pure (guardX (v := true) rfl rfl ((by decide +kernel)) rfl) ldA ?_
  refine st_callP (guardX (v := true) rfl rfl ((by decide +kernel)) rfl) (.cons im0 .nil) (c_Unit1) ?_
  refine st_callP (guardX (v := true) rfl rfl ((by decide +kernel)) rfl) (.cons im0 (.cons im0 .nil)) (hA1) ?_
  refine st_pure (guardX (v := true) rfl rfl ((by decide +kernel)) rfl) (.bin rfl rfl rfl) ?_
  refine st_pure rfl (.pickT rfl ((by decide +kernel))) ?_
  refine zg1 ?_
  refine st_pure (guardX (v := true) rfl rfl ((by decide +kernel)) rfl) (.move _) ?_
  refine st_pure (guardX (v := true) rfl rfl ((by decide +kernel)) rfl) (.bin rfl rfl rfl) ?_
  refine st_pure rfl (.pickT rfl ((by decide +kernel))) ?_
  refine zg1 ?_
  refine st_pure (guardX (v := true) rfl rfl ((by decide +kernel)) rfl) ixA ?_
  refine st_pure (guardX (v := true) rfl rfl ((by decide +kernel)) rfl) ldA ?_
  refine st_callP (guardX (v := true) rfl rfl ((by decide +kernel)) rfl) (.cons im0 .nil) (c_tx2) ?_
  refine st_pure (guardX (v := true) rfl rfl ((by decide +kernel)) rfl) (.eqS rfl rfl) ?_
  refine st_pure rfl (.pickT rfl ((by decide +kernel))) ?_
  refine zg1 ?_
  refine st_pure (guardX (v := true) rfl rfl ((by decide +kernel)) rfl) ixA ?_
  refine st_pure (guardX (v := true) rfl rfl ((by decide +kernel)) rfl) ldA ?_
  refine st_callP (guardX (v := true) rfl rfl ((by decide +kernel)) rfl) (.cons im0 .nil) (c_tx2) ?_
  refine st_pure (guardX (v := true) rfl rfl ((by decide +kernel)) rfl) (.eqS rfl rfl) ?_
  refine st_pure rfl (.pickT rfl ((by decide +kernel))) ?_
  refine zg4 ?_
  refine ret1 (x := bL ((⟨#[50]⟩ : ByteArray).toList == (⟨#[50]⟩ : ByteArray).toList)) rfl ?_
  have hbb : ((⟨#[50]⟩ : ByteArray).toList == (⟨#[50]⟩ : ByteArray).toList) = true := beq_self_eq_true _
  rw [hbb]
  exact .pure rfl
end Go.Proofs.YtgfbghoihhnahaaGreat
end
section
set_option linter.unusedVariables false
set_option linter.unusedSimpArgs false
set_option maxHeartbeats 8000000
set_option maxRecDepth 100000
attribute [local irreducible] Go.Lg.opsL Go.Lg.wpL Go.Lg.thenL Go.Lg.blockL
namespace Go.Proofs.YtgfbghoihhnahaaGreat
open Go.Lg
theorem wt_lo {po : List PoR} {d : Nat} (h : cvF po d) : 0 < (bndP (wtP po)).1 := by
  have hl := wtP_len po
  have h0 : 0 < (wtP po).length := by rw [hl, h.hl]; omega
  obtain ⟨i, hi, e⟩ := ((bk_spec (wtP po) (wtP po).length).2 h0).1
  show 0 < (bkP (wtP po) (wtP po).length).1
  rw [e]
  obtain ⟨q, hq, hw⟩ := List.mem_map.1 (getD_mem (p := wtP po) hi)
  rw [← hw]
  exact (h.ok q hq).2.2
theorem bnd_le12 {p : List Rat} (h : 0 < p.length) : (bndP p).1 ≤ (bndP p).2 := by
  have := (bk_spec p p.length).1 0 h
  exact Rat.le_trans this.1 this.2
theorem sq_pos {s : Rat × Rat} (h : 0 < s.1) (h2 : s.1 ≤ s.2) : sqS s = (s.1 * s.1, s.2 * s.2) ∧ hasR (sqS s) 0 = false := by
  have hn : hasR s 0 = false := by unfold hasR; rw [decide_eq_false (by grind)]; rfl
  have hm : s.1 * s.1 ≤ s.2 * s.2 := Rat.le_trans (Rat.mul_le_mul_of_nonneg_left h2 (Rat.le_of_lt h)) (Rat.mul_le_mul_of_nonneg_right h2 (by grind))
  have hp := Rat.mul_pos h h
  have e : sqS s = (s.1 * s.1, s.2 * s.2) := by
    unfold sqS
    rw [if_neg (by rw [hn]; decide)]
    unfold mnR mxR
    rw [if_neg (by grind)]
    split
    · rfl
    · have : s.1 * s.1 = s.2 * s.2 := by grind
      rw [this]
  refine ⟨e, ?_⟩
  rw [e]
  unfold hasR
  rw [decide_eq_false (by show ¬(s.1 * s.1 ≤ 0); grind)]; rfl
theorem rc_one : rcS (1, 1) = (1, 1) := by decide +kernel
theorem qu_one (s : Rat × Rat) : quS s (1, 1) = muS s (1, 1) := by unfold quS; rw [rc_one]
def spK (po : List PoR) (k : Nat) : Rat × Rat := muS (quS (bndP (trP po k)) (sqS (bndP (wtP po)))) (1, 1)
def spd (po : List PoR) : Bx3 := ⟨spK po 0, spK po 1, spK po 2⟩
section
variable {po : List PoR} {d : Nat} (h : cvF po d)
include h
theorem wt_sq : bdS 4 (sqS (bndP (wtP po))) ∧ hasR (sqS (bndP (wtP po))) 0 = false := by
  have h0 : 0 < (wtP po).length := by rw [wtP_len, h.hl]; omega
  exact ⟨sqS_bd (bnd_rl (by decide) h.w.2) (by decide), (sq_pos (wt_lo h) (bnd_le12 h0)).2⟩
theorem tr_bd (k : Nat) : bdS 689401 (bndP (trP po k)) := bnd_rl (by decide) (h.t k).2
theorem qu_bd (k : Nat) : bdS 689406 (quS (bndP (trP po k)) (sqS (bndP (wtP po)))) := (quS_bd (tr_bd h k) (wt_sq h).1).le (by decide)
theorem sp_bd : bdB 689407 (spd po) := ⟨(muS_bd (S := 1) (qu_bd h 0) ⟨by decide +kernel, by decide +kernel⟩).le (by decide), (muS_bd (S := 1) (qu_bd h 1) ⟨by decide +kernel, by decide +kernel⟩).le (by decide), (muS_bd (S := 1) (qu_bd h 2) ⟨by decide +kernel, by decide +kernel⟩).le (by decide)⟩
end
/-- a number of a span -/
def wiV (s : Rat × Rat) (n : Int) : Rat := s.1 + ptV n * (s.2 - s.1)
theorem wi_one (T : Rat) (n : Int) : wiV (T, T + 1) n = T + ptV n := by show T + ptV n * (T + 1 - T) = _; rw [wid1, Rat.mul_one]
theorem wi_rl {T : Rat} (h : rl T ≤ 1) (n : Int) : rl (T + ptV n) ≤ 3 := by
  have := rl_add T (ptV n)
  have := ptV_rl n
  omega
namespace H_c_Within
theorem zSm {p q : Prop} (k : q) (e : p = q := by simp only [e1, e2, e3, e4, p1, p2, p3, q1, q2, q3, l1, t0, t1, r1, r2, r3, r4, Nat.zero_add, Nat.reduceMul, Nat.reduceAdd, b1, b2, b3, b4, b5, b6, i1, i2, i3, i4, i5, i6, Nat.reduceBEq, List.set_cons_zero, List.set_cons_succ, Nat.reduceEqDiff, reduceIte, if_true, if_false, ptL_kill, poL_kill, kills_map ptE, kills_map poE, kills_map ratE, ratL_kill, spL_kill, LV.kill, kills]; exact rfl) : p := e.mpr k
end H_c_Within
open H_c_Within in
theorem c_Within (s : Rat × Rat) (n : Int) (R : Nat) (hR : R ≤ 1000000) (hs : bdS R s) (hn : -9223372036854775808 ≤ n ∧ n ≤ 9223372036854775807) : CallP Tryz.prog 25 [spL s, iL n] (ratL (wiV s n)) := by
  obtain ⟨a1, a2⟩ := hs
  have hp := ptV_rl n
  have m1 := rl_sub s.2 s.1
  have m2 := rl_mul (ptV n) (s.2 - s.1)
  refine fnP Tryz.func25 ?_
  refine zg7 ?_
  refine wl_regD 11 (by decide +kernel) ?_
  refine zg3 ?_
  refine cp am1 (c_MPart n hn) ?_
  refine zg4 ?_
  refine cp am2 (c_FRSub s.2 s.1 (by omega)) ?_
  refine cp am2 (c_FRMul (ptV n) (s.2 - s.1) (by omega)) ?_
  refine cp am2 (c_FRAdd s.1 (ptV n * (s.2 - s.1)) (by omega)) ?_
  refine zg4 ?_
  exact retC [] rfl rfl rfl (ratE.csize _) (ratL_all _) T29 (.pure (ratE.pure _))
namespace H_c_Speed
theorem zSm {p q : Prop} (k : q) (e : p = q := by simp only [e1, e2, e3, e4, p1, p2, p3, q1, q2, q3, l1, t0, t1, r1, r2, r3, r4, Nat.zero_add, Nat.reduceMul, Nat.reduceAdd, b1, b2, b3, b4, b5, b6, i1, i2, i3, i4, i5, i6, Nat.reduceBEq, List.set_cons_zero, List.set_cons_succ, Nat.reduceEqDiff, reduceIte, if_true, if_false, ptL_kill, poL_kill, kills_map ptE, kills_map poE, kills_map ratE, ratL_kill, spL_kill, LV.kill, kills]; exact rfl) : p := e.mpr k
end H_c_Speed
open H_c_Speed in
theorem c_Speed (d : Nat) (T : Rat) (po : List PoR) (hT : rl T ≤ 1) (hT1 : rl (T + 1) ≤ 1) (h9 : d ≤ 6) (h : cvF po d) : CallP Tryz.prog 49 [.agg [nI64 d, .list 3 ((kn0 d T).map ratL), .list 12 (po.map poL)]] (bxL (spd po)) := by
  have hpu : ∀ l : List Rat, pures (l.map ratL) = true := fun l => pures_map ratE l
  have hkl := kn0_len d T
  have hlo := knB_lo d T
  have hhi := knB_hi d T
  have hcp : LV.pure (.agg [nI64 d, .list 3 ((kn0 d T).map ratL), .list 12 (po.map poL)]) = true := by simp [LV.pure, pures, pures_map ratE, pures_map poE]
  have hl := h.hl
  have hd := h.hd
  have h6 := h.h6
  have w1 := h.w
  have hwq := wt_sq h
  have hr1 : rl 1 = 1 := rfl
  have hb11 : bdS 1000000 (1, 1) := ⟨by decide +kernel, by decide +kernel⟩
  have u0 := h.t 0
  have qq0 := (qu_bd h 0).le (by decide : 689406 ≤ 1000000)
  have bb0 := (tr_bd h 0).le (by decide : 689401 ≤ 1000000)
  have u1 := h.t 1
  have qq1 := (qu_bd h 1).le (by decide : 689406 ≤ 1000000)
  have bb1 := (tr_bd h 1).le (by decide : 689401 ≤ 1000000)
  have u2 := h.t 2
  have qq2 := (qu_bd h 2).le (by decide : 689406 ≤ 1000000)
  have bb2 := (tr_bd h 2).le (by decide : 689401 ≤ 1000000)
  have hD := c_Dom d T po hT hT1 h9
  have hW : CallP Tryz.prog 140 [spL (T, T + 1)] (ratL 1) := by
    have := c_SWidth (T, T + 1) (by show rl (T + 1) + rl T ≤ _; omega)
    simp only [wid1] at this
    exact this
  have z0 : CallP Tryz.prog 143 [spL (quS (bndP (trP po 0)) (sqS (bndP (wtP po)))), spL (1, 1)] (.tup [spL (spK po 0), iL 0]) := by
    have := c_SQuo (quS (bndP (trP po 0)) (sqS (bndP (wtP po)))) (1, 1) 1000000 (by decide) qq0 hb11 (by decide +kernel)
    rwa [qu_one] at this
  have z1 : CallP Tryz.prog 143 [spL (quS (bndP (trP po 1)) (sqS (bndP (wtP po)))), spL (1, 1)] (.tup [spL (spK po 1), iL 0]) := by
    have := c_SQuo (quS (bndP (trP po 1)) (sqS (bndP (wtP po)))) (1, 1) 1000000 (by decide) qq1 hb11 (by decide +kernel)
    rwa [qu_one] at this
  have z2 : CallP Tryz.prog 143 [spL (quS (bndP (trP po 2)) (sqS (bndP (wtP po)))), spL (1, 1)] (.tup [spL (spK po 2), iL 0]) := by
    have := c_SQuo (quS (bndP (trP po 2)) (sqS (bndP (wtP po)))) (1, 1) 1000000 (by decide) qq2 hb11 (by decide +kernel)
    rwa [qu_one] at this
  refine fnP Tryz.func49 (ht := (fun r => LV.ren_pure r _ (bxE.pure _))) ?_
  refine zg14 ?_
  refine cp am1 (hD) ?_
  refine cp am1 (hW) ?_
  refine cp am1 (c_SPoint 1 (by omega)) ?_
  refine zg7 ?_
  refine cp am1 (c_BNum d (kn0 d T) po h) ?_
  refine zg1 ?_
  refine cp am1 (c_Bounds (wtP po) (by omega) (fun x hx => Nat.le_trans ((w1).2 x hx) (by decide))) ?_
  refine cp am1 (c_SSqr (bndP (wtP po)) 2 (by decide) (bnd_rl (by decide) w1.2)) ?_
  refine zg8 ?_
  refine cp am1 (c_turns d (kn0 d T) po h) ?_
  refine zg4 ?_
  refine wl_unroll ?_
  refine zg6 ?_
  refine wl_condX (b := _) rfl (by decide) ?_
  refine zg13 ?_
  refine wl_regF 8 [6] (by decide +kernel) ?_
  refine zg1 ?_
  refine cp am1 (c_Bounds (trP po 0) (by omega) (fun x hx => Nat.le_trans ((u0).2 x hx) (by decide))) ?_
  refine zg1 ?_
  refine cp am2 (c_SQuo (bndP (trP po 0)) (sqS (bndP (wtP po))) 1000000 (by decide) bb0 (hwq.1.le (by decide)) hwq.2) ?_
  refine zg12 ?_
  refine cp am2 (z0) ?_
  refine zg8 ?_
  refine wl_regW (Weak.kill _ 8) ?_
  refine zg4 ?_
  refine wl_unroll ?_
  refine zg6 ?_
  refine wl_condX (b := _) rfl (by decide) ?_
  refine zg13 ?_
  refine wl_regF 8 [6] (by decide +kernel) ?_
  refine zg1 ?_
  refine cp am1 (c_Bounds (trP po 1) (by omega) (fun x hx => Nat.le_trans ((u1).2 x hx) (by decide))) ?_
  refine zg1 ?_
  refine cp am2 (c_SQuo (bndP (trP po 1)) (sqS (bndP (wtP po))) 1000000 (by decide) bb1 (hwq.1.le (by decide)) hwq.2) ?_
  refine zg12 ?_
  refine cp am2 (z1) ?_
  refine zg8 ?_
  refine wl_regW (Weak.kill _ 8) ?_
  refine zg4 ?_
  refine wl_unroll ?_
  refine zg6 ?_
  refine wl_condX (b := _) rfl (by decide) ?_
  refine zg13 ?_
  refine wl_regF 8 [6] (by decide +kernel) ?_
  refine zg1 ?_
  refine cp am1 (c_Bounds (trP po 2) (by omega) (fun x hx => Nat.le_trans ((u2).2 x hx) (by decide))) ?_
  refine zg1 ?_
  refine cp am2 (c_SQuo (bndP (trP po 2)) (sqS (bndP (wtP po))) 1000000 (by decide) bb2 (hwq.1.le (by decide)) hwq.2) ?_
  refine zg12 ?_
  refine cp am2 (z2) ?_
  refine zg8 ?_
  refine wl_regW (Weak.kill _ 8) ?_
  refine zg4 ?_
  refine wl_unroll ?_
  refine zg6 ?_
  refine wl_condY (b := _) rfl (by decide) ?_
  refine zg12 ?_
  exact retC [] rfl rfl rfl cs (at_all cs rfl) T69 (.pure pu)
end Go.Proofs.YtgfbghoihhnahaaGreat
end
section
set_option linter.unusedVariables false
set_option linter.unusedSimpArgs false
set_option maxHeartbeats 8000000
set_option maxRecDepth 100000
attribute [local irreducible] Go.Lg.opsL Go.Lg.wpL Go.Lg.thenL Go.Lg.blockL
namespace Go.Proofs.YtgfbghoihhnahaaGreat
open Go.Lg
/-- the basis function of a degree and an index at t, which lies in the interval with the index at -/
def nfn (k : List Rat) (at_ : Nat) (t : Rat) : Nat → Nat → Rat
  | 0, i => if i = at_ then 1 else 0
  | d + 1, i => if at_ < i ∨ i + (d + 1) < at_ then 0 else
      (t - k.getD i 0) / (k.getD (i + (d + 1)) 0 - k.getD i 0) * nfn k at_ t d i + (k.getD (i + (d + 1) + 1) 0 - t) / (k.getD (i + (d + 1) + 1) 0 - k.getD (i + 1) 0) * nfn k at_ t d (i + 1)
theorem part_rl {a b c d : Rat} {R : Nat} (ha : rl a ≤ R) (hb : rl b ≤ R) (hc : rl c ≤ R) (hd : rl d ≤ R) : rl (a - b) ≤ 2 * R + 1 ∧ rl (c - d) ≤ 2 * R + 1 ∧ rl ((a - b) / (c - d)) ≤ 4 * R + 2 := by
  have h1 := rl_sub a b
  have h2 := rl_sub c d
  have h3 := rl_div (a - b) (c - d)
  exact ⟨by omega, by omega, by omega⟩
theorem nfn_rl {k : List Rat} {at_ : Nat} {t : Rat} {R : Nat} (hR : 3 ≤ R) (hk : ∀ x ∈ k, rl x ≤ R) (ht : rl t ≤ R) : ∀ d i, rl (nfn k at_ t d i) ≤ (10 * R) * 2 ^ d - (8 * R + 5)
  | 0, i => by
    rw [nfn]; split
    · show 1 ≤ _; rw [Nat.pow_zero]; omega
    · show 1 ≤ _; rw [Nat.pow_zero]; omega
  | d + 1, i => by
    have g : ∀ j, rl (k.getD j 0) ≤ R := getD_rl (by omega) hk
    have a1 := nfn_rl (at_ := at_) hR hk ht d i
    have a2 := nfn_rl (at_ := at_) hR hk ht d (i + 1)
    have p1 := (part_rl ht (g i) (g (i + (d + 1))) (g i)).2.2
    have p2 := (part_rl (g (i + (d + 1) + 1)) ht (g (i + (d + 1) + 1)) (g (i + 1))).2.2
    have h2 : 2 ^ (d + 1) = 2 * 2 ^ d := by rw [Nat.pow_succ]; omega
    have h1 : 1 ≤ 2 ^ d := Nat.one_le_two_pow
    have hm : (10 * R) * 2 ^ (d + 1) = 2 * ((10 * R) * 2 ^ d) := by rw [h2]; rw [Nat.mul_left_comm]
    have hm2 : 10 * R ≤ (10 * R) * 2 ^ d := Nat.le_mul_of_pos_right _ (by omega)
    rw [nfn]
    split
    · show 1 ≤ _; rw [hm]; omega
    · have m1 := rl_mul ((t - k.getD i 0) / (k.getD (i + (d + 1)) 0 - k.getD i 0)) (nfn k at_ t d i)
      have m2 := rl_mul ((k.getD (i + (d + 1) + 1) 0 - t) / (k.getD (i + (d + 1) + 1) 0 - k.getD (i + 1) 0)) (nfn k at_ t d (i + 1))
      have s1 := rl_add ((t - k.getD i 0) / (k.getD (i + (d + 1)) 0 - k.getD i 0) * nfn k at_ t d i) ((k.getD (i + (d + 1) + 1) 0 - t) / (k.getD (i + (d + 1) + 1) 0 - k.getD (i + 1) 0) * nfn k at_ t d (i + 1))
      rw [hm]
      omega
/-- over knots without inner ones the sum with coefficients is the value of a polynomial -/
theorem nfn_step {D : Nat} {T t : Rat} {e j : Nat} (he : e < D) (hj : j ≤ e + 1) :
    nfn (kn0 D T) D t (e + 1) (D - (e + 1) + j) = (if 1 ≤ j then (t - T) * nfn (kn0 D T) D t e (D - e + (j - 1)) else 0) + (if j ≤ e then (1 - (t - T)) * nfn (kn0 D T) D t e (D - e + j) else 0) := by
  have g := kn0_get D T
  rw [nfn]
  have hk1 : (kn0 D T).getD (D - (e + 1) + j) 0 = T := by rw [g _ (by omega), if_pos (by omega)]
  have hk4 : (kn0 D T).getD (D - (e + 1) + j + (e + 1) + 1) 0 = T + 1 := by rw [g _ (by omega), if_neg (by omega)]
  rw [if_neg (by omega), hk1, hk4]
  have hi : D - (e + 1) + j + 1 = D - e + j := by omega
  rw [hi]
  congr 1
  · by_cases h1 : 1 ≤ j
    · rw [if_pos h1]
      have hk2 : (kn0 D T).getD (D - (e + 1) + j + (e + 1)) 0 = T + 1 := by rw [g _ (by omega), if_neg (by omega)]
      rw [hk2, show T + 1 - T = 1 by grind, div1, show D - (e + 1) + j = D - e + (j - 1) by omega]
    · rw [if_neg h1]
      obtain rfl : j = 0 := by omega
      have hz : nfn (kn0 D T) D t e (D - (e + 1) + 0) = 0 := by
        cases e with
        | zero => rw [nfn, if_neg (by omega)]
        | succ e => rw [nfn, if_pos (.inr (by omega))]
      rw [hz, Rat.mul_zero]
  · by_cases h1 : j ≤ e
    · rw [if_pos h1]
      have hk3 : (kn0 D T).getD (D - e + j) 0 = T := by rw [g _ (by omega), if_pos (by omega)]
      rw [hk3, show T + 1 - T = 1 by grind, div1, show T + 1 - t = 1 - (t - T) by grind]
    · rw [if_neg h1]
      obtain rfl : j = e + 1 := by omega
      have hz : nfn (kn0 D T) D t e (D - e + (e + 1)) = 0 := by
        cases e with
        | zero => rw [nfn, if_neg (by omega)]
        | succ e => rw [nfn, if_pos (.inl (by omega))]
      rw [hz, Rat.mul_zero]
theorem nfn_sum {D : Nat} {T t : Rat} : ∀ (e : Nat) (c : Nat → Rat), e ≤ D → sm (e + 1) (fun j => nfn (kn0 D T) D t e (D - e + j) * c j) = fE (1 - (t - T)) (t - T) e c
  | 0, c, h => by
    show 0 + nfn _ _ _ 0 (D - 0 + 0) * c 0 = c 0
    rw [nfn, if_pos (by omega), Rat.zero_add, Rat.one_mul]
  | e + 1, c, h => by
    have ih := nfn_sum (D := D) (T := T) (t := t) e (fun i => (1 - (t - T)) * c i + (t - T) * c (i + 1)) (by omega)
    rw [fE, ← ih]
    obtain ⟨N, hN⟩ : ∃ N : Nat → Rat, N = fun j => nfn (kn0 D T) D t e (D - e + j) := ⟨_, rfl⟩
    have e1 : sm (e + 1 + 1) (fun j => nfn (kn0 D T) D t (e + 1) (D - (e + 1) + j) * c j) =
        sm (e + 2) (fun j => (if 1 ≤ j then (t - T) * (N (j - 1) * c j) else 0)) + sm (e + 2) (fun j => if j ≤ e then (1 - (t - T)) * (N j * c j) else 0) := by
      rw [← sm_add]
      refine sm_congr _ _ _ fun j hj => ?_
      rw [nfn_step (by omega) (by omega), hN]
      split <;> split <;> grind
    have e2 : sm (e + 2) (fun j => (if 1 ≤ j then (t - T) * (N (j - 1) * c j) else 0)) = sm (e + 1) (fun j => (t - T) * (N j * c (j + 1))) := by
      rw [sm_head, if_neg (by omega), Rat.zero_add]
      refine sm_congr _ _ _ fun j hj => ?_
      rw [if_pos (by omega), Nat.add_sub_cancel]
    have e3 : sm (e + 2) (fun j => if j ≤ e then (1 - (t - T)) * (N j * c j) else 0) = sm (e + 1) (fun j => (1 - (t - T)) * (N j * c j)) := by
      rw [sm, if_neg (by omega), Rat.add_zero]
      refine sm_congr _ _ _ fun j hj => ?_
      rw [if_pos (by omega)]
    rw [e1, e2, e3, ← sm_add]
    refine sm_congr _ _ _ fun j hj => ?_
    rw [hN]; grind
/-- all basis functions of the degree -/
def nfL (D : Nat) (T t : Rat) : List Rat := (List.range (D + 1)).map fun i => nfn (kn0 D T) D t D i
theorem nfL_len (D : Nat) (T t : Rat) : (nfL D T t).length = D + 1 := by simp [nfL]
theorem nfL_get {D : Nat} {T t : Rat} {i : Nat} (h : i < D + 1) : (nfL D T t).getD i 0 = nfn (kn0 D T) D t D i := by
  unfold nfL; rw [List.getD_eq_getElem?_getD, List.getElem?_eq_getElem (by simpa using h)]; simp
theorem nfL_ev {p : List Rat} {D : Nat} {T t : Rat} (h : p.length = D + 1) : sm (D + 1) (fun i => (nfL D T t).getD i 0 * p.getD i 0) = evP p (t - T) := by
  have e := nfn_sum (T := T) (t := t) D (fun i => p.getD i 0) (Nat.le_refl _)
  rw [Nat.sub_self] at e
  rw [ev_fE (by omega), h, Nat.add_sub_cancel, ← e]
  refine sm_congr _ _ _ fun i hi => ?_
  rw [nfL_get hi, Nat.zero_add]
/-- the point of a curve at the own parameter x -/
def evV (po : List PoR) (x : Rat) : V3 := v3m (1 / evP (wtP po) x) ⟨evP (nmP po 0) x, evP (nmP po 1) x, evP (nmP po 2) x⟩
theorem nm_get {po : List PoR} {k i : Nat} (h : i < po.length) : (nmP po k).getD i 0 = (po.getD i default).w * (po.getD i default).p.at k := by
  unfold nmP
  rw [List.getD_eq_getElem?_getD, List.getElem?_map, List.getElem?_eq_getElem h, List.getD_eq_getElem?_getD, List.getElem?_eq_getElem h]; rfl
theorem wt_get {po : List PoR} {i : Nat} (h : i < po.length) : (wtP po).getD i 0 = (po.getD i default).w := by
  unfold wtP
  rw [List.getD_eq_getElem?_getD, List.getElem?_map, List.getElem?_eq_getElem h, List.getD_eq_getElem?_getD, List.getElem?_eq_getElem h]; rfl
theorem subNN {a b c : Nat} (h : a = b + c) (h2 : a ≤ 9223372036854775807) : binI .sub .i64 (a : Nat) (b : Nat) = some (.int .i64 ((c : Nat) : Int)) := by
  rw [sub64 (by omega) (by omega)]; congr 2; omega
theorem nf_snoc {D : Nat} {T t : Rat} {i : Nat} (h : i < D + 1) : (nfL D T t).take i ++ [nfn (kn0 D T) D t D i] = (nfL D T t).take (i + 1) := by
  rw [← nfL_get h]; exact take_snocL (by rw [nfL_len]; exact h)
theorem nf_rl {D : Nat} {T t : Rat} (hD : D ≤ 6) (hT : rl T ≤ 1000) (hT1 : rl (T + 1) ≤ 1000) (ht : rl t ≤ 1000) : ∀ x ∈ nfL D T t, rl x ≤ 632000 := fun x hx => by
  obtain ⟨i, hi, rfl⟩ := List.mem_map.1 hx
  have hk : ∀ y ∈ kn0 D T, rl y ≤ 1000 := fun y hy => by
    rcases List.mem_append.1 hy with h | h
    · rw [(List.mem_replicate.1 h).2]; exact hT
    · rw [(List.mem_replicate.1 h).2]; exact hT1
  have h := nfn_rl (at_ := D) (by decide) hk ht D i
  have hpw : 2 ^ D ≤ 2 ^ 6 := Nat.pow_le_pow_right (by decide) hD
  omega
theorem sm_rl {f : Nat → Rat} {R : Nat} (hR : 1 ≤ R) : ∀ n, (∀ i, i < n → rl (f i) ≤ R) → rl (sm n f) ≤ 1 + n * (R + 1)
  | 0, _ => by show 1 ≤ _; omega
  | n + 1, h => by
    have h1 := sm_rl hR n (fun i hi => h i (by omega))
    have h2 := h n (by omega)
    have h3 := rl_add (sm n f) (f n)
    rw [sm, Nat.succ_mul]; omega
/-- the sum of the first coefficients of a homogeneous function times basis functions -/
def hmS (d : Nat) (T t : Rat) (po : List PoR) (k i : Nat) : Rat := sm i fun j => (nfL d T t).getD j 0 * (if k < 3 then (nmP po k).getD j 0 else (wtP po).getD j 0)
theorem hm_bd {po : List PoR} {d : Nat} {T t : Rat} (h : cvF po d) (hn : ∀ x ∈ nfL d T t, rl x ≤ 632000) (i : Nat) (hi : i ≤ d + 1) (k : Nat) : rl (hmS d T t po k i) ≤ 5000000 := by
  have hd := h.h6
  have h1 := sm_rl (f := fun j => (nfL d T t).getD j 0 * (if k < 3 then (nmP po k).getD j 0 else (wtP po).getD j 0)) (R := 632002) (by decide) i (fun j hj => by
    have a1 := getD_rl (by decide) hn j
    have a2 := getD_rl (by decide) (h.n k).2 j
    have a3 := getD_rl (by decide) h.w.2 j
    have m := rl_mul ((nfL d T t).getD j 0) (if k < 3 then (nmP po k).getD j 0 else (wtP po).getD j 0)
    split at m <;> split <;> first | omega | contradiction)
  have h2 : i * (632002 + 1) ≤ 7 * (632002 + 1) := Nat.mul_le_mul_right _ (by omega)
  unfold hmS
  omega
theorem hm_st {po : List PoR} {d i : Nat} {T t : Rat} (h : i < po.length) :
    hmS d T t po 0 i + (nfL d T t).getD i 0 * ((po.getD i default).w * (po.getD i default).p.x) = hmS d T t po 0 (i + 1) ∧ hmS d T t po 1 i + (nfL d T t).getD i 0 * ((po.getD i default).w * (po.getD i default).p.y) = hmS d T t po 1 (i + 1) ∧
    hmS d T t po 2 i + (nfL d T t).getD i 0 * ((po.getD i default).w * (po.getD i default).p.z) = hmS d T t po 2 (i + 1) ∧ hmS d T t po 3 i + (nfL d T t).getD i 0 * (po.getD i default).w = hmS d T t po 3 (i + 1) := by
  refine ⟨?_, ?_, ?_, ?_⟩
  · unfold hmS; rw [sm, if_pos (by decide), nm_get h]; rfl
  · unfold hmS; rw [sm, if_pos (by decide), nm_get h]; rfl
  · unfold hmS; rw [sm, if_pos (by decide), nm_get h]; rfl
  · unfold hmS; rw [sm, if_neg (by decide), wt_get h]
theorem hm_ev {po : List PoR} {d : Nat} {T t : Rat} (h : cvF po d) : (∀ k, k < 3 → hmS d T t po k (d + 1) = evP (nmP po k) (t - T)) ∧ hmS d T t po 3 (d + 1) = evP (wtP po) (t - T) := by
  refine ⟨fun k hk => ?_, ?_⟩
  · rw [← nfL_ev (p := nmP po k) (D := d) (h.n k).1]
    unfold hmS
    exact sm_congr _ _ _ fun i _ => by rw [if_pos hk]
  · rw [← nfL_ev (p := wtP po) (D := d) h.w.1]
    unfold hmS
    exact sm_congr _ _ _ fun i _ => by rw [if_neg (by decide)]
namespace H_c_FIvl
theorem zSm {p q : Prop} (k : q) (e : p = q := by simp only [e1, e2, e3, e4, p1, p2, p3, q1, q2, q3, l1, t0, t1, r1, r2, r3, r4, Nat.zero_add, Nat.reduceMul, Nat.reduceAdd, b1, b2, b3, b4, b5, b6, i1, i2, i3, i4, i5, i6, Nat.reduceBEq, hkl, hlo, hhi, hkd, hix, List.length_map, dfq, List.set_cons_zero, List.set_cons_succ, Nat.reduceEqDiff, reduceIte, if_true, if_false, ptL_kill, poL_kill, kills_map ptE, kills_map poE, kills_map ratE, ratL_kill, spL_kill, LV.kill, kills]; exact rfl) : p := e.mpr k
end H_c_FIvl
open H_c_FIvl in
theorem c_FIvl (d : Nat) (T t : Rat) (hd : d ≤ 6) (hT : rl T ≤ 1) (hT1 : rl (T + 1) ≤ 1) (ht : rl t ≤ 1000) (h1 : T ≤ t) (h2 : t ≤ T + 1) : CallP Tryz.prog 120 [.list 3 ((kn0 d T).map ratL), nI64 d, ratL t] (.tup [nI64 d, iL 0]) := by
  have hkl := kn0_len d T
  have hlo := knB_lo d T
  have hhi := knB_hi d T
  have hkd : (kn0 d T).getD d 0 = T := by rw [kn0_get _ _ _ (by omega), if_pos (by omega)]
  have c1 : ¬cmpR t T < 0 := fun e => by have := cmpR_ge.2 h1; omega
  have c2 : ¬cmpR t (T + 1) > 0 := fun e => by have := cmpR_le.2 h2; omega
  have hix : ((2 * (d + 1) : Nat) : Int).toNat - 1 = 2 * (d + 1) - 1 := by omega
  refine fnP Tryz.func120 (ht := (tame2 rfl rfl)) ?_
  refine zg11 ?_
  refine st_pure rfl (.bin rfl rfl (sub1N (by omega) (by omega))) ?_
  refine zg5 ?_
  refine wl_regD 15 (by decide +kernel) ?_
  refine zg4 ?_
  try simp only [t1, dfq, hlo]
  refine cp am2 (c_FRCmp t T (by omega)) ?_
  refine zg2 ?_
  refine op_if 19 rfl (fun h19r h19 => ?_) (fun h19r h19 => ?_)
  · omega
  · refine zg5 ?_
    try simp only [t1, dfq, hkl, hhi]
    refine cp am2 (c_FRCmp t (T + 1) (by omega)) ?_
    refine zg4 ?_
    refine wl_if rfl (fun h27r h27 => ?_) (fun h27r h27 => ?_)
    · omega
    · refine zg6 ?_
      refine st_pure rfl (.bin rfl rfl (subNN (c := d + 1) (by omega) (by omega))) ?_
      refine st_pure rfl (.bin rfl rfl (sub1N (by omega) (by omega))) ?_
      refine zg5 ?_
      refine wl_unroll ?_
      refine zg2 ?_
      refine wl_regD 11 (by decide +kernel) ?_
      refine zg3 ?_
      refine op_if 34 rfl (fun h34r h34 => ?_) (fun h34r h34 => ?_)
      · refine zg5 ?_
        try simp only [t1, dfq, Nat.add_sub_cancel, Int.toNat_natCast, hkd]
        refine cp am2 (c_FRCmp t T (by omega)) ?_
        refine zg4 ?_
        refine wl_condY (b := _) rfl (by first | rfl | exact decide_eq_false c1) ?_
        refine zg13 ?_
        exact ret2 rfl (.pure rfl) rfl (.pure rfl)
      · refine zg5 ?_
        try simp only [t1, dfq, Nat.add_sub_cancel, Int.toNat_natCast, hkd]
        refine zg5 ?_
        refine wl_condY (b := _) rfl (by first | rfl | exact decide_eq_false c1) ?_
        refine zg13 ?_
        exact ret2 rfl (.pure rfl) rfl (.pure rfl)
open H0 in
theorem c_part9 (a b : Rat) (h : rl a + rl b ≤ 1000000) : CallP Tryz.prog 336 [ratL a, ratL b] (ratL (a / b)) := by
  refine fnP Tryz.func336 ?_
  refine zg11 ?_
  refine cp am2 (c_FRQuo a b (by omega)) ?_
  refine zg15 ?_
  exact retC [] rfl rfl rfl (ratE.csize _) (ratL_all _) T29 (.pure (ratE.pure _))
namespace H_c_fun0
theorem zSm {p q : Prop} (k : q) (e : p = q := by simp only [e1, e2, e3, e4, p1, p2, p3, q1, q2, q3, l1, t0, t1, r1, r2, r3, r4, Nat.zero_add, Nat.reduceMul, Nat.reduceAdd, b1, b2, b3, b4, b5, b6, i1, i2, i3, i4, i5, i6, Nat.reduceBEq, dfq, List.set_cons_zero, List.set_cons_succ, Nat.reduceEqDiff, reduceIte, if_true, if_false, ptL_kill, poL_kill, kills_map ptE, kills_map poE, kills_map ratE, ratL_kill, spL_kill, LV.kill, kills]; exact rfl) : p := e.mpr k
end H_c_fun0
open H_c_fun0 in
theorem c_fun0 (k : List Rat) (at_ : Nat) (t : Rat) (hl : k.length ≤ 1000) (hat : at_ ≤ 1000) (hk : ∀ x ∈ k, rl x ≤ 1000) (ht : rl t ≤ 1000) (i : Nat) : CallP Tryz.prog 291 [.list 3 (k.map ratL), nI64 i, iL 0, nI64 at_, ratL t] (ratL (nfn k at_ t 0 i)) := by
  have h1c : CallP Tryz.prog 136 [iL 1] (ratL 1) := c_FInt 1 (by decide) (by decide)
  refine fnP Tryz.func291 ?_
  refine zg13 ?_
  refine wl_if rfl (fun h14r h14 => ?_) (fun h14r h14 => ?_)
  · refine zg8 ?_
    refine wl_if rfl (fun h17r h17 => ?_) (fun h17r h17 => ?_)
    · have hV : nfn k at_ t 0 i = 1 := by rw [nfn, if_pos (by omega)]
      refine zg2 ?_
      refine cp am1 (h1c) ?_
      refine zg6 ?_
      rw [hV]
      exact retC [] rfl rfl rfl (ratE.csize _) (ratL_all _) T29 (.pure (ratE.pure _))
    · have hV : nfn k at_ t 0 i = 0 := by rw [nfn, if_neg (by omega)]
      refine zg4 ?_
      refine st_pure rfl (.build0 SL29 Z29a) ?_
      refine zg5 ?_
      rw [hV]
      exact retC [] rfl rfl rfl (ratE.csize _) (ratL_all _) T29 (.pure (ratE.pure _))
  · first | exact absurd h14r (by decide) | cases h14r | exact absurd rfl h14
namespace H_c_funS
theorem zSm {p q : Prop} (k : q) (e : p = q := by simp only [e1, e2, e3, e4, p1, p2, p3, q1, q2, q3, l1, t0, t1, r1, r2, r3, r4, Nat.zero_add, Nat.reduceMul, Nat.reduceAdd, b1, b2, b3, b4, b5, b6, i1, i2, i3, i4, i5, i6, Nat.reduceBEq, dfq, eia, eib, eic, List.set_cons_zero, List.set_cons_succ, Nat.reduceEqDiff, reduceIte, if_true, if_false, ptL_kill, poL_kill, kills_map ptE, kills_map poE, kills_map ratE, ratL_kill, spL_kill, LV.kill, kills]; exact rfl) : p := e.mpr k
end H_c_funS
open H_c_funS in
theorem c_funS (k : List Rat) (at_ : Nat) (t : Rat) (hl : k.length ≤ 1000) (hat : at_ ≤ 1000) (hk : ∀ x ∈ k, rl x ≤ 1000) (ht : rl t ≤ 1000) (d : Nat) (hd : d + 1 ≤ 7) (ih : ∀ i, i + d + 1 < k.length → CallP Tryz.prog 291 [.list 3 (k.map ratL), nI64 i, nI64 d, nI64 at_, ratL t] (ratL (nfn k at_ t d i))) (i : Nat) (hi : i + (d + 1) + 1 < k.length) : CallP Tryz.prog 291 [.list 3 (k.map ratL), nI64 i, nI64 (d + 1), nI64 at_, ratL t] (ratL (nfn k at_ t (d + 1) i)) := by
  have g : ∀ j, rl (k.getD j 0) ≤ 1000 := getD_rl (by decide) hk
  have pp1 := part_rl ht (g i) (g (i + (d + 1))) (g i)
  have pp2 := part_rl (g (i + (d + 1) + 1)) ht (g (i + (d + 1) + 1)) (g (i + 1))
  have nq1 := nfn_rl (at_ := at_) (by decide) hk ht d i
  have nq2 := nfn_rl (at_ := at_) (by decide) hk ht d (i + 1)
  have hpw : 2 ^ d ≤ 2 ^ 6 := Nat.pow_le_pow_right (by decide) (by omega)
  have m1 := rl_mul ((t - k.getD i 0) / (k.getD (i + (d + 1)) 0 - k.getD i 0)) (nfn k at_ t d i)
  have m2 := rl_mul ((k.getD (i + (d + 1) + 1) 0 - t) / (k.getD (i + (d + 1) + 1) 0 - k.getD (i + 1) 0)) (nfn k at_ t d (i + 1))
  have hk1 := ih i (by omega)
  have hk2 := ih (i + 1) (by omega)
  refine fnP Tryz.func291 ?_
  have eia : True := trivial
  have eib : True := trivial
  have eic : True := trivial
  refine zg13 ?_
  refine wl_if rfl (fun h14r h14 => ?_) (fun h14r h14 => ?_)
  · omega
  · refine zg9 ?_
    refine op_if 23 rfl (fun h23r h23 => ?_) (fun h23r h23 => ?_)
    · have hV : nfn k at_ t (d + 1) i = 0 := by rw [nfn, if_pos (by omega)]
      refine zg11 ?_
      refine st_pure rfl (.build0 SL29 Z29a) ?_
      refine zg5 ?_
      rw [hV]
      exact retC [] rfl rfl rfl (ratE.csize _) (ratL_all _) T29 (.pure (ratE.pure _))
    · refine zg3 ?_
      refine st_pure (guardX (v := false) rfl rfl (h23r) rfl) (.bin rfl rfl (add64N (by omega))) ?_
      refine zg4 ?_
      refine wl_if rfl (fun h29r h29 => ?_) (fun h29r h29 => ?_)
      · have hV : nfn k at_ t (d + 1) i = 0 := by rw [nfn, if_pos (by omega)]
        refine zg2 ?_
        refine st_pure rfl (.build0 SL29 Z29a) ?_
        refine zg5 ?_
        rw [hV]
        exact retC [] rfl rfl rfl (ratE.csize _) (ratL_all _) T29 (.pure (ratE.pure _))
      · have hV : nfn k at_ t (d + 1) i = (t - k.getD i 0) / (k.getD (i + (d + 1)) 0 - k.getD i 0) * nfn k at_ t d i + (k.getD (i + (d + 1) + 1) 0 - t) / (k.getD (i + (d + 1) + 1) 0 - k.getD (i + 1) 0) * nfn k at_ t d (i + 1) := by rw [nfn, if_neg (by omega)]
        refine zg3 ?_
        refine wl_regD 19 (by decide +kernel) ?_
        refine zg5 ?_
        refine cp am2 (c_FRSub t (k.getD i 0) (by have := g i; omega)) ?_
        refine zg3 ?_
        refine st_pure rfl (.bin rfl rfl (add64N (by omega))) ?_
        refine zg6 ?_
        refine cp am2 (c_FRSub (k.getD (i + (d + 1)) 0) (k.getD i 0) (by have := g i; have := g (i + (d + 1)); omega)) ?_
        refine cp am2 (c_part9 (t - k.getD i 0) (k.getD (i + (d + 1)) 0 - k.getD i 0) (by omega)) ?_
        refine zg5 ?_
        refine wl_regD 24 (by decide +kernel) ?_
        refine zg3 ?_
        refine st_pure rfl (.bin rfl rfl (add64N (by omega))) ?_
        refine st_pure rfl (.bin rfl rfl (add1N (by omega))) ?_
        refine zg3 ?_
        refine cp am2 (c_FRSub (k.getD (i + (d + 1) + 1) 0) t (by have := g (i + (d + 1) + 1); omega)) ?_
        refine zg3 ?_
        refine st_pure rfl (.bin rfl rfl (add64N (by omega))) ?_
        refine st_pure rfl (.bin rfl rfl (add1N (by omega))) ?_
        refine zg4 ?_
        refine st_pure rfl (.bin rfl rfl (add1N (by omega))) ?_
        refine zg2 ?_
        refine cp am2 (c_FRSub (k.getD (i + (d + 1) + 1) 0) (k.getD (i + 1) 0) (by have := g (i + 1); have := g (i + (d + 1) + 1); omega)) ?_
        refine cp am2 (c_part9 (k.getD (i + (d + 1) + 1) 0 - t) (k.getD (i + (d + 1) + 1) 0 - k.getD (i + 1) 0) (by omega)) ?_
        refine zg5 ?_
        refine wl_regD 20 (by decide +kernel) ?_
        refine zg4 ?_
        refine st_pure rfl (.bin rfl rfl (sub1N (by omega) (by omega))) ?_
        refine zg2 ?_
        refine cp am5 (hk1) ?_
        refine cp am2 (c_FRMul _ (nfn k at_ t d i) (by omega)) ?_
        refine zg3 ?_
        refine st_pure rfl (.bin rfl rfl (add1N (by omega))) ?_
        refine zg1 ?_
        refine st_pure rfl (.bin rfl rfl (sub1N (by omega) (by omega))) ?_
        refine zg2 ?_
        refine cp am5 (hk2) ?_
        refine cp am2 (c_FRMul _ (nfn k at_ t d (i + 1)) (by omega)) ?_
        refine cp am2 (c_FRAdd _ _ (by omega)) ?_
        refine zg4 ?_
        rw [hV]
        exact retC [] rfl rfl rfl (ratE.csize _) (ratL_all _) T29 (.pure (ratE.pure _))
theorem c_function (k : List Rat) (at_ : Nat) (t : Rat) (hl : k.length ≤ 1000) (hat : at_ ≤ 1000) (hk : ∀ x ∈ k, rl x ≤ 1000) (ht : rl t ≤ 1000) : ∀ (d : Nat) (hd : d ≤ 7) (i : Nat) (hi : i + d + 1 < k.length), CallP Tryz.prog 291 [.list 3 (k.map ratL), nI64 i, nI64 d, nI64 at_, ratL t] (ratL (nfn k at_ t d i))
  | 0, _, i, _ => c_fun0 k at_ t hl hat hk ht i
  | d + 1, hd, i, hi => c_funS k at_ t hl hat hk ht d hd (fun i hi => c_function k at_ t hl hat hk ht d (by omega) i hi) i (by omega)
namespace H_c_FValues
theorem zSm {p q : Prop} (k : q) (e : p = q := by simp only [e1, e2, e3, e4, p1, p2, p3, q1, q2, q3, l1, t0, t1, r1, r2, r3, r4, Nat.zero_add, Nat.reduceMul, Nat.reduceAdd, b1, b2, b3, b4, b5, b6, i1, i2, i3, i4, i5, i6, Nat.reduceBEq, ers, etk, List.length_map, dfq, hdd, take_map_len, map_snoc, len_snoc, List.length_cons, List.length_nil, List.nil_append, List.map_nil, List.take_nil, List.append_nil, List.set_cons_zero, List.set_cons_succ, Nat.reduceEqDiff, reduceIte, if_true, if_false, ptL_kill, poL_kill, kills_map ptE, kills_map poE, kills_map ratE, ratL_kill, spL_kill, LV.kill, kills]; exact rfl) : p := e.mpr k
end H_c_FValues
open H_c_FValues in
theorem c_FValues (d : Nat) (T t : Rat) (hd : d ≤ 6) (hT : rl T ≤ 1) (hT1 : rl (T + 1) ≤ 1) (ht : rl t ≤ 1000) (h1 : T ≤ t) (h2 : t ≤ T + 1) : CallP Tryz.prog 215 [.list 3 ((kn0 d T).map ratL), nI64 d, ratL t] (.tup [iL 0, .list 3 ((nfL d T t).map ratL), iL 0]) := by
  have hkl := kn0_len d T
  have hlo := knB_lo d T
  have hhi := knB_hi d T
  have hkd : (kn0 d T).getD d 0 = T := by rw [kn0_get _ _ _ (by omega), if_pos (by omega)]
  have c1 : ¬cmpR t T < 0 := fun e => by have := cmpR_ge.2 h1; omega
  have c2 : ¬cmpR t (T + 1) > 0 := fun e => by have := cmpR_le.2 h2; omega
  have hdd : ((d : Int) - (d : Int)) = 0 := by omega
  have hkr : ∀ x ∈ kn0 d T, rl x ≤ 1000 := fun x hx => by
    rcases List.mem_append.1 hx with h | h
    · rw [(List.mem_replicate.1 h).2]; omega
    · rw [(List.mem_replicate.1 h).2]; omega
  have hnl := nfL_len d T t
  refine fnP Tryz.func215 (ht := (tame3 rfl (pure_lst ratE _ _) rfl)) ?_
  have ers : True := trivial
  have etk : True := trivial
  refine zg13 ?_
  refine cp am3 (c_FIvl d T t hd hT hT1 ht h1 h2) ?_
  refine zg14 ?_
  refine wl_if rfl (fun h21r h21 => ?_) (fun h21r h21 => ?_)
  · first | exact h21.elim | cases h21r
  · refine zg12 ?_
    refine st_pure rfl (.bin rfl rfl (subNN (c := 0) (by omega) (by omega))) ?_
    refine zg4 ?_
    refine wl_weak (Weak.own (t := 11) 39 3 rfl rfl) ?_
    refine lp1 (fun (i : Nat) L => (((((((St.mk L.slot (hp [(5, ⟨3, [ratL t], true⟩), (39, ⟨3, ((nfL d T t).take i).map ratL, true⟩)])).put (some 0) (.list 3 ((kn0 d T).map ratL))).put (some 1) (nI64 d)).put (some 5) (.eptr 5 3 0 0)).put (some 9) (nI64 d)).put (some 11) (.ref 39 3 0 i)).put (some 12) (nI64 i))) (fun i => i ≤ d + 1) (fun i => d + 1 - i) 0 (Nat.zero_le _) ?_
    rintro i L1 hi
    refine zg8 ?_
    refine wl_if rfl (fun h28r h28 => ?_) (fun h28r h28 => ?_)
    · have hi2 : i < d + 1 := by omega
      have ers := nf_snoc (D := d) (T := T) (t := t) hi2
      have etk : (((nfL d T t).take i).map ratL).take i = ((nfL d T t).take i).map ratL := List.take_of_length_le (by rw [List.length_map, List.length_take]; omega)
      refine zg11 ?_
      refine cp am5 (c_function (kn0 d T) d t (by omega) (by omega) hkr ht d (by omega) i (by omega)) ?_
      refine zg1 ?_
      refine st_store rfl (.appX (d := 39) (news := [ratL (nfn (kn0 d T) d t d i)]) rfl rfl rfl rfl (by simp; omega) (.inl rfl) (by decide) Tryz.underlying33 Tryz.underlying33 Z29a T29 rfl B29 (.inl ⟨38, 0, _, rfl, by decide, rfl, rfl, by simp, rfl, by simp [pures, ratE.pure]⟩) (by simp; omega) (by simp; omega) (by decide)) ?_
      refine zg4 ?_
      refine wl_regW (Weak.kill _ 38) ?_
      refine zg1 ?_
      refine st_pure rfl (.bin rfl rfl (add1N (by omega))) ?_
      refine zg3 ?_
      exact nx1 (i + 1) (by omega)
    · obtain rfl : i = d + 1 := by omega
      have hE : (nfL d T t).take (d + 1) = (nfL d T t) := List.take_of_length_le (by omega)
      refine zg9 ?_
      refine st_pure rfl (.bin rfl rfl (subNN (c := 0) (by omega) (by omega))) ?_
      refine zg7 ?_
      simp only [hE]
      exact ret3f [39] rfl rfl (.pure rfl) rfl (imm_refm ratE rfl rfl (by omega)) rfl (.pure rfl)
namespace H_c_FHom
theorem zSm {p q : Prop} (k : q) (e : p = q := by simp only [e1, e2, e3, e4, p1, p2, p3, q1, q2, q3, l1, t0, t1, r1, r2, r3, r4, Nat.zero_add, Nat.reduceMul, Nat.reduceAdd, b1, b2, b3, b4, b5, b6, i1, i2, i3, i4, i5, i6, Nat.reduceBEq, List.length_map, dfq, hnl, hm0, ratL_zero, eii, List.set_cons_zero, List.set_cons_succ, Nat.reduceEqDiff, reduceIte, if_true, if_false, ptL_kill, poL_kill, kills_map ptE, kills_map poE, kills_map ratE, ratL_kill, spL_kill, LV.kill, kills]; exact rfl) : p := e.mpr k
end H_c_FHom
open H_c_FHom in
theorem c_FHom (d : Nat) (T t : Rat) (po : List PoR) (h : cvF po d) (hd : d ≤ 6) (hT : rl T ≤ 1) (hT1 : rl (T + 1) ≤ 1) (ht : rl t ≤ 1000) (h1 : T ≤ t) (h2 : t ≤ T + 1) : CallP Tryz.prog 122 [.agg [nI64 d, .list 3 ((kn0 d T).map ratL), .list 12 (po.map poL)], ratL t] (.agg [ratL (hmS d T t po 0 (d + 1)), ratL (hmS d T t po 1 (d + 1)), ratL (hmS d T t po 2 (d + 1)), ratL (hmS d T t po 3 (d + 1))]) := by
  have hnl := nfL_len d T t
  have hm0 : ∀ k, hmS d T t po k 0 = 0 := fun k => rfl
  have hnr := nf_rl (T := T) (t := t) hd (by omega) (by omega) ht
  have hl := h.hl
  have hcp : LV.pure (.agg [nI64 d, .list 3 ((kn0 d T).map ratL), .list 12 (po.map poL)]) = true := by simp [LV.pure, pures, pures_map ratE, pures_map poE]
  refine fnP Tryz.func122 (ht := (fun g => LV.ren_pure g _ pu)) ?_
  have eii : True := trivial
  refine zg14 ?_
  refine cp am3 (c_FValues d T t hd hT hT1 ht h1 h2) ?_
  refine zg21 ?_
  refine lp1 (fun (i : Nat) L => (((((((St.mk L.slot (hp [(2, ⟨3, [.agg [nI64 d, .list 3 ((kn0 d T).map ratL), .list 12 (po.map poL)]], true⟩), (3, ⟨3, [ratL t], true⟩), (4, ⟨12, [.agg [ratL 0, ratL 0, ratL 0, ratL 0]], true⟩), (8, ⟨12, [.agg [ratL (hmS d T t po 0 i), ratL (hmS d T t po 1 i), ratL (hmS d T t po 2 i), ratL (hmS d T t po 3 i)]], true⟩)])).put (some 2) (.eptr 2 3 0 0)).put (some 4) (.eptr 4 12 0 0)).put (some 5) (iL 0)).put (some 6) (.list 3 ((nfL d T t).map ratL))).put (some 8) (.eptr 8 12 0 0)).put (some 9) (nI64 i))) (fun i => i ≤ d + 1) (fun i => d + 1 - i) 0 (Nat.zero_le _) ?_
  rintro i L1 hi
  refine zg9 ?_
  refine wl_if rfl (fun h25r h25 => ?_) (fun h25r h25 => ?_)
  · have hi2 : i < po.length := by omega
    have hok := h.ok _ (getD_memP hi2)
    have hng := getD_rl (by decide) hnr i
    have hbd := hm_bd (T := T) (t := t) h hnr i (by omega)
    have hst := hm_st (T := T) (t := t) (po := po) (d := d) hi2
    obtain ⟨⟨ok1, ok2, ok3⟩, ok4, _⟩ := hok
    have eii : ((0 : Int) + (i : Int)).toNat = i := by omega
    have hok := h.ok _ (getD_memP hi2)
    have bb0 := hbd 0
    have bb1 := hbd 1
    have bb2 := hbd 2
    have bb3 := hbd 3
    have m0 := rl_mul ((nfL d T t).getD i 0) ((po.getD i default).w * (po.getD i default).p.x)
    have m1 := rl_mul ((nfL d T t).getD i 0) ((po.getD i default).w * (po.getD i default).p.y)
    have m2 := rl_mul ((nfL d T t).getD i 0) ((po.getD i default).w * (po.getD i default).p.z)
    have m3 := rl_mul ((nfL d T t).getD i 0) (po.getD i default).w
    have n0 := rl_mul (po.getD i default).w (po.getD i default).p.x
    have n1 := rl_mul (po.getD i default).w (po.getD i default).p.y
    have n2 := rl_mul (po.getD i default).w (po.getD i default).p.z
    have hA0 : CallP Tryz.prog 35 [ratL (hmS d T t po 0 i), ratL ((nfL d T t).getD i 0 * ((po.getD i default).w * (po.getD i default).p.x))] (ratL (hmS d T t po 0 (i + 1))) := by
      rw [← hst.1]; exact c_FRAdd _ _ (by omega)
    have hA1 : CallP Tryz.prog 35 [ratL (hmS d T t po 1 i), ratL ((nfL d T t).getD i 0 * ((po.getD i default).w * (po.getD i default).p.y))] (ratL (hmS d T t po 1 (i + 1))) := by
      rw [← hst.2.1]; exact c_FRAdd _ _ (by omega)
    have hA2 : CallP Tryz.prog 35 [ratL (hmS d T t po 2 i), ratL ((nfL d T t).getD i 0 * ((po.getD i default).w * (po.getD i default).p.z))] (ratL (hmS d T t po 2 (i + 1))) := by
      rw [← hst.2.2.1]; exact c_FRAdd _ _ (by omega)
    have hA3 : CallP Tryz.prog 35 [ratL (hmS d T t po 3 i), ratL ((nfL d T t).getD i 0 * (po.getD i default).w)] (ratL (hmS d T t po 3 (i + 1))) := by
      rw [← hst.2.2.2]; exact c_FRAdd _ _ (by omega)
    refine zg10 ?_
    refine st_pure rfl (.bin rfl rfl (add64 (by omega) (by omega))) ?_
    refine zg2 ?_
    try simp only [t1, eii]
    refine cp am1 (c_Lift (po.getD i default) hok) ?_
    refine zg10 ?_
    refine wl_unroll ?_
    refine zg7 ?_
    refine wl_condX (b := _) rfl (by decide) ?_
    refine zg4 ?_
    refine wl_regD 14 (by decide +kernel) ?_
    refine zg11 ?_
    try simp only [t1, dfq]
    refine cp am2 (c_FRMul ((nfL d T t).getD i 0) ((po.getD i default).w * (po.getD i default).p.x) (by omega)) ?_
    refine cp am2 (hA0) ?_
    refine zg11 ?_
    refine wl_unroll ?_
    refine zg7 ?_
    refine wl_condX (b := _) rfl (by decide) ?_
    refine zg4 ?_
    refine wl_regD 14 (by decide +kernel) ?_
    refine zg11 ?_
    try simp only [t1, dfq]
    refine cp am2 (c_FRMul ((nfL d T t).getD i 0) ((po.getD i default).w * (po.getD i default).p.y) (by omega)) ?_
    refine cp am2 (hA1) ?_
    refine zg11 ?_
    refine wl_unroll ?_
    refine zg7 ?_
    refine wl_condX (b := _) rfl (by decide) ?_
    refine zg4 ?_
    refine wl_regD 14 (by decide +kernel) ?_
    refine zg11 ?_
    try simp only [t1, dfq]
    refine cp am2 (c_FRMul ((nfL d T t).getD i 0) ((po.getD i default).w * (po.getD i default).p.z) (by omega)) ?_
    refine cp am2 (hA2) ?_
    refine zg11 ?_
    refine wl_unroll ?_
    refine zg7 ?_
    refine wl_condX (b := _) rfl (by decide) ?_
    refine zg4 ?_
    refine wl_regD 14 (by decide +kernel) ?_
    refine zg11 ?_
    try simp only [t1, dfq]
    refine cp am2 (c_FRMul ((nfL d T t).getD i 0) (po.getD i default).w (by omega)) ?_
    refine cp am2 (hA3) ?_
    refine zg11 ?_
    refine wl_unroll ?_
    refine zg7 ?_
    refine wl_condY (b := _) rfl (by decide) ?_
    refine zg6 ?_
    refine wl_regW (Weak.kill _ 10) ?_
    refine zg1 ?_
    refine st_pure rfl (.bin rfl rfl (add1N (by omega))) ?_
    refine zg3 ?_
    exact nx1 (i + 1) (by omega)
  · obtain rfl : i = d + 1 := by omega
    refine zg12 ?_
    exact retC [] rfl rfl rfl cs (at_all cs rfl) T142 (.pure pu)
end Go.Proofs.YtgfbghoihhnahaaGreat
end
section
set_option linter.unusedVariables false
set_option linter.unusedSimpArgs false
set_option maxHeartbeats 8000000
set_option maxRecDepth 100000
attribute [local irreducible] Go.Lg.opsL Go.Lg.wpL Go.Lg.thenL Go.Lg.blockL
namespace Go.Proofs.YtgfbghoihhnahaaGreat
open Go.Lg
section
variable {po : List PoR} {d : Nat} (h : cvF po d)
include h
theorem wt_in {s : Rat} (h0 : 0 ≤ s) (h1 : s ≤ 1) : (bndP (wtP po)).1 ≤ evP (wtP po) s ∧ evP (wtP po) s ≤ (bndP (wtP po)).2 := by
  have hb := ev_bnd (p := wtP po) h0 h1 (by rw [wtP_len, h.hl]; omega)
  unfold hasR at hb
  simp only [Bool.and_eq_true, decide_eq_true_eq] at hb
  exact hb
theorem tr_in (k : Nat) {s : Rat} (h0 : 0 ≤ s) (h1 : s ≤ 1) : (bndP (trP po k)).1 ≤ evP (trP po k) s ∧ evP (trP po k) s ≤ (bndP (trP po k)).2 := by
  have hb := ev_bnd (p := trP po k) h0 h1 (by rw [(h.t k).1]; omega)
  unfold hasR at hb
  simp only [Bool.and_eq_true, decide_eq_true_eq] at hb
  exact hb
end
end Go.Proofs.YtgfbghoihhnahaaGreat
end
section
set_option linter.unusedVariables false
set_option linter.unusedSimpArgs false
set_option maxHeartbeats 8000000
set_option maxRecDepth 100000
attribute [local irreducible] Go.Lg.opsL Go.Lg.wpL Go.Lg.thenL Go.Lg.blockL
namespace Go.Proofs.YtgfbghoihhnahaaGreat
open Go.Lg
theorem lt_le_trans {a b c : Rat} (h : a < b) (k : b ≤ c) : a < c := by grind
section
variable {po : List PoR} {d : Nat} (h : cvF po d)
include h
theorem ww_pos {s : Rat} (h0 : 0 ≤ s) (h1 : s ≤ 1) : 0 < evP (wtP po) s * evP (wtP po) s ∧ evP (wtP po) s * evP (wtP po) s ≤ (bndP (wtP po)).2 * (bndP (wtP po)).2 := by
  obtain ⟨a1, a2⟩ := wt_in h h0 h1
  have hw : 0 < evP (wtP po) s := lt_le_trans (wt_lo h) a1
  have m1 := Rat.mul_le_mul_of_nonneg_left a2 (Rat.le_of_lt hw)
  have m2 := Rat.mul_le_mul_of_nonneg_right a2 (Rat.le_trans (Rat.le_of_lt hw) a2)
  exact ⟨Rat.mul_pos hw hw, Rat.le_trans m1 m2⟩
end
end Go.Proofs.YtgfbghoihhnahaaGreat
end
section
set_option linter.unusedVariables false
set_option linter.unusedSimpArgs false
set_option maxHeartbeats 8000000
set_option maxRecDepth 100000
attribute [local irreducible] Go.Lg.opsL Go.Lg.wpL Go.Lg.thenL Go.Lg.blockL
namespace Go.Proofs.YtgfbghoihhnahaaGreat
open Go.Lg
namespace H_c_FDrop
theorem zSm {p q : Prop} (k : q) (e : p = q := by simp only [e1, e2, e3, e4, p1, p2, p3, q1, q2, q3, l1, t0, t1, r1, r2, r3, r4, Nat.zero_add, Nat.reduceMul, Nat.reduceAdd, b1, b2, b3, b4, b5, b6, i1, i2, i3, i4, i5, i6, Nat.reduceBEq, List.set_cons_zero, List.set_cons_succ, Nat.reduceEqDiff, reduceIte, if_true, if_false, ptL_kill, poL_kill, kills_map ptE, kills_map poE, kills_map ratE, ratL_kill, spL_kill, LV.kill, kills]; exact rfl) : p := e.mpr k
end H_c_FDrop
open H_c_FDrop in
theorem c_FDrop (a b c w : Rat) (R : Nat) (hR : R ≤ 100000000) (ha : rl a ≤ R) (hb : rl b ≤ R) (hc : rl c ≤ R) (hw : rl w ≤ R) : CallP Tryz.prog 121 [.agg [ratL a, ratL b, ratL c, ratL w]] (poL ⟨v3m (1 / w) ⟨a, b, c⟩, w⟩) := by
  have h1c : CallP Tryz.prog 136 [iL 1] (ratL 1) := c_FInt 1 (by decide) (by decide)
  have hr1 : rl 1 = 1 := rfl
  have hq := rl_div 1 w
  refine fnP Tryz.func121 (ht := (fun g => LV.ren_pure g _ (poE.pure _))) ?_
  refine zg7 ?_
  refine wl_regD 15 (by decide +kernel) ?_
  simp only [List.getD_cons_zero]
  refine cp am1 (h1c) ?_
  refine zg2 ?_
  refine cp am2 (c_FOver 1 w (by omega)) ?_
  refine zg7 ?_
  refine cp am2 (c_FVScale (1 / w) ⟨a, b, c⟩ (R + 1) (by omega) (by omega) ⟨by show rl a ≤ _; omega, by show rl b ≤ _; omega, by show rl c ≤ _; omega⟩) ?_
  refine zg2 ?_
  refine s0bd (bdPo rfl rfl) ?_
  refine zg4 ?_
  exact retC [] rfl rfl rfl cs (at_all cs rfl) T100 (.pure pu)
namespace H_c_FEvalC
theorem zSm {p q : Prop} (k : q) (e : p = q := by simp only [e1, e2, e3, e4, p1, p2, p3, q1, q2, q3, l1, t0, t1, r1, r2, r3, r4, Nat.zero_add, Nat.reduceMul, Nat.reduceAdd, b1, b2, b3, b4, b5, b6, i1, i2, i3, i4, i5, i6, Nat.reduceBEq, List.set_cons_zero, List.set_cons_succ, Nat.reduceEqDiff, reduceIte, if_true, if_false, ptL_kill, poL_kill, kills_map ptE, kills_map poE, kills_map ratE, ratL_kill, spL_kill, LV.kill, kills]; exact rfl) : p := e.mpr k
end H_c_FEvalC
open H_c_FEvalC in
theorem c_FEvalC (d : Nat) (T t : Rat) (po : List PoR) (h : cvF po d) (hd : d ≤ 6) (hT : rl T ≤ 1) (hT1 : rl (T + 1) ≤ 1) (ht : rl t ≤ 1000) (h1 : T ≤ t) (h2 : t ≤ T + 1) : CallP Tryz.prog 27 [.agg [nI64 d, .list 3 ((kn0 d T).map ratL), .list 12 (po.map poL)], ratL t] (.tup [ptL (evV po (t - T)), iL 0]) := by
  have hn := nf_rl (T := T) (t := t) hd (by omega) (by omega) ht
  have hb := hm_bd (T := T) (t := t) h hn (d + 1) (Nat.le_refl _)
  have he := hm_ev (T := T) (t := t) h
  have hD : CallP Tryz.prog 121 [.agg [ratL (hmS d T t po 0 (d + 1)), ratL (hmS d T t po 1 (d + 1)), ratL (hmS d T t po 2 (d + 1)), ratL (hmS d T t po 3 (d + 1))]] (poL ⟨evV po (t - T), evP (wtP po) (t - T)⟩) := by
    have := c_FDrop _ _ _ _ 5000000 (by decide) (hb 0) (hb 1) (hb 2) (hb 3)
    rw [he.1 0 (by decide), he.1 1 (by decide), he.1 2 (by decide), he.2] at this ⊢
    exact this
  have hcp4 : LV.pure (.agg [ratL (hmS d T t po 0 (d + 1)), ratL (hmS d T t po 1 (d + 1)), ratL (hmS d T t po 2 (d + 1)), ratL (hmS d T t po 3 (d + 1))]) = true := by simp [LV.pure, pures, ratE.pure]
  have hcp : LV.pure (.agg [nI64 d, .list 3 ((kn0 d T).map ratL), .list 12 (po.map poL)]) = true := by simp [LV.pure, pures, pures_map ratE, pures_map poE]
  refine fnP Tryz.func27 (ht := (tame2 (ptE.pure _) rfl)) ?_
  refine zg16 ?_
  refine cp am3 (c_FIvl d T t hd hT hT1 ht h1 h2) ?_
  refine zg13 ?_
  refine wl_if rfl (fun h18r h18 => ?_) (fun h18r h18 => ?_)
  · first | exact h18.elim | cases h18r
  · refine zg6 ?_
    refine cp am2 (c_FHom d T t po h hd hT hT1 ht h1 h2) ?_
    refine cp am1 (hD) ?_
    refine zg6 ?_
    exact retCT [] rfl rfl rfl cs (at_all cs rfl) T31 (.pure pu) rfl (.pure rfl)
end Go.Proofs.YtgfbghoihhnahaaGreat
end
section
set_option linter.unusedVariables false
set_option linter.unusedSimpArgs false
set_option maxHeartbeats 8000000
set_option maxRecDepth 100000
attribute [local irreducible] Go.Lg.opsL Go.Lg.wpL Go.Lg.thenL Go.Lg.blockL
namespace Go.Proofs.YtgfbghoihhnahaaGreat
open Go.Lg
theorem chp_rl {po : List PoR} {d : Nat} (h : cvF po d) : rl (chdP po) ≤ 1400 := by
  have hg : ∀ i, i < po.length → bd3 1 (po.getD i default).p := fun i hi => by
    have hm : po.getD i default ∈ po := by rw [List.getD_eq_getElem?_getD, List.getElem?_eq_getElem hi]; exact List.getElem_mem hi
    exact (h.ok _ hm).1
  have hl := h.hl
  exact chd_le (hg 0 (by omega)) (hg (po.length - 1) (by omega)) (ps_all h.ok)
end Go.Proofs.YtgfbghoihhnahaaGreat
end
section
set_option linter.unusedVariables false
set_option linter.unusedSimpArgs false
set_option maxHeartbeats 8000000
set_option maxRecDepth 100000
attribute [local irreducible] Go.Lg.opsL Go.Lg.wpL Go.Lg.thenL Go.Lg.blockL
namespace Go.Proofs.YtgfbghoihhnahaaGreat
open Go.Lg
theorem fE_rl {a b : Rat} : ∀ (n : Nat) (c : Nat → Rat) (R : Nat), (∀ i, rl (c i) ≤ R) → rl (fE a b n c) ≤ (R + (rl a + rl b + 1)) * 2 ^ n
  | 0, c, R, h => by
    have := h 0
    show rl (c 0) ≤ _
    omega
  | n + 1, c, R, h => by
    have := fE_rl (a := a) (b := b) n (fun i => a * c i + b * c (i + 1)) (2 * R + (rl a + rl b + 1)) (fun i => by
      have h0 := h i
      have h1 := h (i + 1)
      have m0 := rl_mul a (c i)
      have m1 := rl_mul b (c (i + 1))
      have s0 := rl_add (a * c i) (b * c (i + 1))
      omega)
    rw [fE]
    refine Nat.le_trans this ?_
    rw [Nat.pow_succ, Nat.mul_comm (2 ^ n) 2, ← Nat.mul_assoc]
    exact Nat.mul_le_mul_right _ (by omega)
theorem ev_rl {p : List Rat} {t : Rat} {R : Nat} (hl : 0 < p.length) (hR : 1 ≤ R) (h : ∀ x ∈ p, rl x ≤ R) : rl (evP p t) ≤ (R + (rl (1 - t) + rl t + 1)) * 2 ^ (p.length - 1) := by
  rw [ev_fE hl]
  exact fE_rl _ _ R (fun i => getD_rl hR h i)
theorem tan_bd {po : List PoR} {d : Nat} (h : cvF po d) (hd : d ≤ 5) {x : Rat} (hx : rl x ≤ 100) : bd3 400000000 (tanV po x) := by
  have hr1 : rl 1 = 1 := rfl
  have s1 := rl_sub 1 x
  have w1 := h.w
  have hd1 := h.hd
  have hp : ∀ n, n ≤ 9 → 2 ^ n ≤ 512 := fun n hn => Nat.pow_le_pow_right (n := 2) (by decide) hn
  have hp5 : ∀ n, n ≤ 5 → 2 ^ n ≤ 32 := fun n hn => Nat.pow_le_pow_right (n := 2) (by decide) hn
  have hw := ev_rl (t := x) (by omega) (by decide) w1.2
  have hw2 : (2 + (rl (1 - x) + rl x + 1)) * 2 ^ ((wtP po).length - 1) ≤ 210 * 32 := Nat.mul_le_mul (by omega) (hp5 _ (by omega))
  have m0 := rl_mul (evP (wtP po) x) (evP (wtP po) x)
  have m1 := rl_div 1 (evP (wtP po) x * evP (wtP po) x)
  have g : ∀ k, rl (1 / (evP (wtP po) x * evP (wtP po) x) * evP (trP po k) x) ≤ 400000000 := fun k => by
    have u := h.t k
    have y := ev_rl (t := x) (by omega) (by decide) u.2
    have y2 : (689401 + (rl (1 - x) + rl x + 1)) * 2 ^ ((trP po k).length - 1) ≤ 689700 * 512 := Nat.mul_le_mul (by omega) (hp _ (by omega))
    have m2 := rl_mul (1 / (evP (wtP po) x * evP (wtP po) x)) (evP (trP po k) x)
    omega
  exact ⟨g 0, g 1, g 2⟩
theorem wi_in (T : Rat) (n : Int) : T ≤ T + ptV n ∧ T + ptV n ≤ T + 1 := by
  have := ptV_in n
  constructor <;> grind
theorem has_in {T t : Rat} (h1 : T ≤ t) (h2 : t ≤ T + 1) : hasR (T, T + 1) t = true := by
  unfold hasR
  rw [decide_eq_true h1, decide_eq_true h2]; rfl
theorem fz0 (bs : List Nat) : frzH bs [] = [] := rfl
end Go.Proofs.YtgfbghoihhnahaaGreat
end
section
set_option linter.unusedVariables false
set_option linter.unusedSimpArgs false
set_option maxHeartbeats 8000000
set_option maxRecDepth 100000
attribute [local irreducible] Go.Lg.opsL Go.Lg.wpL Go.Lg.thenL Go.Lg.blockL
namespace Go.Proofs.YtgfbghoihhnahaaGreat
open Go.Lg
namespace H_c_made11
theorem zSm {p q : Prop} (k : q) (e : p = q := by simp only [e1, e2, e3, e4, p1, p2, p3, q1, q2, q3, l1, t0, t1, r1, r2, r3, r4, Nat.zero_add, Nat.reduceMul, Nat.reduceAdd, b1, b2, b3, b4, b5, b6, i1, i2, i3, i4, i5, i6, Nat.reduceBEq, List.set_cons_zero, List.set_cons_succ, Nat.reduceEqDiff, reduceIte, if_true, if_false, ptL_kill, poL_kill, kills_map ptE, kills_map poE, kills_map ratE, ratL_kill, spL_kill, LV.kill, kills, dice_kill]; exact rfl) : p := e.mpr k
end H_c_made11
open H_c_made11 in
theorem c_made11 (l : List Int) (hl5 : l.length ≤ 500) : CallP Tryz.prog 32 [.list 1 (l.map i64L)] (.agg [nI64 (cD l 0 5), .list 3 ((kn0 (cD l 0 5) (cT l 0)).map ratL), .list 12 ((cP l 0 5).map poL)]) := by
  have hcp : LV.pure (.agg [nI64 (cD l 0 5), .list 3 ((kn0 (cD l 0 5) (cT l 0)).map ratL), .list 12 ((cP l 0 5).map poL)]) = true := by simp [LV.pure, pures, pures_map ratE, pures_map poE]
  refine fnP Tryz.func32 (ht := (fun g => LV.ren_pure g _ (by simp [LV.pure, pures, pures_map ratE, pures_map poE]))) ?_
  refine zg8 ?_
  refine st_call1 [] rfl rfl (.cons im0 .nil) (c_Roll l) (dice_pure l 0) rfl ?_
  refine st_callMp 1000065 rfl rfl rfl (dice_pure l _) (.cons .ptr (.cons (.imm (.pure rfl)) (.cons (.imm (.pure rfl)) (.cons (.imm (.pure rfl)) .nil)))) .ptr (c_DCurve l 0 hl5 5 (by decide) (by decide) (Nat.zero_le _)) rfl (dice_pure l _) hcp ?_
  refine zg4 ?_
  exact retC [] rfl rfl rfl cs (at_all cs rfl) T36 (.pure hcp)
end Go.Proofs.YtgfbghoihhnahaaGreat
end
section
set_option linter.unusedVariables false
set_option linter.unusedSimpArgs false
set_option maxHeartbeats 8000000
set_option maxRecDepth 100000
attribute [local irreducible] Go.Lg.opsL Go.Lg.wpL Go.Lg.thenL Go.Lg.blockL
namespace Go.Proofs.YtgfbghoihhnahaaGreat
open Go.Lg
section
variable {po : List PoR} {d : Nat} (h : cvF po d)
include h
end
theorem ev_b {p : List Rat} {x : Rat} (hl : 0 < p.length) (hl6 : p.length ≤ 6) (h : ∀ y ∈ p, rl y ≤ 8) (hx : rl x ≤ 100) : rl (evP p x) ≤ 7000 := by
  have hr1 : rl 1 = 1 := rfl
  have s1 := rl_sub 1 x
  have e := ev_rl (t := x) hl (by decide) h
  have hp : 2 ^ (p.length - 1) ≤ 32 := Nat.pow_le_pow_right (n := 2) (by decide) (show p.length - 1 ≤ 5 by omega)
  have : (8 + (rl (1 - x) + rl x + 1)) * 2 ^ (p.length - 1) ≤ 211 * 32 := Nat.mul_le_mul (by omega) hp
  omega
end Go.Proofs.YtgfbghoihhnahaaGreat
end
section
set_option linter.unusedVariables false
set_option linter.unusedSimpArgs false
set_option maxHeartbeats 8000000
set_option maxRecDepth 100000
attribute [local irreducible] Go.Lg.opsL Go.Lg.wpL Go.Lg.thenL Go.Lg.blockL
namespace Go.Proofs.YtgfbghoihhnahaaGreat
open Go.Lg
/-- the span of a coordinate of the first points -/
def bxN (l : List V3) (k : Nat) : Nat → Rat × Rat
  | 0 => ((l.getD 0 default).at k, (l.getD 0 default).at k)
  | j + 1 => hulP (bxN l k j) ((l.getD (j + 1) default).at k, (l.getD (j + 1) default).at k)
def bxP (l : List V3) : Bx3 := ⟨bxN l 0 (l.length - 1), bxN l 1 (l.length - 1), bxN l 2 (l.length - 1)⟩
theorem hul_le (a b : Rat × Rat) : (hulP a b).1 ≤ a.1 ∧ (hulP a b).1 ≤ b.1 ∧ a.2 ≤ (hulP a b).2 ∧ b.2 ≤ (hulP a b).2 := by
  unfold hulP mnR mxR
  refine ⟨?_, ?_, ?_, ?_⟩ <;> simp only <;> split <;> grind
theorem bxN_in (l : List V3) (k : Nat) : ∀ n i, i ≤ n → (bxN l k n).1 ≤ (l.getD i default).at k ∧ (l.getD i default).at k ≤ (bxN l k n).2
  | 0, i, h => by
    obtain rfl : i = 0 := by omega
    exact ⟨Rat.le_refl, Rat.le_refl⟩
  | n + 1, i, h => by
    obtain ⟨h1, h2, h3, h4⟩ := hul_le (bxN l k n) ((l.getD (n + 1) default).at k, (l.getD (n + 1) default).at k)
    rw [bxN]
    rcases Nat.lt_or_ge i (n + 1) with hi | hi
    · obtain ⟨g1, g2⟩ := bxN_in l k n i (by omega)
      exact ⟨Rat.le_trans h1 g1, Rat.le_trans g2 h3⟩
    · obtain rfl : i = n + 1 := by omega
      exact ⟨h2, h4⟩
theorem bxN_bd {l : List V3} {R : Nat} (h : ∀ i, i < l.length → bd3 R (l.getD i default)) (k : Nat) : ∀ n, n < l.length → bdS R (bxN l k n)
  | 0, hn => ⟨at_rl (h 0 hn) k, at_rl (h 0 hn) k⟩
  | n + 1, hn => hul_bd (bxN_bd h k n (by omega)) ⟨at_rl (h _ hn) k, at_rl (h _ hn) k⟩
theorem fE_nn {a b : Rat} (ha : 0 ≤ a) (hb : 0 ≤ b) : ∀ (n : Nat) (f : Nat → Rat), (∀ i, i ≤ n → 0 ≤ f i) → 0 ≤ fE a b n f
  | 0, f, h => h 0 (Nat.le_refl _)
  | n + 1, f, h => by
    rw [fE]
    refine fE_nn ha hb n _ fun i hi => ?_
    have h1 := Rat.mul_nonneg ha (h i (by omega))
    have h2 := Rat.mul_nonneg hb (h (i + 1) (by omega))
    exact Rat.add_nonneg h1 h2
theorem lin_in {a a1 a2 b lo hi : Rat} (h1 : a1 ≤ a) (h2 : a ≤ a2) (k1 : lo ≤ a1 * b) (k2 : a1 * b ≤ hi) (k3 : lo ≤ a2 * b) (k4 : a2 * b ≤ hi) : lo ≤ a * b ∧ a * b ≤ hi := by
  rcases Rat.le_total (a := 0) (b := b) with hb | hb
  · have m1 := Rat.mul_le_mul_of_nonneg_right h1 hb
    have m2 := Rat.mul_le_mul_of_nonneg_right h2 hb
    exact ⟨Rat.le_trans k1 m1, Rat.le_trans m2 k4⟩
  · have hb' : 0 ≤ -b := by grind
    have m1 := Rat.mul_le_mul_of_nonneg_right h1 hb'
    have m2 := Rat.mul_le_mul_of_nonneg_right h2 hb'
    have n1 : a * b ≤ a1 * b := by grind
    have n2 : a2 * b ≤ a * b := by grind
    exact ⟨Rat.le_trans k3 n2, Rat.le_trans n1 k2⟩
/-- the product of numbers of two spans lies in the product of the spans -/
theorem mu_in {A B : Rat × Rat} {a b : Rat} (h1 : A.1 ≤ a) (h2 : a ≤ A.2) (h3 : B.1 ≤ b) (h4 : b ≤ B.2) : (muS A B).1 ≤ a * b ∧ a * b ≤ (muS A B).2 := by
  obtain ⟨x1, x2, x3, x4⟩ := hul_le (A.1 * B.1, A.1 * B.1) (A.1 * B.2, A.1 * B.2)
  obtain ⟨y1, y2, y3, y4⟩ := hul_le (hulP (A.1 * B.1, A.1 * B.1) (A.1 * B.2, A.1 * B.2)) (A.2 * B.1, A.2 * B.1)
  obtain ⟨z1, z2, z3, z4⟩ := hul_le (hulP (hulP (A.1 * B.1, A.1 * B.1) (A.1 * B.2, A.1 * B.2)) (A.2 * B.1, A.2 * B.1)) (A.2 * B.2, A.2 * B.2)
  unfold muS
  simp only at *
  generalize hulP (hulP (hulP (A.1 * B.1, A.1 * B.1) (A.1 * B.2, A.1 * B.2)) (A.2 * B.1, A.2 * B.1)) (A.2 * B.2, A.2 * B.2) = S at *
  have g1 := lin_in (lo := S.1) (hi := S.2) h3 h4 (b := A.1) (by rw [Rat.mul_comm]; exact Rat.le_trans z1 (Rat.le_trans y1 x1)) (by rw [Rat.mul_comm]; exact Rat.le_trans x3 (Rat.le_trans y3 z3)) (by rw [Rat.mul_comm]; exact Rat.le_trans z1 (Rat.le_trans y1 x2)) (by rw [Rat.mul_comm]; exact Rat.le_trans x4 (Rat.le_trans y3 z3))
  have g2 := lin_in (lo := S.1) (hi := S.2) h3 h4 (b := A.2) (by rw [Rat.mul_comm]; exact Rat.le_trans z1 y2) (by rw [Rat.mul_comm]; exact Rat.le_trans y4 z3) (by rw [Rat.mul_comm]; exact z2) (by rw [Rat.mul_comm]; exact z4)
  rw [Rat.mul_comm b] at g1 g2
  exact lin_in h1 h2 g1.1 g1.2 g2.1 g2.2
theorem rc_in {B : Rat × Rat} {b : Rat} (h0 : 0 < B.1) (h1 : B.1 ≤ b) (h2 : b ≤ B.2) : (rcS B).1 ≤ 1 / b ∧ 1 / b ≤ (rcS B).2 := by
  have e1 := inv_mono (lt_le h0 h1) h2
  have e2 := inv_mono h0 h1
  unfold rcS mnR mxR
  constructor
  · simp only; split <;> grind
  · simp only; split <;> grind
theorem chd_ub (a b : V3) : ∀ (l : List V3) (o : Rat), o ≤ l.foldl (fun o p => mxR o (sgR a b p)) o ∧ ∀ p ∈ l, sgR a b p ≤ l.foldl (fun o p => mxR o (sgR a b p)) o
  | [], o => ⟨Rat.le_refl, fun _ hp => by cases hp⟩
  | p :: l, o => by
    obtain ⟨g1, g2⟩ := chd_ub a b l (mxR o (sgR a b p))
    have m1 : o ≤ mxR o (sgR a b p) := by unfold mxR; split <;> grind
    have m2 : sgR a b p ≤ mxR o (sgR a b p) := by unfold mxR; split <;> grind
    refine ⟨Rat.le_trans m1 g1, fun q hq => ?_⟩
    rcases List.mem_cons.1 hq with rfl | hq
    · exact Rat.le_trans m2 g1
    · exact g2 q hq
/-- what is convex in the points is convex in the homogeneous coordinates -/
theorem hom_mix {A B : V3} {c : Rat} {s t : Rat} (hs : 0 ≤ s) (ht : 0 ≤ t) : ∀ (n : Nat) (w : Nat → Rat) (p : Nat → V3), (∀ i, i ≤ n → 0 < w i ∧ sgR A B (p i) ≤ c) → 0 < s + t →
    0 < fE s t n w ∧ sgR A B (v3m (1 / fE s t n w) ⟨fE s t n (fun i => w i * (p i).x), fE s t n (fun i => w i * (p i).y), fE s t n (fun i => w i * (p i).z)⟩) ≤ c
  | 0, w, p, hp, _ => by
    obtain ⟨h1, h2⟩ := hp 0 (Nat.le_refl _)
    have hr : 1 / w 0 * w 0 = 1 := Rat.div_mul_cancel (by grind)
    have e : v3m (1 / w 0) ⟨w 0 * (p 0).x, w 0 * (p 0).y, w 0 * (p 0).z⟩ = p 0 := by
      unfold v3m
      simp only [← Rat.mul_assoc, hr, Rat.one_mul]
    refine ⟨h1, ?_⟩
    show sgR A B (v3m (1 / w 0) ⟨w 0 * (p 0).x, w 0 * (p 0).y, w 0 * (p 0).z⟩) ≤ c
    rw [e]; exact h2
  | n + 1, w, p, hp, hst => by
    have hW : ∀ i, i ≤ n → 0 < s * w i + t * w (i + 1) := fun i hi => by
      have a1 := (hp i (by omega)).1
      have a2 := (hp (i + 1) (by omega)).1
      have b1 := Rat.mul_nonneg hs (Rat.le_of_lt a1)
      have b2 := Rat.mul_nonneg ht (Rat.le_of_lt a2)
      rcases Rat.le_iff_lt_or_eq.1 hs with h0 | h0
      · have := Rat.mul_pos h0 a1; grind
      · have := Rat.mul_pos (show 0 < t by grind) a2; grind
    have ih := hom_mix (A := A) (B := B) (c := c) hs ht n (fun i => s * w i + t * w (i + 1)) (fun i => v3a (v3m (s * w i * (1 / (s * w i + t * w (i + 1)))) (p i)) (v3m (t * w (i + 1) * (1 / (s * w i + t * w (i + 1)))) (p (i + 1)))) (fun i hi => by
      have hw := hW i hi
      have hi1 := (inv_mono hw Rat.le_refl).1
      have hr : 1 / (s * w i + t * w (i + 1)) * (s * w i + t * w (i + 1)) = 1 := Rat.div_mul_cancel (by grind)
      have a1 := hp i (by omega)
      have a2 := hp (i + 1) (by omega)
      have b1 := Rat.mul_nonneg hs (Rat.le_of_lt a1.1)
      have b2 := Rat.mul_nonneg ht (Rat.le_of_lt a2.1)
      have c1 := Rat.mul_nonneg b1 (Rat.le_of_lt hi1)
      have c2 := Rat.mul_nonneg b2 (Rat.le_of_lt hi1)
      have hsum : s * w i * (1 / (s * w i + t * w (i + 1))) + t * w (i + 1) * (1 / (s * w i + t * w (i + 1))) = 1 := by
        rw [← Rat.add_mul, Rat.mul_comm]; exact hr
      refine ⟨hw, Rat.le_trans (sg_mix A B c1 c2 hsum (p i) (p (i + 1))) ?_⟩
      have d1 := Rat.mul_le_mul_of_nonneg_left a1.2 c1
      have d2 := Rat.mul_le_mul_of_nonneg_left a2.2 c2
      have d3 : s * w i * (1 / (s * w i + t * w (i + 1))) * c + t * w (i + 1) * (1 / (s * w i + t * w (i + 1))) * c = c := by rw [← Rat.add_mul, hsum, Rat.one_mul]
      generalize s * w i * (1 / (s * w i + t * w (i + 1))) * sgR A B (p i) = u1 at *
      generalize t * w (i + 1) * (1 / (s * w i + t * w (i + 1))) * sgR A B (p (i + 1)) = u2 at *
      clear hsum hr
      grind) hst
    have hx : ∀ g : V3 → Rat, (∀ r q r' q', g (v3a (v3m r q) (v3m r' q')) = r * g q + r' * g q') → fE s t n (fun i => (s * w i + t * w (i + 1)) * g (v3a (v3m (s * w i * (1 / (s * w i + t * w (i + 1)))) (p i)) (v3m (t * w (i + 1) * (1 / (s * w i + t * w (i + 1)))) (p (i + 1))))) = fE s t (n + 1) (fun i => w i * g (p i)) := fun g hg => by
      rw [fE]
      refine fE_congr _ _ _ _ _ fun i hi => ?_
      have hr : 1 / (s * w i + t * w (i + 1)) * (s * w i + t * w (i + 1)) = 1 := Rat.div_mul_cancel (by have := hW i hi; grind)
      simp only [hg]
      generalize s * w i + t * w (i + 1) = W at *
      generalize 1 / W = r at *
      generalize g (p i) = x1
      generalize g (p (i + 1)) = x2
      have : W * (s * w i * r * x1 + t * w (i + 1) * r * x2) = (r * W) * (s * (w i * x1) + t * (w (i + 1) * x2)) := by grind
      rw [this, hr, Rat.one_mul]
    rw [hx (·.x) (fun _ _ _ _ => rfl), hx (·.y) (fun _ _ _ _ => rfl), hx (·.z) (fun _ _ _ _ => rfl)] at ih
    exact ih
section
variable {po : List PoR} {d : Nat} (h : cvF po d)
include h
theorem w_pos {x : Rat} (h0 : 0 ≤ x) (h1 : x ≤ 1) : 0 < evP (wtP po) x := lt_le_trans (wt_lo h) (wt_in h h0 h1).1
/-- a coordinate of a point of the curve lies between bounds of the poles' -/
theorem ev_box {k : Nat} {lo hi : Rat} (hb : ∀ q ∈ po, lo ≤ q.p.at k ∧ q.p.at k ≤ hi) {x : Rat} (h0 : 0 ≤ x) (h1 : x ≤ 1) : lo ≤ 1 / evP (wtP po) x * evP (nmP po k) x ∧ 1 / evP (wtP po) x * evP (nmP po k) x ≤ hi := by
  have hw := w_pos h h0 h1
  have hi1 := (inv_mono hw Rat.le_refl).1
  have hr : 1 / evP (wtP po) x * evP (wtP po) x = 1 := Rat.div_mul_cancel (by grind)
  have l1 := h.w.1
  have l2 := (h.n k).1
  have key : ∀ c s : Rat, (∀ q ∈ po, 0 ≤ c * q.w + s * (q.w * q.p.at k)) → 0 ≤ c * evP (wtP po) x + s * evP (nmP po k) x := fun c s hq => by
    rw [ev_fE (by omega), ev_fE (by omega), l1, l2, ← fE_lin]
    refine fE_nn (by grind) h0 _ _ fun i hi => ?_
    have hl := h.hl
    have := hq _ (getD_memP (po := po) (j := i) (by omega))
    rw [nm_get (by omega), wt_get (by omega)]
    exact this
  have k1 := key hi (-1) (fun q hq => by
    have := Rat.mul_nonneg (Rat.le_of_lt (h.ok q hq).2.2) (show 0 ≤ hi - q.p.at k by have := (hb q hq).2; grind)
    grind)
  have k2 := key (-lo) 1 (fun q hq => by
    have := Rat.mul_nonneg (Rat.le_of_lt (h.ok q hq).2.2) (show 0 ≤ q.p.at k - lo by have := (hb q hq).1; grind)
    grind)
  have m1 := Rat.mul_nonneg (Rat.le_of_lt hi1) k1
  have m2 := Rat.mul_nonneg (Rat.le_of_lt hi1) k2
  generalize 1 / evP (wtP po) x = r at *
  generalize evP (wtP po) x = w at *
  generalize evP (nmP po k) x = n at *
  clear key hb
  have q1 : r * (hi * w + -1 * n) = hi * (r * w) - r * n := by grind
  have q2 : r * (-lo * w + 1 * n) = r * n - lo * (r * w) := by grind
  rw [q1, hr] at m1
  rw [q2, hr] at m2
  constructor <;> grind
theorem pt_box {k : Nat} {x : Rat} (h0 : 0 ≤ x) (h1 : x ≤ 1) : hasR (bxN (po.map (·.p)) k ((po.map (·.p)).length - 1)) (1 / evP (wtP po) x * evP (nmP po k) x) = true := by
  have hl := h.hl
  have := ev_box h (k := k) (lo := (bxN (po.map (·.p)) k ((po.map (·.p)).length - 1)).1) (hi := (bxN (po.map (·.p)) k ((po.map (·.p)).length - 1)).2) (fun q hq => by
    obtain ⟨i, hi, rfl⟩ := List.mem_iff_getElem.1 hq
    have := bxN_in (po.map (·.p)) k ((po.map (·.p)).length - 1) i (by rw [List.length_map]; omega)
    rw [ps_get, List.getD_eq_getElem?_getD, List.getElem?_eq_getElem hi] at this
    exact this) h0 h1
  unfold hasR
  rw [decide_eq_true this.1, decide_eq_true this.2]; rfl
/-- the derivative lies in the box of derivatives -/
theorem sp_box (k : Nat) {x : Rat} (h0 : 0 ≤ x) (h1 : x ≤ 1) : hasR (spK po k) (1 / (evP (wtP po) x * evP (wtP po) x) * evP (trP po k) x) = true := by
  obtain ⟨t1, t2⟩ := tr_in h k h0 h1
  obtain ⟨w1, w2⟩ := wt_in h h0 h1
  have hlo := wt_lo h
  have hl0 : 0 < (wtP po).length := by have := h.w.1; omega
  have e := (sq_pos hlo (bnd_le12 hl0)).1
  have hw := lt_le_trans hlo w1
  have q1 := Rat.mul_le_mul_of_nonneg_left w1 (Rat.le_of_lt hlo)
  have q2 := Rat.mul_le_mul_of_nonneg_right w1 (Rat.le_of_lt hw)
  have q3 := (ww_pos h h0 h1).2
  have r := rc_in (B := sqS (bndP (wtP po))) (b := evP (wtP po) x * evP (wtP po) x) (by rw [e]; exact Rat.mul_pos hlo hlo) (by rw [e]; exact Rat.le_trans q1 q2) (by rw [e]; exact q3)
  have m := mu_in t1 t2 r.1 r.2
  have m2 := mu_in (A := muS (bndP (trP po k)) (rcS (sqS (bndP (wtP po))))) (B := (1, 1)) (a := evP (trP po k) x * (1 / (evP (wtP po) x * evP (wtP po) x))) (b := 1) m.1 m.2 Rat.le_refl Rat.le_refl
  have e2 : evP (trP po k) x * (1 / (evP (wtP po) x * evP (wtP po) x)) * 1 = 1 / (evP (wtP po) x * evP (wtP po) x) * evP (trP po k) x := by rw [Rat.mul_one]; exact Rat.mul_comm _ _
  rw [e2] at m2
  unfold hasR spK quS
  rw [decide_eq_true m2.1, decide_eq_true m2.2]; rfl
end
theorem chd_le_of {po : List PoR} {i : Nat} (hi : i < po.length) : sgR (po.getD 0 default).p (po.getD (po.length - 1) default).p (po.getD i default).p ≤ chdP po := by
  have hm : (po.getD i default).p ∈ po.map (·.p) := List.mem_map_of_mem (getD_memP hi)
  unfold chdP chd
  generalize (po.getD i default).p = q at *
  exact (chd_ub _ _ _ 0).2 q hm
section
variable {po : List PoR} {d : Nat} (h : cvF po d)
include h
theorem seg_in {x : Rat} (h0 : 0 ≤ x) (h1 : x ≤ 1) : sgR (po.getD 0 default).p (po.getD (po.length - 1) default).p (evV po x) ≤ chdP po := by
  have hl := h.hl
  have l1 := h.w.1
  have hx0 : 0 ≤ 1 - x := by grind
  have hx1 : 0 < 1 - x + x := by grind
  have hq : ∀ i, i ≤ d → 0 < (po.getD i default).w ∧ sgR (po.getD 0 default).p (po.getD (po.length - 1) default).p (po.getD i default).p ≤ chdP po := fun i hi =>
    ⟨(h.ok _ (getD_memP (po := po) (j := i) (by omega))).2.2, chd_le_of (by omega)⟩
  have ew : fE (1 - x) x d (fun i => (po.getD i default).w) = evP (wtP po) x := by
    rw [ev_fE (by omega), l1]
    exact fE_congr _ _ _ _ _ fun i hi => (wt_get (by omega)).symm
  have en : ∀ k, fE (1 - x) x d (fun i => (po.getD i default).w * (po.getD i default).p.at k) = evP (nmP po k) x := fun k => by
    rw [ev_fE (by have := (h.n k).1; omega), (h.n k).1]
    exact fE_congr _ _ _ _ _ fun i hi => (nm_get (by omega)).symm
  have e0 : fE (1 - x) x d (fun i => (po.getD i default).w * (po.getD i default).p.x) = evP (nmP po 0) x := en 0
  have e1 : fE (1 - x) x d (fun i => (po.getD i default).w * (po.getD i default).p.y) = evP (nmP po 1) x := en 1
  have e2 : fE (1 - x) x d (fun i => (po.getD i default).w * (po.getD i default).p.z) = evP (nmP po 2) x := en 2
  have g : ∀ A B : V3, ∀ c : Rat, (∀ i, i ≤ d → 0 < (po.getD i default).w ∧ sgR A B (po.getD i default).p ≤ c) → sgR A B (evV po x) ≤ c := fun A B c hq => by
    have e := (hom_mix (A := A) (B := B) (c := c) (s := 1 - x) (t := x) hx0 h0 d (fun i => (po.getD i default).w) (fun i => (po.getD i default).p) hq hx1).2
    rw [ew, e0, e1, e2] at e
    exact e
  exact g _ _ _ hq
end
end Go.Proofs.YtgfbghoihhnahaaGreat
end
section
set_option linter.unusedVariables false
set_option linter.unusedSimpArgs false
set_option maxHeartbeats 8000000
set_option maxRecDepth 100000
attribute [local irreducible] Go.Lg.opsL Go.Lg.wpL Go.Lg.thenL Go.Lg.blockL
namespace Go.Proofs.YtgfbghoihhnahaaGreat
open Go.Lg
theorem hul_call {f : Nat} (hc : ∀ s t : Rat × Rat, rl s.1 + rl t.1 ≤ 34359738368 → rl s.2 + rl t.2 ≤ 34359738368 → CallP Tryz.prog f [spL s, spL t] (spL (hulP s t))) {l : List V3} {R : Nat} (hR : R ≤ 1000000) (hb : ∀ i, i < l.length → bd3 R (l.getD i default)) (k j : Nat) (hj : j + 1 < l.length) :
    CallP Tryz.prog f [spL (bxN l k j), spL ((l.getD (j + 1) default).at k, (l.getD (j + 1) default).at k)] (spL (bxN l k (j + 1))) := by
  have q := bxN_bd hb k j (by omega)
  have g := at_rl (hb (j + 1) hj) k
  have h1 : R + R ≤ 34359738368 := by omega
  exact hc _ _ (Nat.le_trans (Nat.add_le_add q.1 g) h1) (Nat.le_trans (Nat.add_le_add q.2 g) h1)
theorem bxcs : (LV.agg [.agg [ratL 0, ratL 0], .agg [ratL 0, ratL 0], .agg [ratL 0, ratL 0]]).csize = 18 := by simp [LV.csize, csizes, ratE.csize]
theorem bxcs2 (a b c : Rat × Rat) : (LV.agg [spL a, spL b, spL c]).csize = 18 := bxE.csize ⟨a, b, c⟩
theorem dr1 (l : List V3) (j : Nat) : (l.drop 1).getD j default = l.getD (j + 1) default := by
  rw [List.getD_eq_getElem?_getD, List.getD_eq_getElem?_getD, List.getElem?_drop, Nat.add_comm]
namespace H_c_VBoxOf
theorem zSm {p q : Prop} (k : q) (e : p = q := by simp only [e1, e2, e3, e4, p1, p2, p3, q1, q2, q3, l1, t0, t1, r1, r2, r3, r4, Nat.zero_add, Nat.reduceMul, Nat.reduceAdd, b1, b2, b3, b4, b5, b6, i1, i2, i3, i4, i5, i6, Nat.reduceBEq, bxcs, bxcs2, dr1, dfq, List.length_drop, List.length_map, List.set_cons_zero, List.set_cons_succ, Nat.reduceEqDiff, reduceIte, if_true, if_false, ptL_kill, poL_kill, kills_map ptE, kills_map poE, kills_map ratE, ratL_kill, spL_kill, LV.kill, kills]; exact rfl) : p := e.mpr k
end H_c_VBoxOf
open H_c_VBoxOf in
theorem c_VBoxOf (l : List V3) (h0 : 0 < l.length) (hl : l.length ≤ 1000) (R : Nat) (hR : R ≤ 1000000) (hb : ∀ i, i < l.length → bd3 R (l.getD i default)) : CallP Tryz.prog 148 [.list 9 (l.map ptL)] (.tup [bxL (bxP l), iL 0]) := by
  obtain ⟨z1, z2, z3⟩ := hb 0 h0
  refine fnP Tryz.func148 (ht := (tame2 (bxE.pure _) rfl)) ?_
  refine zg19 ?_
  refine wl_if rfl (fun h10r h10 => ?_) (fun h10r h10 => ?_)
  · omega
  · refine zg9 ?_
    refine wl_unroll ?_
    refine zg6 ?_
    refine wl_condX (b := _) rfl (by decide) ?_
    refine zg18 ?_
    refine cp am1 (c_SPoint (l.getD 0 default).x (by omega)) ?_
    refine zg7 ?_
    refine st_pure rfl (.sliceLl (a := 1) ptE rfl Tryz.underlying129 T31 rfl om) ?_
    refine zg5 ?_
    refine lp1 (fun (j : Nat) L => (((((((((St.mk L.slot (hp [(2, ⟨18, [.agg [.agg [ratL 0, ratL 0], .agg [ratL 0, ratL 0], .agg [ratL 0, ratL 0]]], true⟩), (4, ⟨18, [.agg [spL (bxN l 0 j), .agg [ratL 0, ratL 0], .agg [ratL 0, ratL 0]]], true⟩)])).put (some 0) (.list 9 (l.map ptL))).put (some 2) (.eptr 2 18 0 0)).put (some 4) (.eptr 4 18 0 0)).put (some 5) (iL 0)).put (some 12) (iL 0)).put (some 24) (.list 9 ((l.drop 1).map ptL))).put (some 25) (nI64 (l.length - 1))).put (some 26) (nI64 j))) (fun j => j ≤ l.length - 1) (fun j => l.length - 1 - j) 0 (Nat.zero_le _) ?_
    rintro j L2 hj
    refine zg6 ?_
    refine wl_if rfl (fun h27r h27 => ?_) (fun h27r h27 => ?_)
    · have hj2 : j < l.length - 1 := by omega
      obtain ⟨g1, g2, g3⟩ := hb (j + 1) (by omega)
      have hH0 : CallP Tryz.prog 208 [spL (bxN l 0 j), spL ((l.getD (j + 1) default).x, (l.getD (j + 1) default).x)] (spL (bxN l 0 (j + 1))) := hul_call (fun s t h1 h2 => c_SHull s t (by omega) (by omega)) hR hb 0 j (by omega)
      refine zg12 ?_
      refine wl_regD 10 (by decide +kernel) ?_
      refine zg7 ?_
      refine cp am1 (c_SPoint (l.getD (j + 1) default).x (by omega)) ?_
      refine cp am2 (hH0) ?_
      refine zg5 ?_
      refine wl_regW (Weak.kill _ 7) ?_
      refine st_pure rfl (.bin rfl rfl (add1N (by omega))) ?_
      refine zg3 ?_
      exact nx1 (j + 1) (by omega)
    · obtain rfl : j = l.length - 1 := by omega
      refine zg11 ?_
      refine wl_unroll ?_
      refine zg6 ?_
      refine wl_condX (b := _) rfl (by decide) ?_
      refine zg18 ?_
      refine cp am1 (c_SPoint (l.getD 0 default).y (by omega)) ?_
      refine zg7 ?_
      refine st_pure rfl (.sliceLl (a := 1) ptE rfl Tryz.underlying129 T31 rfl om) ?_
      refine zg5 ?_
      refine lp1 (fun (j : Nat) L => (((((((((St.mk L.slot (hp [(2, ⟨18, [.agg [.agg [ratL 0, ratL 0], .agg [ratL 0, ratL 0], .agg [ratL 0, ratL 0]]], true⟩), (4, ⟨18, [.agg [spL (bxN l 0 (l.length - 1)), spL (bxN l 1 j), .agg [ratL 0, ratL 0]]], true⟩)])).put (some 0) (.list 9 (l.map ptL))).put (some 2) (.eptr 2 18 0 0)).put (some 4) (.eptr 4 18 0 0)).put (some 5) (iL 1)).put (some 12) (iL 1)).put (some 24) (.list 9 ((l.drop 1).map ptL))).put (some 25) (nI64 (l.length - 1))).put (some 26) (nI64 j))) (fun j => j ≤ l.length - 1) (fun j => l.length - 1 - j) 0 (Nat.zero_le _) ?_
      rintro j L2 hj
      refine zg6 ?_
      refine wl_if rfl (fun h27r h27 => ?_) (fun h27r h27 => ?_)
      · have hj2 : j < l.length - 1 := by omega
        obtain ⟨g1, g2, g3⟩ := hb (j + 1) (by omega)
        have hH1 : CallP Tryz.prog 208 [spL (bxN l 1 j), spL ((l.getD (j + 1) default).y, (l.getD (j + 1) default).y)] (spL (bxN l 1 (j + 1))) := hul_call (fun s t h1 h2 => c_SHull s t (by omega) (by omega)) hR hb 1 j (by omega)
        refine zg12 ?_
        refine wl_regD 10 (by decide +kernel) ?_
        refine zg7 ?_
        refine cp am1 (c_SPoint (l.getD (j + 1) default).y (by omega)) ?_
        refine cp am2 (hH1) ?_
        refine zg5 ?_
        refine wl_regW (Weak.kill _ 7) ?_
        refine st_pure rfl (.bin rfl rfl (add1N (by omega))) ?_
        refine zg3 ?_
        exact nx1 (j + 1) (by omega)
      · obtain rfl : j = l.length - 1 := by omega
        refine zg11 ?_
        refine wl_unroll ?_
        refine zg6 ?_
        refine wl_condX (b := _) rfl (by decide) ?_
        refine zg18 ?_
        refine cp am1 (c_SPoint (l.getD 0 default).z (by omega)) ?_
        refine zg7 ?_
        refine st_pure rfl (.sliceLl (a := 1) ptE rfl Tryz.underlying129 T31 rfl om) ?_
        refine zg5 ?_
        refine lp1 (fun (j : Nat) L => (((((((((St.mk L.slot (hp [(2, ⟨18, [.agg [.agg [ratL 0, ratL 0], .agg [ratL 0, ratL 0], .agg [ratL 0, ratL 0]]], true⟩), (4, ⟨18, [.agg [spL (bxN l 0 (l.length - 1)), spL (bxN l 1 (l.length - 1)), spL (bxN l 2 j)]], true⟩)])).put (some 0) (.list 9 (l.map ptL))).put (some 2) (.eptr 2 18 0 0)).put (some 4) (.eptr 4 18 0 0)).put (some 5) (iL 2)).put (some 12) (iL 2)).put (some 24) (.list 9 ((l.drop 1).map ptL))).put (some 25) (nI64 (l.length - 1))).put (some 26) (nI64 j))) (fun j => j ≤ l.length - 1) (fun j => l.length - 1 - j) 0 (Nat.zero_le _) ?_
        rintro j L2 hj
        refine zg6 ?_
        refine wl_if rfl (fun h27r h27 => ?_) (fun h27r h27 => ?_)
        · have hj2 : j < l.length - 1 := by omega
          obtain ⟨g1, g2, g3⟩ := hb (j + 1) (by omega)
          have hH2 : CallP Tryz.prog 208 [spL (bxN l 2 j), spL ((l.getD (j + 1) default).z, (l.getD (j + 1) default).z)] (spL (bxN l 2 (j + 1))) := hul_call (fun s t h1 h2 => c_SHull s t (by omega) (by omega)) hR hb 2 j (by omega)
          refine zg12 ?_
          refine wl_regD 10 (by decide +kernel) ?_
          refine zg7 ?_
          refine cp am1 (c_SPoint (l.getD (j + 1) default).z (by omega)) ?_
          refine cp am2 (hH2) ?_
          refine zg5 ?_
          refine wl_regW (Weak.kill _ 7) ?_
          refine st_pure rfl (.bin rfl rfl (add1N (by omega))) ?_
          refine zg3 ?_
          exact nx1 (j + 1) (by omega)
        · obtain rfl : j = l.length - 1 := by omega
          refine zg11 ?_
          refine wl_unroll ?_
          refine zg6 ?_
          refine wl_condY (b := _) rfl (by decide) ?_
          refine zg13 ?_
          exact retCT [] rfl rfl rfl cs (at_all cs rfl) T69 (.pure pu) rfl (.pure rfl)
namespace H_c_Box
theorem zSm {p q : Prop} (k : q) (e : p = q := by simp only [e1, e2, e3, e4, p1, p2, p3, q1, q2, q3, l1, t0, t1, r1, r2, r3, r4, Nat.zero_add, Nat.reduceMul, Nat.reduceAdd, b1, b2, b3, b4, b5, b6, i1, i2, i3, i4, i5, i6, Nat.reduceBEq, List.set_cons_zero, List.set_cons_succ, Nat.reduceEqDiff, reduceIte, if_true, if_false, ptL_kill, poL_kill, kills_map ptE, kills_map poE, kills_map ratE, ratL_kill, spL_kill, LV.kill, kills]; exact rfl) : p := e.mpr k
end H_c_Box
open H_c_Box in
theorem c_Box (d : Nat) (kn : List Rat) (po : List PoR) (h : cvF po d) : CallP Tryz.prog 52 [.agg [nI64 d, .list 3 (kn.map ratL), .list 12 (po.map poL)]] (bxL (bxP (po.map (·.p)))) := by
  have hl := h.hl
  have hd := h.hd
  have h6 := h.h6
  have hpb : ∀ i, i < (po.map (·.p)).length → bd3 1 ((po.map (·.p)).getD i default) := fun i hi => ps_bd h.ok (by rw [List.length_map] at hi; exact hi)
  have hcp : LV.pure (.agg [nI64 d, .list 3 (kn.map ratL), .list 12 (po.map poL)]) = true := by simp [LV.pure, pures, pures_map ratE, pures_map poE]
  refine fnP Tryz.func52 (ht := (fun r => LV.ren_pure r _ (bxE.pure _))) ?_
  refine zg9 ?_
  refine cp am1 (c_points d kn po h) ?_
  refine cp am1 (c_VBoxOf (po.map (·.p)) (by rw [List.length_map]; omega) (by rw [List.length_map]; omega) 1 (by decide) hpb) ?_
  refine zg15 ?_
  exact retC [] rfl rfl rfl cs (at_all cs rfl) T69 (.pure pu)
theorem evV_bd2 {po : List PoR} {d : Nat} (h : cvF po d) (hd : d ≤ 5) {x : Rat} (hx : rl x ≤ 100) : bd3 15000 (evV po x) := by
  have hr1 : rl 1 = 1 := rfl
  have w1 := h.w
  have hd1 := h.hd
  have bw := ev_b (p := wtP po) (x := x) (by omega) (by omega) (fun y hy => Nat.le_trans (w1.2 y hy) (by decide)) hx
  have m1 := rl_div 1 (evP (wtP po) x)
  have g : ∀ k, rl (1 / evP (wtP po) x * evP (nmP po k) x) ≤ 15000 := fun k => by
    have u := h.n k
    have y := ev_b (p := nmP po k) (x := x) (by omega) (by omega) (fun y hy => Nat.le_trans (u.2 y hy) (by decide)) hx
    have m2 := rl_mul (1 / evP (wtP po) x) (evP (nmP po k) x)
    omega
  exact ⟨g 0, g 1, g 2⟩
namespace H_c_BezierInside
theorem zSm {p q : Prop} (k : q) (e : p = q := by simp only [e1, e2, e3, e4, p1, p2, p3, q1, q2, q3, l1, t0, t1, r1, r2, r3, r4, Nat.zero_add, Nat.reduceMul, Nat.reduceAdd, b1, b2, b3, b4, b5, b6, i1, i2, i3, i4, i5, i6, Nat.reduceBEq, fz0, dfq, List.set_cons_zero, List.set_cons_succ, Nat.reduceEqDiff, reduceIte, if_true, if_false, ptL_kill, poL_kill, kills_map ptE, kills_map poE, kills_map ratE, ratL_kill, spL_kill, LV.kill, kills]; exact rfl) : p := e.mpr k
end H_c_BezierInside
open H_c_BezierInside in
theorem c_BezierInside (l : List Int) (i : Int) (hl : l.length ≤ 9223372036854775807 ∧ ∀ n ∈ l, -9223372036854775808 ≤ n ∧ n ≤ 9223372036854775807) (hi : -9223372036854775808 ≤ i ∧ i ≤ 9223372036854775807) : CallP Tryz.prog 7 [.list 1 (l.map i64L), iL i] (bL true) := by
  have hlt := hl.1
  obtain ⟨hd1, hd2, hd3⟩ := cD_in (n := 5) l 0 (by decide)
  obtain ⟨hT, hT1⟩ : rl (cT l 0) ≤ 1 ∧ rl ((cT l 0) + 1) ≤ 1 := dt_rl l (nxK l 0)
  have hcv : cvF (cP l 0 5) (cD l 0 5) := ⟨cP_len l 0 5, hd1, by omega, cP_ok l 0 5⟩
  have hcp : LV.pure (.agg [nI64 (cD l 0 5), .list 3 ((kn0 (cD l 0 5) (cT l 0)).map ratL), .list 12 ((cP l 0 5).map poL)]) = true := by simp [LV.pure, pures, pures_map ratE, pures_map poE]
  have h9 : (cD l 0 5) ≤ 6 := by omega
  have hS3 : bdS 1 ((cT l 0), (cT l 0) + 1) := ⟨hT, hT1⟩
  have hpi : rl ((cT l 0) + ptV i) ≤ 3 := wi_rl hT i
  have hwi := wi_in (cT l 0) i
  have hpl := hcv.hl
  have hch : rl (chdP (cP l 0 5)) ≤ 1400 := chp_rl hcv
  have hpb : ∀ i, i < ((cP l 0 5).map (·.p)).length → bd3 1 (((cP l 0 5).map (·.p)).getD i default) := fun i hi => ps_bd hcv.ok (by rw [List.length_map] at hi; exact hi)
  have hA : bd3 1 ((cP l 0 5).getD 0 default).p := by have := ps_bd hcv.ok (i := 0) (by omega); rwa [ps_get] at this
  have hB : bd3 1 ((cP l 0 5).getD ((cP l 0 5).length - 1) default).p := by have := ps_bd hcv.ok (i := (cP l 0 5).length - 1) (by omega); rwa [ps_get] at this
  obtain ⟨s0, s1, s2⟩ := sp_bd hcv
  refine fnP Tryz.func7 ?_
  refine zg9 ?_
  refine cp am1 (c_Light l hlt) ?_
  refine zg3 ?_
  refine wl_if rfl (fun h18r h18 => ?_) (fun h18r h18 => ?_)
  · refine zg2 ?_
    refine cp am0 (c_awake11) ?_
    refine zg5 ?_
    exact ret1 rfl (.pure rfl)
  · have hl5 : l.length ≤ 500 := by simpa using h18
    have hWi : CallP Tryz.prog 25 [spL ((cT l 0), (cT l 0) + 1), iL i] (ratL ((cT l 0) + ptV i)) := by
      have := c_Within ((cT l 0), (cT l 0) + 1) i 1 (by decide) hS3 hi
      rwa [wi_one] at this
    generalize (cT l 0) + ptV i = t at *
    obtain ⟨g1, g2⟩ := hwi
    have hs := rl_sub t (cT l 0)
    have hT0 := c_Tan (cD l 0 5) (cT l 0) (cP l 0 5) hT hT1 h9 t (by omega) (has_in g1 g2) hcv hd2
    have hE0 := c_FEvalC (cD l 0 5) (cT l 0) t (cP l 0 5) hcv h9 hT hT1 (by omega) g1 g2
    obtain ⟨x0, x1⟩ : 0 ≤ t - (cT l 0) ∧ t - (cT l 0) ≤ 1 := ⟨by grind, by grind⟩
    have hx : rl (t - (cT l 0)) ≤ 100 := by omega
    generalize t - (cT l 0) = x at *
    have eb := evV_bd2 hcv hd2 hx
    have hSg := c_FSeg ((cP l 0 5).getD 0 default).p ((cP l 0 5).getD ((cP l 0 5).length - 1) default).p (evV (cP l 0 5) x) 15000 (by decide) (hA.le (by decide)) (hB.le (by decide)) eb
    have hsr := sgR_rl (hA.le (by decide : 1 ≤ 15000)) (hB.le (by decide)) eb
    have hc : cmpR (sgR ((cP l 0 5).getD 0 default).p ((cP l 0 5).getD ((cP l 0 5).length - 1) default).p (evV (cP l 0 5) x)) (chdP (cP l 0 5)) ≤ 0 := cmpR_le.2 (seg_in hcv x0 x1)
    obtain ⟨tb0, tb1, tb2⟩ := tan_bd hcv hd2 hx
    obtain ⟨eb0, eb1, eb2⟩ := eb
    obtain ⟨w0, v0⟩ := bxN_bd hpb 0 (((cP l 0 5).map (·.p)).length - 1) (by rw [List.length_map]; omega)
    obtain ⟨u0, y0⟩ : bdS 689407 (spK (cP l 0 5) 0) := s0
    have hP0 : CallP Tryz.prog 53 [spL (bxN ((cP l 0 5).map (·.p)) 0 (((cP l 0 5).map (·.p)).length - 1)), ratL (evV (cP l 0 5) x).x] (bL true) := by
      have := c_FHas (bxN ((cP l 0 5).map (·.p)) 0 (((cP l 0 5).map (·.p)).length - 1)) (evV (cP l 0 5) x).x (by omega) (by omega)
      rwa [show hasR (bxN ((cP l 0 5).map (·.p)) 0 (((cP l 0 5).map (·.p)).length - 1)) (evV (cP l 0 5) x).x = true from pt_box hcv x0 x1] at this
    have hV0 : CallP Tryz.prog 53 [spL (spK (cP l 0 5) 0), ratL (tanV (cP l 0 5) x).x] (bL true) := by
      have := c_FHas (spK (cP l 0 5) 0) (tanV (cP l 0 5) x).x (by omega) (by omega)
      rwa [show hasR (spK (cP l 0 5) 0) (tanV (cP l 0 5) x).x = true from sp_box hcv 0 x0 x1] at this
    obtain ⟨w1, v1⟩ := bxN_bd hpb 1 (((cP l 0 5).map (·.p)).length - 1) (by rw [List.length_map]; omega)
    obtain ⟨u1, y1⟩ : bdS 689407 (spK (cP l 0 5) 1) := s1
    have hP1 : CallP Tryz.prog 53 [spL (bxN ((cP l 0 5).map (·.p)) 1 (((cP l 0 5).map (·.p)).length - 1)), ratL (evV (cP l 0 5) x).y] (bL true) := by
      have := c_FHas (bxN ((cP l 0 5).map (·.p)) 1 (((cP l 0 5).map (·.p)).length - 1)) (evV (cP l 0 5) x).y (by omega) (by omega)
      rwa [show hasR (bxN ((cP l 0 5).map (·.p)) 1 (((cP l 0 5).map (·.p)).length - 1)) (evV (cP l 0 5) x).y = true from pt_box hcv x0 x1] at this
    have hV1 : CallP Tryz.prog 53 [spL (spK (cP l 0 5) 1), ratL (tanV (cP l 0 5) x).y] (bL true) := by
      have := c_FHas (spK (cP l 0 5) 1) (tanV (cP l 0 5) x).y (by omega) (by omega)
      rwa [show hasR (spK (cP l 0 5) 1) (tanV (cP l 0 5) x).y = true from sp_box hcv 1 x0 x1] at this
    obtain ⟨w2, v2⟩ := bxN_bd hpb 2 (((cP l 0 5).map (·.p)).length - 1) (by rw [List.length_map]; omega)
    obtain ⟨u2, y2⟩ : bdS 689407 (spK (cP l 0 5) 2) := s2
    have hP2 : CallP Tryz.prog 53 [spL (bxN ((cP l 0 5).map (·.p)) 2 (((cP l 0 5).map (·.p)).length - 1)), ratL (evV (cP l 0 5) x).z] (bL true) := by
      have := c_FHas (bxN ((cP l 0 5).map (·.p)) 2 (((cP l 0 5).map (·.p)).length - 1)) (evV (cP l 0 5) x).z (by omega) (by omega)
      rwa [show hasR (bxN ((cP l 0 5).map (·.p)) 2 (((cP l 0 5).map (·.p)).length - 1)) (evV (cP l 0 5) x).z = true from pt_box hcv x0 x1] at this
    have hV2 : CallP Tryz.prog 53 [spL (spK (cP l 0 5) 2), ratL (tanV (cP l 0 5) x).z] (bL true) := by
      have := c_FHas (spK (cP l 0 5) 2) (tanV (cP l 0 5) x).z (by omega) (by omega)
      rwa [show hasR (spK (cP l 0 5) 2) (tanV (cP l 0 5) x).z = true from sp_box hcv 2 x0 x1] at this
    refine zg5 ?_
    refine cp am1 (c_made11 l hl5) ?_
    refine zg7 ?_
    refine cp am1 (c_FDom (cD l 0 5) (cT l 0) (cP l 0 5) hT hT1 h9) ?_
    refine zg1 ?_
    refine cp am2 (hWi) ?_
    refine zg8 ?_
    refine cp am2 (hE0) ?_
    refine zg12 ?_
    refine cp am2 (hT0) ?_
    refine zg11 ?_
    refine cp am1 (c_Ends (cD l 0 5) (kn0 (cD l 0 5) (cT l 0)) (cP l 0 5) hcv) ?_
    refine zg10 ?_
    refine wl_regD 6 (by decide +kernel) ?_
    refine zg1 ?_
    refine cp am1 (c_Box (cD l 0 5) (kn0 (cD l 0 5) (cT l 0)) (cP l 0 5) hcv) ?_
    refine zg1 ?_
    refine cp am1 (c_Speed (cD l 0 5) (cT l 0) (cP l 0 5) hT hT1 h9 hcv) ?_
    refine zg13 ?_
    refine wl_unroll ?_
    refine zg7 ?_
    refine wl_condX (b := _) rfl (by decide) ?_
    refine zg5 ?_
    refine wl_regD 18 (by decide +kernel) ?_
    refine zg6 ?_
    refine cp am2 (hP0) ?_
    refine zg2 ?_
    refine st_pure (guardX (v := false) rfl rfl ((rfl)) rfl) (.move _) ?_
    refine st_pure (guardX (v := false) rfl rfl ((rfl)) rfl) ixA ?_
    refine st_pure (guardX (v := false) rfl rfl ((rfl)) rfl) ldA ?_
    refine st_pure (guardX (v := false) rfl rfl ((rfl)) rfl) (.move _) ?_
    refine st_pure (guardX (v := false) rfl rfl ((rfl)) rfl) ixA ?_
    refine st_pure (guardX (v := false) rfl rfl ((rfl)) rfl) ldA ?_
    refine st_callP (guardX (v := false) rfl rfl ((rfl)) rfl) (.cons im0 (.cons im0 .nil)) (hV0) ?_
    refine st_pure (guardX (v := false) rfl rfl ((rfl)) rfl) (.not rfl) ?_
    refine st_pure rfl (.pickF rfl ((rfl))) ?_
    refine zg2 ?_
    refine wl_condY (b := _) rfl (rfl) ?_
    refine zg9 ?_
    refine wl_unroll ?_
    refine zg7 ?_
    refine wl_condX (b := _) rfl (by decide) ?_
    refine zg5 ?_
    refine wl_regD 18 (by decide +kernel) ?_
    refine zg6 ?_
    refine cp am2 (hP1) ?_
    refine zg2 ?_
    refine st_pure (guardX (v := false) rfl rfl ((rfl)) rfl) (.move _) ?_
    refine st_pure (guardX (v := false) rfl rfl ((rfl)) rfl) ixA ?_
    refine st_pure (guardX (v := false) rfl rfl ((rfl)) rfl) ldA ?_
    refine st_pure (guardX (v := false) rfl rfl ((rfl)) rfl) (.move _) ?_
    refine st_pure (guardX (v := false) rfl rfl ((rfl)) rfl) ixA ?_
    refine st_pure (guardX (v := false) rfl rfl ((rfl)) rfl) ldA ?_
    refine st_callP (guardX (v := false) rfl rfl ((rfl)) rfl) (.cons im0 (.cons im0 .nil)) (hV1) ?_
    refine st_pure (guardX (v := false) rfl rfl ((rfl)) rfl) (.not rfl) ?_
    refine st_pure rfl (.pickF rfl ((rfl))) ?_
    refine zg2 ?_
    refine wl_condY (b := _) rfl (rfl) ?_
    refine zg9 ?_
    refine wl_unroll ?_
    refine zg7 ?_
    refine wl_condX (b := _) rfl (by decide) ?_
    refine zg5 ?_
    refine wl_regD 18 (by decide +kernel) ?_
    refine zg6 ?_
    refine cp am2 (hP2) ?_
    refine zg2 ?_
    refine st_pure (guardX (v := false) rfl rfl ((rfl)) rfl) (.move _) ?_
    refine st_pure (guardX (v := false) rfl rfl ((rfl)) rfl) ixA ?_
    refine st_pure (guardX (v := false) rfl rfl ((rfl)) rfl) ldA ?_
    refine st_pure (guardX (v := false) rfl rfl ((rfl)) rfl) (.move _) ?_
    refine st_pure (guardX (v := false) rfl rfl ((rfl)) rfl) ixA ?_
    refine st_pure (guardX (v := false) rfl rfl ((rfl)) rfl) ldA ?_
    refine st_callP (guardX (v := false) rfl rfl ((rfl)) rfl) (.cons im0 (.cons im0 .nil)) (hV2) ?_
    refine st_pure (guardX (v := false) rfl rfl ((rfl)) rfl) (.not rfl) ?_
    refine st_pure rfl (.pickF rfl ((rfl))) ?_
    refine zg2 ?_
    refine wl_condY (b := _) rfl (rfl) ?_
    refine zg9 ?_
    refine wl_unroll ?_
    refine zg7 ?_
    refine wl_condY (b := _) rfl (by decide) ?_
    refine zg6 ?_
    refine wl_regD 16 (by decide +kernel) ?_
    refine zg3 ?_
    refine st_pure (guardX (v := true) rfl rfl ((rfl)) rfl) ldA ?_
    refine st_pure (guardX (v := true) rfl rfl ((rfl)) rfl) ldA ?_
    refine st_pure (guardX (v := true) rfl rfl ((rfl)) rfl) ldA ?_
    refine st_callP (guardX (v := true) rfl rfl ((rfl)) rfl) (.cons im0 (.cons im0 (.cons im0 .nil))) (hSg) ?_
    refine st_pure (guardX (v := true) rfl rfl ((rfl)) rfl) ldA ?_
    refine st_callP (guardX (v := true) rfl rfl ((rfl)) rfl) (.cons im0 .nil) (c_Chord (cD l 0 5) (kn0 (cD l 0 5) (cT l 0)) (cP l 0 5) hcv) ?_
    refine st_callP (guardX (v := true) rfl rfl ((rfl)) rfl) (.cons im0 (.cons im0 .nil)) (c_FRCmp (sgR ((cP l 0 5).getD 0 default).p ((cP l 0 5).getD ((cP l 0 5).length - 1) default).p (evV (cP l 0 5) x)) (chdP (cP l 0 5)) (by omega)) ?_
    refine st_pure (guardX (v := true) rfl rfl ((rfl)) rfl) (.bin rfl rfl rfl) ?_
    refine st_pure rfl (.pickT rfl ((rfl))) ?_
    refine zg1 ?_
    refine st_callP (guardX (v := true) rfl rfl ((decide_eq_true hc)) rfl) .nil (c_awake11) ?_
    refine st_pure rfl (.pickT rfl ((decide_eq_true hc))) ?_
    refine zg4 ?_
    exact ret1 rfl (.pure rfl)
end Go.Proofs.YtgfbghoihhnahaaGreat
end
