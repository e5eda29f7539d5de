/- Bounds and convexity. -/
import Derived.Test.YthhdcfhaldcheaaGreatE1
set_option linter.unusedVariables false
set_option linter.unusedSimpArgs false
set_option maxHeartbeats 8000000
set_option maxRecDepth 100000
attribute [local irreducible] Go.Lg.opsL Go.Lg.wpL Go.Lg.thenL Go.Lg.blockL
namespace Go.Proofs.YthhdcfhaldcheaaGreat
open Go.Lg
/-! ### bounds, convexity -/
def mnR (a b : Rat) : Rat := if b < a then b else a
def mxR (a b : Rat) : Rat := if a < b then b else a
def hulP (s : Rat × Rat) (t : Rat × Rat) : Rat × Rat := (mnR s.1 t.1, mxR s.2 t.2)
def bkP (p : List Rat) : Nat → Rat × Rat
  | 0 => (0, 0)
  | k + 1 => hulP (if k = 0 then (p.getD k 0, p.getD k 0) else bkP p k) (p.getD k 0, p.getD k 0)
def bndP (p : List Rat) : Rat × Rat := bkP p p.length
theorem mn_self (a : Rat) : mnR a a = a := by unfold mnR; split <;> rfl
theorem mx_self (a : Rat) : mxR a a = a := by unfold mxR; split <;> rfl
theorem mn_le (a b : Rat) : mnR a b ≤ a ∧ mnR a b ≤ b ∧ (mnR a b = a ∨ mnR a b = b) := by unfold mnR; split <;> grind
theorem mx_ge (a b : Rat) : a ≤ mxR a b ∧ b ≤ mxR a b ∧ (mxR a b = a ∨ mxR a b = b) := by unfold mxR; split <;> grind
theorem bk_spec (p : List Rat) : ∀ k, (∀ i, i < k → (bkP p k).1 ≤ p.getD i 0 ∧ p.getD i 0 ≤ (bkP p k).2) ∧ (0 < k → (∃ i, i < k ∧ (bkP p k).1 = p.getD i 0) ∧ ∃ i, i < k ∧ (bkP p k).2 = p.getD i 0)
  | 0 => ⟨fun i h => by omega, fun h => by omega⟩
  | k + 1 => by
    obtain ⟨h1, h2⟩ := bk_spec p k
    rw [bkP]
    by_cases hk : k = 0
    · subst hk
      rw [if_pos rfl]
      simp only [hulP, mn_self, mx_self]
      refine ⟨fun i hi => ?_, fun _ => ⟨⟨0, by omega, rfl⟩, ⟨0, by omega, rfl⟩⟩⟩
      obtain rfl : i = 0 := by omega
      exact ⟨Rat.le_refl, Rat.le_refl⟩
    · rw [if_neg hk]
      obtain ⟨⟨i, hi, ei⟩, ⟨j, hj, ej⟩⟩ := h2 (by omega)
      have a := mn_le (bkP p k).1 (p.getD k 0)
      have b := mx_ge (bkP p k).2 (p.getD k 0)
      simp only [hulP]
      refine ⟨fun x hx => ?_, fun _ => ⟨?_, ?_⟩⟩
      · by_cases hxk : x = k
        · subst hxk; exact ⟨a.2.1, b.2.1⟩
        · have := h1 x (by omega)
          exact ⟨Rat.le_trans a.1 this.1, Rat.le_trans this.2 b.1⟩
      · rcases a.2.2 with e | e
        · exact ⟨i, by omega, by rw [e, ei]⟩
        · exact ⟨k, by omega, e⟩
      · rcases b.2.2 with e | e
        · exact ⟨j, by omega, by rw [e, ej]⟩
        · exact ⟨k, by omega, e⟩
theorem bk_rl {p : List Rat} {R : Nat} (hR : 1 ≤ R) (h : ∀ k, rl (p.getD k 0) ≤ R) : ∀ k, rl (bkP p k).1 ≤ R ∧ rl (bkP p k).2 ≤ R
  | 0 => ⟨hR, hR⟩
  | k + 1 => by
    obtain ⟨⟨i, _, ei⟩, ⟨j, _, ej⟩⟩ := (bk_spec p (k + 1)).2 (by omega)
    rw [ei, ej]
    exact ⟨h i, h j⟩
theorem bk_bnd (p : List Rat) : bkP p p.length = bndP p := rfl
theorem getD_rl' {p : List Rat} {R : Nat} (hR : 1 ≤ R) (h : ∀ x ∈ p, rl x ≤ R) (k : Nat) : rl (p.getD k 0) ≤ R := getD_rl hR h k
theorem cmpR_le {a b : Rat} : cmpR a b ≤ 0 ↔ a ≤ b := by
  unfold cmpR; split
  · rename_i h; exact ⟨fun _ => Rat.le_of_lt h, fun _ => by decide⟩
  · split
    · rename_i h; exact ⟨fun e => absurd e (by decide), fun e => absurd h (Rat.not_lt.2 e)⟩
    · rename_i h; exact ⟨fun _ => Rat.not_lt.1 h, fun _ => by decide⟩
def hasR (s : Rat × Rat) (x : Rat) : Bool := decide (s.1 ≤ x) && decide (x ≤ s.2)
def insR (a b : Rat × Rat) : Bool := hasR b a.1 && hasR b a.2
theorem has1 {s : Rat × Rat} {x : Rat} (h : decide (cmpR s.1 x ≤ 0) = true) : decide (cmpR x s.2 ≤ 0) = hasR s x := by
  unfold hasR
  rw [decide_eq_true (cmpR_le.1 (of_decide_eq_true h)), Bool.true_and, decide_eq_decide, cmpR_le]
theorem has2 {s : Rat × Rat} {x : Rat} (h : decide (cmpR s.1 x ≤ 0) = false) : false = hasR s x := by
  unfold hasR
  rw [decide_eq_false (fun e => of_decide_eq_false h (cmpR_le.2 e)), Bool.false_and]
def ptD (n : Int) : Int := 1 + (n.tdiv 17) % 12
def ptV (n : Int) : Rat := ((n % (ptD n + 1) : Int) : Rat) / ((ptD n : Int) : Rat)
theorem ptD_bd (n : Int) : 1 ≤ ptD n ∧ ptD n ≤ 12 := by
  unfold ptD
  have h1 := Int.emod_nonneg (n.tdiv 17) (show (12 : Int) ≠ 0 by decide)
  have h2 := Int.emod_lt_of_pos (n.tdiv 17) (show (0 : Int) < 12 by decide)
  omega
theorem frac_ge {a b : Int} (ha : 0 ≤ a) (hb : 0 < b) : (0 : Rat) ≤ (a : Rat) / (b : Rat) := by
  rw [Rat.div_def]
  exact Rat.mul_nonneg (Rat.intCast_nonneg.2 ha) (Rat.le_of_lt (Rat.inv_pos.2 (Rat.intCast_pos.2 hb)))
theorem frac_one {a b c : Int} (hc : 0 < c) (h : a + b = c) : (a : Rat) / (c : Rat) + (b : Rat) / (c : Rat) = 1 := by
  have h1 : (c : Rat) ≠ 0 := fun e => by have := Rat.intCast_eq_zero_iff.1 e; omega
  rw [Rat.div_def, Rat.div_def, ← Rat.add_mul, ← Rat.intCast_add, h, Rat.mul_inv_cancel _ h1]
theorem mix_in {m M a b x y : Rat} (ha : 0 ≤ a) (hb : 0 ≤ b) (hab : a + b = 1) (hx : m ≤ x ∧ x ≤ M) (hy : m ≤ y ∧ y ≤ M) : m ≤ a * x + b * y ∧ a * x + b * y ≤ M := by
  have h1 := Rat.mul_nonneg ha (show 0 ≤ x - m by grind)
  have h2 := Rat.mul_nonneg hb (show 0 ≤ y - m by grind)
  have h3 := Rat.mul_nonneg ha (show 0 ≤ M - x by grind)
  have h4 := Rat.mul_nonneg hb (show 0 ≤ M - y by grind)
  have e1 : b = 1 - a := by grind
  subst e1
  constructor <;> grind
def inR (m M : Rat) (l : List Rat) : Prop := ∀ i, i < l.length → m ≤ l.getD i 0 ∧ l.getD i 0 ≤ M
theorem inR_stp {t m M : Rat} (h0 : 0 ≤ t) (h1 : t ≤ 1) {p : List Rat} (h : inR m M p) : inR m M (stp t p) := fun i hi => by
  rw [stp_len] at hi
  rw [stp_get t p i (by omega)]
  exact mix_in (by grind) h0 (by grind) (h i (by omega)) (h (i + 1) (by omega))
theorem inR_cons {m M x : Rat} {l : List Rat} (hx : m ≤ x ∧ x ≤ M) (h : inR m M l) : inR m M (x :: l)
  | 0, _ => hx
  | i + 1, hi => h i (by simpa using hi)
theorem inR_lo {t m M : Rat} (h0 : 0 ≤ t) (h1 : t ≤ 1) : ∀ (k : Nat) (p : List Rat), p.length = k → inR m M p → inR m M (loF t k p)
  | 0, _, _, _ => fun i hi => by simp [loF] at hi
  | k + 1, p, hp, h => inR_cons (h 0 (by omega)) (inR_lo h0 h1 k (stp t p) (by rw [stp_len]; omega) (inR_stp h0 h1 h))
theorem inR_hi {t m M : Rat} (h0 : 0 ≤ t) (h1 : t ≤ 1) : ∀ (k : Nat) (p tl : List Rat), p.length = k → inR m M p → inR m M tl → inR m M (hiF t k p tl)
  | 0, p, tl, hp, _, h2 => by
    obtain rfl : p = [] := List.eq_nil_of_length_eq_zero hp
    exact h2
  | k + 1, p, tl, hp, h, h2 => inR_hi h0 h1 k (stp t p) _ (by rw [stp_len]; omega) (inR_stp h0 h1 h) (inR_cons (h k (by omega)) h2)
theorem inR_bnd (p : List Rat) : inR (bndP p).1 (bndP p).2 p := fun i hi => (bk_spec p p.length).1 i hi
theorem ins_bnd {p q : List Rat} (hq : 0 < q.length) (h : inR (bndP p).1 (bndP p).2 q) : insR (bndP q) (bndP p) = true := by
  obtain ⟨⟨i, hi, ei⟩, ⟨j, hj, ej⟩⟩ := (bk_spec q q.length).2 hq
  have e1 : (bndP q).1 = q.getD i 0 := ei
  have e2 : (bndP q).2 = q.getD j 0 := ej
  unfold insR hasR
  rw [e1, e2]
  have h1 := h i hi
  have h2 := h j hj
  rw [decide_eq_true h1.1, decide_eq_true h1.2, decide_eq_true h2.1, decide_eq_true h2.2]; rfl
theorem has_bnd {p : List Rat} {x : Rat} (h : (bndP p).1 ≤ x ∧ x ≤ (bndP p).2) : hasR (bndP p) x = true := by
  unfold hasR; rw [decide_eq_true h.1, decide_eq_true h.2]; rfl
theorem ptV_in (n : Int) : 0 ≤ ptV n ∧ ptV n ≤ 1 := by
  have hd := ptD_bd n
  have h1 := Int.emod_nonneg n (show ptD n + 1 ≠ 0 by omega)
  have h2 := Int.emod_lt_of_pos n (show (0 : Int) < ptD n + 1 by omega)
  have h3 := frac_ge (a := n % (ptD n + 1)) (b := ptD n) h1 (by omega)
  have h4 := frac_ge (a := ptD n - n % (ptD n + 1)) (b := ptD n) (by omega) (by omega)
  have h5 := frac_one (a := n % (ptD n + 1)) (b := ptD n - n % (ptD n + 1)) (c := ptD n) (by omega) (by omega)
  unfold ptV
  exact ⟨h3, by grind⟩
theorem ptV_rl (n : Int) : rl (ptV n) ≤ 1 := by
  have hd := ptD_bd n
  have h1 := Int.emod_nonneg n (show ptD n + 1 ≠ 0 by omega)
  have h2 := Int.emod_lt_of_pos n (show (0 : Int) < ptD n + 1 by omega)
  exact rl_ints (by omega) (by omega)
theorem ev_bnd {p : List Rat} {t : Rat} (h0 : 0 ≤ t) (h1 : t ≤ 1) (h : 0 < p.length) : hasR (bndP p) (evP p t) = true :=
  has_bnd (inR_lo h0 h1 _ p rfl (inR_bnd p) _ (by rw [loF_len]; omega))
theorem lo_bnd {p : List Rat} {t : Rat} (h0 : 0 ≤ t) (h1 : t ≤ 1) (h : 0 < p.length) : insR (bndP (loP p t)) (bndP p) = true :=
  ins_bnd (by rw [loP_len]; exact h) (inR_lo h0 h1 _ p rfl (inR_bnd p))
theorem hi_bnd {p : List Rat} {t : Rat} (h0 : 0 ≤ t) (h1 : t ≤ 1) (h : 0 < p.length) : insR (bndP (hiP p t)) (bndP p) = true :=
  ins_bnd (by rw [hiP_len]; exact h) (inR_hi h0 h1 _ p [] rfl (inR_bnd p) (fun i hi => by cases hi))
theorem bnd_rl {p : List Rat} {R : Nat} (hR : 1 ≤ R) (h : ∀ x ∈ p, rl x ≤ R) : rl (bndP p).1 ≤ R ∧ rl (bndP p).2 ≤ R := bk_rl hR (getD_rl' hR h) p.length
open H0 in
theorem c_SOf (a b : Rat) (h : rl a + rl b ≤ 549755813888) : CallP Tryz.prog 163 [ratL a, ratL b] (spL (mnR a b, mxR a b)) := by
  refine fnP Tryz.func163 ?_
  refine zg8 ?_
  refine wl_regD 7 (by decide +kernel) ?_
  refine zg2 ?_
  refine cp am2 (c_RMin _ _ (by omega)) ?_
  refine zg2 ?_
  refine cp am2 (c_RMax _ _ (by omega)) ?_
  refine zg5 ?_
  exact retC [] rfl rfl rfl (spE.csize _) (spL_all _) T55 (.pure (spE.pure _))
namespace H_c_SPoint
theorem zSm {p q : Prop} (k : q) (e : p = q := by simp only [e1, e2, e3, e4, p1, p2, p3, q1, q2, q3, l1, t0, t1, r1, r2, r3, r4, Nat.zero_add, Nat.reduceMul, Nat.reduceAdd, b1, b2, b3, b4, b5, b6, i1, i2, i3, i4, i5, i6, Nat.reduceBEq, mn_self, mx_self]; exact rfl) : p := e.mpr k
end H_c_SPoint
open H_c_SPoint in
theorem c_SPoint (a : Rat) (h : rl a + rl a ≤ 549755813888) : CallP Tryz.prog 117 [ratL a] (spL (a, a)) := by
  refine fnP Tryz.func117 ?_
  refine zg10 ?_
  refine cp am2 (c_SOf _ _ (by omega)) ?_
  refine zg4 ?_
  exact retC [] rfl rfl rfl (spE.csize _) (spL_all _) T55 (.pure (spE.pure _))
open H0 in
theorem c_SHull (s t : Rat × Rat) (h1 : rl s.1 + rl t.1 ≤ 549755813888) (h2 : rl s.2 + rl t.2 ≤ 549755813888) : CallP Tryz.prog 118 [spL s, spL t] (spL (hulP s t)) := by
  refine fnP Tryz.func118 ?_
  refine zg8 ?_
  refine wl_regD 11 (by decide +kernel) ?_
  refine zg4 ?_
  refine cp am2 (c_RMin _ _ (by omega)) ?_
  refine zg4 ?_
  refine cp am2 (c_RMax _ _ (by omega)) ?_
  refine zg5 ?_
  exact retC [] rfl rfl rfl (spE.csize _) (spL_all _) T55 (.pure (spE.pure _))
namespace H_c_Bounds
theorem zSm {p q : Prop} (k : q) (e : p = q := by simp only [e1, e2, e3, e4, p1, p2, p3, q1, q2, q3, l1, t0, t1, r1, r2, r3, r4, Nat.zero_add, Nat.reduceMul, Nat.reduceAdd, b1, b2, b3, b4, b5, b6, i1, i2, i3, i4, i5, i6, Nat.reduceBEq, dfq, ebk, kills_map ratE, ratL_kill, spL_kill, LV.kill, kills]; exact rfl) : p := e.mpr k
end H_c_Bounds
open H_c_Bounds in
theorem c_Bounds (p : List Rat) (hl : p.length ≤ 1048576) (hpr : ∀ x ∈ p, rl x ≤ 137438953472) : CallP Tryz.prog 59 [.list 3 (p.map ratL)] (spL (bndP p)) := by
  refine fnP Tryz.func59 ?_
  have ebk : True := trivial
  refine zg19 ?_
  refine lp1 (fun (k : Nat) L => ((((((St.mk L.slot (hp [(2, ⟨6, [spL (0, 0)], true⟩), (3, ⟨6, [spL (bkP p k)], true⟩)])).put (some 2) (.eptr 2 6 0 0)).put (some 3) (.eptr 3 6 0 0)).put (some 6) (.list 3 (p.map ratL))).put (some 7) (nI64 p.length)).put (some 8) (nI64 k))) (fun k => k ≤ p.length) (fun k => p.length - k) 0 (Nat.zero_le _) ?_
  rintro k L1 hk
  refine zg6 ?_
  refine wl_if rfl (fun h9r h9 => ?_) (fun h9r h9 => ?_)
  · have hk2 : k < p.length := by omega
    have hr1 := getD_rl' (R := 137438953472) (by decide) hpr
    have hr2 := hr1 k
    have hr3 := bk_rl (by decide) hr1 k
    have hr4 : rl ((p.getD k 0, p.getD k 0) : Rat × Rat).1 ≤ 137438953472 := hr2
    have hr5 : rl ((p.getD k 0, p.getD k 0) : Rat × Rat).2 ≤ 137438953472 := hr2
    have ebk : bkP p (k + 1) = hulP (if k = 0 then (p.getD k 0, p.getD k 0) else bkP p k) (p.getD k 0, p.getD k 0) := rfl
    refine zg21 ?_
    refine wl_if rfl (fun h14r h14 => ?_) (fun h14r h14 => ?_)
    · have hk0 : k = 0 := by omega
      rw [if_pos hk0] at ebk
      refine zg2 ?_
      refine cp am1 (c_SPoint _ (by omega)) ?_
      refine zg3 ?_
      refine wl_regD 4 (by decide +kernel) ?_
      refine zg2 ?_
      refine cp am1 (c_SPoint _ (by omega)) ?_
      refine cp am2 (c_SHull _ _ (by omega) (by omega)) ?_
      refine zg4 ?_
      refine wl_regW (Weak.kill _ 5) ?_
      refine zg4 ?_
      exact nx1 (k + 1) (by omega)
    · have hk0 : ¬ k = 0 := by omega
      rw [if_neg hk0] at ebk
      refine zg2 ?_
      refine wl_regD 4 (by decide +kernel) ?_
      refine zg2 ?_
      refine cp am1 (c_SPoint _ (by omega)) ?_
      refine cp am2 (c_SHull _ _ (by omega) (by omega)) ?_
      refine zg4 ?_
      refine wl_regW (Weak.kill _ 5) ?_
      refine zg4 ?_
      exact nx1 (k + 1) (by omega)
  · obtain rfl : k = p.length := by omega
    refine zg12 ?_
    exact retC [] rfl rfl rfl (spE.csize _) (spL_all _) T55 (.pure (spE.pure _))
open H0 in
theorem c_FHas (s : Rat × Rat) (x : Rat) (h1 : rl s.1 + rl x ≤ 34359738368) (h2 : rl x + rl s.2 ≤ 34359738368) : CallP Tryz.prog 47 [spL s, ratL x] (bL (hasR s x)) := by
  refine fnP Tryz.func47 ?_
  refine zg12 ?_
  refine cp am2 (c_FRCmp _ _ (by omega)) ?_
  refine zg2 ?_
  refine op_if 10 rfl (fun h10r h10 => ?_) (fun h10r h10 => ?_)
  · refine zg3 ?_
    refine cp am2 (c_FRCmp _ _ (by omega)) ?_
    refine zg6 ?_
    rw [← has1 h10r]
    exact ret1 rfl (by first | exact .pure rfl | exact .pure (limL_pure _) | exact .pure (magL_pure _) | exact .pure (ratE.pure _) | exact .pure (pure_lst u32E _ _) | exact .pure (pure_lst ratE _ _))
  · refine zg10 ?_
    rw [← has2 h10r]
    exact ret1 rfl (by first | exact .pure rfl | exact .pure (limL_pure _) | exact .pure (magL_pure _) | exact .pure (ratE.pure _) | exact .pure (pure_lst u32E _ _) | exact .pure (pure_lst ratE _ _))
open H0 in
theorem c_FInside (a b : Rat × Rat) (h1 : rl b.1 + rl a.1 ≤ 34359738368) (h2 : rl a.1 + rl b.2 ≤ 34359738368) (h3 : rl b.1 + rl a.2 ≤ 34359738368) (h4 : rl a.2 + rl b.2 ≤ 34359738368) : CallP Tryz.prog 48 [spL a, spL b] (bL (insR a b)) := by
  refine fnP Tryz.func48 ?_
  refine zg12 ?_
  refine cp am2 (c_FHas _ _ (by omega) (by omega)) ?_
  refine zg1 ?_
  refine op_if 9 rfl (fun h9r h9 => ?_) (fun h9r h9 => ?_)
  · refine zg3 ?_
    refine cp am2 (c_FHas _ _ (by omega) (by omega)) ?_
    refine zg5 ?_
    rw [insR, h9r, Bool.true_and]
    exact ret1 rfl (by first | exact .pure rfl | exact .pure (limL_pure _) | exact .pure (magL_pure _) | exact .pure (ratE.pure _) | exact .pure (pure_lst u32E _ _) | exact .pure (pure_lst ratE _ _))
  · refine zg9 ?_
    rw [insR, h9r, Bool.false_and]
    exact ret1 rfl (by first | exact .pure rfl | exact .pure (limL_pure _) | exact .pure (magL_pure _) | exact .pure (ratE.pure _) | exact .pure (pure_lst u32E _ _) | exact .pure (pure_lst ratE _ _))
open H0 in
theorem c_MPart (n : Int) (hn : -9223372036854775808 ≤ n ∧ n ≤ 9223372036854775807) : CallP Tryz.prog 42 [iL n] (ratL (ptV n)) := by
  have hd := ptD_bd n
  have hq : (n.tdiv 17).natAbs = n.natAbs / 17 := Int.natAbs_tdiv _ _
  have hpd : ptD n = 1 + (n.tdiv 17) % 12 := rfl
  have h1 := Int.emod_nonneg n (show ptD n + 1 ≠ 0 by omega)
  have h2 := Int.emod_lt_of_pos n (show (0 : Int) < ptD n + 1 by omega)
  refine fnP Tryz.func42 ?_
  refine zg8 ?_
  refine st_pure rfl (.bin rfl rfl (quo64 (a := n) (b := 17) (by decide) (by omega) (by omega))) ?_
  refine cp am2 (c_Mod (n.tdiv 17) 12 (by decide) (by decide)) ?_
  refine st_pure rfl (.bin rfl rfl (add64 (by omega) (by omega))) ?_
  refine zg7 ?_
  refine st_pure rfl (.bin rfl rfl (add64 (a := ptD n) (by omega) (by omega))) ?_
  refine cp am2 (c_Mod n (ptD n + 1) (by omega) (by omega)) ?_
  refine zg1 ?_
  refine cp am2 (c_FFrac (n % (ptD n + 1)) (ptD n) (by omega) (by omega) (by omega) (by omega) (by omega)) ?_
  refine zg4 ?_
  exact retC [] rfl rfl rfl (ratE.csize _) (ratL_all _) T33 (.pure (ratE.pure _))
open H0 in
theorem c_MRat (n d : Int) (hn : -9223372036854775808 ≤ n ∧ n ≤ 9223372036854775807) (hd : -9223372036854775808 ≤ d ∧ d ≤ 9223372036854775807) : CallP Tryz.prog 13 [iL n, iL d] (ratL (rtV n d)) := by
  have h1 := Int.emod_nonneg n (show (41 : Int) ≠ 0 by decide)
  have h2 := Int.emod_lt_of_pos n (show (0 : Int) < 41 by decide)
  have h3 := Int.emod_nonneg d (show (8 : Int) ≠ 0 by decide)
  have h4 := Int.emod_lt_of_pos d (show (0 : Int) < 8 by decide)
  refine fnP Tryz.func13 ?_
  refine zg8 ?_
  refine cp am2 (c_Mod n 41 (by decide) (by decide)) ?_
  refine st_pure rfl (.bin rfl rfl (sub64 (by omega) (by omega))) ?_
  refine zg1 ?_
  refine cp am2 (c_Mod d 8 (by decide) (by decide)) ?_
  refine st_pure rfl (.bin rfl rfl (add64 (by omega) (by omega))) ?_
  refine cp am2 (c_FFrac (n % 41 - 20) (d % 8 + 1) (by omega) (by omega) (by omega) (by omega) (by omega)) ?_
  refine zg4 ?_
  exact retC [] rfl rfl rfl (ratE.csize _) (ratL_all _) T33 (.pure (ratE.pure _))
end Go.Proofs.YthhdcfhaldcheaaGreat
