/- Polynomials of a greater formal degree; sums, differences. -/
import Derived.Test.YthhdcfhaldcheaaS2
set_option linter.unusedVariables false
set_option linter.unusedSimpArgs false
namespace Go.Proofs.Ythhdcfhaldcheaa
open Go.Lg
end Go.Proofs.Ythhdcfhaldcheaa
namespace Go.Lg
/-- a list that a call hands out as a block of its own, told as a list -/
theorem callP_own {P : Program} {f : FuncId} {args : List LV} {sz n : Nat} {vals : List LV} {mt : Bool} (h : CallOK P f args (.ref 1 sz 0 n) [⟨sz, vals, mt⟩]) (hp : pures vals = true) (hn : vals.length = n) : CallP P f args (.list sz vals) := by
  refine ⟨⟨h.1, fun W Z0 vs hz hr => Calls.mono (h.2 W Z0 vs hz hr) (fun e w' => ?_)⟩, fun g => LV.ren_pure g _ (by simp [LV.pure, hp])⟩
  rintro ⟨v, μ, Z, he, hc, hv⟩
  have hle : Heap.le (outHeap [⟨sz, vals, mt⟩]) (outHeap [⟨sz, vals, false⟩]) := fun b blk hb => by
    unfold outHeap at hb ⊢
    by_cases h0 : b = 0
    · rw [if_pos h0] at hb; cases hb
    · rw [if_neg h0] at hb
      rcases Nat.lt_or_ge (b - 1) 1 with h1 | h1
      · have e : b - 1 = 0 := by omega
        rw [e] at hb
        simp only [List.getElem?_cons_zero, Option.some.injEq] at hb
        subst hb
        exact ⟨false, by rw [if_neg h0, e]; rfl, fun _ => rfl, fun _ _ => h0⟩
      · rw [List.getElem?_eq_none (by simpa using h1)] at hb; cases hb
  obtain ⟨Z1, k1, k2⟩ := hc.widen hle
  have hfr : Frame Z μ w' w' := ⟨fun _ _ => rfl, fun _ id _ c _ _ hh => ⟨c, hh, rfl⟩⟩
  have hv1 := hv.mono k2 (fun _ _ h => h) hfr
  have hi : Imm (outHeap [⟨sz, vals, false⟩]) (.ref 1 sz 0 n) (.list sz vals) := by
    have := Imm.ref (H := outHeap [⟨sz, vals, false⟩]) (b := 1) (off := 0) (len := n) (blk := ⟨sz, vals, false⟩) rfl rfl hp (by simp [hn]) rfl
    simpa [← hn] using this
  refine ⟨v, drop1 μ 1, Z1, he, ?_, RepV.of1 (fun l h => by cases h) (hi.soundV k1 hv1)⟩
  have kk := Core.kill (L := ⟨fun _ => .any, outHeap [⟨sz, vals, false⟩]⟩) 1 (by decide) k1
  refine kk.reheap fun b id hb => ?_
  have hb1 : b ≠ 1 := fun e => by rw [e] at hb; simp [drop1] at hb
  have hb2 : μ b = some id := by unfold drop1 at hb; split at hb <;> first | exact hb | cases hb
  obtain ⟨blk, g1, _⟩ := k1.heap b id hb2
  unfold outHeap at g1
  split at g1
  · cases g1
  · rw [List.getElem?_eq_none (by simp; omega)] at g1; cases g1
end Go.Lg
namespace Go.Proofs.Ythhdcfhaldcheaa
open Go.Lg
theorem c_copiedP (p : List Rat) (hl : p.length ≤ 1048576) (hpr : ∀ x ∈ p, rl x ≤ 274877906944) : CallP Try.prog 66 [.list 3 (p.map ratL)] (.list 3 (p.map ratL)) :=
  callP_own (c_copiedO p hl hpr) (pures_map ratE _) (by simp)
/-! ### one degree more -/
def lifV (p : List Rat) (i : Nat) : Rat := (if 0 < i then ((i : Int) : Rat) / ((p.length : Int) : Rat) * p.getD (i - 1) 0 else 0) + (if i < p.length then (((p.length : Int) - (i : Int) : Int) : Rat) / ((p.length : Int) : Rat) * p.getD i 0 else 0)
def lifP (p : List Rat) : List Rat := (List.range (p.length + 1)).map (lifV p)
def itL : Nat → List Rat → List Rat
  | 0, p => p
  | k + 1, p => itL k (lifP p)
def upP (p : List Rat) (n : Nat) : List Rat := itL (n + 1 - p.length) p
theorem lifP_len (p : List Rat) : (lifP p).length = p.length + 1 := by simp [lifP]
theorem lifP_get {p : List Rat} {i : Nat} (h : i < p.length + 1) : (lifP p).getD i 0 = lifV p i := by
  rw [List.getD_eq_getElem?_getD, List.getElem?_eq_getElem (by rw [lifP_len]; exact h)]; simp [lifP]
theorem itL_len : ∀ (k : Nat) (p : List Rat), (itL k p).length = p.length + k
  | 0, p => rfl
  | k + 1, p => by rw [itL, itL_len k, lifP_len]; omega
theorem upP_len {p : List Rat} {n : Nat} (h : p.length ≤ n + 1) : (upP p n).length = n + 1 := by rw [upP, itL_len]; omega
theorem lifV_tt {p : List Rat} {i : Nat} (h0 : 0 < i) (h1 : i < p.length) : lifV p i = ((i : Int) : Rat) / ((p.length : Int) : Rat) * p.getD (i - 1) 0 + (((p.length : Int) - (i : Int) : Int) : Rat) / ((p.length : Int) : Rat) * p.getD i 0 := by
  rw [lifV, if_pos h0, if_pos h1]
theorem lifV_tf {p : List Rat} {i : Nat} (h0 : 0 < i) (h1 : ¬ i < p.length) : lifV p i = ((i : Int) : Rat) / ((p.length : Int) : Rat) * p.getD (i - 1) 0 := by
  rw [lifV, if_pos h0, if_neg h1, Rat.add_zero]
theorem lifV_ft {p : List Rat} {i : Nat} (h0 : ¬ 0 < i) (h1 : i < p.length) : lifV p i = (((p.length : Int) - (i : Int) : Int) : Rat) / ((p.length : Int) : Rat) * p.getD i 0 := by
  rw [lifV, if_neg h0, if_pos h1, Rat.zero_add]
/-- the numbers stay small enough through k elevations -/
def upS (p : List Rat) (n : Nat) : Prop := ∀ x ∈ p, (rl x + 3) * 2 ^ (n + 1 - p.length) ≤ 1073741824
theorem upS_rl {p : List Rat} {n : Nat} (h : upS p n) (k : Nat) : rl (p.getD k 0) ≤ 1073741824 := by
  rcases Nat.lt_or_ge k p.length with hk | hk
  · have := h _ (getD_mem hk)
    have h1 : 1 ≤ 2 ^ (n + 1 - p.length) := Nat.one_le_two_pow
    have := Nat.le_trans (Nat.le_mul_of_pos_right _ h1) this
    omega
  · rw [List.getD_eq_getElem?_getD, List.getElem?_eq_none hk]; show rl 0 ≤ _; rw [show rl 0 = 1 from rfl]; omega
theorem lifV_rl {p : List Rat} {R i : Nat} (hl : p.length < 4294967296) (hR : 1 ≤ R) (h : ∀ x ∈ p, rl x ≤ R) (hi : i ≤ p.length) : rl (lifV p i) ≤ 2 * R + 3 := by
  have h1 := rl_ints (n := (i : Int)) (d := (p.length : Int)) (by omega) (by omega)
  have h2 := rl_ints (n := (p.length : Int) - (i : Int)) (d := (p.length : Int)) (by omega) (by omega)
  have h3 := getD_rl hR h (i - 1)
  have h4 := getD_rl hR h i
  have h5 := rl_mul (((i : Int) : Rat) / ((p.length : Int) : Rat)) (p.getD (i - 1) 0)
  have h6 := rl_mul ((((p.length : Int) - (i : Int) : Int) : Rat) / ((p.length : Int) : Rat)) (p.getD i 0)
  have h0 : rl 0 = 1 := rfl
  by_cases ha : 0 < i <;> by_cases hb : i < p.length
  · rw [lifV_tt ha hb]
    have := rl_add (((i : Int) : Rat) / ((p.length : Int) : Rat) * p.getD (i - 1) 0) ((((p.length : Int) - (i : Int) : Int) : Rat) / ((p.length : Int) : Rat) * p.getD i 0)
    omega
  · rw [lifV_tf ha hb]; omega
  · rw [lifV_ft ha hb]; omega
  · rw [lifV, if_neg ha, if_neg hb]
    show rl (0 + 0) ≤ _
    rw [Rat.add_zero]; omega
theorem upS_step {p : List Rat} {n : Nat} (hl : p.length ≤ n) (hn : n ≤ 1000) (h0 : 0 < p.length) (h : upS p n) : upS (lifP p) n := by
  intro x hx
  obtain ⟨i, hi, rfl⟩ := List.mem_map.1 hx
  rw [List.mem_range] at hi
  obtain ⟨k, hk⟩ : ∃ k, n + 1 - p.length = k + 1 := ⟨n - p.length, by omega⟩
  have hk2 : n + 1 - (lifP p).length = k := by rw [lifP_len]; omega
  rw [hk2]
  unfold upS at h
  rw [hk] at h
  have hp : 0 < 2 ^ k := Nat.pow_pos (by omega)
  -- all numbers are at most R
  have hR : ∀ x ∈ p, rl x ≤ 1073741824 / 2 ^ (k + 1) - 3 := fun x hx => by
    have := h x hx
    have := (Nat.le_div_iff_mul_le (Nat.pow_pos (by omega))).2 this
    omega
  have h1 : 1 + 3 ≤ 1073741824 / 2 ^ (k + 1) := by
    have hx := List.getElem_mem (l := p) (n := 0) h0
    have := (Nat.le_div_iff_mul_le (Nat.pow_pos (by omega))).2 (h _ hx)
    have := rl_pos p[0]
    omega
  have := lifV_rl (R := 1073741824 / 2 ^ (k + 1) - 3) (by omega) (by omega) hR (show i ≤ p.length by omega)
  have e : (rl (lifV p i) + 3) ≤ 2 * (1073741824 / 2 ^ (k + 1)) := by omega
  refine Nat.le_trans (Nat.mul_le_mul_right _ e) ?_
  have e2 : 2 * (1073741824 / 2 ^ (k + 1)) * 2 ^ k = 1073741824 / 2 ^ (k + 1) * 2 ^ (k + 1) := by rw [Nat.pow_succ]; simp only [Nat.mul_comm, Nat.mul_left_comm, Nat.mul_assoc]
  rw [e2]
  exact Nat.div_mul_le_self _ _
theorem upP_self {p : List Rat} {n : Nat} (h : n + 1 ≤ p.length) : upP p n = p := by rw [upP, show n + 1 - p.length = 0 by omega]; rfl
theorem itL_step {p : List Rat} {n : Nat} (h : p.length ≤ n) : itL (n + 1 - (lifP p).length) (lifP p) = itL (n + 1 - p.length) p := by
  rw [show n + 1 - p.length = (n + 1 - (lifP p).length) + 1 by rw [lifP_len]; omega]; rfl
def zipG (g : Rat → Rat → Rat) (a b : List Rat) : List Rat := (List.range a.length).map fun i => g (a.getD i 0) (b.getD i 0)
theorem zipG_len (g : Rat → Rat → Rat) (a b : List Rat) : (zipG g a b).length = a.length := by simp [zipG]
theorem zipG_get {g : Rat → Rat → Rat} {a b : List Rat} {i : Nat} (h : i < a.length) : (zipG g a b).getD i 0 = g (a.getD i 0) (b.getD i 0) := by
  rw [List.getD_eq_getElem?_getD, List.getElem?_eq_getElem (by rw [zipG_len]; exact h)]; simp [zipG]
theorem nfc_up_0 {p : Prop} (h : p := by (try simp only [e1, e2, e3, e4, p1, p2, p3, q1, q2, q3, l1, t0, t1, r1, r2, r3, r4, Nat.zero_add, Nat.reduceMul, Nat.reduceAdd, b1, b2, b3, b4, b5, b6, i1, i2, i3, i4, i5, i6, Nat.reduceBEq, dfq, List.length_set, List.set_set, egs, egz, eim, Rat.zero_add, kills_map ratE, ratL_kill, LV.kill, kills]); exact rfl) : p := h
theorem clc_up_1 {p : Prop} (h : p := by first | rfl | (simp only [e1, e2, e3, e4, p1, p2, p3, q1, q2, q3, l1, t0, t1, r1, r2, r3, r4, Nat.zero_add, Nat.reduceMul, Nat.reduceAdd, b1, b2, b3, b4, b5, b6, i1, i2, i3, i4, i5, i6, Nat.reduceBEq, dfq, List.length_set, List.set_set, egs, egz, eim, Rat.zero_add, kills_map ratE, ratL_kill, LV.kill, kills]; done) | (simp only [e1, e2, e3, e4, p1, p2, p3, q1, q2, q3, l1, t0, t1, r1, r2, r3, r4, Nat.zero_add, Nat.reduceMul, Nat.reduceAdd, b1, b2, b3, b4, b5, b6, i1, i2, i3, i4, i5, i6, Nat.reduceBEq, dfq, List.length_set, List.set_set, egs, egz, eim, Rat.zero_add, kills_map ratE, ratL_kill, LV.kill, kills]; rfl) | (simp only [e1, e2, e3, e4, p1, p2, p3, q1, q2, q3, l1, t0, t1, r1, r2, r3, r4, Nat.zero_add, Nat.reduceMul, Nat.reduceAdd, b1, b2, b3, b4, b5, b6, i1, i2, i3, i4, i5, i6, Nat.reduceBEq, dfq, List.length_set, List.set_set, egs, egz, eim, Rat.zero_add, kills_map ratE, ratL_kill, LV.kill, kills]; congr 3 <;> omega) | (simp only [e1, e2, e3, e4, p1, p2, p3, q1, q2, q3, l1, t0, t1, r1, r2, r3, r4, Nat.zero_add, Nat.reduceMul, Nat.reduceAdd, b1, b2, b3, b4, b5, b6, i1, i2, i3, i4, i5, i6, Nat.reduceBEq, dfq, List.length_set, List.set_set, egs, egz, eim, Rat.zero_add, kills_map ratE, ratL_kill, LV.kill, kills]; congr 2 <;> omega)) : p := h
theorem mlc_up_2 {p : Prop} (h : p := by first | rfl | (simp only [e1, e2, e3, e4, p1, p2, p3, q1, q2, q3, l1, t0, t1, r1, r2, r3, r4, Nat.zero_add, Nat.reduceMul, Nat.reduceAdd, b1, b2, b3, b4, b5, b6, i1, i2, i3, i4, i5, i6, Nat.reduceBEq, dfq, List.length_set, List.set_set, egs, egz, eim, Rat.zero_add, kills_map ratE, ratL_kill, LV.kill, kills]; done) | (simp only [e1, e2, e3, e4, p1, p2, p3, q1, q2, q3, l1, t0, t1, r1, r2, r3, r4, Nat.zero_add, Nat.reduceMul, Nat.reduceAdd, b1, b2, b3, b4, b5, b6, i1, i2, i3, i4, i5, i6, Nat.reduceBEq, dfq, List.length_set, List.set_set, egs, egz, eim, Rat.zero_add, kills_map ratE, ratL_kill, LV.kill, kills]; rfl) | (simp only [e1, e2, e3, e4, p1, p2, p3, q1, q2, q3, l1, t0, t1, r1, r2, r3, r4, Nat.zero_add, Nat.reduceMul, Nat.reduceAdd, b1, b2, b3, b4, b5, b6, i1, i2, i3, i4, i5, i6, Nat.reduceBEq, dfq, List.length_set, List.set_set, egs, egz, eim, Rat.zero_add, kills_map ratE, ratL_kill, LV.kill, kills]; congr 2 <;> omega)) : p := h
namespace H_c_up
theorem om {p : Prop} (h : p := by first | (simp only [e1, e2, e3, e4, p1, p2, p3, q1, q2, q3, l1, t0, t1, r1, r2, r3, r4, Nat.zero_add, Nat.reduceMul, Nat.reduceAdd, b1, b2, b3, b4, b5, b6, i1, i2, i3, i4, i5, i6, Nat.reduceBEq, dfq, List.length_set, List.set_set, egs, egz, eim, Rat.zero_add, kills_map ratE, ratL_kill, LV.kill, kills]; omega) | omega) : p := h
end H_c_up
open H_c_up in
set_option maxHeartbeats 4000000 in
set_option maxRecDepth 100000 in
theorem c_up (p : List Rat) (n : Nat) (hp0 : 0 < p.length) (hn : n ≤ 1000) (hl : p.length ≤ 1001) (hs : upS p n) : CallP Try.prog 82 [.list 3 (p.map ratL), nI64 n] (.list 3 ((upP p n).map ratL)) := by
  refine callP_of fol Try.func82 rfl (by decide +kernel) (by decide +kernel) (Nat.le_of_ble_eq_true rfl) tm0 ?_
  have egs : True := trivial
  have egz : True := trivial
  have eim : True := trivial
  refine wl_seq (wl_reg (asg ?_))
  refine st_end nfc_up_0 ?_
  refine then_n (wl_seq (wl_reg (mv ?_)))
  refine st_callP rfl (.cons im0 .nil) (c_copiedP p (by omega) (fun x hx => by have := upS_rl hs; have h9 := List.getElem_of_mem hx; obtain ⟨k, hk, rfl⟩ := h9; have h8 := this k; rw [List.getD_eq_getElem?_getD, List.getElem?_eq_getElem hk] at h8; exact Nat.le_trans h8 (by decide))) ?_
  refine asg ?_
  refine st_end nfc_up_0 ?_
  refine then_n (wl_seq (wl_block ?_))
  refine wl_loop (α := List Rat) (fun st L => (((St.mk L.slot (hp [])).put (some 1) (nI64 n)).put (some 5) (.list 3 (st.map ratL)))) (fun st => 0 < st.length ∧ st.length ≤ 1001 ∧ upS st n ∧ itL (n + 1 - st.length) st = upP p n) (fun st => n + 1 - st.length) p (show 0 < (p).length ∧ (p).length ≤ 1001 ∧ upS (p) n ∧ itL (n + 1 - (p).length) (p) = upP p n from ⟨hp0, hl, hs, rfl⟩) ⟨_, Weak.of_eq (put_id' (put_id' (mk_id' clc_up_1) clc_up_1) clc_up_1)⟩ ?_
  rintro o L1 hLC
  obtain ⟨ho0, hol, hos, hit⟩ : 0 < o.length ∧ o.length ≤ 1001 ∧ upS o n ∧ itL (n + 1 - o.length) o = upP p n := hLC
  show wpL _ _ _ (((St.mk L1.slot (hp [])).put (some 1) (nI64 n)).put (some 5) (.list 3 (o.map ratL)))
  refine wl_seq (wl_seq (wl_reg (mv ?_)))
  refine st_pure rfl ln37 ?_
  refine st_pure rfl (.bin rfl rfl rfl) ?_
  refine mv ?_
  refine opsL_split (d := 18) rfl (fun h18 => ?_) (fun h18 => ?_)
  · skip
    have h18r := h18
    try simp only [hce, l1, t0, t1, dflt, val_dig] at h18
    refine st_pure (guardX (v := true) rfl rfl (h18r) rfl) (.move _) ?_
    refine st_pure (guardX (v := true) rfl rfl (h18r) rfl) ln37 ?_
    refine st_pure (guardX (v := true) rfl rfl (h18r) rfl) (.move _) ?_
    refine st_pure (guardX (v := true) rfl rfl (h18r) rfl) (.bin rfl rfl rfl) ?_
    refine st_pure rfl (.pickT rfl (h18r)) ?_
    refine st_end nfc_up_0 ?_
    refine then_n ?_
    refine wl_cond rfl (fun h23 => ?_) (fun h23 => ?_)
    · skip
      have h23r := h23
      try simp only [hce, l1, t0, t1, dflt, val_dig] at h23
      have hon : o.length ≤ n := by omega
      refine wl_skip (then_n (wl_block (wl_seq (wl_reg (mv ?_)))))
      refine st_pure rfl ln37 ?_
      refine asg ?_
      refine st_end nfc_up_0 ?_
      refine then_n (wl_seq (wl_reg (mv ?_)))
      refine st_pure rfl (.bin rfl rfl (add1N (by omega))) ?_
      refine st_alloc rfl rfl (.makeM (n := (o.length + 1)) (m := (o.length + 1)) ratE Try.underlying37 Z34 T34 B34 mlc_up_2 mlc_up_2 om om om) ?_
      refine asg ?_
      refine st_end nfc_up_0 ?_
      refine then_n (wl_seq (wl_seq (wl_reg (mv ?_))))
      refine st_pure rfl ln37 ?_
      refine mv ?_
      refine st_end nfc_up_0 ?_
      refine then_n (wl_block ?_)
      refine wl_loop (α := Nat × List Rat) (fun st L => ((((((((St.mk L.slot (hp [(28, ⟨3, st.2.map ratL, true⟩)])).put (some 1) (nI64 n)).put (some 5) (.list 3 (o.map ratL))).put (some 6) (nI64 o.length)).put (some 7) (.ref 28 3 0 (o.length + 1))).put (some 29) (.ref 28 3 0 (o.length + 1))).put (some 30) (nI64 (o.length + 1))).put (some 31) (nI64 st.1))) (fun st => st.1 ≤ o.length + 1 ∧ st.2.length = o.length + 1 ∧ st.2.take st.1 = (lifP o).take st.1 ∧ ∀ x, st.1 ≤ x → st.2.getD x 0 = 0) (fun st => o.length + 1 - st.1) (0, List.replicate (o.length + 1) 0) (show (0) ≤ o.length + 1 ∧ (List.replicate (o.length + 1) 0).length = o.length + 1 ∧ (List.replicate (o.length + 1) 0).take (0) = (lifP o).take (0) ∧ ∀ x, (0) ≤ x → (List.replicate (o.length + 1) 0).getD x 0 = 0 from ⟨Nat.zero_le _, by simp, rfl, fun x _ => by simp [List.getD_eq_getElem?_getD, List.getElem?_replicate]; split <;> rfl⟩) ⟨_, Weak.of_eq (put_id' (put_id' (put_id' (put_id' (put_id' (put_id' (put_id' (mk_id' clc_up_1) clc_up_1) clc_up_1) clc_up_1) clc_up_1) clc_up_1) clc_up_1) clc_up_1)⟩ ?_
      rintro ⟨i, w⟩ L2 hLC
      obtain ⟨hi, hwl, hwt, hz⟩ : i ≤ o.length + 1 ∧ w.length = o.length + 1 ∧ w.take i = (lifP o).take i ∧ ∀ x, i ≤ x → w.getD x 0 = 0 := hLC
      show wpL _ _ _ ((((((((St.mk L2.slot (hp [(28, ⟨3, w.map ratL, true⟩)])).put (some 1) (nI64 n)).put (some 5) (.list 3 (o.map ratL))).put (some 6) (nI64 o.length)).put (some 7) (.ref 28 3 0 (o.length + 1))).put (some 29) (.ref 28 3 0 (o.length + 1))).put (some 30) (nI64 (o.length + 1))).put (some 31) (nI64 i))
      refine wl_seq (wl_reg ?_)
      refine st_pure rfl (.bin rfl rfl rfl) ?_
      refine st_end nfc_up_0 ?_
      refine then_n (wl_seq ?_)
      refine wl_cond rfl (fun h32 => ?_) (fun h32 => ?_)
      · skip
        have h32r := h32
        try simp only [hce, l1, t0, t1, dflt, val_dig] at h32
        have hi2 : i < o.length + 1 := by omega
        have hf1 := rl_ints (n := (i : Int)) (d := (o.length : Int)) (by omega) (by omega)
        have hf2 := rl_ints (n := (o.length : Int) - (i : Int)) (d := (o.length : Int)) (by omega) (by omega)
        have hr1 := upS_rl hos (i - 1)
        have hr2 := upS_rl hos i
        have hm1 := rl_mul (((i : Int) : Rat) / ((o.length : Int) : Rat)) (o.getD (i - 1) 0)
        have hm2 := rl_mul ((((o.length : Int) - (i : Int) : Int) : Rat) / ((o.length : Int) : Rat)) (o.getD i 0)
        have egs := fun v => set_get_self (o := w) (i := i) (v := v) (by omega)
        have egz := hz i (Nat.le_refl _)
        have eim : ((i : Int) - 1).toNat = i - 1 := by omega
        have hr0 : rl 0 = 1 := rfl
        refine wl_skip (then_n (wl_seq (wl_block (wl_seq (wl_reg (mv (asg ?_)))))))
        refine st_end nfc_up_0 ?_
        refine then_n (wl_seq (wl_seq (wl_reg (mv ?_))))
        refine st_pure rfl (.bin rfl rfl rfl) ?_
        refine st_end nfc_up_0 ?_
        refine then_n ?_
        refine wl_cond rfl (fun h35 => ?_) (fun h35 => ?_)
        · skip
          have h35r := h35
          try simp only [hce, l1, t0, t1, dflt, val_dig] at h35
          have hi0 : 0 < i := by omega
          refine wl_seq (wl_reg (mv (mv ?_)))
          refine st_callP rfl (.cons im0 (.cons im0 .nil)) (c_RMake (i : Int) (o.length : Int) (by omega) (by omega) (by omega) (by omega) (by omega)) ?_
          refine mv ?_
          refine st_pure rfl (.extract rfl rfl nt0) ?_
          refine st_pure rfl (.extract rfl rfl nt0) ?_
          refine st_alloc rfl rfl (.alloc Z34a) ?_
          refine st_store rfl sr34 ?_
          refine asg ?_
          refine st_end nfc_up_0 ?_
          refine then_n ?_
          refine wl_regD 10 (by decide +kernel) ?_
          refine mv (mv ?_)
          refine st_pure rfl ld34 ?_
          refine mv (mv ?_)
          refine st_pure rfl (.bin rfl rfl (sub64 om om)) ?_
          refine st_pure rfl ix37 ?_
          refine st_pure rfl ld34 ?_
          try simp only [t1, dfq, eim]
          refine st_callP rfl (.cons im0 (.cons im0 .nil)) (c_RMul _ _ (by omega)) ?_
          refine st_pure rfl ix37 ?_
          refine st_store rfl sr34 ?_
          refine st_end nfc_up_0 ?_
          refine then_n (wl_seq (wl_reg (mv (mv ?_))))
          refine st_pure rfl ln37 ?_
          refine st_pure rfl (.bin rfl rfl rfl) ?_
          refine st_end nfc_up_0 ?_
          refine then_n ?_
          refine wl_cond rfl (fun h55 => ?_) (fun h55 => ?_)
          · skip
            have h55r := h55
            try simp only [hce, l1, t0, t1, dflt, val_dig] at h55
            have hi1 : i < o.length := by omega
            refine wl_seq (wl_reg (mv (mv ?_)))
            refine st_pure rfl (.bin rfl rfl (sub64 (by omega) (by omega))) ?_
            refine mv ?_
            refine st_callP rfl (.cons im0 (.cons im0 .nil)) (c_RMake ((o.length : Int) - (i : Int)) (o.length : Int) (by omega) (by omega) (by omega) (by omega) (by omega)) ?_
            refine mv ?_
            refine st_pure rfl (.extract rfl rfl nt0) ?_
            refine st_pure rfl (.extract rfl rfl nt0) ?_
            refine st_alloc rfl rfl (.alloc Z34a) ?_
            refine st_store rfl sr34 ?_
            refine asg ?_
            refine st_end nfc_up_0 ?_
            refine then_n ?_
            refine wl_regD 14 (by decide +kernel) ?_
            refine mv (mv (mv (mv ?_)))
            refine st_pure rfl ix37 ?_
            refine st_pure rfl ld34 ?_
            refine st_pure rfl ld34 ?_
            refine mv (mv ?_)
            refine st_pure rfl ix37 ?_
            refine st_pure rfl ld34 ?_
            try simp only [t1, dfq]
            refine st_callP rfl (.cons im0 (.cons im0 .nil)) (c_RMul _ _ (by omega)) ?_
            try simp only [t1, dfq, Nat.zero_add, egs, egz]
            refine st_callP rfl (.cons im0 (.cons im0 .nil)) (c_RAdd _ _ (by omega)) ?_
            refine st_pure rfl ix37 ?_
            refine st_store rfl sr34 ?_
            refine st_end nfc_up_0 ?_
            refine blk_n (then_n ?_)
            refine wl_regW ((Weak.kill _ 9).trans (Weak.kill _ 11)) ?_
            refine st_pure rfl (.bin rfl rfl (add64 om om)) ?_
            refine mv ?_
            refine st_end nfc_up_0 ?_
            refine then_n ?_
            exact ⟨(i + 1, w.set i (((i : Int) : Rat) / ((o.length : Int) : Rat) * o.getD (i - 1) 0 + (((o.length : Int) - (i : Int) : Int) : Rat) / ((o.length : Int) : Rat) * o.getD i 0)), _, (show (i + 1) ≤ o.length + 1 ∧ (w.set i (((i : Int) : Rat) / ((o.length : Int) : Rat) * o.getD (i - 1) 0 + (((o.length : Int) - (i : Int) : Int) : Rat) / ((o.length : Int) : Rat) * o.getD i 0)).length = o.length + 1 ∧ (w.set i (((i : Int) : Rat) / ((o.length : Int) : Rat) * o.getD (i - 1) 0 + (((o.length : Int) - (i : Int) : Int) : Rat) / ((o.length : Int) : Rat) * o.getD i 0)).take (i + 1) = (lifP o).take (i + 1) ∧ ∀ x, (i + 1) ≤ x → (w.set i (((i : Int) : Rat) / ((o.length : Int) : Rat) * o.getD (i - 1) 0 + (((o.length : Int) - (i : Int) : Int) : Rat) / ((o.length : Int) : Rat) * o.getD i 0)).getD x 0 = 0 from ⟨by omega, by simp [hwl], set_takeR (by rw [lifP_len]; omega) (by rw [lifP_len]; omega) hwt (by rw [lifP_get (by omega), lifV_tt hi0 hi1]), fun x hx => by rw [set_getD _ _ _ _ (by omega), if_neg (by omega)]; exact hz x (by omega)⟩), (show o.length + 1 - (i + 1) < o.length + 1 - i from by omega), Weak.of_eq (put_id' (put_id' (put_id' (put_id' (put_id' (put_id' (put_id' (mk_id' clc_up_1) clc_up_1) clc_up_1) clc_up_1) clc_up_1) clc_up_1) clc_up_1) clc_up_1)⟩
          · skip
            have h55r := h55
            try simp only [hce, l1, t0, t1, dflt, val_dig] at h55
            have hi1 : ¬ i < o.length := by omega
            refine wl_skip (blk_n (then_n ?_))
            refine wl_regW ((Weak.kill _ 9).trans (Weak.kill _ 11)) ?_
            refine st_pure rfl (.bin rfl rfl (add64 om om)) ?_
            refine mv ?_
            refine st_end nfc_up_0 ?_
            refine then_n ?_
            exact ⟨(i + 1, w.set i (((i : Int) : Rat) / ((o.length : Int) : Rat) * o.getD (i - 1) 0)), _, (show (i + 1) ≤ o.length + 1 ∧ (w.set i (((i : Int) : Rat) / ((o.length : Int) : Rat) * o.getD (i - 1) 0)).length = o.length + 1 ∧ (w.set i (((i : Int) : Rat) / ((o.length : Int) : Rat) * o.getD (i - 1) 0)).take (i + 1) = (lifP o).take (i + 1) ∧ ∀ x, (i + 1) ≤ x → (w.set i (((i : Int) : Rat) / ((o.length : Int) : Rat) * o.getD (i - 1) 0)).getD x 0 = 0 from ⟨by omega, by simp [hwl], set_takeR (by rw [lifP_len]; omega) (by rw [lifP_len]; omega) hwt (by rw [lifP_get (by omega), lifV_tf hi0 hi1]), fun x hx => by rw [set_getD _ _ _ _ (by omega), if_neg (by omega)]; exact hz x (by omega)⟩), (show o.length + 1 - (i + 1) < o.length + 1 - i from by omega), Weak.of_eq (put_id' (put_id' (put_id' (put_id' (put_id' (put_id' (put_id' (mk_id' clc_up_1) clc_up_1) clc_up_1) clc_up_1) clc_up_1) clc_up_1) clc_up_1) clc_up_1)⟩
        · skip
          have h35r := h35
          try simp only [hce, l1, t0, t1, dflt, val_dig] at h35
          have hi0 : ¬ 0 < i := by omega
          refine wl_skip (then_n (wl_seq (wl_reg (mv (mv ?_)))))
          refine st_pure rfl ln37 ?_
          refine st_pure rfl (.bin rfl rfl rfl) ?_
          refine st_end nfc_up_0 ?_
          refine then_n ?_
          refine wl_cond rfl (fun h55 => ?_) (fun h55 => ?_)
          · skip
            have h55r := h55
            try simp only [hce, l1, t0, t1, dflt, val_dig] at h55
            have hi1 : i < o.length := by omega
            refine wl_seq (wl_reg (mv (mv ?_)))
            refine st_pure rfl (.bin rfl rfl (sub64 (by omega) (by omega))) ?_
            refine mv ?_
            refine st_callP rfl (.cons im0 (.cons im0 .nil)) (c_RMake ((o.length : Int) - (i : Int)) (o.length : Int) (by omega) (by omega) (by omega) (by omega) (by omega)) ?_
            refine mv ?_
            refine st_pure rfl (.extract rfl rfl nt0) ?_
            refine st_pure rfl (.extract rfl rfl nt0) ?_
            refine st_alloc rfl rfl (.alloc Z34a) ?_
            refine st_store rfl sr34 ?_
            refine asg ?_
            refine st_end nfc_up_0 ?_
            refine then_n ?_
            refine wl_regD 14 (by decide +kernel) ?_
            refine mv (mv (mv (mv ?_)))
            refine st_pure rfl ix37 ?_
            refine st_pure rfl ld34 ?_
            refine st_pure rfl ld34 ?_
            refine mv (mv ?_)
            refine st_pure rfl ix37 ?_
            refine st_pure rfl ld34 ?_
            try simp only [t1, dfq]
            refine st_callP rfl (.cons im0 (.cons im0 .nil)) (c_RMul _ _ (by omega)) ?_
            try simp only [t1, dfq, Nat.zero_add, egs, egz]
            refine st_callP rfl (.cons im0 (.cons im0 .nil)) (c_RAdd _ _ (by omega)) ?_
            refine st_pure rfl ix37 ?_
            refine st_store rfl sr34 ?_
            refine st_end nfc_up_0 ?_
            refine blk_n (then_n ?_)
            refine wl_regW ((Weak.kill _ 9).trans (Weak.kill _ 11)) ?_
            refine st_pure rfl (.bin rfl rfl (add64 om om)) ?_
            refine mv ?_
            refine st_end nfc_up_0 ?_
            refine then_n ?_
            exact ⟨(i + 1, w.set i ((((o.length : Int) - (i : Int) : Int) : Rat) / ((o.length : Int) : Rat) * o.getD i 0)), _, (show (i + 1) ≤ o.length + 1 ∧ (w.set i ((((o.length : Int) - (i : Int) : Int) : Rat) / ((o.length : Int) : Rat) * o.getD i 0)).length = o.length + 1 ∧ (w.set i ((((o.length : Int) - (i : Int) : Int) : Rat) / ((o.length : Int) : Rat) * o.getD i 0)).take (i + 1) = (lifP o).take (i + 1) ∧ ∀ x, (i + 1) ≤ x → (w.set i ((((o.length : Int) - (i : Int) : Int) : Rat) / ((o.length : Int) : Rat) * o.getD i 0)).getD x 0 = 0 from ⟨by omega, by simp [hwl], set_takeR (by rw [lifP_len]; omega) (by rw [lifP_len]; omega) hwt (by rw [lifP_get (by omega), lifV_ft hi0 hi1]), fun x hx => by rw [set_getD _ _ _ _ (by omega), if_neg (by omega)]; exact hz x (by omega)⟩), (show o.length + 1 - (i + 1) < o.length + 1 - i from by omega), Weak.of_eq (put_id' (put_id' (put_id' (put_id' (put_id' (put_id' (put_id' (mk_id' clc_up_1) clc_up_1) clc_up_1) clc_up_1) clc_up_1) clc_up_1) clc_up_1) clc_up_1)⟩
          · skip
            have h55r := h55
            try simp only [hce, l1, t0, t1, dflt, val_dig] at h55
            have hi1 : ¬ i < o.length := by omega
            refine wl_skip (blk_n (then_n ?_))
            refine wl_regW ((Weak.kill _ 9).trans (Weak.kill _ 11)) ?_
            refine st_pure rfl (.bin rfl rfl (add64 om om)) ?_
            refine mv ?_
            refine st_end nfc_up_0 ?_
            refine then_n ?_
            exact ⟨(i + 1, w), _, (show (i + 1) ≤ o.length + 1 ∧ (w).length = o.length + 1 ∧ (w).take (i + 1) = (lifP o).take (i + 1) ∧ ∀ x, (i + 1) ≤ x → (w).getD x 0 = 0 from False.elim (by omega)), (show o.length + 1 - (i + 1) < o.length + 1 - i from by omega), Weak.of_eq (put_id' (put_id' (put_id' (put_id' (put_id' (put_id' (put_id' (mk_id' clc_up_1) clc_up_1) clc_up_1) clc_up_1) clc_up_1) clc_up_1) clc_up_1) clc_up_1)⟩
      · skip
        have h32r := h32
        try simp only [hce, l1, t0, t1, dflt, val_dig] at h32
        obtain rfl : i = o.length + 1 := by omega
        have hE : w = lifP o := by
          rw [List.take_of_length_le (by omega), List.take_of_length_le (by rw [lifP_len]; omega)] at hwt
          exact hwt
        subst hE
        refine wl_exit ?_
        refine then_e (then_e (blk_e (then_n ?_)))
        refine wl_regW ((Weak.imm (t := 7) [28] rfl rfl (imm_refm ratE rfl rfl (by rw [lifP_len]))).trans (Weak.kill _ 28)) ?_
        refine mv (asg ?_)
        refine st_end nfc_up_0 ?_
        refine blk_n (then_n ?_)
        exact ⟨lifP o, _, (show 0 < (lifP o).length ∧ (lifP o).length ≤ 1001 ∧ upS (lifP o) n ∧ itL (n + 1 - (lifP o).length) (lifP o) = upP p n from ⟨by rw [lifP_len]; omega, by rw [lifP_len]; omega, upS_step (by omega) hn ho0 hos, by rw [itL_step (by omega)]; exact hit⟩), (show n + 1 - (lifP o).length < n + 1 - o.length from by rw [lifP_len]; omega), Weak.of_eq (put_id' (put_id' (mk_id' clc_up_1) clc_up_1) clc_up_1)⟩
    · skip
      have h23r := h23
      try simp only [hce, l1, t0, t1, dflt, val_dig] at h23
      refine wl_exit ?_
      refine then_e (then_e (blk_e (then_n (wl_seq (wl_reg (mv (asg ?_)))))))
      refine st_end nfc_up_0 ?_
      refine then_n (wl_ret ?_)
      have hE : upP p n = o := by rw [← hit, show n + 1 - o.length = 0 by omega]; rfl
      rw [hE]
      exact ret1 rfl (by first | exact .pure rfl | exact .pure (limL_pure _) | exact .pure (magL_pure _) | exact .pure (ratE.pure _) | exact .pure (pure_lst u32E _ _) | exact .pure (pure_lst ratE _ _))
  · skip
    have h18r := h18
    try simp only [hce, l1, t0, t1, dflt, val_dig] at h18
    refine st_skip (guardX (v := false) rfl rfl (h18r) rfl) ?_
    refine st_skip (guardX (v := false) rfl rfl (h18r) rfl) ?_
    refine st_skip (guardX (v := false) rfl rfl (h18r) rfl) ?_
    refine st_skip (guardX (v := false) rfl rfl (h18r) rfl) ?_
    refine st_pure rfl (.pickF rfl (h18r)) ?_
    refine st_end nfc_up_0 ?_
    refine then_n ?_
    refine wl_condY (b := _) rfl rfl ?_
    refine wl_exit ?_
    refine then_e (then_e (blk_e (then_n (wl_seq (wl_reg (mv (asg ?_)))))))
    refine st_end nfc_up_0 ?_
    refine then_n (wl_ret ?_)
    have hE : upP p n = o := by rw [← hit, show n + 1 - o.length = 0 by omega]; rfl
    rw [hE]
    exact ret1 rfl (by first | exact .pure rfl | exact .pure (limL_pure _) | exact .pure (magL_pure _) | exact .pure (ratE.pure _) | exact .pure (pure_lst u32E _ _) | exact .pure (pure_lst ratE _ _))
end Go.Proofs.Ythhdcfhaldcheaa
