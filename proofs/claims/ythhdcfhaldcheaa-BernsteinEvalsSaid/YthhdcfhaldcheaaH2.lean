/- Sums, differences, equality, bounds. -/
import Derived.Test.YthhdcfhaldcheaaH1
set_option linter.unusedVariables false
set_option linter.unusedSimpArgs false
namespace Go.Proofs.Ythhdcfhaldcheaa
open Go.Lg
theorem upS_it {n : Nat} (hn : n ≤ 1000) : ∀ (k : Nat) (p : List Rat), 0 < p.length → p.length + k ≤ n + 1 → upS p n → upS (itL k p) n
  | 0, _, _, _, h => h
  | k + 1, p, h0, hk, h => upS_it hn k (lifP p) (by rw [lifP_len]; omega) (by rw [lifP_len]; omega) (upS_step (by omega) hn h0 h)
theorem upP_rl {p : List Rat} {n : Nat} (hn : n ≤ 1000) (h0 : 0 < p.length) (hl : p.length ≤ n + 1) (h : upS p n) (k : Nat) : rl ((upP p n).getD k 0) ≤ 1073741824 :=
  upS_rl (upS_it hn _ p h0 (by omega) h) k
theorem emx {a b n : Nat} (h : 0 < a) (h1 : a ≤ n + 1) (h2 : b ≤ n + 1) (h3 : a = n + 1 ∨ b = n + 1) : (if ((b : Nat) : Int) > ((a : Nat) : Int) then ((b : Nat) : Int) else ((a : Nat) : Int)) - 1 = (n : Int) := by
  split <;> omega
theorem emn (a : Nat) : (if ((a : Nat) : Int) < ((a : Nat) : Int) then ((a : Nat) : Int) else ((a : Nat) : Int)) = (a : Int) := by split <;> rfl
/-! ### bounds -/
def mnR (a b : Rat) : Rat := if b < a then b else a
def mxR (a b : Rat) : Rat := if a < b then b else a
def hulP (s : Rat × Rat) (t : Rat × Rat) : Rat × Rat := (mnR s.1 t.1, mxR s.2 t.2)
def bkP (p : List Rat) : Nat → Rat × Rat
  | 0 => (0, 0)
  | k + 1 => hulP (if k = 0 then (p.getD k 0, p.getD k 0) else bkP p k) (p.getD k 0, p.getD k 0)
def bndP (p : List Rat) : Rat × Rat := bkP p p.length
theorem mn_self (a : Rat) : mnR a a = a := by unfold mnR; split <;> rfl
theorem mx_self (a : Rat) : mxR a a = a := by unfold mxR; split <;> rfl
theorem mn_le (a b : Rat) : mnR a b ≤ a ∧ mnR a b ≤ b ∧ (mnR a b = a ∨ mnR a b = b) := by unfold mnR; split <;> grind
theorem mx_ge (a b : Rat) : a ≤ mxR a b ∧ b ≤ mxR a b ∧ (mxR a b = a ∨ mxR a b = b) := by unfold mxR; split <;> grind
theorem bk_spec (p : List Rat) : ∀ k, (∀ i, i < k → (bkP p k).1 ≤ p.getD i 0 ∧ p.getD i 0 ≤ (bkP p k).2) ∧ (0 < k → (∃ i, i < k ∧ (bkP p k).1 = p.getD i 0) ∧ ∃ i, i < k ∧ (bkP p k).2 = p.getD i 0)
  | 0 => ⟨fun i h => by omega, fun h => by omega⟩
  | k + 1 => by
    obtain ⟨h1, h2⟩ := bk_spec p k
    rw [bkP]
    by_cases hk : k = 0
    · subst hk
      rw [if_pos rfl]
      simp only [hulP, mn_self, mx_self]
      refine ⟨fun i hi => ?_, fun _ => ⟨⟨0, by omega, rfl⟩, ⟨0, by omega, rfl⟩⟩⟩
      obtain rfl : i = 0 := by omega
      exact ⟨Rat.le_refl, Rat.le_refl⟩
    · rw [if_neg hk]
      obtain ⟨⟨i, hi, ei⟩, ⟨j, hj, ej⟩⟩ := h2 (by omega)
      have a := mn_le (bkP p k).1 (p.getD k 0)
      have b := mx_ge (bkP p k).2 (p.getD k 0)
      simp only [hulP]
      refine ⟨fun x hx => ?_, fun _ => ⟨?_, ?_⟩⟩
      · by_cases hxk : x = k
        · subst hxk; exact ⟨a.2.1, b.2.1⟩
        · have := h1 x (by omega)
          exact ⟨Rat.le_trans a.1 this.1, Rat.le_trans this.2 b.1⟩
      · rcases a.2.2 with e | e
        · exact ⟨i, by omega, by rw [e, ei]⟩
        · exact ⟨k, by omega, e⟩
      · rcases b.2.2 with e | e
        · exact ⟨j, by omega, by rw [e, ej]⟩
        · exact ⟨k, by omega, e⟩
theorem bk_rl {p : List Rat} {R : Nat} (hR : 1 ≤ R) (h : ∀ k, rl (p.getD k 0) ≤ R) : ∀ k, rl (bkP p k).1 ≤ R ∧ rl (bkP p k).2 ≤ R
  | 0 => ⟨hR, hR⟩
  | k + 1 => by
    obtain ⟨⟨i, _, ei⟩, ⟨j, _, ej⟩⟩ := (bk_spec p (k + 1)).2 (by omega)
    rw [ei, ej]
    exact ⟨h i, h j⟩
theorem bk_bnd (p : List Rat) : bkP p p.length = bndP p := rfl
theorem getD_rl' {p : List Rat} {R : Nat} (hR : 1 ≤ R) (h : ∀ x ∈ p, rl x ≤ R) (k : Nat) : rl (p.getD k 0) ≤ R := getD_rl hR h k
theorem cmpR_le {a b : Rat} : cmpR a b ≤ 0 ↔ a ≤ b := by
  unfold cmpR; split
  · rename_i h; exact ⟨fun _ => Rat.le_of_lt h, fun _ => by decide⟩
  · split
    · rename_i h; exact ⟨fun e => absurd e (by decide), fun e => absurd h (Rat.not_lt.2 e)⟩
    · rename_i h; exact ⟨fun _ => Rat.not_lt.1 h, fun _ => by decide⟩
def hasR (s : Rat × Rat) (x : Rat) : Bool := decide (s.1 ≤ x) && decide (x ≤ s.2)
def insR (a b : Rat × Rat) : Bool := hasR b a.1 && hasR b a.2
theorem has1 {s : Rat × Rat} {x : Rat} (h : decide (cmpR s.1 x ≤ 0) = true) : decide (cmpR x s.2 ≤ 0) = hasR s x := by
  unfold hasR
  rw [decide_eq_true (cmpR_le.1 (of_decide_eq_true h)), Bool.true_and, decide_eq_decide, cmpR_le]
theorem has2 {s : Rat × Rat} {x : Rat} (h : decide (cmpR s.1 x ≤ 0) = false) : false = hasR s x := by
  unfold hasR
  rw [decide_eq_false (fun e => of_decide_eq_false h (cmpR_le.2 e)), Bool.false_and]
def ptD (n : Int) : Int := 1 + (n.tdiv 17) % 12
def ptV (n : Int) : Rat := ((n % (ptD n + 1) : Int) : Rat) / ((ptD n : Int) : Rat)
theorem ptD_bd (n : Int) : 1 ≤ ptD n ∧ ptD n ≤ 12 := by
  unfold ptD
  have h1 := Int.emod_nonneg (n.tdiv 17) (show (12 : Int) ≠ 0 by decide)
  have h2 := Int.emod_lt_of_pos (n.tdiv 17) (show (0 : Int) < 12 by decide)
  omega
theorem subMx {a b n : Nat} (h : 0 < a) (h1 : a ≤ n + 1) (h2 : b ≤ n + 1) (h3 : a = n + 1 ∨ b = n + 1) (hn : n ≤ 1000) : binI .sub .i64 (if ((b : Nat) : Int) > ((a : Nat) : Int) then ((b : Nat) : Int) else ((a : Nat) : Int)) 1 = some (.int .i64 ((n : Nat) : Int)) := by
  have e := emx h h1 h2 h3
  rw [sub64 (by omega) (by omega), e]
theorem nfc_both_0 {p : Prop} (h : p := by (try simp only [e1, e2, e3, e4, p1, p2, p3, q1, q2, q3, l1, t0, t1, r1, r2, r3, r4, Nat.zero_add, Nat.reduceMul, Nat.reduceAdd, b1, b2, b3, b4, b5, b6, i1, i2, i3, i4, i5, i6, Nat.reduceBEq, dfq, emx1, elp, elq, emn, kills_map ratE, ratL_kill, spL_kill, LV.kill, kills]); exact rfl) : p := h
theorem mlc_both_1 {p : Prop} (h : p := by first | rfl | (simp only [e1, e2, e3, e4, p1, p2, p3, q1, q2, q3, l1, t0, t1, r1, r2, r3, r4, Nat.zero_add, Nat.reduceMul, Nat.reduceAdd, b1, b2, b3, b4, b5, b6, i1, i2, i3, i4, i5, i6, Nat.reduceBEq, dfq, emx1, elp, elq, emn, kills_map ratE, ratL_kill, spL_kill, LV.kill, kills]; done) | (simp only [e1, e2, e3, e4, p1, p2, p3, q1, q2, q3, l1, t0, t1, r1, r2, r3, r4, Nat.zero_add, Nat.reduceMul, Nat.reduceAdd, b1, b2, b3, b4, b5, b6, i1, i2, i3, i4, i5, i6, Nat.reduceBEq, dfq, emx1, elp, elq, emn, kills_map ratE, ratL_kill, spL_kill, LV.kill, kills]; rfl) | (simp only [e1, e2, e3, e4, p1, p2, p3, q1, q2, q3, l1, t0, t1, r1, r2, r3, r4, Nat.zero_add, Nat.reduceMul, Nat.reduceAdd, b1, b2, b3, b4, b5, b6, i1, i2, i3, i4, i5, i6, Nat.reduceBEq, dfq, emx1, elp, elq, emn, kills_map ratE, ratL_kill, spL_kill, LV.kill, kills]; congr 2 <;> omega)) : p := h
theorem clc_both_2 {p : Prop} (h : p := by first | rfl | (simp only [e1, e2, e3, e4, p1, p2, p3, q1, q2, q3, l1, t0, t1, r1, r2, r3, r4, Nat.zero_add, Nat.reduceMul, Nat.reduceAdd, b1, b2, b3, b4, b5, b6, i1, i2, i3, i4, i5, i6, Nat.reduceBEq, dfq, emx1, elp, elq, emn, kills_map ratE, ratL_kill, spL_kill, LV.kill, kills]; done) | (simp only [e1, e2, e3, e4, p1, p2, p3, q1, q2, q3, l1, t0, t1, r1, r2, r3, r4, Nat.zero_add, Nat.reduceMul, Nat.reduceAdd, b1, b2, b3, b4, b5, b6, i1, i2, i3, i4, i5, i6, Nat.reduceBEq, dfq, emx1, elp, elq, emn, kills_map ratE, ratL_kill, spL_kill, LV.kill, kills]; rfl) | (simp only [e1, e2, e3, e4, p1, p2, p3, q1, q2, q3, l1, t0, t1, r1, r2, r3, r4, Nat.zero_add, Nat.reduceMul, Nat.reduceAdd, b1, b2, b3, b4, b5, b6, i1, i2, i3, i4, i5, i6, Nat.reduceBEq, dfq, emx1, elp, elq, emn, kills_map ratE, ratL_kill, spL_kill, LV.kill, kills]; congr 3 <;> omega) | (simp only [e1, e2, e3, e4, p1, p2, p3, q1, q2, q3, l1, t0, t1, r1, r2, r3, r4, Nat.zero_add, Nat.reduceMul, Nat.reduceAdd, b1, b2, b3, b4, b5, b6, i1, i2, i3, i4, i5, i6, Nat.reduceBEq, dfq, emx1, elp, elq, emn, kills_map ratE, ratL_kill, spL_kill, LV.kill, kills]; congr 2 <;> omega)) : p := h
namespace H_c_both
theorem om {p : Prop} (h : p := by first | (simp only [e1, e2, e3, e4, p1, p2, p3, q1, q2, q3, l1, t0, t1, r1, r2, r3, r4, Nat.zero_add, Nat.reduceMul, Nat.reduceAdd, b1, b2, b3, b4, b5, b6, i1, i2, i3, i4, i5, i6, Nat.reduceBEq, dfq, emx1, elp, elq, emn, kills_map ratE, ratL_kill, spL_kill, LV.kill, kills]; omega) | omega) : p := h
end H_c_both
open H_c_both in
set_option maxHeartbeats 2000000 in
set_option maxRecDepth 100000 in
theorem c_both (p q : List Rat) (f : Nat) (g : Rat → Rat → Rat) (n : Nat) (hp0 : 0 < p.length) (hq0 : 0 < q.length) (hn : n ≤ 1000) (hpn : p.length ≤ n + 1) (hqn : q.length ≤ n + 1) (hpq : p.length = n + 1 ∨ q.length = n + 1) (hps : upS p n) (hqs : upS q n) (hf : ∀ i, CallP Try.prog f [ratL ((upP p n).getD i 0), ratL ((upP q n).getD i 0)] (ratL (g ((upP p n).getD i 0) ((upP q n).getD i 0)))) : CallP Try.prog 90 [.list 3 (p.map ratL), .list 3 (q.map ratL), .clo f []] (.list 3 ((zipG g (upP p n) (upP q n)).map ratL)) := by
  have emx1 := emx hp0 hpn hqn hpq
  have elp := upP_len hpn
  have elq := upP_len hqn
  have hzl : (zipG g (upP p n) (upP q n)).length = n + 1 := by rw [zipG_len, elp]
  refine callP_of fol Try.func90 rfl (by decide +kernel) (by decide +kernel) (Nat.le_of_ble_eq_true rfl) tm0 ?_
  have emx1 : True := trivial
  have elp : True := trivial
  have elq : True := trivial
  have emn : True := trivial
  refine wl_seq (wl_reg (asg ?_))
  refine st_end nfc_both_0 ?_
  refine then_n (wl_seq (wl_reg (mv ?_)))
  refine st_pure rfl ln37 ?_
  refine mv ?_
  refine st_pure rfl ln37 ?_
  refine st_pure rfl (.max2 rfl rfl) ?_
  refine st_pure rfl (.bin rfl rfl (subMx hp0 hpn hqn hpq hn)) ?_
  refine asg ?_
  refine st_end nfc_both_0 ?_
  refine then_n (wl_seq (wl_reg (mv (mv ?_))))
  refine st_callP rfl (.cons im0 (.cons im0 .nil)) (c_up p n hp0 hn (by omega) hps) ?_
  refine mv (mv ?_)
  refine st_callP rfl (.cons im0 (.cons im0 .nil)) (c_up q n hq0 hn (by omega) hqs) ?_
  refine asg (asg ?_)
  refine st_end nfc_both_0 ?_
  refine then_n (wl_seq (wl_reg (mv ?_)))
  refine st_pure rfl ln37 ?_
  refine mv ?_
  refine st_pure rfl ln37 ?_
  try simp only [elp, elq]
  refine st_pure rfl (.min2 rfl rfl) ?_
  refine st_alloc rfl rfl (.makeM (n := (n + 1)) (m := (n + 1)) ratE Try.underlying37 Z34 T34 B34 mlc_both_1 mlc_both_1 om om om) ?_
  refine asg ?_
  refine st_end nfc_both_0 ?_
  refine then_n (wl_seq (wl_seq (wl_reg (mv ?_))))
  refine st_pure rfl ln37 ?_
  refine mv ?_
  refine st_end nfc_both_0 ?_
  refine then_n (wl_block ?_)
  refine wl_loop (α := Nat × List Rat) (fun st L => ((((((((St.mk L.slot (hp [(27, ⟨3, st.2.map ratL, true⟩)])).put (some 0) (.list 3 ((upP p n).map ratL))).put (some 1) (.list 3 ((upP q n).map ratL))).put (some 2) (.clo f [])).put (some 8) (.ref 27 3 0 (n + 1))).put (some 28) (.ref 27 3 0 (n + 1))).put (some 29) (nI64 (n + 1))).put (some 30) (nI64 st.1))) (fun st => st.1 ≤ n + 1 ∧ st.2.length = n + 1 ∧ st.2.take st.1 = (zipG g (upP p n) (upP q n)).take st.1) (fun st => n + 1 - st.1) (0, List.replicate (n + 1) 0) (show (0) ≤ n + 1 ∧ (List.replicate (n + 1) 0).length = n + 1 ∧ (List.replicate (n + 1) 0).take (0) = (zipG g (upP p n) (upP q n)).take (0) from ⟨Nat.zero_le _, by simp, rfl⟩) ⟨_, Weak.of_eq (put_id' (put_id' (put_id' (put_id' (put_id' (put_id' (put_id' (mk_id' clc_both_2) clc_both_2) clc_both_2) clc_both_2) clc_both_2) clc_both_2) clc_both_2) clc_both_2)⟩ ?_
  rintro ⟨i, w⟩ L1 hLC
  obtain ⟨hi, hwl, hwt⟩ : i ≤ n + 1 ∧ w.length = n + 1 ∧ w.take i = (zipG g (upP p n) (upP q n)).take i := hLC
  show wpL _ _ _ ((((((((St.mk L1.slot (hp [(27, ⟨3, w.map ratL, true⟩)])).put (some 0) (.list 3 ((upP p n).map ratL))).put (some 1) (.list 3 ((upP q n).map ratL))).put (some 2) (.clo f [])).put (some 8) (.ref 27 3 0 (n + 1))).put (some 28) (.ref 27 3 0 (n + 1))).put (some 29) (nI64 (n + 1))).put (some 30) (nI64 i))
  refine wl_seq (wl_reg ?_)
  refine st_pure rfl (.bin rfl rfl rfl) ?_
  refine st_end nfc_both_0 ?_
  refine then_n (wl_seq ?_)
  refine wl_cond rfl (fun h31 => ?_) (fun h31 => ?_)
  · skip
    have h31r := h31
    try simp only [hce, l1, t0, t1, dflt, val_dig] at h31
    have hi2 : i < n + 1 := by omega
    have hfi := hf i
    refine wl_skip (then_n (wl_seq (wl_block (wl_seq (wl_reg (mv (asg ?_)))))))
    refine st_end nfc_both_0 ?_
    refine then_n ?_
    refine wl_regD 13 (by decide +kernel) ?_
    refine mv (mv (mv (mv (mv ?_))))
    refine st_pure rfl ix37 ?_
    refine st_pure rfl ld34 ?_
    refine mv (mv ?_)
    refine st_pure rfl ix37 ?_
    refine st_pure rfl ld34 ?_
    try simp only [t1, dfq]
    refine st_opc [] rfl rfl (.clo (f := f) (cap := []) (args := [ratL ((upP p n).getD i 0), ratL ((upP q n).getD i 0)]) rfl (.cons im0 (.cons im0 .nil)) ⟨rfl, fun _ h => by cases h⟩ hfi.1 (by decide) (fun _ h => by cases h)) (hfi.2 _) ?_
    refine st_pure rfl ix37 ?_
    refine st_store rfl sr34 ?_
    refine st_end nfc_both_0 ?_
    refine blk_n (then_n (wl_reg ?_))
    refine st_pure rfl (.bin rfl rfl (add64 om om)) ?_
    refine mv ?_
    refine st_end nfc_both_0 ?_
    refine then_n ?_
    exact ⟨(i + 1, w.set i (g ((upP p n).getD i 0) ((upP q n).getD i 0))), _, (show (i + 1) ≤ n + 1 ∧ (w.set i (g ((upP p n).getD i 0) ((upP q n).getD i 0))).length = n + 1 ∧ (w.set i (g ((upP p n).getD i 0) ((upP q n).getD i 0))).take (i + 1) = (zipG g (upP p n) (upP q n)).take (i + 1) from ⟨by omega, by simp [hwl], set_takeR (by omega) (by omega) hwt (by rw [zipG_get (by omega)])⟩), (show n + 1 - (i + 1) < n + 1 - i from by omega), Weak.of_eq (put_id' (put_id' (put_id' (put_id' (put_id' (put_id' (put_id' (mk_id' clc_both_2) clc_both_2) clc_both_2) clc_both_2) clc_both_2) clc_both_2) clc_both_2) clc_both_2)⟩
  · skip
    have h31r := h31
    try simp only [hce, l1, t0, t1, dflt, val_dig] at h31
    obtain rfl : i = n + 1 := by omega
    have hE : w = (zipG g (upP p n) (upP q n)) := by
      rw [List.take_of_length_le (by omega), List.take_of_length_le (by omega)] at hwt
      exact hwt
    subst hE
    refine wl_exit ?_
    refine then_e (then_e (blk_e (then_n (wl_seq (wl_reg (mv (asg ?_)))))))
    refine st_end nfc_both_0 ?_
    refine then_n (wl_ret ?_)
    exact ret1f [27] rfl rfl (imm_refm ratE rfl rfl hzl.symm)
open H0 in
set_option maxHeartbeats 1000000 in
set_option maxRecDepth 100000 in
theorem c_BAdd (p q : List Rat) (n : Nat) (hp0 : 0 < p.length) (hq0 : 0 < q.length) (hn : n ≤ 1000) (hpn : p.length ≤ n + 1) (hqn : q.length ≤ n + 1) (hpq : p.length = n + 1 ∨ q.length = n + 1) (hps : upS p n) (hqs : upS q n) : CallP Try.prog 49 [.list 3 (p.map ratL), .list 3 (q.map ratL)] (.list 3 ((zipG (· + ·) (upP p n) (upP q n)).map ratL)) := by
  refine callP_of fol Try.func49 rfl (by decide +kernel) (by decide +kernel) (Nat.le_of_ble_eq_true rfl) tm0 ?_
  refine wl_seq (wl_reg (asg ?_))
  refine st_end nf0 ?_
  refine then_n (wl_seq (wl_reg (mv (mv ?_))))
  refine st_callP rfl (.cons im0 (.cons im0 (.cons im0 .nil))) (c_both p q 72 (· + ·) n hp0 hq0 hn hpn hqn hpq hps hqs (fun i => c_RAdd _ _ (by have := upP_rl hn hp0 hpn hps i; have := upP_rl hn hq0 hqn hqs i; omega))) ?_
  refine asg ?_
  refine st_end nf0 ?_
  refine then_n (wl_ret ?_)
  exact ret1 rfl (by first | exact .pure rfl | exact .pure (limL_pure _) | exact .pure (magL_pure _) | exact .pure (ratE.pure _) | exact .pure (pure_lst u32E _ _) | exact .pure (pure_lst ratE _ _))
open H0 in
set_option maxHeartbeats 1000000 in
set_option maxRecDepth 100000 in
theorem c_BSub (p q : List Rat) (n : Nat) (hp0 : 0 < p.length) (hq0 : 0 < q.length) (hn : n ≤ 1000) (hpn : p.length ≤ n + 1) (hqn : q.length ≤ n + 1) (hpq : p.length = n + 1 ∨ q.length = n + 1) (hps : upS p n) (hqs : upS q n) : CallP Try.prog 86 [.list 3 (p.map ratL), .list 3 (q.map ratL)] (.list 3 ((zipG (· - ·) (upP p n) (upP q n)).map ratL)) := by
  refine callP_of fol Try.func86 rfl (by decide +kernel) (by decide +kernel) (Nat.le_of_ble_eq_true rfl) tm0 ?_
  refine wl_seq (wl_reg (asg ?_))
  refine st_end nf0 ?_
  refine then_n (wl_seq (wl_reg (mv (mv ?_))))
  refine st_callP rfl (.cons im0 (.cons im0 (.cons im0 .nil))) (c_both p q 63 (· - ·) n hp0 hq0 hn hpn hqn hpq hps hqs (fun i => c_RSub _ _ (by have := upP_rl hn hp0 hpn hps i; have := upP_rl hn hq0 hqn hqs i; omega))) ?_
  refine asg ?_
  refine st_end nf0 ?_
  refine then_n (wl_ret ?_)
  exact ret1 rfl (by first | exact .pure rfl | exact .pure (limL_pure _) | exact .pure (magL_pure _) | exact .pure (ratE.pure _) | exact .pure (pure_lst u32E _ _) | exact .pure (pure_lst ratE _ _))
open H0 in
set_option maxHeartbeats 1000000 in
set_option maxRecDepth 100000 in
theorem c_BZero1 (q : Rat) (h : rl q ≤ 1099511627776) : CallP Try.prog 115 [ratL q] (bL (sgnR q != 0)) := by
  refine callP_of fol Try.func115 rfl (by decide +kernel) (by decide +kernel) (Nat.le_of_ble_eq_true rfl) tm0 ?_
  refine wl_seq (wl_reg ?_)
  refine st_alloc rfl rfl (.boxE ratE rfl) ?_
  refine asg ?_
  refine st_end nf0 ?_
  refine then_n (wl_seq (wl_reg ?_))
  refine st_pure rfl ld34 ?_
  refine st_callP rfl (.cons im0 .nil) (c_RSign _ (by omega)) ?_
  refine st_pure rfl (.bin rfl rfl rfl) ?_
  refine asg ?_
  refine st_end nf0 ?_
  refine then_n (wl_ret ?_)
  exact ret1 rfl (by first | exact .pure rfl | exact .pure (limL_pure _) | exact .pure (magL_pure _) | exact .pure (ratE.pure _) | exact .pure (pure_lst u32E _ _) | exact .pure (pure_lst ratE _ _))
open H0 in
set_option maxHeartbeats 1000000 in
set_option maxRecDepth 100000 in
theorem c_BZero (p : List Rat) (hl : p.length ≤ 1048576) (hpr : ∀ x ∈ p, rl x ≤ 1099511627776) : CallP Try.prog 85 [.list 3 (p.map ratL)] (bL (!(p.any fun x => sgnR x != 0))) := by
  refine callP_of fol Try.func85 rfl (by decide +kernel) (by decide +kernel) (Nat.le_of_ble_eq_true rfl) tm0 ?_
  refine wl_seq (wl_reg (asg ?_))
  refine st_end nf0 ?_
  refine then_n (wl_seq (wl_reg (mv ?_)))
  refine st_callP rfl (.cons im0 (.cons im0 .nil)) (c_ContainsFunc p 115 (fun x => sgnR x != 0) hl (fun x hx => c_BZero1 x (hpr x hx))) ?_
  refine st_pure rfl (.not rfl) ?_
  refine asg ?_
  refine st_end nf0 ?_
  refine then_n (wl_ret ?_)
  exact ret1 rfl (by first | exact .pure rfl | exact .pure (limL_pure _) | exact .pure (magL_pure _) | exact .pure (ratE.pure _) | exact .pure (pure_lst u32E _ _) | exact .pure (pure_lst ratE _ _))
open H0 in
set_option maxHeartbeats 1000000 in
set_option maxRecDepth 100000 in
theorem c_BSame (p q : List Rat) (n : Nat) (hp0 : 0 < p.length) (hq0 : 0 < q.length) (hn : n ≤ 1000) (hpn : p.length ≤ n + 1) (hqn : q.length ≤ n + 1) (hpq : p.length = n + 1 ∨ q.length = n + 1) (hps : upS p n) (hqs : upS q n) : CallP Try.prog 44 [.list 3 (p.map ratL), .list 3 (q.map ratL)] (bL (!((zipG (· - ·) (upP p n) (upP q n)).any fun x => sgnR x != 0))) := by
  refine callP_of fol Try.func44 rfl (by decide +kernel) (by decide +kernel) (Nat.le_of_ble_eq_true rfl) tm0 ?_
  refine wl_seq (wl_reg (asg ?_))
  refine st_end nf0 ?_
  refine then_n (wl_seq (wl_reg (mv (mv ?_))))
  refine st_callP rfl (.cons im0 (.cons im0 .nil)) (c_BSub p q n hp0 hq0 hn hpn hqn hpq hps hqs) ?_
  refine st_callP rfl (.cons im0 .nil) (c_BZero _ (by rw [zipG_len, upP_len hpn]; omega) (fun x hx => by obtain ⟨i, hi, rfl⟩ := List.mem_map.1 hx; have h1 := upP_rl hn hp0 hpn hps i; have h2 := upP_rl hn hq0 hqn hqs i; have h3 := rl_sub ((upP p n).getD i 0) ((upP q n).getD i 0); show rl ((upP p n).getD i 0 - (upP q n).getD i 0) ≤ 1099511627776; omega)) ?_
  refine asg ?_
  refine st_end nf0 ?_
  refine then_n (wl_ret ?_)
  exact ret1 rfl (by first | exact .pure rfl | exact .pure (limL_pure _) | exact .pure (magL_pure _) | exact .pure (ratE.pure _) | exact .pure (pure_lst u32E _ _) | exact .pure (pure_lst ratE _ _))
open H0 in
set_option maxHeartbeats 1000000 in
set_option maxRecDepth 100000 in
theorem c_Elev (p : List Rat) (n : Nat) (hp0 : 0 < p.length) (hn : n ≤ 40) (hpn : p.length ≤ n + 1) (hps : upS p n) : CallP Try.prog 40 [.list 3 (p.map ratL), nI64 n] (.tup [.list 3 ((upP p n).map ratL), iL 0]) := by
  refine callP_of fol Try.func40 rfl (by decide +kernel) (by decide +kernel) (Nat.le_of_ble_eq_true rfl) tm0 ?_
  refine wl_seq (wl_reg (asg (asg ?_)))
  refine st_end nf0 ?_
  refine then_n (wl_seq (wl_seq (wl_reg (mv (mv ?_)))))
  refine st_pure rfl ln37 ?_
  refine st_pure rfl (.bin rfl rfl (sub64 (by omega) (by omega))) ?_
  refine st_pure rfl (.bin rfl rfl rfl) ?_
  refine mv ?_
  refine opsL_split (d := 11) rfl (fun h11 => ?_) (fun h11 => ?_)
  · skip
    have h11r := h11
    try simp only [hce, l1, t0, t1, dflt, val_dig] at h11
    refine st_skip (guardX (v := true) rfl rfl (h11r) rfl) ?_
    refine st_skip (guardX (v := true) rfl rfl (h11r) rfl) ?_
    refine st_pure rfl (.pickT rfl (h11r)) ?_
    refine st_end nf0 ?_
    refine then_n ?_
    refine wl_condX (b := _) rfl rfl ?_
    refine wl_seq (wl_reg (asg (asg ?_)))
    refine st_end nf0 ?_
    refine then_n (wl_ret (then_r ?_))
    exfalso
    omega
  · skip
    have h11r := h11
    try simp only [hce, l1, t0, t1, dflt, val_dig] at h11
    refine st_pure (guardX (v := false) rfl rfl (h11r) rfl) (.move _) ?_
    refine st_pure (guardX (v := false) rfl rfl (h11r) rfl) (.bin rfl rfl rfl) ?_
    refine st_pure rfl (.pickF rfl (h11r)) ?_
    refine st_end nf0 ?_
    refine then_n ?_
    refine wl_cond rfl (fun h14 => ?_) (fun h14 => ?_)
    · skip
      have h14r := h14
      try simp only [hce, l1, t0, t1, dflt, val_dig] at h14
      omega
    · skip
      have h14r := h14
      try simp only [hce, l1, t0, t1, dflt, val_dig] at h14
      refine wl_skip (then_n (wl_seq (wl_reg (mv (mv ?_)))))
      refine st_callP rfl (.cons im0 (.cons im0 .nil)) (c_up p n hp0 (by omega) (by omega) hps) ?_
      refine asg (asg ?_)
      refine st_end nf0 ?_
      refine then_n (wl_ret ?_)
      exact ret2 rfl (.pure (pure_lst ratE _ _)) rfl (.pure rfl)
open H0 in
set_option maxHeartbeats 1000000 in
set_option maxRecDepth 100000 in
theorem c_SOf (a b : Rat) (h : rl a + rl b ≤ 549755813888) : CallP Try.prog 112 [ratL a, ratL b] (spL (mnR a b, mxR a b)) := by
  refine callP_of fol Try.func112 rfl (by decide +kernel) (by decide +kernel) (Nat.le_of_ble_eq_true rfl) tm0 ?_
  refine wl_seq (wl_reg ?_)
  refine st_alloc rfl rfl (.boxE ratE rfl) ?_
  refine st_alloc rfl rfl (.boxE ratE rfl) ?_
  refine st_alloc rfl rfl (.allocE (a := (0, 0)) spE Z67s) ?_
  refine st_end nf0 ?_
  refine then_n (wl_seq ?_)
  refine wl_regD 7 (by decide +kernel) ?_
  refine st_pure rfl ld34 ?_
  refine st_pure rfl ld34 ?_
  refine st_callP rfl (.cons im0 (.cons im0 .nil)) (c_RMin _ _ (by omega)) ?_
  refine st_pure rfl ld34 ?_
  refine st_pure rfl ld34 ?_
  refine st_callP rfl (.cons im0 (.cons im0 .nil)) (c_RMax _ _ (by omega)) ?_
  refine st_pure rfl (.buildSp SL67 Z67 rfl rfl) ?_
  refine st_store rfl sr67 ?_
  refine st_end nf0 ?_
  refine then_n (wl_ret ?_)
  exact retC [] rfl rfl rfl (spE.csize _) (spL_all _) T67 (.pure (spE.pure _))
theorem nfc_SPoint_0 {p : Prop} (h : p := by (try simp only [e1, e2, e3, e4, p1, p2, p3, q1, q2, q3, l1, t0, t1, r1, r2, r3, r4, Nat.zero_add, Nat.reduceMul, Nat.reduceAdd, b1, b2, b3, b4, b5, b6, i1, i2, i3, i4, i5, i6, Nat.reduceBEq, mn_self, mx_self]); exact rfl) : p := h
namespace H_c_SPoint
theorem om {p : Prop} (h : p := by first | (simp only [e1, e2, e3, e4, p1, p2, p3, q1, q2, q3, l1, t0, t1, r1, r2, r3, r4, Nat.zero_add, Nat.reduceMul, Nat.reduceAdd, b1, b2, b3, b4, b5, b6, i1, i2, i3, i4, i5, i6, Nat.reduceBEq, mn_self, mx_self]; omega) | omega) : p := h
end H_c_SPoint
open H_c_SPoint in
set_option maxHeartbeats 1000000 in
set_option maxRecDepth 100000 in
theorem c_SPoint (a : Rat) (h : rl a + rl a ≤ 549755813888) : CallP Try.prog 83 [ratL a] (spL (a, a)) := by
  refine callP_of fol Try.func83 rfl (by decide +kernel) (by decide +kernel) (Nat.le_of_ble_eq_true rfl) tm0 ?_
  refine wl_seq (wl_reg ?_)
  refine st_alloc rfl rfl (.boxE ratE rfl) ?_
  refine st_alloc rfl rfl (.allocE (a := (0, 0)) spE Z67s) ?_
  refine st_end nfc_SPoint_0 ?_
  refine then_n (wl_seq (wl_reg ?_))
  refine st_pure rfl ld34 ?_
  refine st_pure rfl ld34 ?_
  refine st_callP rfl (.cons im0 (.cons im0 .nil)) (c_SOf _ _ (by omega)) ?_
  refine st_store rfl sr67 ?_
  refine st_end nfc_SPoint_0 ?_
  refine then_n (wl_ret ?_)
  exact retC [] rfl rfl rfl (spE.csize _) (spL_all _) T67 (.pure (spE.pure _))
open H0 in
set_option maxHeartbeats 1000000 in
set_option maxRecDepth 100000 in
theorem c_SHull (s t : Rat × Rat) (h1 : rl s.1 + rl t.1 ≤ 549755813888) (h2 : rl s.2 + rl t.2 ≤ 549755813888) : CallP Try.prog 84 [spL s, spL t] (spL (hulP s t)) := by
  refine callP_of fol Try.func84 rfl (by decide +kernel) (by decide +kernel) (Nat.le_of_ble_eq_true rfl) tm0 ?_
  refine wl_seq (wl_reg ?_)
  refine st_alloc rfl rfl (.boxE spE rfl) ?_
  refine st_alloc rfl rfl (.boxE spE rfl) ?_
  refine st_alloc rfl rfl (.allocE (a := (0, 0)) spE Z67s) ?_
  refine st_end nf0 ?_
  refine then_n (wl_seq ?_)
  refine wl_regD 11 (by decide +kernel) ?_
  refine st_pure rfl fa67 ?_
  refine st_pure rfl ld34 ?_
  refine st_pure rfl fa67 ?_
  refine st_pure rfl ld34 ?_
  refine st_callP rfl (.cons im0 (.cons im0 .nil)) (c_RMin _ _ (by omega)) ?_
  refine st_pure rfl fa67 ?_
  refine st_pure rfl ld34 ?_
  refine st_pure rfl fa67 ?_
  refine st_pure rfl ld34 ?_
  refine st_callP rfl (.cons im0 (.cons im0 .nil)) (c_RMax _ _ (by omega)) ?_
  refine st_pure rfl (.buildSp SL67 Z67 rfl rfl) ?_
  refine st_store rfl sr67 ?_
  refine st_end nf0 ?_
  refine then_n (wl_ret ?_)
  exact retC [] rfl rfl rfl (spE.csize _) (spL_all _) T67 (.pure (spE.pure _))
theorem nfc_Bounds_0 {p : Prop} (h : p := by (try simp only [e1, e2, e3, e4, p1, p2, p3, q1, q2, q3, l1, t0, t1, r1, r2, r3, r4, Nat.zero_add, Nat.reduceMul, Nat.reduceAdd, b1, b2, b3, b4, b5, b6, i1, i2, i3, i4, i5, i6, Nat.reduceBEq, dfq, ebk, kills_map ratE, ratL_kill, spL_kill, LV.kill, kills]); exact rfl) : p := h
theorem clc_Bounds_1 {p : Prop} (h : p := by first | rfl | (simp only [e1, e2, e3, e4, p1, p2, p3, q1, q2, q3, l1, t0, t1, r1, r2, r3, r4, Nat.zero_add, Nat.reduceMul, Nat.reduceAdd, b1, b2, b3, b4, b5, b6, i1, i2, i3, i4, i5, i6, Nat.reduceBEq, dfq, ebk, kills_map ratE, ratL_kill, spL_kill, LV.kill, kills]; done) | (simp only [e1, e2, e3, e4, p1, p2, p3, q1, q2, q3, l1, t0, t1, r1, r2, r3, r4, Nat.zero_add, Nat.reduceMul, Nat.reduceAdd, b1, b2, b3, b4, b5, b6, i1, i2, i3, i4, i5, i6, Nat.reduceBEq, dfq, ebk, kills_map ratE, ratL_kill, spL_kill, LV.kill, kills]; rfl) | (simp only [e1, e2, e3, e4, p1, p2, p3, q1, q2, q3, l1, t0, t1, r1, r2, r3, r4, Nat.zero_add, Nat.reduceMul, Nat.reduceAdd, b1, b2, b3, b4, b5, b6, i1, i2, i3, i4, i5, i6, Nat.reduceBEq, dfq, ebk, kills_map ratE, ratL_kill, spL_kill, LV.kill, kills]; congr 3 <;> omega) | (simp only [e1, e2, e3, e4, p1, p2, p3, q1, q2, q3, l1, t0, t1, r1, r2, r3, r4, Nat.zero_add, Nat.reduceMul, Nat.reduceAdd, b1, b2, b3, b4, b5, b6, i1, i2, i3, i4, i5, i6, Nat.reduceBEq, dfq, ebk, kills_map ratE, ratL_kill, spL_kill, LV.kill, kills]; congr 2 <;> omega)) : p := h
namespace H_c_Bounds
theorem om {p : Prop} (h : p := by first | (simp only [e1, e2, e3, e4, p1, p2, p3, q1, q2, q3, l1, t0, t1, r1, r2, r3, r4, Nat.zero_add, Nat.reduceMul, Nat.reduceAdd, b1, b2, b3, b4, b5, b6, i1, i2, i3, i4, i5, i6, Nat.reduceBEq, dfq, ebk, kills_map ratE, ratL_kill, spL_kill, LV.kill, kills]; omega) | omega) : p := h
end H_c_Bounds
open H_c_Bounds in
set_option maxHeartbeats 1000000 in
set_option maxRecDepth 100000 in
theorem c_Bounds (p : List Rat) (hl : p.length ≤ 1048576) (hpr : ∀ x ∈ p, rl x ≤ 137438953472) : CallP Try.prog 41 [.list 3 (p.map ratL)] (spL (bndP p)) := by
  refine callP_of fol Try.func41 rfl (by decide +kernel) (by decide +kernel) (Nat.le_of_ble_eq_true rfl) tm0 ?_
  have ebk : True := trivial
  refine wl_seq (wl_reg ?_)
  refine st_alloc rfl rfl (.allocE (a := (0, 0)) spE Z67s) ?_
  refine st_end nfc_Bounds_0 ?_
  refine then_n (wl_seq (wl_reg ?_))
  refine st_alloc rfl rfl (.allocE (a := (0, 0)) spE Z67s) ?_
  refine st_end nfc_Bounds_0 ?_
  refine then_n (wl_seq (wl_seq (wl_reg (mv ?_))))
  refine st_pure rfl ln37 ?_
  refine mv ?_
  refine st_end nfc_Bounds_0 ?_
  refine then_n (wl_block ?_)
  refine wl_loop (α := Nat) (fun st L => ((((((St.mk L.slot (hp [(2, ⟨6, [spL (0, 0)], true⟩), (3, ⟨6, [spL (bkP p st)], true⟩)])).put (some 2) (.eptr 2 6 0 0)).put (some 3) (.eptr 3 6 0 0)).put (some 6) (.list 3 (p.map ratL))).put (some 7) (nI64 p.length)).put (some 8) (nI64 st))) (fun st => st ≤ p.length) (fun st => p.length - st) 0 (show (0) ≤ p.length from Nat.zero_le _) ⟨_, Weak.of_eq (put_id' (put_id' (put_id' (put_id' (put_id' (mk_id' clc_Bounds_1) clc_Bounds_1) clc_Bounds_1) clc_Bounds_1) clc_Bounds_1) clc_Bounds_1)⟩ ?_
  rintro k L1 hLC
  have hk : k ≤ p.length := hLC
  clear hLC
  show wpL _ _ _ ((((((St.mk L1.slot (hp [(2, ⟨6, [spL (0, 0)], true⟩), (3, ⟨6, [spL (bkP p k)], true⟩)])).put (some 2) (.eptr 2 6 0 0)).put (some 3) (.eptr 3 6 0 0)).put (some 6) (.list 3 (p.map ratL))).put (some 7) (nI64 p.length)).put (some 8) (nI64 k))
  refine wl_seq (wl_reg ?_)
  refine st_pure rfl (.bin rfl rfl rfl) ?_
  refine st_end nfc_Bounds_0 ?_
  refine then_n (wl_seq ?_)
  refine wl_cond rfl (fun h9 => ?_) (fun h9 => ?_)
  · skip
    have h9r := h9
    try simp only [hce, l1, t0, t1, dflt, val_dig] at h9
    have hk2 : k < p.length := by omega
    have hr1 := getD_rl' (R := 137438953472) (by decide) hpr
    have hr2 := hr1 k
    have hr3 := bk_rl (by decide) hr1 k
    have hr4 : rl ((p.getD k 0, p.getD k 0) : Rat × Rat).1 ≤ 137438953472 := hr2
    have hr5 : rl ((p.getD k 0, p.getD k 0) : Rat × Rat).2 ≤ 137438953472 := hr2
    have ebk : bkP p (k + 1) = hulP (if k = 0 then (p.getD k 0, p.getD k 0) else bkP p k) (p.getD k 0, p.getD k 0) := rfl
    refine wl_skip (then_n (wl_seq (wl_block (wl_seq (wl_reg (mv ?_))))))
    refine st_pure rfl ix37 ?_
    refine st_pure rfl ld34 ?_
    refine st_alloc rfl rfl (.alloc Z34a) ?_
    refine asg ?_
    refine st_store rfl sr34 ?_
    refine st_end nfc_Bounds_0 ?_
    refine then_n (wl_seq (wl_seq (wl_reg (mv ?_))))
    refine st_pure rfl (.bin rfl rfl rfl) ?_
    refine st_end nfc_Bounds_0 ?_
    refine then_n ?_
    refine wl_cond rfl (fun h14 => ?_) (fun h14 => ?_)
    · skip
      have h14r := h14
      try simp only [hce, l1, t0, t1, dflt, val_dig] at h14
      have hk0 : k = 0 := by omega
      rw [if_pos hk0] at ebk
      refine wl_reg ?_
      refine st_pure rfl ld34 ?_
      refine st_callP rfl (.cons im0 .nil) (c_SPoint _ (by omega)) ?_
      refine st_store rfl sr67 ?_
      refine st_end nfc_Bounds_0 ?_
      refine then_n ?_
      refine wl_regD 4 (by decide +kernel) ?_
      refine st_pure rfl ld67 ?_
      refine st_pure rfl ld34 ?_
      refine st_callP rfl (.cons im0 .nil) (c_SPoint _ (by omega)) ?_
      refine st_callP rfl (.cons im0 (.cons im0 .nil)) (c_SHull _ _ (by omega) (by omega)) ?_
      refine st_store rfl sr67 ?_
      refine st_end nfc_Bounds_0 ?_
      refine blk_n (then_n ?_)
      refine wl_regW (Weak.kill _ 5) ?_
      refine st_pure rfl (.bin rfl rfl (add64 om om)) ?_
      refine mv ?_
      refine st_end nfc_Bounds_0 ?_
      refine then_n ?_
      exact ⟨k + 1, _, (show (k + 1) ≤ p.length from (by omega)), (show p.length - (k + 1) < p.length - k from by omega), Weak.of_eq (put_id' (put_id' (put_id' (put_id' (put_id' (mk_id' clc_Bounds_1) clc_Bounds_1) clc_Bounds_1) clc_Bounds_1) clc_Bounds_1) clc_Bounds_1)⟩
    · skip
      have h14r := h14
      try simp only [hce, l1, t0, t1, dflt, val_dig] at h14
      have hk0 : ¬ k = 0 := by omega
      rw [if_neg hk0] at ebk
      refine wl_skip (then_n ?_)
      refine wl_regD 4 (by decide +kernel) ?_
      refine st_pure rfl ld67 ?_
      refine st_pure rfl ld34 ?_
      refine st_callP rfl (.cons im0 .nil) (c_SPoint _ (by omega)) ?_
      refine st_callP rfl (.cons im0 (.cons im0 .nil)) (c_SHull _ _ (by omega) (by omega)) ?_
      refine st_store rfl sr67 ?_
      refine st_end nfc_Bounds_0 ?_
      refine blk_n (then_n ?_)
      refine wl_regW (Weak.kill _ 5) ?_
      refine st_pure rfl (.bin rfl rfl (add64 om om)) ?_
      refine mv ?_
      refine st_end nfc_Bounds_0 ?_
      refine then_n ?_
      exact ⟨k + 1, _, (show (k + 1) ≤ p.length from (by omega)), (show p.length - (k + 1) < p.length - k from by omega), Weak.of_eq (put_id' (put_id' (put_id' (put_id' (put_id' (mk_id' clc_Bounds_1) clc_Bounds_1) clc_Bounds_1) clc_Bounds_1) clc_Bounds_1) clc_Bounds_1)⟩
  · skip
    have h9r := h9
    try simp only [hce, l1, t0, t1, dflt, val_dig] at h9
    obtain rfl : k = p.length := by omega
    refine wl_exit ?_
    refine then_e (then_e (blk_e (then_n (wl_seq (wl_reg ?_)))))
    refine st_pure rfl ld67 ?_
    refine st_store rfl sr67 ?_
    refine st_end nfc_Bounds_0 ?_
    refine then_n (wl_ret ?_)
    exact retC [] rfl rfl rfl (spE.csize _) (spL_all _) T67 (.pure (spE.pure _))
open H0 in
set_option maxHeartbeats 1000000 in
set_option maxRecDepth 100000 in
theorem c_FHas (s : Rat × Rat) (x : Rat) (h1 : rl s.1 + rl x ≤ 34359738368) (h2 : rl x + rl s.2 ≤ 34359738368) : CallP Try.prog 42 [spL s, ratL x] (bL (hasR s x)) := by
  refine callP_of fol Try.func42 rfl (by decide +kernel) (by decide +kernel) (Nat.le_of_ble_eq_true rfl) tm0 ?_
  refine wl_seq (wl_reg ?_)
  refine st_alloc rfl rfl (.boxE spE rfl) ?_
  refine st_alloc rfl rfl (.boxE ratE rfl) ?_
  refine asg ?_
  refine st_end nf0 ?_
  refine then_n (wl_seq (wl_reg ?_))
  refine st_pure rfl fa67 ?_
  refine st_pure rfl ld34 ?_
  refine st_pure rfl ld34 ?_
  refine st_callP rfl (.cons im0 (.cons im0 .nil)) (c_FRCmp _ _ (by omega)) ?_
  refine st_pure rfl (.bin rfl rfl rfl) ?_
  refine mv ?_
  refine opsL_split (d := 10) rfl (fun h10 => ?_) (fun h10 => ?_)
  · skip
    have h10r := h10
    try simp only [hce, l1, t0, t1, dflt, val_dig] at h10
    refine st_pure (guardX (v := true) rfl rfl (h10r) rfl) ld34 ?_
    refine st_pure (guardX (v := true) rfl rfl (h10r) rfl) fa67 ?_
    refine st_pure (guardX (v := true) rfl rfl (h10r) rfl) ld34 ?_
    refine st_callP (guardX (v := true) rfl rfl (h10r) rfl) (.cons im0 (.cons im0 .nil)) (c_FRCmp _ _ (by omega)) ?_
    refine st_pure (guardX (v := true) rfl rfl (h10r) rfl) (.bin rfl rfl rfl) ?_
    refine st_pure rfl (.pickT rfl (h10r)) ?_
    refine asg ?_
    refine st_end nf0 ?_
    refine then_n (wl_ret ?_)
    rw [← has1 h10r]
    exact ret1 rfl (by first | exact .pure rfl | exact .pure (limL_pure _) | exact .pure (magL_pure _) | exact .pure (ratE.pure _) | exact .pure (pure_lst u32E _ _) | exact .pure (pure_lst ratE _ _))
  · skip
    have h10r := h10
    try simp only [hce, l1, t0, t1, dflt, val_dig] at h10
    refine st_skip (guardX (v := false) rfl rfl (h10r) rfl) ?_
    refine st_skip (guardX (v := false) rfl rfl (h10r) rfl) ?_
    refine st_skip (guardX (v := false) rfl rfl (h10r) rfl) ?_
    refine st_skip (guardX (v := false) rfl rfl (h10r) rfl) ?_
    refine st_skip (guardX (v := false) rfl rfl (h10r) rfl) ?_
    refine st_pure rfl (.pickF rfl (h10r)) ?_
    refine asg ?_
    refine st_end nf0 ?_
    refine then_n (wl_ret ?_)
    rw [← has2 h10r]
    exact ret1 rfl (by first | exact .pure rfl | exact .pure (limL_pure _) | exact .pure (magL_pure _) | exact .pure (ratE.pure _) | exact .pure (pure_lst u32E _ _) | exact .pure (pure_lst ratE _ _))
open H0 in
set_option maxHeartbeats 1000000 in
set_option maxRecDepth 100000 in
theorem c_FInside (a b : Rat × Rat) (h1 : rl b.1 + rl a.1 ≤ 34359738368) (h2 : rl a.1 + rl b.2 ≤ 34359738368) (h3 : rl b.1 + rl a.2 ≤ 34359738368) (h4 : rl a.2 + rl b.2 ≤ 34359738368) : CallP Try.prog 43 [spL a, spL b] (bL (insR a b)) := by
  refine callP_of fol Try.func43 rfl (by decide +kernel) (by decide +kernel) (Nat.le_of_ble_eq_true rfl) tm0 ?_
  refine wl_seq (wl_reg ?_)
  refine st_alloc rfl rfl (.boxE spE rfl) ?_
  refine st_alloc rfl rfl (.boxE spE rfl) ?_
  refine asg ?_
  refine st_end nf0 ?_
  refine then_n (wl_seq (wl_reg ?_))
  refine st_pure rfl ld67 ?_
  refine st_pure rfl fa67 ?_
  refine st_pure rfl ld34 ?_
  refine st_callP rfl (.cons im0 (.cons im0 .nil)) (c_FHas _ _ (by omega) (by omega)) ?_
  refine mv ?_
  refine opsL_split (d := 9) rfl (fun h9 => ?_) (fun h9 => ?_)
  · skip
    have h9r := h9
    try simp only [hce, l1, t0, t1, dflt, val_dig] at h9
    refine st_pure (guardX (v := true) rfl rfl (h9r) rfl) ld67 ?_
    refine st_pure (guardX (v := true) rfl rfl (h9r) rfl) fa67 ?_
    refine st_pure (guardX (v := true) rfl rfl (h9r) rfl) ld34 ?_
    refine st_callP (guardX (v := true) rfl rfl (h9r) rfl) (.cons im0 (.cons im0 .nil)) (c_FHas _ _ (by omega) (by omega)) ?_
    refine st_pure rfl (.pickT rfl (h9r)) ?_
    refine asg ?_
    refine st_end nf0 ?_
    refine then_n (wl_ret ?_)
    rw [insR, h9r, Bool.true_and]
    exact ret1 rfl (by first | exact .pure rfl | exact .pure (limL_pure _) | exact .pure (magL_pure _) | exact .pure (ratE.pure _) | exact .pure (pure_lst u32E _ _) | exact .pure (pure_lst ratE _ _))
  · skip
    have h9r := h9
    try simp only [hce, l1, t0, t1, dflt, val_dig] at h9
    refine st_skip (guardX (v := false) rfl rfl (h9r) rfl) ?_
    refine st_skip (guardX (v := false) rfl rfl (h9r) rfl) ?_
    refine st_skip (guardX (v := false) rfl rfl (h9r) rfl) ?_
    refine st_skip (guardX (v := false) rfl rfl (h9r) rfl) ?_
    refine st_pure rfl (.pickF rfl (h9r)) ?_
    refine asg ?_
    refine st_end nf0 ?_
    refine then_n (wl_ret ?_)
    rw [insR, h9r, Bool.false_and]
    exact ret1 rfl (by first | exact .pure rfl | exact .pure (limL_pure _) | exact .pure (magL_pure _) | exact .pure (ratE.pure _) | exact .pure (pure_lst u32E _ _) | exact .pure (pure_lst ratE _ _))
open H0 in
set_option maxHeartbeats 1000000 in
set_option maxRecDepth 100000 in
theorem c_MPart (n : Int) (hn : -9223372036854775808 ≤ n ∧ n ≤ 9223372036854775807) : CallP Try.prog 39 [iL n] (ratL (ptV n)) := by
  have hd := ptD_bd n
  have hq : (n.tdiv 17).natAbs = n.natAbs / 17 := Int.natAbs_tdiv _ _
  have hpd : ptD n = 1 + (n.tdiv 17) % 12 := rfl
  have h1 := Int.emod_nonneg n (show ptD n + 1 ≠ 0 by omega)
  have h2 := Int.emod_lt_of_pos n (show (0 : Int) < ptD n + 1 by omega)
  refine callP_of fol Try.func39 rfl (by decide +kernel) (by decide +kernel) (Nat.le_of_ble_eq_true rfl) tm0 ?_
  refine wl_seq (wl_reg ?_)
  refine st_alloc rfl rfl (.alloc Z34a) ?_
  refine st_end nf0 ?_
  refine then_n (wl_seq (wl_reg (mv ?_)))
  refine st_pure rfl (.bin rfl rfl (quo64 (a := n) (b := 17) (by decide) (by omega) (by omega))) ?_
  refine st_callP rfl (.cons im0 (.cons im0 .nil)) (c_Mod (n.tdiv 17) 12 (by decide) (by decide)) ?_
  refine st_pure rfl (.bin rfl rfl (add64 (by omega) (by omega))) ?_
  refine asg ?_
  refine st_end nf0 ?_
  refine then_n (wl_seq (wl_reg (mv (mv ?_))))
  refine st_pure rfl (.bin rfl rfl (add64 (a := ptD n) (by omega) (by omega))) ?_
  refine st_callP rfl (.cons im0 (.cons im0 .nil)) (c_Mod n (ptD n + 1) (by omega) (by omega)) ?_
  refine mv ?_
  refine st_callP rfl (.cons im0 (.cons im0 .nil)) (c_FFrac (n % (ptD n + 1)) (ptD n) (by omega) (by omega) (by omega) (by omega) (by omega)) ?_
  refine st_store rfl sr34 ?_
  refine st_end nf0 ?_
  refine then_n (wl_ret ?_)
  exact retC [] rfl rfl rfl (ratE.csize _) (ratL_all _) T34 (.pure (ratE.pure _))
end Go.Proofs.Ythhdcfhaldcheaa
