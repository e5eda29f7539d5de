/- The document: values and parts. -/
import Derived.Test.YthhdcfhaldcheaaV2
set_option linter.unusedVariables false
set_option linter.unusedSimpArgs false
namespace Go.Proofs.Ythhdcfhaldcheaa
open Go.Lg
/-! ### the parts in the document's words -/
theorem fE_rev (a b : Rat) : ∀ (n : Nat) (f : Nat → Rat), fE a b n f = fE b a n (fun i => f (n - i))
  | 0, f => rfl
  | n + 1, f => by
    rw [fE_step, fE_step, fE_rev a b n f, fE_rev a b n (fun i => f (i + 1))]
    have e1 : fE b a n (fun i => f (n - i + 1)) = fE b a n (fun i => f (n + 1 - i)) := fE_congr _ _ _ _ _ fun i hi => by congr 1; omega
    have e2 : (fun i => f (n + 1 - (i + 1))) = fun i => f (n - i) := by funext i; congr 1; omega
    rw [e1, e2]; grind
theorem hiF_get (t : Rat) : ∀ (k : Nat) (q tl : List Rat), q.length = k → ∀ j, j < k → (hiF t k q tl).getD j 0 = fE (1 - t) t (k - 1 - j) (fun i => q.getD (j + i) 0)
  | 0, _, _, _, j, h => by omega
  | k + 1, q, tl, hq, j, hj => by
    rw [hiF]
    have hs : (stp t q).length = k := by rw [stp_len]; omega
    rcases Nat.lt_or_ge j k with h | h
    · rw [hiF_get t k _ _ hs j h, show k + 1 - 1 - j = k - 1 - j + 1 by omega, fE]
      exact fE_congr _ _ _ _ _ fun i hi => by rw [stp_get t q _ (by omega)]; rfl
    · obtain rfl : j = k := by omega
      rw [show j + 1 - 1 - j = 0 by omega]
      have hE : ∀ (m : Nat) (q' tl' : List Rat), q'.length = m → ∀ x, (hiF t m q' tl').getD (m + x) 0 = tl'.getD x 0 := by
        intro m
        induction m with
        | zero => intro q' tl' h x; obtain rfl : q' = [] := List.eq_nil_of_length_eq_zero h; rw [Nat.zero_add]; rfl
        | succ m ih =>
          intro q' tl' h x
          rw [hiF, show m + 1 + x = m + (x + 1) by omega, ih _ _ (by rw [stp_len]; omega)]; rfl
      have := hE j (stp t q) (q.getD j 0 :: tl) hs 0
      rw [Nat.add_zero] at this
      rw [this]; rfl
theorem hi_get {p : List Rat} {j : Nat} (h : j < p.length) (t : Rat) : (hiP p t).getD j 0 = fE (1 - t) t (p.length - 1 - j) (fun i => p.getD (j + i) 0) := hiF_get t _ p [] rfl j h
theorem lo_get {p : List Rat} {j : Nat} (h : j < p.length) (t : Rat) : (loP p t).getD j 0 = fE (1 - t) t j (fun i => p.getD i 0) := lo_fE t j p h
/-- a part as the document cuts it -/
def partF (p : List Rat) (a b : Rat) : List Rat := if a = 1 then loP (hiP p.reverse 0) ((1 - b - 0) / (1 - 0)) else loP (hiP p a) ((b - a) / (1 - a))
theorem fE_first : ∀ (n : Nat) (f : Nat → Rat), fE 1 0 n f = f 0
  | 0, f => rfl
  | n + 1, f => by rw [fE, fE_first n]; grind
theorem hi_zero (p : List Rat) : hiP p 0 = p := by
  refine ext0 (hiP_len p 0) fun j hj => ?_
  rw [hiP_len] at hj
  rw [hi_get hj, show (1 : Rat) - 0 = 1 from by grind, fE_first]; rfl
theorem part_eq (p : List Rat) (a b : Rat) : partB p a b = partF p a b := by
  unfold partB partF
  by_cases ha : a = 1
  · subst ha
    rw [if_neg (by grind), if_pos rfl, hi_zero]
    have e0 : (1 - b - 0) / (1 - 0) = 1 - b := by rw [show (1 : Rat) - 0 = 1 by grind, show (1 : Rat) - b - 0 = 1 - b by grind, Rat.div_def, Rat.inv_eq_of_mul_eq_one (show (1 : Rat) * 1 = 1 by grind), Rat.mul_one]
    rw [e0]
    have hr : p.reverse.length = p.length := List.length_reverse
    by_cases hb : b = 0
    · subst hb
      rw [if_neg (by grind)]
      refine ext0 (by rw [loP_len]) fun j hj => ?_
      rw [lo_get hj, show (1 : Rat) - (1 - 0) = 0 by grind, show (1 : Rat) - 0 = 1 by grind, fE_last]
    · rw [if_pos hb]
      refine ext0 (by rw [hiP_len, loP_len, loP_len, hr]) fun j hj => ?_
      rw [hiP_len, loP_len] at hj
      rw [hi_get (by rw [loP_len]; exact hj), loP_len, lo_get (by rw [hr]; exact hj)]
      have e1 : fE (1 - 1 / b) (1 / b) (p.length - 1 - j) (fun i => (loP p b).getD (j + i) 0) = fE (1 - 1 / b) (1 / b) (p.length - 1 - j) (fun k => fE (1 - b) b k (fun i => fE (1 - b) b j (fun x => p.getD (i + x) 0))) := by
        refine fE_congr _ _ _ _ _ fun i hi => ?_
        rw [lo_get (by omega)]
        have hcomp : ∀ (i j : Nat) (f : Nat → Rat), fE (1 - b) b (j + i) f = fE (1 - b) b i (fun y => fE (1 - b) b j (fun x => f (y + x))) := by
          intro i
          induction i with
          | zero => intro j f; show fE (1 - b) b j f = fE (1 - b) b j (fun x => f (0 + x)); simp only [Nat.zero_add]
          | succ i ih =>
            intro j f
            rw [show j + (i + 1) = (j + i) + 1 by omega, fE, ih j, fE]
            refine fE_congr _ _ _ _ _ fun y hy => ?_
            have := fE_lin (1 - b) b (1 - b) b j (fun x => f (y + x)) (fun x => f (y + x + 1))
            rw [this]
            congr 3
            funext x; congr 1; omega
        exact hcomp i j _
      have hi := Rat.mul_inv_cancel _ hb
      rw [e1, fE_comp, show (1 - 1 / b) + (1 / b) * (1 - b) = 0 by rw [Rat.div_def]; grind, show 1 / b * b = 1 by rw [Rat.div_def]; grind, fE_last, fE_rev]
      rw [show (1 : Rat) - (1 - b) = b by grind]
      refine fE_congr _ _ _ _ _ fun i hi => ?_
      rw [getD_rev p (by omega)]
      congr 1; omega
  · rw [if_pos (by grind), if_neg ha]
/-! ### lists that are filled from both sides -/
theorem set_zl {lo : List Rat} {m k : Nat} {v : Rat} (h : lo.length = k) : (lo ++ List.replicate (m + 1) 0).set k v = lo ++ [v] ++ List.replicate m 0 := by
  rw [List.replicate_succ, set_mid _ _ _ _ h.symm]; simp
theorem set_zr {tl : List Rat} {m : Nat} {v : Rat} : (List.replicate (m + 1) 0 ++ tl).set m v = List.replicate m 0 ++ v :: tl := by
  rw [List.replicate_succ', List.append_assoc]
  exact set_mid _ _ _ _ (by simp)
theorem set_rv {p : List Rat} {i : Nat} (h : i < p.length) : (List.replicate (p.length - i) 0 ++ (p.take i).reverse).set (p.length - (i + 1)) (p.getD i 0) = List.replicate (p.length - (i + 1)) 0 ++ (p.take (i + 1)).reverse := by
  rw [show p.length - i = p.length - (i + 1) + 1 by omega, set_zr, List.take_succ_eq_append_getElem h, List.reverse_append, List.reverse_singleton, List.singleton_append]
  rw [List.getD_eq_getElem?_getD, List.getElem?_eq_getElem h]; rfl
theorem nfc_FSameL_0 {p : Prop} (h : p := by (try simp only [e1, e2, e3, e4, p1, p2, p3, q1, q2, q3, l1, t0, t1, r1, r2, r3, r4, Nat.zero_add, Nat.reduceMul, Nat.reduceAdd, b1, b2, b3, b4, b5, b6, i1, i2, i3, i4, i5, i6, Nat.reduceBEq, dfq, kills_map ratE, ratL_kill, spL_kill, LV.kill, kills]); exact rfl) : p := h
theorem clc_FSameL_1 {p : Prop} (h : p := by first | rfl | (simp only [e1, e2, e3, e4, p1, p2, p3, q1, q2, q3, l1, t0, t1, r1, r2, r3, r4, Nat.zero_add, Nat.reduceMul, Nat.reduceAdd, b1, b2, b3, b4, b5, b6, i1, i2, i3, i4, i5, i6, Nat.reduceBEq, dfq, kills_map ratE, ratL_kill, spL_kill, LV.kill, kills]; done) | (simp only [e1, e2, e3, e4, p1, p2, p3, q1, q2, q3, l1, t0, t1, r1, r2, r3, r4, Nat.zero_add, Nat.reduceMul, Nat.reduceAdd, b1, b2, b3, b4, b5, b6, i1, i2, i3, i4, i5, i6, Nat.reduceBEq, dfq, kills_map ratE, ratL_kill, spL_kill, LV.kill, kills]; rfl) | (simp only [e1, e2, e3, e4, p1, p2, p3, q1, q2, q3, l1, t0, t1, r1, r2, r3, r4, Nat.zero_add, Nat.reduceMul, Nat.reduceAdd, b1, b2, b3, b4, b5, b6, i1, i2, i3, i4, i5, i6, Nat.reduceBEq, dfq, kills_map ratE, ratL_kill, spL_kill, LV.kill, kills]; congr 3 <;> omega) | (simp only [e1, e2, e3, e4, p1, p2, p3, q1, q2, q3, l1, t0, t1, r1, r2, r3, r4, Nat.zero_add, Nat.reduceMul, Nat.reduceAdd, b1, b2, b3, b4, b5, b6, i1, i2, i3, i4, i5, i6, Nat.reduceBEq, dfq, kills_map ratE, ratL_kill, spL_kill, LV.kill, kills]; congr 2 <;> omega)) : p := h
namespace H_c_FSameL
theorem om {p : Prop} (h : p := by first | (simp only [e1, e2, e3, e4, p1, p2, p3, q1, q2, q3, l1, t0, t1, r1, r2, r3, r4, Nat.zero_add, Nat.reduceMul, Nat.reduceAdd, b1, b2, b3, b4, b5, b6, i1, i2, i3, i4, i5, i6, Nat.reduceBEq, dfq, kills_map ratE, ratL_kill, spL_kill, LV.kill, kills]; omega) | omega) : p := h
end H_c_FSameL
open H_c_FSameL in
set_option maxHeartbeats 1000000 in
set_option maxRecDepth 100000 in
theorem c_FSameL (p q : List Rat) (hl : p.length ≤ 1048576) (hl2 : q.length ≤ 1048576) (hpr : ∀ x ∈ p, rl x ≤ 137438953472) (hqr : ∀ x ∈ q, rl x ≤ 137438953472) : CallP Try.prog 61 [.list 3 (p.map ratL), .list 3 (q.map ratL)] (bL (decide (p = q))) := by
  refine callP_of fol Try.func61 rfl (by decide +kernel) (by decide +kernel) (Nat.le_of_ble_eq_true rfl) tm0 ?_
  refine wl_seq (wl_reg (asg ?_))
  refine st_end nfc_FSameL_0 ?_
  refine then_n (wl_seq (wl_seq (wl_reg (mv ?_))))
  refine st_pure rfl ln25 ?_
  refine mv ?_
  refine st_pure rfl ln25 ?_
  refine st_pure rfl (.bin rfl rfl rfl) ?_
  refine st_end nfc_FSameL_0 ?_
  refine then_n ?_
  refine wl_cond rfl (fun h10 => ?_) (fun h10 => ?_)
  · skip
    have h10r := h10
    try simp only [hce, l1, t0, t1, dflt, val_dig] at h10
    have hne : p ≠ q := fun e => by rw [e] at h10; exact h10 rfl
    refine wl_seq (wl_reg (asg ?_))
    refine st_end nfc_FSameL_0 ?_
    refine then_n (wl_ret (then_r ?_))
    rw [decide_eq_false hne]
    exact ret1 rfl (by first | exact .pure rfl | exact .pure (limL_pure _) | exact .pure (magL_pure _) | exact .pure (ratE.pure _) | exact .pure (pure_lst u32E _ _) | exact .pure (pure_lst ratE _ _))
  · skip
    have h10r := h10
    try simp only [hce, l1, t0, t1, dflt, val_dig] at h10
    have hle : p.length = q.length := by omega
    refine wl_skip (then_n (wl_seq (wl_seq (wl_reg (asg ?_)))))
    refine st_end nfc_FSameL_0 ?_
    refine then_n (wl_block ?_)
    refine wl_loop (α := Nat) (fun st L => ((((St.mk L.slot (hp [])).put (some 0) (.list 3 (p.map ratL))).put (some 1) (.list 3 (q.map ratL))).put (some 5) (nI64 st))) (fun st => st ≤ p.length ∧ ∀ i, i < st → p.getD i 0 = q.getD i 0) (fun st => p.length - st) 0 (show (0) ≤ p.length ∧ ∀ i, i < (0) → p.getD i 0 = q.getD i 0 from ⟨Nat.zero_le _, fun i h => absurd h (Nat.not_lt_zero i)⟩) ⟨_, Weak.of_eq (put_id' (put_id' (put_id' (mk_id' clc_FSameL_1) clc_FSameL_1) clc_FSameL_1) clc_FSameL_1)⟩ ?_
    rintro k L1 hLC
    obtain ⟨hk, hg⟩ : k ≤ p.length ∧ ∀ i, i < k → p.getD i 0 = q.getD i 0 := hLC
    show wpL _ _ _ ((((St.mk L1.slot (hp [])).put (some 0) (.list 3 (p.map ratL))).put (some 1) (.list 3 (q.map ratL))).put (some 5) (nI64 k))
    refine wl_seq (wl_seq (wl_reg (mv (mv ?_))))
    refine st_pure rfl ln25 ?_
    refine st_pure rfl (.bin rfl rfl rfl) ?_
    refine st_end nfc_FSameL_0 ?_
    refine then_n ?_
    refine wl_cond rfl (fun h14 => ?_) (fun h14 => ?_)
    · skip
      have h14r := h14
      try simp only [hce, l1, t0, t1, dflt, val_dig] at h14
      have hk2 : k < p.length := by omega
      have hr1 := hpr _ (getD_mem (i := k) hk2)
      have hr2 := hqr _ (getD_mem (i := k) (by omega))
      refine wl_skip (then_n (wl_seq (wl_block (wl_seq ?_))))
      refine wl_regD 10 (by decide +kernel) ?_
      refine mv (mv ?_)
      refine st_pure rfl ix25 ?_
      refine st_pure rfl ld34 ?_
      refine mv (mv ?_)
      refine st_pure rfl ix25 ?_
      refine st_pure rfl ld34 ?_
      refine st_callP rfl (.cons im0 (.cons im0 .nil)) (c_FSame (p.getD k 0) (q.getD k 0) (by omega)) ?_
      refine st_pure rfl (.not rfl) ?_
      refine st_end nfc_FSameL_0 ?_
      refine then_n ?_
      refine wl_cond rfl (fun h26 => ?_) (fun h26 => ?_)
      · skip
        have h26r := h26
        try simp only [hce, l1, t0, t1, dflt, val_dig] at h26
        have hne : p ≠ q := fun e => by rw [e] at h26; exact h26 rfl
        refine wl_seq (wl_reg (asg ?_))
        refine st_end nfc_FSameL_0 ?_
        refine then_n (wl_ret (blk_r (then_r (then_r (blk_r (then_r ?_))))))
        rw [decide_eq_false hne]
        exact ret1 rfl (by first | exact .pure rfl | exact .pure (limL_pure _) | exact .pure (magL_pure _) | exact .pure (ratE.pure _) | exact .pure (pure_lst u32E _ _) | exact .pure (pure_lst ratE _ _))
      · skip
        have h26r := h26
        try simp only [hce, l1, t0, t1, dflt, val_dig] at h26
        have heq : p.getD k 0 = q.getD k 0 := h26
        refine wl_skip (blk_n (then_n (wl_reg (mv ?_))))
        refine st_pure rfl (.bin rfl rfl (add64 om om)) ?_
        refine asg ?_
        refine st_end nfc_FSameL_0 ?_
        refine then_n ?_
        exact ⟨k + 1, _, (show (k + 1) ≤ p.length ∧ ∀ i, i < (k + 1) → p.getD i 0 = q.getD i 0 from ⟨by omega, fun i hi => by rcases Nat.lt_or_ge i k with h | h; exact hg i h; rw [show i = k by omega]; exact heq⟩), (show p.length - (k + 1) < p.length - k from by omega), Weak.of_eq (put_id' (put_id' (put_id' (mk_id' clc_FSameL_1) clc_FSameL_1) clc_FSameL_1) clc_FSameL_1)⟩
    · skip
      have h14r := h14
      try simp only [hce, l1, t0, t1, dflt, val_dig] at h14
      obtain rfl : k = p.length := by omega
      have hE : p = q := ext0 hle hg
      refine wl_exit ?_
      refine then_e (then_e (blk_e (then_n (wl_seq (wl_reg (asg ?_))))))
      refine st_end nfc_FSameL_0 ?_
      refine then_n (wl_ret ?_)
      rw [decide_eq_true hE]
      exact ret1 rfl (by first | exact .pure rfl | exact .pure (limL_pure _) | exact .pure (magL_pure _) | exact .pure (ratE.pure _) | exact .pure (pure_lst u32E _ _) | exact .pure (pure_lst ratE _ _))
open H0 in
set_option maxHeartbeats 1000000 in
set_option maxRecDepth 100000 in
theorem c_FBetw (a b t : Rat) (h : rl a + rl b + rl t ≤ 8589934592) : CallP Try.prog 59 [ratL a, ratL b, ratL t] (ratL ((1 - t) * a + t * b)) := by
  have h1 := rl_sub b a
  have h2 := rl_mul (b - a) t
  have hE : (1 - t) * a + t * b = a + (b - a) * t := by grind
  refine callP_of fol Try.func59 rfl (by decide +kernel) (by decide +kernel) (Nat.le_of_ble_eq_true rfl) tm0 ?_
  refine wl_seq (wl_reg ?_)
  refine st_alloc rfl rfl (.boxE ratE rfl) ?_
  refine st_alloc rfl rfl (.boxE ratE rfl) ?_
  refine st_alloc rfl rfl (.boxE ratE rfl) ?_
  refine st_alloc rfl rfl (.alloc Z34a) ?_
  refine st_end nf0 ?_
  refine then_n (wl_seq ?_)
  refine wl_regD 7 (by decide +kernel) ?_
  refine st_pure rfl ld34 ?_
  refine st_pure rfl ld34 ?_
  refine st_pure rfl ld34 ?_
  refine st_callP rfl (.cons im0 (.cons im0 .nil)) (c_FRSub b a (by omega)) ?_
  refine st_pure rfl ld34 ?_
  refine st_callP rfl (.cons im0 (.cons im0 .nil)) (c_FRMul (b - a) t (by omega)) ?_
  refine st_callP rfl (.cons im0 (.cons im0 .nil)) (c_FRAdd a ((b - a) * t) (by omega)) ?_
  refine st_store rfl sr34 ?_
  refine st_end nf0 ?_
  refine then_n (wl_ret ?_)
  rw [hE]
  exact retC [] rfl rfl rfl (ratE.csize _) (ratL_all _) T34 (.pure (ratE.pure _))
theorem nfc_FSplit_0 {p : Prop} (h : p := by (try simp only [e1, e2, e3, e4, p1, p2, p3, q1, q2, q3, l1, t0, t1, r1, r2, r3, r4, Nat.zero_add, Nat.reduceMul, Nat.reduceAdd, b1, b2, b3, b4, b5, b6, i1, i2, i3, i4, i5, i6, Nat.reduceBEq, frz_nil, dfq, eq0, eqm, esa, esb, ekm, ekn, emg1, emg2, ems, eme, ei1, take_map_len, map_snoc, len_snoc, List.length_cons, List.length_nil, List.nil_append, List.map_nil, List.take_nil, List.append_nil, kills_map ratE, ratL_kill, LV.kill, kills]); exact rfl) : p := h
theorem mlc_FSplit_1 {p : Prop} (h : p := by first | rfl | (simp only [e1, e2, e3, e4, p1, p2, p3, q1, q2, q3, l1, t0, t1, r1, r2, r3, r4, Nat.zero_add, Nat.reduceMul, Nat.reduceAdd, b1, b2, b3, b4, b5, b6, i1, i2, i3, i4, i5, i6, Nat.reduceBEq, frz_nil, dfq, eq0, eqm, esa, esb, ekm, ekn, emg1, emg2, ems, eme, ei1, take_map_len, map_snoc, len_snoc, List.length_cons, List.length_nil, List.nil_append, List.map_nil, List.take_nil, List.append_nil, kills_map ratE, ratL_kill, LV.kill, kills]; done) | (simp only [e1, e2, e3, e4, p1, p2, p3, q1, q2, q3, l1, t0, t1, r1, r2, r3, r4, Nat.zero_add, Nat.reduceMul, Nat.reduceAdd, b1, b2, b3, b4, b5, b6, i1, i2, i3, i4, i5, i6, Nat.reduceBEq, frz_nil, dfq, eq0, eqm, esa, esb, ekm, ekn, emg1, emg2, ems, eme, ei1, take_map_len, map_snoc, len_snoc, List.length_cons, List.length_nil, List.nil_append, List.map_nil, List.take_nil, List.append_nil, kills_map ratE, ratL_kill, LV.kill, kills]; rfl) | (simp only [e1, e2, e3, e4, p1, p2, p3, q1, q2, q3, l1, t0, t1, r1, r2, r3, r4, Nat.zero_add, Nat.reduceMul, Nat.reduceAdd, b1, b2, b3, b4, b5, b6, i1, i2, i3, i4, i5, i6, Nat.reduceBEq, frz_nil, dfq, eq0, eqm, esa, esb, ekm, ekn, emg1, emg2, ems, eme, ei1, take_map_len, map_snoc, len_snoc, List.length_cons, List.length_nil, List.nil_append, List.map_nil, List.take_nil, List.append_nil, kills_map ratE, ratL_kill, LV.kill, kills]; congr 2 <;> omega)) : p := h
theorem clc_FSplit_2 {p : Prop} (h : p := by first | rfl | (simp only [e1, e2, e3, e4, p1, p2, p3, q1, q2, q3, l1, t0, t1, r1, r2, r3, r4, Nat.zero_add, Nat.reduceMul, Nat.reduceAdd, b1, b2, b3, b4, b5, b6, i1, i2, i3, i4, i5, i6, Nat.reduceBEq, frz_nil, dfq, eq0, eqm, esa, esb, ekm, ekn, emg1, emg2, ems, eme, ei1, take_map_len, map_snoc, len_snoc, List.length_cons, List.length_nil, List.nil_append, List.map_nil, List.take_nil, List.append_nil, kills_map ratE, ratL_kill, LV.kill, kills]; done) | (simp only [e1, e2, e3, e4, p1, p2, p3, q1, q2, q3, l1, t0, t1, r1, r2, r3, r4, Nat.zero_add, Nat.reduceMul, Nat.reduceAdd, b1, b2, b3, b4, b5, b6, i1, i2, i3, i4, i5, i6, Nat.reduceBEq, frz_nil, dfq, eq0, eqm, esa, esb, ekm, ekn, emg1, emg2, ems, eme, ei1, take_map_len, map_snoc, len_snoc, List.length_cons, List.length_nil, List.nil_append, List.map_nil, List.take_nil, List.append_nil, kills_map ratE, ratL_kill, LV.kill, kills]; rfl) | (simp only [e1, e2, e3, e4, p1, p2, p3, q1, q2, q3, l1, t0, t1, r1, r2, r3, r4, Nat.zero_add, Nat.reduceMul, Nat.reduceAdd, b1, b2, b3, b4, b5, b6, i1, i2, i3, i4, i5, i6, Nat.reduceBEq, frz_nil, dfq, eq0, eqm, esa, esb, ekm, ekn, emg1, emg2, ems, eme, ei1, take_map_len, map_snoc, len_snoc, List.length_cons, List.length_nil, List.nil_append, List.map_nil, List.take_nil, List.append_nil, kills_map ratE, ratL_kill, LV.kill, kills]; congr 3 <;> omega) | (simp only [e1, e2, e3, e4, p1, p2, p3, q1, q2, q3, l1, t0, t1, r1, r2, r3, r4, Nat.zero_add, Nat.reduceMul, Nat.reduceAdd, b1, b2, b3, b4, b5, b6, i1, i2, i3, i4, i5, i6, Nat.reduceBEq, frz_nil, dfq, eq0, eqm, esa, esb, ekm, ekn, emg1, emg2, ems, eme, ei1, take_map_len, map_snoc, len_snoc, List.length_cons, List.length_nil, List.nil_append, List.map_nil, List.take_nil, List.append_nil, kills_map ratE, ratL_kill, LV.kill, kills]; congr 2 <;> omega)) : p := h
namespace H_c_FSplit
theorem om {p : Prop} (h : p := by first | (simp only [e1, e2, e3, e4, p1, p2, p3, q1, q2, q3, l1, t0, t1, r1, r2, r3, r4, Nat.zero_add, Nat.reduceMul, Nat.reduceAdd, b1, b2, b3, b4, b5, b6, i1, i2, i3, i4, i5, i6, Nat.reduceBEq, frz_nil, dfq, eq0, eqm, esa, esb, ekm, ekn, emg1, emg2, ems, eme, ei1, take_map_len, map_snoc, len_snoc, List.length_cons, List.length_nil, List.nil_append, List.map_nil, List.take_nil, List.append_nil, kills_map ratE, ratL_kill, LV.kill, kills]; omega) | omega) : p := h
end H_c_FSplit
open H_c_FSplit in
set_option maxHeartbeats 4000000 in
set_option maxRecDepth 100000 in
theorem c_FSplit (p : List Rat) (t : Rat) (h : HS p t) : CallP Try.prog 20 [.list 3 (p.map ratL), ratL t] (.tup [.list 3 ((loP p t).map ratL), .list 3 ((hiP p t).map ratL)]) := by
  have hlen := h.len
  obtain ⟨cc, hC, hcc, hs⟩ := h
  have hpr : ∀ x ∈ p, rl x ≤ 1073741824 := fun x hx => by have := sz_rl (hs x hx); omega
  refine callP_of fol Try.func20 rfl (by decide +kernel) (by decide +kernel) (Nat.le_of_ble_eq_true rfl) tm0 ?_
  have eq0 : True := trivial
  have eqm : True := trivial
  have esa : True := trivial
  have esb : True := trivial
  have ekm : True := trivial
  have ekn : True := trivial
  have emg1 : True := trivial
  have emg2 : True := trivial
  have ems : True := trivial
  have eme : True := trivial
  have ei1 : True := trivial
  refine wl_seq (wl_reg ?_)
  refine st_alloc rfl rfl (.boxE ratE rfl) ?_
  refine asg (asg ?_)
  refine st_end nfc_FSplit_0 ?_
  refine then_n (wl_seq (wl_reg (mv ?_)))
  refine st_pure rfl ln37 ?_
  refine asg ?_
  refine st_end nfc_FSplit_0 ?_
  refine then_n (wl_seq ?_)
  refine wl_regD 6 (by decide +kernel) ?_
  refine mv ?_
  refine st_alloc rfl rfl (.makeM (n := p.length) (m := p.length) ratE Try.underlying37 Z34 T34 B34 mlc_FSplit_1 mlc_FSplit_1 om om om) ?_
  refine mv ?_
  refine st_alloc rfl rfl (.makeM (n := p.length) (m := p.length) ratE Try.underlying37 Z34 T34 B34 mlc_FSplit_1 mlc_FSplit_1 om om om) ?_
  refine asg (asg ?_)
  refine st_end nfc_FSplit_0 ?_
  refine then_n (wl_seq (wl_reg ?_))
  refine st_alloc rfl rfl (.lit0 Try.underlying37 T34) ?_
  refine mv ?_
  refine st_store rfl (.app (news := p.map ratL) rfl rfl rfl rfl rfl (Nat.zero_le _) (.inr rfl) (by decide) Try.underlying37 Try.underlying37 Z34a T34 rfl B34 (.inr (.inl rfl)) (by simp; omega) (by simp; omega) (by decide)) ?_
  refine asg ?_
  refine st_end nfc_FSplit_0 ?_
  refine then_n (wl_seq (wl_seq (wl_reg (asg ?_))))
  refine st_end nfc_FSplit_0 ?_
  refine then_n (wl_block ?_)
  refine wl_loop (α := Nat × List Rat × List Rat × List Rat) (fun st L => (((((((St.mk L.slot (hp [(3, ⟨3, [ratL t], true⟩), (15, ⟨3, (st.2.2.2 ++ List.replicate st.2.1.length 0).map ratL, true⟩), (17, ⟨3, (List.replicate st.2.1.length 0 ++ st.2.2.1).map ratL, true⟩), (20, ⟨3, (st.2.1 ++ st.2.2.1).map ratL, true⟩)])).put (some 3) (.eptr 3 3 0 0)).put (some 6) (nI64 p.length)).put (some 7) (.ref 15 3 0 p.length)).put (some 8) (.ref 17 3 0 p.length)).put (some 9) (.ref 20 3 0 p.length)).put (some 10) (nI64 st.1))) (fun st => st.2.1.length + st.1 = p.length ∧ st.2.2.1.length = st.1 ∧ st.2.2.2.length = st.1 ∧ st.2.2.2 ++ loF t st.2.1.length st.2.1 = loP p t ∧ hiF t st.2.1.length st.2.1 st.2.2.1 = hiP p t ∧ ∀ x ∈ st.2.1, (rl x + cc) * 2 ^ st.2.1.length ≤ 1073741824) (fun st => st.2.1.length) (0, p, [], []) (show (p).length + (0) = p.length ∧ ([]).length = (0) ∧ ([]).length = (0) ∧ ([]) ++ loF t (p).length (p) = loP p t ∧ hiF t (p).length (p) ([]) = hiP p t ∧ ∀ x ∈ (p), (rl x + cc) * 2 ^ (p).length ≤ 1073741824 from ⟨rfl, rfl, rfl, rfl, rfl, hs⟩) ⟨_, Weak.of_eq (put_id' (put_id' (put_id' (put_id' (put_id' (put_id' (mk_id' clc_FSplit_2) clc_FSplit_2) clc_FSplit_2) clc_FSplit_2) clc_FSplit_2) clc_FSplit_2) clc_FSplit_2)⟩ ?_
  rintro ⟨k, q, tl, lo⟩ L1 hLC
  obtain ⟨hq, htl, hlo, hL, hH, hsz⟩ : q.length + k = p.length ∧ tl.length = k ∧ lo.length = k ∧ lo ++ loF t q.length q = loP p t ∧ hiF t q.length q tl = hiP p t ∧ ∀ x ∈ q, (rl x + cc) * 2 ^ q.length ≤ 1073741824 := hLC
  show wpL _ _ _ (((((((St.mk L1.slot (hp [(3, ⟨3, [ratL t], true⟩), (15, ⟨3, (lo ++ List.replicate q.length 0).map ratL, true⟩), (17, ⟨3, (List.replicate q.length 0 ++ tl).map ratL, true⟩), (20, ⟨3, (q ++ tl).map ratL, true⟩)])).put (some 3) (.eptr 3 3 0 0)).put (some 6) (nI64 p.length)).put (some 7) (.ref 15 3 0 p.length)).put (some 8) (.ref 17 3 0 p.length)).put (some 9) (.ref 20 3 0 p.length)).put (some 10) (nI64 k))
  refine wl_seq (wl_seq (wl_reg (mv (mv ?_))))
  refine st_pure rfl (.bin rfl rfl rfl) ?_
  refine st_end nfc_FSplit_0 ?_
  refine then_n ?_
  refine wl_cond rfl (fun h23 => ?_) (fun h23 => ?_)
  · skip
    have h23r := h23
    try simp only [hce, l1, t0, t1, dflt, val_dig] at h23
    obtain ⟨m, hm⟩ : ∃ m, q.length = m + 1 := ⟨q.length - 1, by omega⟩
    rw [hm] at hL hH hsz
    have hl1 : (q ++ tl).length = p.length := by rw [List.length_append]; omega
    have hl2 : (lo ++ List.replicate q.length (0 : Rat)).length = p.length := by rw [List.length_append, List.length_replicate]; omega
    have hl3 : (List.replicate q.length (0 : Rat) ++ tl).length = p.length := by rw [List.length_append, List.length_replicate]; omega
    have eq0 : (q ++ tl).getD 0 0 = q.getD 0 0 := getD_app1 _ _ _ (by omega)
    have eqm : (q ++ tl).getD m 0 = q.getD m 0 := getD_app1 _ _ _ (by omega)
    have ekm : ((p.length : Int) - 1 - (k : Int)).toNat = m := by omega
    have esa := set_zl (lo := lo) (m := m) (v := q.getD 0 0) hlo
    have esb := set_zr (tl := tl) (m := m) (v := q.getD m 0)
    rw [← hm] at esa esb
    refine wl_skip (then_n (wl_seq (wl_block (wl_seq ?_))))
    refine wl_regF 18 [2, 3, 4, 5, 6] (by decide +kernel) ?_
    refine mv (mv (mv (mv ?_)))
    refine st_pure rfl (.bin rfl rfl (sub64 om om)) ?_
    refine mv ?_
    refine st_pure rfl (.bin rfl rfl (sub64 om om)) ?_
    refine mv ?_
    refine st_pure rfl ix37 ?_
    refine st_pure rfl ld34 ?_
    simp only [tz0, dfq, Nat.zero_add, eq0]
    refine mv (mv ?_)
    refine st_pure rfl (.bin rfl rfl (sub64 om om)) ?_
    refine mv ?_
    refine st_pure rfl (.bin rfl rfl (sub64 om om)) ?_
    refine st_pure rfl ix37 ?_
    refine st_pure rfl ld34 ?_
    simp only [ekm, dfq, Nat.zero_add, eqm]
    refine st_pure rfl ix37 ?_
    refine st_store rfl sr34 ?_
    refine st_pure rfl ix37 ?_
    refine st_store rfl sr34 ?_
    refine st_end nfc_FSplit_0 ?_
    refine then_n (wl_seq (wl_reg (asg ?_)))
    refine st_end nfc_FSplit_0 ?_
    refine then_n (wl_block ?_)
    refine wl_loop (α := Nat) (fun st L => ((((((((St.mk L.slot (hp [(3, ⟨3, [ratL t], true⟩), (15, ⟨3, (lo ++ [q.getD 0 0] ++ List.replicate m 0).map ratL, true⟩), (17, ⟨3, (List.replicate m 0 ++ q.getD m 0 :: tl).map ratL, true⟩), (20, ⟨3, ((stp t q).take st ++ (q.drop st ++ tl)).map ratL, true⟩)])).put (some 3) (.eptr 3 3 0 0)).put (some 6) (nI64 p.length)).put (some 7) (.ref 15 3 0 p.length)).put (some 8) (.ref 17 3 0 p.length)).put (some 9) (.ref 20 3 0 p.length)).put (some 10) (nI64 k)).put (some 11) (nI64 st))) (fun st => st ≤ m) (fun st => m - st) 0 (show (0) ≤ m from Nat.zero_le _) ⟨_, Weak.of_eq (put_id' (put_id' (put_id' (put_id' (put_id' (put_id' (put_id' (mk_id' clc_FSplit_2) clc_FSplit_2) clc_FSplit_2) clc_FSplit_2) clc_FSplit_2) clc_FSplit_2) clc_FSplit_2) clc_FSplit_2)⟩ ?_
    rintro i L2 hLC
    have hi : i ≤ m := hLC
    clear hLC
    show wpL _ _ _ ((((((((St.mk L2.slot (hp [(3, ⟨3, [ratL t], true⟩), (15, ⟨3, (lo ++ [q.getD 0 0] ++ List.replicate m 0).map ratL, true⟩), (17, ⟨3, (List.replicate m 0 ++ q.getD m 0 :: tl).map ratL, true⟩), (20, ⟨3, ((stp t q).take i ++ (q.drop i ++ tl)).map ratL, true⟩)])).put (some 3) (.eptr 3 3 0 0)).put (some 6) (nI64 p.length)).put (some 7) (.ref 15 3 0 p.length)).put (some 8) (.ref 17 3 0 p.length)).put (some 9) (.ref 20 3 0 p.length)).put (some 10) (nI64 k)).put (some 11) (nI64 i))
    refine wl_seq (wl_seq (wl_reg (mv ?_)))
    refine st_pure rfl (.bin rfl rfl (add64 om om)) ?_
    refine mv (mv ?_)
    refine st_pure rfl (.bin rfl rfl (sub64 om om)) ?_
    refine st_pure rfl (.bin rfl rfl rfl) ?_
    refine st_end nfc_FSplit_0 ?_
    refine then_n ?_
    refine wl_cond rfl (fun h50 => ?_) (fun h50 => ?_)
    · skip
      have h50r := h50
      try simp only [hce, l1, t0, t1, dflt, val_dig] at h50
      have hij : i < m := by omega
      have ei1 : ((i : Int) + 1).toNat = i + 1 := by omega
      obtain ⟨emg1, emg2⟩ := mid_get (t := t) (q := q) (tl := tl) (i := i) (by omega)
      have ems := mid_set (t := t) (q := q) (tl := tl) (i := i) (by omega)
      have hr1 := sz_rl (hsz _ (getD_mem (i := i) (by omega)))
      have hr2 := sz_rl (hsz _ (getD_mem (i := i + 1) (by omega)))
      have hml := mid_len (t := t) (q := q) (tl := tl) (i := i) (by omega)
      refine wl_skip (then_n (wl_seq (wl_block ?_)))
      refine wl_regD 14 (by decide +kernel) ?_
      refine mv (mv (mv (mv ?_)))
      refine st_pure rfl ix37 ?_
      refine st_pure rfl ld34 ?_
      simp only [t1, dfq, Nat.zero_add, emg1]
      refine mv (mv ?_)
      refine st_pure rfl (.bin rfl rfl (add64 om om)) ?_
      refine st_pure rfl ix37 ?_
      refine st_pure rfl ld34 ?_
      simp only [ei1, dfq, Nat.zero_add, emg2]
      refine st_pure rfl ld34 ?_
      refine st_callP rfl (.cons im0 (.cons im0 (.cons im0 .nil))) (c_FBetw (q.getD i 0) (q.getD (i + 1) 0) t (by omega)) ?_
      refine st_pure rfl ix37 ?_
      refine st_store rfl sr34 ?_
      refine st_end nfc_FSplit_0 ?_
      refine blk_n (then_n (wl_reg (mv ?_)))
      refine st_pure rfl (.bin rfl rfl (add64 om om)) ?_
      refine asg ?_
      refine st_end nfc_FSplit_0 ?_
      refine then_n ?_
      exact ⟨i + 1, _, (show (i + 1) ≤ m from by omega), (show m - (i + 1) < m - i from by omega), Weak.of_eq (put_id' (put_id' (put_id' (put_id' (put_id' (put_id' (put_id' (mk_id' clc_FSplit_2) clc_FSplit_2) clc_FSplit_2) clc_FSplit_2) clc_FSplit_2) clc_FSplit_2) clc_FSplit_2) clc_FSplit_2)⟩
    · skip
      have h50r := h50
      try simp only [hce, l1, t0, t1, dflt, val_dig] at h50
      obtain rfl : m = i := by omega
      have eme := mid_end (t := t) (tl := tl) hm
      have ekn : (stp t q).length = m := by rw [stp_len]; omega
      refine wl_exit ?_
      refine then_e (then_e (blk_e (blk_n (then_n (wl_reg (mv ?_))))))
      refine st_pure rfl (.bin rfl rfl (add64 om om)) ?_
      refine asg ?_
      refine st_end nfc_FSplit_0 ?_
      refine then_n ?_
      exact ⟨(k + 1, stp t q, q.getD m 0 :: tl, lo ++ [q.getD 0 0]), _, (show (stp t q).length + (k + 1) = p.length ∧ (q.getD m 0 :: tl).length = (k + 1) ∧ (lo ++ [q.getD 0 0]).length = (k + 1) ∧ (lo ++ [q.getD 0 0]) ++ loF t (stp t q).length (stp t q) = loP p t ∧ hiF t (stp t q).length (stp t q) (q.getD m 0 :: tl) = hiP p t ∧ ∀ x ∈ (stp t q), (rl x + cc) * 2 ^ (stp t q).length ≤ 1073741824 from ⟨by rw [stp_len]; omega, by simp [htl], by simp [hlo], by rw [List.append_assoc, stp_len, hm]; exact hL, by rw [stp_len, hm]; exact hH, by rw [stp_len, hm]; exact stp_sz hC hsz⟩), (show (stp t q).length < q.length from by rw [stp_len]; omega), Weak.of_eq (put_id' (put_id' (put_id' (put_id' (put_id' (put_id' (mk_id' clc_FSplit_2) clc_FSplit_2) clc_FSplit_2) clc_FSplit_2) clc_FSplit_2) clc_FSplit_2) clc_FSplit_2)⟩
  · skip
    have h23r := h23
    try simp only [hce, l1, t0, t1, dflt, val_dig] at h23
    obtain rfl : q = [] := List.eq_nil_of_length_eq_zero (by omega)
    rw [List.length_nil, loF, List.append_nil] at hL
    rw [List.length_nil, hiF, List.nil_append] at hH
    have hL2 : lo ++ List.replicate 0 0 = loP p t := by rw [← hL]; simp
    have hH2 : List.replicate 0 0 ++ tl = hiP p t := by rw [← hH]; simp
    refine wl_exit ?_
    refine then_e (then_e (blk_e (then_n (wl_seq (wl_reg (mv (mv (asg (asg ?_)))))))))
    refine st_end nfc_FSplit_0 ?_
    refine then_n (wl_ret ?_)
    rw [← hL2, ← hH2]
    exact ret2f [15, 17] rfl rfl (imm_refm ratE rfl rfl (by simp; omega)) rfl (imm_refm ratE rfl rfl (by simp; omega))
theorem nfc_FEval_0 {p : Prop} (h : p := by (try simp only [e1, e2, e3, e4, p1, p2, p3, q1, q2, q3, l1, t0, t1, r1, r2, r3, r4, Nat.zero_add, Nat.reduceMul, Nat.reduceAdd, b1, b2, b3, b4, b5, b6, i1, i2, i3, i4, i5, i6, Nat.reduceBEq, dfq, hll]); exact rfl) : p := h
namespace H_c_FEval
theorem om {p : Prop} (h : p := by first | (simp only [e1, e2, e3, e4, p1, p2, p3, q1, q2, q3, l1, t0, t1, r1, r2, r3, r4, Nat.zero_add, Nat.reduceMul, Nat.reduceAdd, b1, b2, b3, b4, b5, b6, i1, i2, i3, i4, i5, i6, Nat.reduceBEq, dfq, hll]; omega) | omega) : p := h
end H_c_FEval
open H_c_FEval in
set_option maxHeartbeats 1000000 in
set_option maxRecDepth 100000 in
theorem c_FEval (p : List Rat) (t : Rat) (h : HS p t) (hp0 : 0 < p.length) : CallP Try.prog 23 [.list 3 (p.map ratL), ratL t] (ratL (evP p t)) := by
  have hll := loP_len p t
  have hlen := h.len
  refine callP_of fol Try.func23 rfl (by decide +kernel) (by decide +kernel) (Nat.le_of_ble_eq_true rfl) tm0 ?_
  refine wl_seq (wl_reg ?_)
  refine st_alloc rfl rfl (.boxE ratE rfl) ?_
  refine st_alloc rfl rfl (.alloc Z34a) ?_
  refine st_end nfc_FEval_0 ?_
  refine then_n (wl_seq (wl_reg (mv ?_)))
  refine st_pure rfl ld34 ?_
  refine st_callP rfl (.cons im0 (.cons im0 .nil)) (c_FSplit p t h) ?_
  refine mv ?_
  refine st_pure rfl (.extract rfl rfl nt0) ?_
  refine st_pure rfl (.extract rfl rfl nt0) ?_
  refine asg (asg ?_)
  refine st_end nfc_FEval_0 ?_
  refine then_n (wl_seq (wl_reg (mv (mv ?_))))
  refine st_pure rfl ln37 ?_
  refine st_pure rfl (.bin rfl rfl (sub1N (by omega) (by omega))) ?_
  refine st_pure rfl ix37 ?_
  refine st_pure rfl ld34 ?_
  refine st_store rfl sr34 ?_
  refine st_end nfc_FEval_0 ?_
  refine then_n (wl_ret ?_)
  exact retC [] rfl rfl rfl (ratE.csize _) (ratL_all _) T34 (.pure (ratE.pure _))
theorem nfc_mirror_0 {p : Prop} (h : p := by (try simp only [e1, e2, e3, e4, p1, p2, p3, q1, q2, q3, l1, t0, t1, r1, r2, r3, r4, Nat.zero_add, Nat.reduceMul, Nat.reduceAdd, b1, b2, b3, b4, b5, b6, i1, i2, i3, i4, i5, i6, Nat.reduceBEq, dfq, eix, ems, List.length_set, kills_map ratE, ratL_kill, spL_kill, LV.kill, kills]); exact rfl) : p := h
theorem mlc_mirror_1 {p : Prop} (h : p := by first | rfl | (simp only [e1, e2, e3, e4, p1, p2, p3, q1, q2, q3, l1, t0, t1, r1, r2, r3, r4, Nat.zero_add, Nat.reduceMul, Nat.reduceAdd, b1, b2, b3, b4, b5, b6, i1, i2, i3, i4, i5, i6, Nat.reduceBEq, dfq, eix, ems, List.length_set, kills_map ratE, ratL_kill, spL_kill, LV.kill, kills]; done) | (simp only [e1, e2, e3, e4, p1, p2, p3, q1, q2, q3, l1, t0, t1, r1, r2, r3, r4, Nat.zero_add, Nat.reduceMul, Nat.reduceAdd, b1, b2, b3, b4, b5, b6, i1, i2, i3, i4, i5, i6, Nat.reduceBEq, dfq, eix, ems, List.length_set, kills_map ratE, ratL_kill, spL_kill, LV.kill, kills]; rfl) | (simp only [e1, e2, e3, e4, p1, p2, p3, q1, q2, q3, l1, t0, t1, r1, r2, r3, r4, Nat.zero_add, Nat.reduceMul, Nat.reduceAdd, b1, b2, b3, b4, b5, b6, i1, i2, i3, i4, i5, i6, Nat.reduceBEq, dfq, eix, ems, List.length_set, kills_map ratE, ratL_kill, spL_kill, LV.kill, kills]; congr 2 <;> omega)) : p := h
theorem clc_mirror_2 {p : Prop} (h : p := by first | rfl | (simp only [e1, e2, e3, e4, p1, p2, p3, q1, q2, q3, l1, t0, t1, r1, r2, r3, r4, Nat.zero_add, Nat.reduceMul, Nat.reduceAdd, b1, b2, b3, b4, b5, b6, i1, i2, i3, i4, i5, i6, Nat.reduceBEq, dfq, eix, ems, List.length_set, kills_map ratE, ratL_kill, spL_kill, LV.kill, kills, Nat.sub_zero, List.take_zero, List.reverse_nil, List.append_nil]; done) | (simp only [e1, e2, e3, e4, p1, p2, p3, q1, q2, q3, l1, t0, t1, r1, r2, r3, r4, Nat.zero_add, Nat.reduceMul, Nat.reduceAdd, b1, b2, b3, b4, b5, b6, i1, i2, i3, i4, i5, i6, Nat.reduceBEq, dfq, eix, ems, List.length_set, kills_map ratE, ratL_kill, spL_kill, LV.kill, kills, Nat.sub_zero, List.take_zero, List.reverse_nil, List.append_nil]; rfl) | (simp only [e1, e2, e3, e4, p1, p2, p3, q1, q2, q3, l1, t0, t1, r1, r2, r3, r4, Nat.zero_add, Nat.reduceMul, Nat.reduceAdd, b1, b2, b3, b4, b5, b6, i1, i2, i3, i4, i5, i6, Nat.reduceBEq, dfq, eix, ems, List.length_set, kills_map ratE, ratL_kill, spL_kill, LV.kill, kills, Nat.sub_zero, List.take_zero, List.reverse_nil, List.append_nil]; congr 3 <;> omega) | (simp only [e1, e2, e3, e4, p1, p2, p3, q1, q2, q3, l1, t0, t1, r1, r2, r3, r4, Nat.zero_add, Nat.reduceMul, Nat.reduceAdd, b1, b2, b3, b4, b5, b6, i1, i2, i3, i4, i5, i6, Nat.reduceBEq, dfq, eix, ems, List.length_set, kills_map ratE, ratL_kill, spL_kill, LV.kill, kills, Nat.sub_zero, List.take_zero, List.reverse_nil, List.append_nil]; congr 2 <;> omega)) : p := h
namespace H_c_mirror
theorem om {p : Prop} (h : p := by first | (simp only [e1, e2, e3, e4, p1, p2, p3, q1, q2, q3, l1, t0, t1, r1, r2, r3, r4, Nat.zero_add, Nat.reduceMul, Nat.reduceAdd, b1, b2, b3, b4, b5, b6, i1, i2, i3, i4, i5, i6, Nat.reduceBEq, dfq, eix, ems, List.length_set, kills_map ratE, ratL_kill, spL_kill, LV.kill, kills]; omega) | omega) : p := h
end H_c_mirror
open H_c_mirror in
set_option maxHeartbeats 1000000 in
set_option maxRecDepth 100000 in
theorem c_mirror (p : List Rat) (hl : p.length ≤ 1048576) : CallP Try.prog 68 [.list 3 (p.map ratL)] (.list 3 (p.reverse.map ratL)) := by
  refine callP_of fol Try.func68 rfl (by decide +kernel) (by decide +kernel) (Nat.le_of_ble_eq_true rfl) tm0 ?_
  have eix : True := trivial
  have ems : True := trivial
  refine wl_seq (wl_reg (asg ?_))
  refine st_end nfc_mirror_0 ?_
  refine then_n (wl_seq (wl_reg (mv ?_)))
  refine st_pure rfl ln37 ?_
  refine st_alloc rfl rfl (.makeM (n := p.length) (m := p.length) ratE Try.underlying37 Z34 T34 B34 mlc_mirror_1 mlc_mirror_1 om om om) ?_
  refine asg ?_
  refine st_end nfc_mirror_0 ?_
  refine then_n (wl_seq (wl_seq (wl_reg (asg ?_))))
  refine st_end nfc_mirror_0 ?_
  refine then_n (wl_block ?_)
  refine wl_loop (α := Nat) (fun st L => ((((St.mk L.slot (hp [(7, ⟨3, (List.replicate (p.length - st) 0 ++ (p.take st).reverse).map ratL, true⟩)])).put (some 0) (.list 3 (p.map ratL))).put (some 3) (.ref 7 3 0 p.length)).put (some 4) (nI64 st))) (fun st => st ≤ p.length) (fun st => p.length - st) 0 (show (0) ≤ p.length from Nat.zero_le _) ⟨_, Weak.of_eq (put_id' (put_id' (put_id' (mk_id' clc_mirror_2) clc_mirror_2) clc_mirror_2) clc_mirror_2)⟩ ?_
  rintro i L1 hLC
  have hi : i ≤ p.length := hLC
  clear hLC
  show wpL _ _ _ ((((St.mk L1.slot (hp [(7, ⟨3, (List.replicate (p.length - i) 0 ++ (p.take i).reverse).map ratL, true⟩)])).put (some 0) (.list 3 (p.map ratL))).put (some 3) (.ref 7 3 0 p.length)).put (some 4) (nI64 i))
  refine wl_seq (wl_seq (wl_reg (mv (mv ?_))))
  refine st_pure rfl ln37 ?_
  refine st_pure rfl (.bin rfl rfl rfl) ?_
  refine st_end nfc_mirror_0 ?_
  refine then_n ?_
  refine wl_cond rfl (fun h11 => ?_) (fun h11 => ?_)
  · skip
    have h11r := h11
    try simp only [hce, l1, t0, t1, dflt, val_dig] at h11
    have hi2 : i < p.length := by omega
    have eix : ((p.length : Int) - 1 - (i : Int)).toNat = p.length - (i + 1) := by omega
    have ems := set_rv hi2
    have hml : (List.replicate (p.length - i) (0 : Rat) ++ (p.take i).reverse).length = p.length := by simp; omega
    refine wl_skip (then_n (wl_seq (wl_block (wl_reg (mv (mv ?_))))))
    refine st_pure rfl ln37 ?_
    refine st_pure rfl (.bin rfl rfl (sub64 om om)) ?_
    refine mv ?_
    refine st_pure rfl (.bin rfl rfl (sub64 om om)) ?_
    refine mv (mv ?_)
    refine st_pure rfl ix37 ?_
    refine st_pure rfl ld34 ?_
    refine st_pure rfl ix37 ?_
    refine st_store rfl sr34 ?_
    refine st_end nfc_mirror_0 ?_
    refine blk_n (then_n (wl_reg (mv ?_)))
    refine st_pure rfl (.bin rfl rfl (add64 om om)) ?_
    refine asg ?_
    refine st_end nfc_mirror_0 ?_
    refine then_n ?_
    exact ⟨i + 1, _, (show (i + 1) ≤ p.length from by omega), (show p.length - (i + 1) < p.length - i from by omega), Weak.of_eq (put_id' (put_id' (put_id' (mk_id' clc_mirror_2) clc_mirror_2) clc_mirror_2) clc_mirror_2)⟩
  · skip
    have h11r := h11
    try simp only [hce, l1, t0, t1, dflt, val_dig] at h11
    obtain rfl : i = p.length := by omega
    have hE : List.replicate (p.length - p.length) 0 ++ (p.take p.length).reverse = p.reverse := by simp
    refine wl_exit ?_
    refine then_e (then_e (blk_e (then_n (wl_seq (wl_reg (mv (asg ?_)))))))
    refine st_end nfc_mirror_0 ?_
    refine then_n (wl_ret ?_)
    rw [← hE]
    exact ret1f [7] rfl rfl (imm_refm ratE rfl rfl (by simp))
theorem nfc_FPart1_0 {p : Prop} (h : p := by (try simp only [e1, e2, e3, e4, p1, p2, p3, q1, q2, q3, l1, t0, t1, r1, r2, r3, r4, Nat.zero_add, Nat.reduceMul, Nat.reduceAdd, b1, b2, b3, b4, b5, b6, i1, i2, i3, i4, i5, i6, Nat.reduceBEq, dfq, r1r, kills_map ratE, ratL_kill, spL_kill, LV.kill, kills]); exact rfl) : p := h
namespace H_c_FPart1
theorem om {p : Prop} (h : p := by first | (simp only [e1, e2, e3, e4, p1, p2, p3, q1, q2, q3, l1, t0, t1, r1, r2, r3, r4, Nat.zero_add, Nat.reduceMul, Nat.reduceAdd, b1, b2, b3, b4, b5, b6, i1, i2, i3, i4, i5, i6, Nat.reduceBEq, dfq, r1r, kills_map ratE, ratL_kill, spL_kill, LV.kill, kills]; omega) | omega) : p := h
end H_c_FPart1
open H_c_FPart1 in
set_option maxHeartbeats 1000000 in
set_option maxRecDepth 100000 in
theorem c_FPart1 (p : List Rat) (a b : Rat) (hab : rl a + rl b ≤ 1073741824) (ha : a ≠ 1) (g : HS p a ∧ HS (hiP p a) ((b - a) / (1 - a))) : CallP Try.prog 26 [.list 3 (p.map ratL), ratL a, ratL b] (.list 3 ((loP (hiP p a) ((b - a) / (1 - a))).map ratL)) := by
  have hr1 := rl_sub 1 a
  have hr2 := rl_sub b a
  have hrr : rl 1 = 1 := rfl
  refine callP_of fol Try.func26 rfl (by decide +kernel) (by decide +kernel) (Nat.le_of_ble_eq_true rfl) tm0 ?_
  refine wl_seq (wl_reg ?_)
  refine st_alloc rfl rfl (.boxE ratE rfl) ?_
  refine st_alloc rfl rfl (.boxE ratE rfl) ?_
  refine asg ?_
  refine st_end nfc_FPart1_0 ?_
  refine then_n (wl_seq (wl_reg ?_))
  refine st_callP rfl (.cons im0 .nil) (c_FInt 1 (by decide) (by decide)) ?_
  refine st_alloc rfl rfl (.alloc Z34a) ?_
  refine st_store rfl sr34 ?_
  refine st_end nfc_FPart1_0 ?_
  refine then_n (wl_seq (wl_seq (wl_reg ?_)))
  refine st_pure rfl ld34 ?_
  refine st_pure rfl ld34 ?_
  refine st_callP rfl (.cons im0 (.cons im0 .nil)) (c_FSame a 1 (by omega)) ?_
  refine st_end nfc_FPart1_0 ?_
  refine then_n ?_
  refine wl_cond rfl (fun h14 => ?_) (fun h14 => ?_)
  · skip
    have h14r := h14
    try simp only [hce, l1, t0, t1, dflt, val_dig] at h14
    exact absurd h14 ha
  · skip
    have h14r := h14
    try simp only [hce, l1, t0, t1, dflt, val_dig] at h14
    refine wl_skip (then_n (wl_seq (wl_reg (mv ?_))))
    refine st_pure rfl ld34 ?_
    refine st_callP rfl (.cons im0 (.cons im0 .nil)) (c_FSplit p a g.1) ?_
    refine mv ?_
    refine st_pure rfl (.extract rfl rfl nt0) ?_
    refine st_pure rfl (.extract rfl rfl nt0) ?_
    refine asg (asg ?_)
    refine st_end nfc_FPart1_0 ?_
    refine then_n (wl_seq ?_)
    refine wl_regD 13 (by decide +kernel) ?_
    refine mv ?_
    refine st_pure rfl ld34 ?_
    refine st_pure rfl ld34 ?_
    refine st_callP rfl (.cons im0 (.cons im0 .nil)) (c_FRSub b a (by omega)) ?_
    refine st_pure rfl ld34 ?_
    refine st_pure rfl ld34 ?_
    refine st_callP rfl (.cons im0 (.cons im0 .nil)) (c_FRSub 1 a (by omega)) ?_
    refine st_callP rfl (.cons im0 (.cons im0 .nil)) (c_FOver (b - a) (1 - a) (by omega)) ?_
    refine st_callP rfl (.cons im0 (.cons im0 .nil)) (c_FSplit (hiP p a) ((b - a) / (1 - a)) g.2) ?_
    refine mv ?_
    refine st_pure rfl (.extract rfl rfl nt0) ?_
    refine st_pure rfl (.extract rfl rfl nt0) ?_
    refine asg ?_
    refine st_end nfc_FPart1_0 ?_
    refine then_n (wl_seq (wl_reg (mv (asg ?_))))
    refine st_end nfc_FPart1_0 ?_
    refine then_n (wl_ret ?_)
    exact ret1 rfl (by first | exact .pure rfl | exact .pure (limL_pure _) | exact .pure (magL_pure _) | exact .pure (ratE.pure _) | exact .pure (pure_lst u32E _ _) | exact .pure (pure_lst ratE _ _))
theorem nfc_FPart_0 {p : Prop} (h : p := by (try simp only [e1, e2, e3, e4, p1, p2, p3, q1, q2, q3, l1, t0, t1, r1, r2, r3, r4, Nat.zero_add, Nat.reduceMul, Nat.reduceAdd, b1, b2, b3, b4, b5, b6, i1, i2, i3, i4, i5, i6, Nat.reduceBEq, dfq, r1r, kills_map ratE, ratL_kill, spL_kill, LV.kill, kills]); exact rfl) : p := h
namespace H_c_FPart
theorem om {p : Prop} (h : p := by first | (simp only [e1, e2, e3, e4, p1, p2, p3, q1, q2, q3, l1, t0, t1, r1, r2, r3, r4, Nat.zero_add, Nat.reduceMul, Nat.reduceAdd, b1, b2, b3, b4, b5, b6, i1, i2, i3, i4, i5, i6, Nat.reduceBEq, dfq, r1r, kills_map ratE, ratL_kill, spL_kill, LV.kill, kills]; omega) | omega) : p := h
end H_c_FPart
open H_c_FPart in
set_option maxHeartbeats 2000000 in
set_option maxRecDepth 100000 in
theorem c_FPart (p : List Rat) (a b : Rat) (hl : p.length ≤ 1048576) (hab : rl a + rl b ≤ 536870912) (g1 : a ≠ 1 → HS p a ∧ HS (hiP p a) ((b - a) / (1 - a))) (g2 : a = 1 → HS p.reverse 0 ∧ HS (hiP p.reverse 0) (((1 - b) - 0) / (1 - 0))) : CallP Try.prog 26 [.list 3 (p.map ratL), ratL a, ratL b] (.list 3 ((partF p a b).map ratL)) := by
  have hr1 := rl_sub 1 a
  have hr2 := rl_sub b a
  have hr3 := rl_sub 1 b
  have hrr : rl 1 = 1 := rfl
  have hr0 : rl 0 = 1 := rfl
  refine callP_of fol Try.func26 rfl (by decide +kernel) (by decide +kernel) (Nat.le_of_ble_eq_true rfl) tm0 ?_
  refine wl_seq (wl_reg ?_)
  refine st_alloc rfl rfl (.boxE ratE rfl) ?_
  refine st_alloc rfl rfl (.boxE ratE rfl) ?_
  refine asg ?_
  refine st_end nfc_FPart_0 ?_
  refine then_n (wl_seq (wl_reg ?_))
  refine st_callP rfl (.cons im0 .nil) (c_FInt 1 (by decide) (by decide)) ?_
  refine st_alloc rfl rfl (.alloc Z34a) ?_
  refine st_store rfl sr34 ?_
  refine st_end nfc_FPart_0 ?_
  refine then_n (wl_seq (wl_seq (wl_reg ?_)))
  refine st_pure rfl ld34 ?_
  refine st_pure rfl ld34 ?_
  refine st_callP rfl (.cons im0 (.cons im0 .nil)) (c_FSame a 1 (by omega)) ?_
  refine st_end nfc_FPart_0 ?_
  refine then_n ?_
  refine wl_cond rfl (fun h14 => ?_) (fun h14 => ?_)
  · skip
    have h14r := h14
    try simp only [hce, l1, t0, t1, dflt, val_dig] at h14
    have hE : partF p a b = loP (hiP p.reverse 0) ((1 - b - 0) / (1 - 0)) := by rw [partF, if_pos h14]
    refine wl_seq ?_
    refine wl_regD 8 (by decide +kernel) ?_
    refine mv ?_
    refine st_callP rfl (.cons im0 .nil) (c_mirror p hl) ?_
    refine st_pure rfl (.build0 SL34 Z34a) ?_
    refine st_pure rfl ld34 ?_
    refine st_pure rfl ld34 ?_
    refine st_callP rfl (.cons im0 (.cons im0 .nil)) (c_FRSub 1 b (by omega)) ?_
    refine st_callP rfl (.cons im0 (.cons im0 (.cons im0 .nil))) (c_FPart1 p.reverse 0 (1 - b) (by omega) (by decide) (g2 h14)) ?_
    refine asg ?_
    refine st_end nfc_FPart_0 ?_
    refine then_n (wl_seq (wl_reg (mv (asg ?_))))
    refine st_end nfc_FPart_0 ?_
    refine then_n (wl_ret (then_r ?_))
    rw [hE]
    exact ret1 rfl (by first | exact .pure rfl | exact .pure (limL_pure _) | exact .pure (magL_pure _) | exact .pure (ratE.pure _) | exact .pure (pure_lst u32E _ _) | exact .pure (pure_lst ratE _ _))
  · skip
    have h14r := h14
    try simp only [hce, l1, t0, t1, dflt, val_dig] at h14
    have hE : partF p a b = loP (hiP p a) ((b - a) / (1 - a)) := by rw [partF, if_neg h14]
    refine wl_skip (then_n (wl_seq (wl_reg (mv ?_))))
    refine st_pure rfl ld34 ?_
    refine st_callP rfl (.cons im0 (.cons im0 .nil)) (c_FSplit p a (g1 h14).1) ?_
    refine mv ?_
    refine st_pure rfl (.extract rfl rfl nt0) ?_
    refine st_pure rfl (.extract rfl rfl nt0) ?_
    refine asg (asg ?_)
    refine st_end nfc_FPart_0 ?_
    refine then_n (wl_seq ?_)
    refine wl_regD 13 (by decide +kernel) ?_
    refine mv ?_
    refine st_pure rfl ld34 ?_
    refine st_pure rfl ld34 ?_
    refine st_callP rfl (.cons im0 (.cons im0 .nil)) (c_FRSub b a (by omega)) ?_
    refine st_pure rfl ld34 ?_
    refine st_pure rfl ld34 ?_
    refine st_callP rfl (.cons im0 (.cons im0 .nil)) (c_FRSub 1 a (by omega)) ?_
    refine st_callP rfl (.cons im0 (.cons im0 .nil)) (c_FOver (b - a) (1 - a) (by omega)) ?_
    refine st_callP rfl (.cons im0 (.cons im0 .nil)) (c_FSplit (hiP p a) ((b - a) / (1 - a)) (g1 h14).2) ?_
    refine mv ?_
    refine st_pure rfl (.extract rfl rfl nt0) ?_
    refine st_pure rfl (.extract rfl rfl nt0) ?_
    refine asg ?_
    refine st_end nfc_FPart_0 ?_
    refine then_n (wl_seq (wl_reg (mv (asg ?_))))
    refine st_end nfc_FPart_0 ?_
    refine then_n (wl_ret ?_)
    rw [hE]
    exact ret1 rfl (by first | exact .pure rfl | exact .pure (limL_pure _) | exact .pure (magL_pure _) | exact .pure (ratE.pure _) | exact .pure (pure_lst u32E _ _) | exact .pure (pure_lst ratE _ _))
end Go.Proofs.Ythhdcfhaldcheaa
