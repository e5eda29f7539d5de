/- Binomial coefficients, products. -/
import Derived.Test.YthhdcfhaldcheaaL1
set_option linter.unusedVariables false
set_option linter.unusedSimpArgs false
namespace Go.Proofs.Ythhdcfhaldcheaa
open Go.Lg
/-! ### binomials -/
def chs : Nat → Nat → Nat
  | _, 0 => 1
  | 0, _ + 1 => 0
  | n + 1, k + 1 => chs n k + chs n (k + 1)
theorem chs_gt : ∀ {n k : Nat}, n < k → chs n k = 0
  | 0, k + 1, _ => rfl
  | n + 1, k + 1, h => by rw [chs, chs_gt (by omega), chs_gt (by omega)]
theorem chs_self : ∀ n, chs n n = 1
  | 0 => rfl
  | n + 1 => by rw [chs, chs_self n, chs_gt (by omega)]
theorem chs_zero (n : Nat) : chs n 0 = 1 := by cases n <;> rfl
theorem chs_le : ∀ n k, chs n k ≤ 2 ^ n
  | n, 0 => by rw [chs_zero]; exact Nat.pow_pos (by omega)
  | 0, k + 1 => by simp [chs]
  | n + 1, k + 1 => by
      have h1 := chs_le n k
      have h2 := chs_le n (k + 1)
      rw [chs, Nat.pow_succ]; omega
theorem chs_pos : ∀ {n k : Nat}, k ≤ n → 0 < chs n k
  | n, 0, _ => by rw [chs_zero]; omega
  | n + 1, k + 1, h => by have := chs_pos (n := n) (k := k) (by omega); rw [chs]; omega
theorem chs_40 {n : Nat} (k : Nat) (h : n ≤ 40) : chs n k ≤ 1099511627776 := Nat.le_trans (chs_le n k) (Nat.pow_le_pow_right (n := 2) (by omega) h)
def rowI (n : Nat) : List Int := (List.range (n + 1)).map fun x => (chs n x : Int)
def chR (n : Nat) : List Rat := (List.range (n + 1)).map fun x => ((chs n x : Int) : Rat)
theorem rowI_len (n : Nat) : (rowI n).length = n + 1 := by simp [rowI]
theorem chR_len (n : Nat) : (chR n).length = n + 1 := by simp [chR]
theorem rowI_get {n x : Nat} (h : x ≤ n) : (rowI n).getD x 0 = (chs n x : Int) := by
  rw [List.getD_eq_getElem?_getD, List.getElem?_eq_getElem (by rw [rowI_len]; omega)]; simp [rowI]
theorem chR_get {n x : Nat} (h : x ≤ n) : (chR n).getD x 0 = ((chs n x : Int) : Rat) := by
  rw [List.getD_eq_getElem?_getD, List.getElem?_eq_getElem (by rw [chR_len]; omega)]; simp [chR]
theorem extI {p q : List Int} (hl : p.length = q.length) (h : ∀ i, i < p.length → p.getD i 0 = q.getD i 0) : p = q := by
  apply List.ext_getElem hl
  intro i h1 h2
  have := h i h1
  rw [List.getD_eq_getElem?_getD, List.getD_eq_getElem?_getD, List.getElem?_eq_getElem h1, List.getElem?_eq_getElem h2] at this
  exact this
theorem set_getI (o : List Int) (i x : Nat) (v : Int) (hi : i < o.length) : (o.set i v).getD x 0 = if x = i then v else o.getD x 0 := by
  rw [List.getD_eq_getElem?_getD, List.getD_eq_getElem?_getD, List.getElem?_set]
  by_cases h : i = x
  · subst h; simp [hi]
  · rw [if_neg h, if_neg (fun e => h e.symm)]
/-- the row in the middle of a step -/
def PasC (k i : Nat) (o : List Int) : Prop := o.length = k + 2 ∧ ∀ x, x < k + 2 → o.getD x 0 = if i < x ∧ x ≤ k then (chs (k + 1) x : Int) else if x ≤ k then (chs k x : Int) else 1
theorem pas_init (k : Nat) : PasC k k (rowI k ++ [1]) := by
  refine ⟨by simp [rowI_len], fun x hx => ?_⟩
  rw [if_neg (by omega)]
  by_cases h : x ≤ k
  · rw [if_pos h, getD_app1 _ _ _ (by rw [rowI_len]; omega), rowI_get h]
  · rw [if_neg h, getD_app2 _ _ _ (by rw [rowI_len]; omega), rowI_len, show x - (k + 1) = 0 by omega]; rfl
theorem pas_step {k i : Nat} {o : List Int} (h : PasC k (i + 1) o) (hi : i + 1 ≤ k) : PasC k i (o.set (i + 1) (o.getD (i + 1) 0 + o.getD i 0)) := by
  obtain ⟨h1, h2⟩ := h
  refine ⟨by simp [h1], fun x hx => ?_⟩
  rw [set_getI _ _ _ _ (by omega)]
  by_cases hxi : x = i + 1
  · subst hxi
    rw [if_pos rfl, if_pos ⟨by omega, hi⟩, h2 _ (by omega), h2 _ (by omega), if_neg (by omega), if_pos (by omega), if_neg (by omega), if_pos (by omega), chs]
    simp; omega
  · rw [if_neg hxi, h2 x hx]
    by_cases h3 : i + 1 < x ∧ x ≤ k
    · rw [if_pos h3, if_pos ⟨by omega, h3.2⟩]
    · rw [if_neg h3, if_neg (show ¬ (i < x ∧ x ≤ k) by omega)]
theorem pas_end {k : Nat} {o : List Int} (h : PasC k 0 o) : o = rowI (k + 1) := by
  obtain ⟨h1, h2⟩ := h
  refine extI (by rw [rowI_len, h1]) (fun x hx => ?_)
  rw [h2 x (by omega), rowI_get (by omega)]
  by_cases h3 : 0 < x ∧ x ≤ k
  · rw [if_pos h3]
  · rw [if_neg h3]
    by_cases h4 : x ≤ k
    · obtain rfl : x = 0 := by omega
      rw [if_pos h4, chs_zero, chs_zero]
    · obtain rfl : x = k + 1 := by omega
      rw [if_neg h4, chs_self]; rfl
theorem pas_bd {k i : Nat} {o : List Int} (h : PasC k i o) (hk : k ≤ 39) {x : Nat} (hx : x < k + 2) : 0 ≤ o.getD x 0 ∧ o.getD x 0 ≤ 1099511627776 := by
  rw [h.2 x hx]
  have h1 := chs_40 (n := k + 1) x (by omega)
  have h2 := chs_40 (n := k) x (by omega)
  split
  · omega
  · split <;> omega
theorem chR_rl {n : Nat} (hn : n ≤ 40) : ∀ x ∈ chR n, rl x ≤ 2 := by
  intro x hx
  simp only [chR, List.mem_map] at hx
  obtain ⟨k, _, rfl⟩ := hx
  have h := chs_40 k hn
  rw [← qv_int]
  have := rl_qv (k := 2) (decide ((chs n k : Int) < 0)) (n := (chs n k : Int).natAbs) (d := 1) (by omega) (by decide)
  omega
theorem set_takeR {o p : List Rat} {k : Nat} {v : Rat} (hk : k < p.length) (hol : o.length = p.length) (ht : o.take k = p.take k) (hv : v = p.getD k 0) : (o.set k v).take (k + 1) = p.take (k + 1) := by subst hv; exact cp_take hk hol ht
theorem rtake (n : Nat) (f : Int → LV) : ((rowI n).map f).take (n + 1) = (rowI n).map f := by rw [List.take_of_length_le (by simp [rowI_len])]
theorem nfc_choose_0 {p : Prop} (h : p := by (try simp only [e1, e2, e3, e4, p1, p2, p3, q1, q2, q3, l1, t0, t1, r1, r2, r3, r4, Nat.zero_add, Nat.reduceMul, Nat.reduceAdd, b1, b2, b3, b4, b5, b6, i1, i2, i3, i4, i5, i6, Nat.reduceBEq, dfi, dfq, rtake, List.append_nil, rowI_len, ek1, ek2, egr, take_map_len, map_snoc, len_snoc, List.length_cons, List.length_nil, kills_map i64E, kills_map ratE, LV.kill, kills]); exact rfl) : p := h
theorem clc_choose_1 {p : Prop} (h : p := by first | rfl | (simp only [e1, e2, e3, e4, p1, p2, p3, q1, q2, q3, l1, t0, t1, r1, r2, r3, r4, Nat.zero_add, Nat.reduceMul, Nat.reduceAdd, b1, b2, b3, b4, b5, b6, i1, i2, i3, i4, i5, i6, Nat.reduceBEq, dfi, dfq, rtake, List.append_nil, rowI_len, ek1, ek2, egr, take_map_len, map_snoc, len_snoc, List.length_cons, List.length_nil, kills_map i64E, kills_map ratE, LV.kill, kills]; done) | (simp only [e1, e2, e3, e4, p1, p2, p3, q1, q2, q3, l1, t0, t1, r1, r2, r3, r4, Nat.zero_add, Nat.reduceMul, Nat.reduceAdd, b1, b2, b3, b4, b5, b6, i1, i2, i3, i4, i5, i6, Nat.reduceBEq, dfi, dfq, rtake, List.append_nil, rowI_len, ek1, ek2, egr, take_map_len, map_snoc, len_snoc, List.length_cons, List.length_nil, kills_map i64E, kills_map ratE, LV.kill, kills]; rfl) | (simp only [e1, e2, e3, e4, p1, p2, p3, q1, q2, q3, l1, t0, t1, r1, r2, r3, r4, Nat.zero_add, Nat.reduceMul, Nat.reduceAdd, b1, b2, b3, b4, b5, b6, i1, i2, i3, i4, i5, i6, Nat.reduceBEq, dfi, dfq, rtake, List.append_nil, rowI_len, ek1, ek2, egr, take_map_len, map_snoc, len_snoc, List.length_cons, List.length_nil, kills_map i64E, kills_map ratE, LV.kill, kills]; congr 3 <;> omega) | (simp only [e1, e2, e3, e4, p1, p2, p3, q1, q2, q3, l1, t0, t1, r1, r2, r3, r4, Nat.zero_add, Nat.reduceMul, Nat.reduceAdd, b1, b2, b3, b4, b5, b6, i1, i2, i3, i4, i5, i6, Nat.reduceBEq, dfi, dfq, rtake, List.append_nil, rowI_len, ek1, ek2, egr, take_map_len, map_snoc, len_snoc, List.length_cons, List.length_nil, kills_map i64E, kills_map ratE, LV.kill, kills]; congr 2 <;> omega)) : p := h
theorem mlc_choose_2 {p : Prop} (h : p := by first | rfl | (simp only [e1, e2, e3, e4, p1, p2, p3, q1, q2, q3, l1, t0, t1, r1, r2, r3, r4, Nat.zero_add, Nat.reduceMul, Nat.reduceAdd, b1, b2, b3, b4, b5, b6, i1, i2, i3, i4, i5, i6, Nat.reduceBEq, dfi, dfq, rtake, List.append_nil, rowI_len, ek1, ek2, egr, take_map_len, map_snoc, len_snoc, List.length_cons, List.length_nil, kills_map i64E, kills_map ratE, LV.kill, kills]; done) | (simp only [e1, e2, e3, e4, p1, p2, p3, q1, q2, q3, l1, t0, t1, r1, r2, r3, r4, Nat.zero_add, Nat.reduceMul, Nat.reduceAdd, b1, b2, b3, b4, b5, b6, i1, i2, i3, i4, i5, i6, Nat.reduceBEq, dfi, dfq, rtake, List.append_nil, rowI_len, ek1, ek2, egr, take_map_len, map_snoc, len_snoc, List.length_cons, List.length_nil, kills_map i64E, kills_map ratE, LV.kill, kills]; rfl) | (simp only [e1, e2, e3, e4, p1, p2, p3, q1, q2, q3, l1, t0, t1, r1, r2, r3, r4, Nat.zero_add, Nat.reduceMul, Nat.reduceAdd, b1, b2, b3, b4, b5, b6, i1, i2, i3, i4, i5, i6, Nat.reduceBEq, dfi, dfq, rtake, List.append_nil, rowI_len, ek1, ek2, egr, take_map_len, map_snoc, len_snoc, List.length_cons, List.length_nil, kills_map i64E, kills_map ratE, LV.kill, kills]; congr 2 <;> omega)) : p := h
namespace H_c_choose
theorem om {p : Prop} (h : p := by first | (simp only [e1, e2, e3, e4, p1, p2, p3, q1, q2, q3, l1, t0, t1, r1, r2, r3, r4, Nat.zero_add, Nat.reduceMul, Nat.reduceAdd, b1, b2, b3, b4, b5, b6, i1, i2, i3, i4, i5, i6, Nat.reduceBEq, dfi, dfq, rtake, List.append_nil, rowI_len, ek1, ek2, egr, take_map_len, map_snoc, len_snoc, List.length_cons, List.length_nil, kills_map i64E, kills_map ratE, LV.kill, kills]; omega) | omega) : p := h
end H_c_choose
open H_c_choose in
set_option maxHeartbeats 4000000 in
set_option maxRecDepth 100000 in
theorem c_choose (n : Nat) (hn : n ≤ 40) : CallP Try.prog 71 [nI64 n] (.list 3 ((chR n).map ratL)) := by
  refine callP_of fol Try.func71 rfl (by decide +kernel) (by decide +kernel) (Nat.le_of_ble_eq_true rfl) tm0 ?_
  have ek1 : True := trivial
  have ek2 : True := trivial
  have egr : True := trivial
  refine wl_seq (wl_reg (asg ?_))
  refine st_end nfc_choose_0 ?_
  refine then_n (wl_seq (wl_reg ?_))
  refine st_alloc rfl rfl (.lit1 i64E Try.underlying95 Z2 T2 rfl (by decide) (by decide)) ?_
  refine asg ?_
  refine st_end nfc_choose_0 ?_
  refine then_n (wl_seq (wl_seq (wl_reg (mv (mv ?_)))))
  refine st_end nfc_choose_0 ?_
  refine then_n (wl_block ?_)
  refine wl_weak (Weak.mv (t := 3) (b := 8) 14 (by decide) (by decide) (by decide) rfl rfl rfl) ?_
  refine wl_loop (α := Nat) (fun st L => ((((St.mk L.slot (hp [(14, ⟨1, (rowI st).map i64L, true⟩)])).put (some 3) (.ref 14 1 0 (st + 1))).put (some 9) (nI64 n)).put (some 10) (nI64 st))) (fun st => st ≤ n) (fun st => n - st) 0 (show (0) ≤ n from Nat.zero_le _) ⟨_, Weak.of_eq (put_id' (put_id' (put_id' (mk_id' clc_choose_1) clc_choose_1) clc_choose_1) clc_choose_1)⟩ ?_
  rintro k L1 hLC
  have hk : k ≤ n := hLC
  clear hLC
  show wpL _ _ _ ((((St.mk L1.slot (hp [(14, ⟨1, (rowI k).map i64L, true⟩)])).put (some 3) (.ref 14 1 0 (k + 1))).put (some 9) (nI64 n)).put (some 10) (nI64 k))
  refine wl_seq (wl_reg ?_)
  refine st_pure rfl (.bin rfl rfl rfl) ?_
  refine st_end nfc_choose_0 ?_
  refine then_n (wl_seq ?_)
  refine wl_cond rfl (fun h11 => ?_) (fun h11 => ?_)
  · skip
    have h11r := h11
    try simp only [hce, l1, t0, t1, dflt, val_dig] at h11
    have hkn : k < n := by omega
    have ek2 : ((((k + 1 + 1 : Nat)) : Int) - 2) = (k : Int) := by omega
    refine wl_skip (then_n (wl_seq (wl_block (wl_seq (wl_reg (mv ?_))))))
    refine st_alloc rfl rfl (.lit1 i64E Try.underlying95 Z2 T2 rfl (by decide) (by decide)) ?_
    refine st_store rfl (.app (news := [i64L 1]) rfl rfl rfl rfl rfl (by simp [rowI_len]) (.inl rfl) (by decide) Try.underlying95 Try.underlying95 Z2 T2 rfl B2 (.inl ⟨13, 0, _, rfl, by decide, rfl, rfl, by simp, rfl, rfl⟩) (by simp; omega) (by simp; omega) (by decide)) ?_
    refine asg ?_
    refine st_end nfc_choose_0 ?_
    refine then_n (wl_seq ?_)
    refine wl_regW (Weak.kill _ 13) ?_
    refine mv ?_
    refine st_pure rfl ln95 ?_
    refine st_pure rfl (.bin rfl rfl (sub64 om om)) ?_
    refine asg ?_
    refine st_end nfc_choose_0 ?_
    refine then_n (wl_block ?_)
    refine wl_loop (α := Nat × List Int) (fun st L => (((((St.mk L.slot (hp [(14, ⟨1, st.2.map i64L, true⟩)])).put (some 3) (.ref 14 1 0 (k + 1 + 1))).put (some 4) (nI64 st.1)).put (some 9) (nI64 n)).put (some 10) (nI64 k))) (fun st => st.1 ≤ k ∧ PasC k st.1 st.2) (fun st => st.1) (k, (rowI k ++ [1])) (show (k) ≤ k ∧ PasC k (k) ((rowI k ++ [1])) from ⟨Nat.le_refl _, pas_init k⟩) ⟨_, Weak.of_eq (put_id' (put_id' (put_id' (put_id' (mk_id' clc_choose_1) clc_choose_1) clc_choose_1) clc_choose_1) clc_choose_1)⟩ ?_
    rintro ⟨i, o⟩ L2 hLC
    obtain ⟨hi, hP⟩ : i ≤ k ∧ PasC k i o := hLC
    show wpL _ _ _ (((((St.mk L2.slot (hp [(14, ⟨1, o.map i64L, true⟩)])).put (some 3) (.ref 14 1 0 (k + 1 + 1))).put (some 4) (nI64 i)).put (some 9) (nI64 n)).put (some 10) (nI64 k))
    refine wl_seq (wl_seq (wl_reg (mv ?_)))
    refine st_pure rfl (.bin rfl rfl rfl) ?_
    refine st_end nfc_choose_0 ?_
    refine then_n ?_
    refine wl_cond rfl (fun h19 => ?_) (fun h19 => ?_)
    · skip
      have h19r := h19
      try simp only [hce, l1, t0, t1, dflt, val_dig] at h19
      obtain ⟨j, rfl⟩ : ∃ j, i = j + 1 := ⟨i - 1, by omega⟩
      have ek1 : (((j + 1 : Nat) : Int) - 1) = (j : Int) := by omega
      have hol := hP.1
      have hb1 := pas_bd hP (by omega) (x := j + 1) (by omega)
      have hb2 := pas_bd hP (by omega) (x := j) (by omega)
      refine wl_skip (then_n (wl_seq (wl_block ?_)))
      refine wl_regD 11 (by decide +kernel) ?_
      refine mv (mv ?_)
      refine st_pure rfl ix95 ?_
      refine st_pure rfl ld2 ?_
      refine mv (mv ?_)
      refine st_pure rfl (.bin rfl rfl (sub64 om om)) ?_
      refine st_pure rfl ix95 ?_
      refine st_pure rfl ld2 ?_
      refine st_pure rfl (.bin rfl rfl (add64 om om)) ?_
      refine st_pure rfl ix95 ?_
      refine st_store rfl (by exact .storeM i64E rfl rfl rfl T2 om) ?_
      refine st_end nfc_choose_0 ?_
      refine blk_n (then_n (wl_reg (mv ?_)))
      refine st_pure rfl (.bin rfl rfl (sub64 om om)) ?_
      refine asg ?_
      refine st_end nfc_choose_0 ?_
      refine then_n ?_
      exact ⟨(j, o.set (j + 1) (o.getD (j + 1) 0 + o.getD j 0)), _, (show (j) ≤ k ∧ PasC k (j) (o.set (j + 1) (o.getD (j + 1) 0 + o.getD j 0)) from ⟨by omega, pas_step hP hi⟩), (show (j) < j + 1 from by omega), Weak.of_eq (put_id' (put_id' (put_id' (put_id' (mk_id' clc_choose_1) clc_choose_1) clc_choose_1) clc_choose_1) clc_choose_1)⟩
    · skip
      have h19r := h19
      try simp only [hce, l1, t0, t1, dflt, val_dig] at h19
      obtain rfl : i = 0 := by omega
      have hE := pas_end hP
      subst hE
      refine wl_exit ?_
      refine then_e (then_e (blk_e (blk_n (then_n (wl_reg ?_)))))
      refine st_pure rfl (.bin rfl rfl (add64 om om)) ?_
      refine mv ?_
      refine st_end nfc_choose_0 ?_
      refine then_n ?_
      exact ⟨k + 1, _, (show (k + 1) ≤ n from by omega), (show n - (k + 1) < n - k from by omega), Weak.of_eq (put_id' (put_id' (put_id' (mk_id' clc_choose_1) clc_choose_1) clc_choose_1) clc_choose_1)⟩
  · skip
    have h11r := h11
    try simp only [hce, l1, t0, t1, dflt, val_dig] at h11
    obtain rfl : n = k := by omega
    refine wl_exit ?_
    refine then_e (then_e (blk_e (then_n (wl_seq (wl_reg (mv ?_))))))
    refine st_pure rfl ln95 ?_
    refine st_alloc rfl rfl (.makeM (n := n + 1) (m := n + 1) ratE Try.underlying25 Z34 T34 B34 mlc_choose_2 mlc_choose_2 om om om) ?_
    refine asg ?_
    refine st_end nfc_choose_0 ?_
    refine then_n (wl_seq (wl_seq (wl_reg (mv ?_))))
    refine st_pure rfl ln95 ?_
    refine mv ?_
    refine st_end nfc_choose_0 ?_
    refine then_n (wl_block ?_)
    refine wl_loop (α := Nat × List Rat) (fun st L => (((((St.mk L.slot (hp [(14, ⟨1, (rowI n).map i64L, true⟩), (36, ⟨3, st.2.map ratL, true⟩)])).put (some 5) (.ref 36 3 0 (n + 1))).put (some 37) (.ref 14 1 0 (n + 1))).put (some 38) (nI64 (n + 1))).put (some 39) (nI64 st.1))) (fun st => st.1 ≤ n + 1 ∧ st.2.length = n + 1 ∧ st.2.take st.1 = (chR n).take st.1) (fun st => n + 1 - st.1) (0, List.replicate (n + 1) 0) (show (0) ≤ n + 1 ∧ (List.replicate (n + 1) 0).length = n + 1 ∧ (List.replicate (n + 1) 0).take (0) = (chR n).take (0) from ⟨Nat.zero_le _, by simp, rfl⟩) ⟨_, Weak.of_eq (put_id' (put_id' (put_id' (put_id' (mk_id' clc_choose_1) clc_choose_1) clc_choose_1) clc_choose_1) clc_choose_1)⟩ ?_
    rintro ⟨i, w⟩ L3 hLC
    obtain ⟨hi, hwl, hwt⟩ : i ≤ n + 1 ∧ w.length = n + 1 ∧ w.take i = (chR n).take i := hLC
    show wpL _ _ _ (((((St.mk L3.slot (hp [(14, ⟨1, (rowI n).map i64L, true⟩), (36, ⟨3, w.map ratL, true⟩)])).put (some 5) (.ref 36 3 0 (n + 1))).put (some 37) (.ref 14 1 0 (n + 1))).put (some 38) (nI64 (n + 1))).put (some 39) (nI64 i))
    refine wl_seq (wl_reg ?_)
    refine st_pure rfl (.bin rfl rfl rfl) ?_
    refine st_end nfc_choose_0 ?_
    refine then_n (wl_seq ?_)
    refine wl_cond rfl (fun h40 => ?_) (fun h40 => ?_)
    · skip
      have h40r := h40
      try simp only [hce, l1, t0, t1, dflt, val_dig] at h40
      have hin : i ≤ n := by omega
      have egr := rowI_get hin
      have hcb := chs_40 i hn
      refine wl_skip (then_n (wl_seq (wl_block (wl_seq (wl_reg (mv ?_))))))
      refine st_pure rfl ix95 ?_
      refine st_pure rfl ld2 ?_
      refine asg (asg ?_)
      refine st_end nfc_choose_0 ?_
      refine then_n (wl_reg (mv (mv (mv ?_))))
      refine st_callP rfl (.cons im0 .nil) (c_RInt (chs n i : Int) (by omega) (by omega)) ?_
      refine st_pure rfl ix25 ?_
      refine st_store rfl sr34 ?_
      refine st_end nfc_choose_0 ?_
      refine blk_n (then_n (wl_reg ?_))
      refine st_pure rfl (.bin rfl rfl (add64 om om)) ?_
      refine mv ?_
      refine st_end nfc_choose_0 ?_
      refine then_n ?_
      exact ⟨(i + 1, w.set i ((chs n i : Int) : Rat)), _, (show (i + 1) ≤ n + 1 ∧ (w.set i ((chs n i : Int) : Rat)).length = n + 1 ∧ (w.set i ((chs n i : Int) : Rat)).take (i + 1) = (chR n).take (i + 1) from ⟨by omega, by simp [hwl], set_takeR (by rw [chR_len]; omega) (by rw [chR_len, hwl]) hwt (chR_get (by omega)).symm⟩), (show n + 1 - (i + 1) < n + 1 - i from by omega), Weak.of_eq (put_id' (put_id' (put_id' (put_id' (mk_id' clc_choose_1) clc_choose_1) clc_choose_1) clc_choose_1) clc_choose_1)⟩
    · skip
      have h40r := h40
      try simp only [hce, l1, t0, t1, dflt, val_dig] at h40
      obtain rfl : i = n + 1 := by omega
      have hE : w = chR n := by
        rw [List.take_of_length_le (by omega), List.take_of_length_le (by rw [chR_len]; omega)] at hwt
        exact hwt
      subst hE
      refine wl_exit ?_
      refine then_e (then_e (blk_e (then_n (wl_seq (wl_reg (mv (asg ?_)))))))
      refine st_end nfc_choose_0 ?_
      refine then_n (wl_ret ?_)
      exact ret1f [36] rfl rfl (imm_refm ratE rfl rfl (by rw [chR_len]))
end Go.Proofs.Ythhdcfhaldcheaa
