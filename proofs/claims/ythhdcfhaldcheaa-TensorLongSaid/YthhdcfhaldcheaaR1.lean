/- The reference magnitudes: trimming, comparing, sums, differences, products. -/
import Derived.Test.YthhdcfhaldcheaaN11
set_option linter.unusedVariables false
set_option linter.unusedSimpArgs false
namespace Go.Proofs.Ythhdcfhaldcheaa
open Go.Lg
theorem dig_of {o : List Nat} {N : Nat} (hL : Lim o) (hv : val o = N) (h : o.length = 0 ∨ 4294967296 ^ (o.length - 1) ≤ N) : o = dig N := by
  have h1 : (dig N).length ≤ o.length := by rw [← hv]; exact len_trim_le hL
  have h2 : o.length ≤ (dig N).length := by
    rcases h with h | h
    · omega
    · rcases Nat.lt_or_ge (dig N).length o.length with hlt | hge
      · have := dig_length_ge (n := N) (k := o.length - 1) (by omega)
        omega
      · exact hge
  have e1 := padL_eq hL rfl
  have e2 := padL_eq (lim_dig N) rfl
  rw [e1, e2, val_dig, hv]
  congr 1; omega
theorem dig_is2 {m : Nat} (h : (dig m).length = 2) : m = (dig m).getD 1 0 * 4294967296 + (dig m).getD 0 0 := by
  have e := val_dig m
  generalize dig m = l at h e
  match l, h with
  | [x, y], _ => rw [val_two] at e; simp; omega
theorem orC {a b : Nat} (hb : b < 4294967296) (hx : a < 4294967296) : binI .or .u64 (b : Nat) ((a * 4294967296 : Nat) : Int) = some (.int .u64 ((a * 4294967296 + b : Nat) : Int)) := orV (s := 32) hb (by omega)
theorem tz0 : (0 : Int).toNat = 0 := rfl
theorem tz1 : (1 : Int).toNat = 1 := rfl
theorem wl_weak {P : Program} {L L0 : St} {c : Code} {Q : LEx → St → Prop} (hw : Weak L L0) (h : wpL P (.loop c) Q L0) : wpL P (.loop c) Q L := by
  obtain ⟨I, n0, ⟨L1, h1, h2⟩, h3⟩ := h
  exact ⟨I, n0, ⟨L1, hw.trans h1, h2⟩, h3⟩
theorem take_map_len {α β : Type} (f : α → β) (o : List α) : (o.map f).take o.length = o.map f := by rw [List.take_of_length_le (by simp)]
theorem map_snoc {α β : Type} (f : α → β) (o : List α) (x : α) : o.map f ++ [f x] = (o ++ [x]).map f := by simp
theorem len_snoc {α : Type} (o : List α) (x : α) : (o ++ [x]).length = o.length + 1 := by simp
theorem val_snoc (o : List Nat) (x : Nat) : val (o ++ [x]) = val o + 4294967296 ^ o.length * x := by rw [val_append]; simp [val]
theorem lim_snoc {o : List Nat} (h : Lim o) {x : Nat} (hx : x < 4294967296) : Lim (o ++ [x]) := lim_append h (fun y hy => by simp at hy; omega)
section
variable {m n c s : Nat} {o : List Nat}
theorem fadd_inv (hv : val o + 4294967296 ^ o.length * c = val ((dig m).take o.length) + val ((dig n).take o.length)) (hs : s = c + (dig m).getD o.length 0 + (dig n).getD o.length 0) :
    val (o ++ [s % 4294967296]) + 4294967296 ^ (o.length + 1) * (s / 4294967296) = val ((dig m).take (o.length + 1)) + val ((dig n).take (o.length + 1)) := by
  rw [val_snoc, val_take_succ', val_take_succ', Nat.pow_succ]
  have h1 := carry_step (4294967296 ^ o.length) s
  have h2 : 4294967296 ^ o.length * s = 4294967296 ^ o.length * c + 4294967296 ^ o.length * (dig m).getD o.length 0 + 4294967296 ^ o.length * (dig n).getD o.length 0 := by rw [hs, Nat.mul_add, Nat.mul_add]
  omega
theorem take_all {m k : Nat} (h : (dig m).length ≤ k) : val ((dig m).take k) = m := by rw [List.take_of_length_le h, val_dig]
theorem fadd_ge (hv : val o + 4294967296 ^ o.length * c = val ((dig m).take o.length) + val ((dig n).take o.length)) (hol : o.length ≤ max (dig m).length (dig n).length ∨ (o.length = max (dig m).length (dig n).length + 1 ∧ c = 0))
    (hg : o.length < max (dig m).length (dig n).length ∨ c ≠ 0) : o.length + 1 = max (dig m).length (dig n).length + 1 → 4294967296 ^ (o.length + 1 - 1) ≤ m + n := by
  intro h
  rw [take_all (by omega), take_all (by omega)] at hv
  have : 4294967296 ^ o.length * 1 ≤ 4294967296 ^ o.length * c := Nat.mul_le_mul_left _ (by omega)
  rw [Nat.add_sub_cancel]; omega
theorem len_pow {m : Nat} (h : 0 < (dig m).length) : 4294967296 ^ ((dig m).length - 1) ≤ m := by
  rcases Nat.lt_or_ge m (4294967296 ^ ((dig m).length - 1)) with h1 | h1
  · have := dig_length_le h1; omega
  · exact h1
theorem fadd_len (hc : c ≤ 1) (hol : o.length ≤ max (dig m).length (dig n).length ∨ (o.length = max (dig m).length (dig n).length + 1 ∧ c = 0)) (hg : o.length < max (dig m).length (dig n).length ∨ c ≠ 0)
    (hs : s = c + (dig m).getD o.length 0 + (dig n).getD o.length 0) : o.length + 1 ≤ max (dig m).length (dig n).length ∨ (o.length + 1 = max (dig m).length (dig n).length + 1 ∧ s / 4294967296 = 0) := by
  by_cases h : o.length < max (dig m).length (dig n).length
  · exact .inl h
  · rw [getD_ge (dig m) _ (by omega), getD_ge (dig n) _ (by omega)] at hs
    exact .inr ⟨by omega, by omega⟩
theorem fadd_end (hc : c ≤ 1) (hlo : Lim o) (hol : o.length ≤ max (dig m).length (dig n).length ∨ (o.length = max (dig m).length (dig n).length + 1 ∧ c = 0)) (hv : val o + 4294967296 ^ o.length * c = val ((dig m).take o.length) + val ((dig n).take o.length))
    (hge : o.length = max (dig m).length (dig n).length + 1 → 4294967296 ^ (o.length - 1) ≤ m + n) (hg : ¬ (o.length < max (dig m).length (dig n).length ∨ c ≠ 0)) : dig (m + n) = o := by
  rw [take_all (by omega), take_all (by omega), show c = 0 by omega] at hv
  refine (dig_of hlo (by omega) ?_).symm
  by_cases h0 : o.length = 0
  · exact .inl h0
  refine .inr ?_
  rcases hol with h | h
  · rcases Nat.le_total (dig m).length (dig n).length with hh | hh
    · have := len_pow (m := n) (by omega)
      rw [show o.length = (dig n).length by omega]; omega
    · have := len_pow (m := m) (by omega)
      rw [show o.length = (dig m).length by omega]; omega
  · exact hge h.1
end
theorem sub_invF {k br y2 br2 x : Nat} {a b o : List Nat} (hol : k < o.length) (hlo : Lim o) (hbr : br ≤ 1) (hxl : a.getD k 0 < 4294967296) (hyl : b.getD k 0 < 4294967296) (hv : val (o.take k) + val (b.take k) = val (a.take k) + 4294967296 ^ k * br) (hx : x = br + b.getD k 0)
    (h : (a.getD k 0 < x ∧ y2 = a.getD k 0 + 4294967296 ∧ br2 = 1) ∨ (x ≤ a.getD k 0 ∧ y2 = a.getD k 0 ∧ br2 = 0)) :
    x ≤ y2 ∧ br2 ≤ 1 ∧ Lim (o.set k ((y2 - x) % 4294967296)) ∧ val ((o.set k ((y2 - x) % 4294967296)).take (k + 1)) + val (b.take (k + 1)) = val (a.take (k + 1)) + 4294967296 ^ (k + 1) * br2 := by
  rcases h with ⟨h1, rfl, rfl⟩ | ⟨h1, rfl, rfl⟩
  · refine ⟨by omega, by omega, lim_set hlo _ _ (by omega), ?_⟩
    rw [show (a.getD k 0 + 4294967296 - x) % 4294967296 = 4294967296 + a.getD k 0 - x by omega]
    exact sub_inv1 hol hv hx h1 (by omega)
  · refine ⟨by omega, by omega, lim_set hlo _ _ (by omega), ?_⟩
    rw [Nat.mod_eq_of_lt (by omega : a.getD k 0 - x < 4294967296)]
    exact sub_inv0 hol hv hx h1
theorem nfc_FTrim_0 {p : Prop} (h : p := by (try simp only [e1, e2, e3, e4, p1, p2, p3, q1, q2, q3, l1, t0, t1, r1, r2, r3, r4, Nat.zero_add, Nat.reduceMul, Nat.reduceAdd, b1, b2, b3, b4, b5, b6, i1, i2, i3, i4, i5, i6, Nat.reduceBEq, ej, ek, dflt, List.take_zero, List.take_nil, List.nil_append, kills_map u32E, LV.kill]); exact rfl) : p := h
theorem clc_FTrim_1 {p : Prop} (h : p := by first | rfl | (simp only [e1, e2, e3, e4, p1, p2, p3, q1, q2, q3, l1, t0, t1, r1, r2, r3, r4, Nat.zero_add, Nat.reduceMul, Nat.reduceAdd, b1, b2, b3, b4, b5, b6, i1, i2, i3, i4, i5, i6, Nat.reduceBEq, ej, ek, dflt, List.take_zero, List.take_nil, List.nil_append, kills_map u32E, LV.kill]; done) | (simp only [e1, e2, e3, e4, p1, p2, p3, q1, q2, q3, l1, t0, t1, r1, r2, r3, r4, Nat.zero_add, Nat.reduceMul, Nat.reduceAdd, b1, b2, b3, b4, b5, b6, i1, i2, i3, i4, i5, i6, Nat.reduceBEq, ej, ek, dflt, List.take_zero, List.take_nil, List.nil_append, kills_map u32E, LV.kill]; rfl) | (simp only [e1, e2, e3, e4, p1, p2, p3, q1, q2, q3, l1, t0, t1, r1, r2, r3, r4, Nat.zero_add, Nat.reduceMul, Nat.reduceAdd, b1, b2, b3, b4, b5, b6, i1, i2, i3, i4, i5, i6, Nat.reduceBEq, ej, ek, dflt, List.take_zero, List.take_nil, List.nil_append, kills_map u32E, LV.kill]; congr 3 <;> omega) | (simp only [e1, e2, e3, e4, p1, p2, p3, q1, q2, q3, l1, t0, t1, r1, r2, r3, r4, Nat.zero_add, Nat.reduceMul, Nat.reduceAdd, b1, b2, b3, b4, b5, b6, i1, i2, i3, i4, i5, i6, Nat.reduceBEq, ej, ek, dflt, List.take_zero, List.take_nil, List.nil_append, kills_map u32E, LV.kill]; congr 2 <;> omega)) : p := h
namespace H_c_FTrim
theorem om {p : Prop} (h : p := by first | (simp only [e1, e2, e3, e4, p1, p2, p3, q1, q2, q3, l1, t0, t1, r1, r2, r3, r4, Nat.zero_add, Nat.reduceMul, Nat.reduceAdd, b1, b2, b3, b4, b5, b6, i1, i2, i3, i4, i5, i6, Nat.reduceBEq, ej, ek, dflt, List.take_zero, List.take_nil, List.nil_append, kills_map u32E, LV.kill]; omega) | omega) : p := h
end H_c_FTrim
open H_c_FTrim in
set_option maxHeartbeats 1000000 in
set_option maxRecDepth 100000 in
theorem c_FTrim (l : List Nat) (h : Lim l) (hl : l.length ≤ 4398046511104) : CallP Try.prog 110 [limL l] (magL (val l)) := by
  unfold limL magL
  rw [← trimL_dig h]
  unfold trimL
  refine callP_of fol Try.func110 rfl (by decide +kernel) (by decide +kernel) (Nat.le_of_ble_eq_true rfl) tm0 ?_
  have ej : True := trivial
  have ek : True := trivial
  refine wl_seq (wl_reg (asg ?_))
  refine st_end nfc_FTrim_0 ?_
  refine then_n (wl_seq (wl_reg (mv ?_)))
  refine st_pure rfl ln32 ?_
  refine asg ?_
  refine st_end nfc_FTrim_0 ?_
  refine then_n (wl_seq (wl_block ?_))
  refine wl_loop (α := Nat) (fun st L => (((St.mk L.slot (hp [])).put (some 0) (.list 1 (l.map u32L))).put (some 3) (nI64 st))) (fun st => st ≤ l.length ∧ trimN l.length l = trimN st l) (fun st => st) l.length (show (l.length) ≤ l.length ∧ trimN l.length l = trimN (l.length) l from ⟨Nat.le_refl _, rfl⟩) ⟨_, Weak.of_eq (put_id' (put_id' (mk_id' clc_FTrim_1) clc_FTrim_1) clc_FTrim_1)⟩ ?_
  rintro k L1 hLC
  obtain ⟨hk, hkt⟩ : k ≤ l.length ∧ trimN l.length l = trimN k l := hLC
  show wpL _ _ _ (((St.mk L1.slot (hp [])).put (some 0) (.list 1 (l.map u32L))).put (some 3) (nI64 k))
  refine wl_seq (wl_seq (wl_reg (mv ?_)))
  refine st_pure rfl (.bin rfl rfl rfl) ?_
  refine mv ?_
  refine opsL_split (d := 8) rfl (fun h8 => ?_) (fun h8 => ?_)
  · skip
    have h8r := h8
    try simp only [hce, l1, t0, t1, dflt, val_dig] at h8
    obtain ⟨j, rfl⟩ : ∃ j, k = j + 1 := ⟨k - 1, by omega⟩
    have ej : (((j + 1 : Nat) : Int) - 1).toNat = j := by omega
    have ek : (((j + 1 : Nat) : Int) - 1) = j := by omega
    refine st_pure (guardX (v := true) rfl rfl (h8r) rfl) (.move _) ?_
    refine st_pure (guardX (v := true) rfl rfl (h8r) rfl) (.move _) ?_
    refine st_pure (guardX (v := true) rfl rfl (h8r) rfl) (.bin rfl rfl (sub64 om om)) ?_
    refine st_pure (guardX (v := true) rfl rfl (h8r) rfl) ix32 ?_
    refine st_pure (guardX (v := true) rfl rfl (h8r) rfl) ld31 ?_
    refine st_pure (guardX (v := true) rfl rfl (h8r) rfl) (.bin rfl rfl rfl) ?_
    refine st_pure rfl (.pickT rfl (h8r)) ?_
    refine st_end nfc_FTrim_0 ?_
    refine then_n ?_
    refine wl_cond rfl (fun h15 => ?_) (fun h15 => ?_)
    · skip
      have h15r := h15
      try simp only [hce, l1, t0, t1, dflt, val_dig] at h15
      refine wl_skip (then_n (wl_block (wl_reg (mv ?_))))
      refine st_pure rfl (.bin rfl rfl (sub64 om om)) ?_
      refine asg ?_
      refine st_end nfc_FTrim_0 ?_
      refine blk_n (then_n ?_)
      exact ⟨j, _, (show (j) ≤ l.length ∧ trimN l.length l = trimN (j) l from ⟨by omega, hkt.trans (by simp only [trimN]; rw [if_pos (by simpa using h15)])⟩), (show (j) < j + 1 from by omega), Weak.of_eq (put_id' (put_id' (mk_id' clc_FTrim_1) clc_FTrim_1) clc_FTrim_1)⟩
    · skip
      have h15r := h15
      try simp only [hce, l1, t0, t1, dflt, val_dig] at h15
      refine wl_exit ?_
      refine then_e (then_e (blk_e (then_n (wl_seq (wl_reg ?_)))))
      refine st_alloc rfl rfl (.lit0 Try.underlying32 T31) ?_
      refine mv (mv ?_)
      refine st_pure rfl (by first | exact .sliceLh (h := _) u32E rfl Try.underlying32 T31 rfl om | exact .sliceRh rfl Try.underlying32 T31 rfl om om) ?_
      refine st_store rfl (.app rfl rfl rfl rfl rfl (Nat.zero_le _) (.inr rfl) (by decide) Try.underlying32 Try.underlying32 Z31 T31 rfl B31 (.inr (.inl rfl)) (by first | (simp; done) | (simp; omega)) (by first | (simp; done) | (simp; omega)) (by decide)) ?_
      refine asg ?_
      refine st_end nfc_FTrim_0 ?_
      refine then_n (wl_ret ?_)
      rw [hkt, trimN, if_neg (show ¬ l.getD j 0 = 0 by omega)]
      exact ret1f [22] rfl rfl (imm_refm u32E rfl rfl rfl)
  · skip
    have h8r := h8
    try simp only [hce, l1, t0, t1, dflt, val_dig] at h8
    have hk0 : k = 0 := by omega
    subst hk0
    refine st_skip (guardX (v := false) rfl rfl (h8r) rfl) ?_
    refine st_skip (guardX (v := false) rfl rfl (h8r) rfl) ?_
    refine st_skip (guardX (v := false) rfl rfl (h8r) rfl) ?_
    refine st_skip (guardX (v := false) rfl rfl (h8r) rfl) ?_
    refine st_skip (guardX (v := false) rfl rfl (h8r) rfl) ?_
    refine st_skip (guardX (v := false) rfl rfl (h8r) rfl) ?_
    refine st_pure rfl (.pickF rfl (h8r)) ?_
    refine st_end nfc_FTrim_0 ?_
    refine then_n ?_
    refine wl_condY (b := _) rfl rfl ?_
    refine wl_exit ?_
    refine then_e (then_e (blk_e (then_n (wl_seq (wl_reg ?_)))))
    refine st_alloc rfl rfl (.lit0 Try.underlying32 T31) ?_
    refine mv (mv ?_)
    refine st_pure rfl (by first | exact .sliceLh (h := _) u32E rfl Try.underlying32 T31 rfl om | exact .sliceRh rfl Try.underlying32 T31 rfl om om) ?_
    refine st_store rfl (.app rfl rfl rfl rfl rfl (Nat.zero_le _) (.inr rfl) (by decide) Try.underlying32 Try.underlying32 Z31 T31 rfl B31 (.inr (.inl rfl)) (by first | (simp; done) | (simp; omega)) (by first | (simp; done) | (simp; omega)) (by decide)) ?_
    refine asg ?_
    refine st_end nfc_FTrim_0 ?_
    refine then_n (wl_ret ?_)
    rw [hkt, show trimN 0 l = 0 from rfl]
    exact ret1f [22] rfl rfl (imm_refm u32E rfl rfl rfl)
open H0 in
set_option maxHeartbeats 1000000 in
set_option maxRecDepth 100000 in
theorem c_FOf (n : Nat) (hn : n < 18446744073709551616) : CallP Try.prog 104 [nU64 n] (magL n) := by
  have hL : Lim [n % 4294967296, n / 4294967296 % 4294967296] := by
    intro x hx; simp at hx; omega
  have hV : val [n % 4294967296, n / 4294967296 % 4294967296] = n := by rw [val_two]; omega
  refine callP_of fol Try.func104 rfl (by decide +kernel) (by decide +kernel) (Nat.le_of_ble_eq_true rfl) tm0 ?_
  refine wl_seq (wl_reg (asg ?_))
  refine st_end nf0 ?_
  refine then_n (wl_seq (wl_reg (mv ?_)))
  refine st_pure rfl (.cv32 Try.underlying116 Try.underlying31 rfl) ?_
  refine mv ?_
  refine st_pure rfl (.sh rfl rfl shr32) ?_
  refine st_pure rfl (.cv32 Try.underlying116 Try.underlying31 rfl) ?_
  refine st_alloc rfl rfl (.lit2 u32E Try.underlying32 Z31 T31 rfl rfl (by decide) (by decide)) ?_
  refine st_callPf [8] rfl rfl (.cons im1 .nil) (c_FTrim _ (by first | assumption | exact lim_dig _) (by first | omega | (simp; done) | (simp; omega))) ?_
  refine asg ?_
  refine st_end nf0 ?_
  refine then_n (wl_ret ?_)
  exact ret1 rfl (by rw [hV]; exact .pure (magL_pure _))
theorem nfc_Fsmall_0 {p : Prop} (h : p := by (try simp only [e1, e2, e3, e4, p1, p2, p3, q1, q2, q3, l1, t0, t1, r1, r2, r3, r4, Nat.zero_add, Nat.reduceMul, Nat.reduceAdd, b1, b2, b3, b4, b5, b6, i1, i2, i3, i4, i5, i6, Nat.reduceBEq, dflt, tz0, tz1]); exact rfl) : p := h
namespace H_c_Fsmall
theorem om {p : Prop} (h : p := by first | (simp only [e1, e2, e3, e4, p1, p2, p3, q1, q2, q3, l1, t0, t1, r1, r2, r3, r4, Nat.zero_add, Nat.reduceMul, Nat.reduceAdd, b1, b2, b3, b4, b5, b6, i1, i2, i3, i4, i5, i6, Nat.reduceBEq, dflt, tz0, tz1]; omega) | omega) : p := h
end H_c_Fsmall
open H_c_Fsmall in
set_option maxHeartbeats 1000000 in
set_option maxRecDepth 100000 in
theorem c_Fsmall (m : Nat) (hl : (dig m).length ≤ 1099511627776) : CallP Try.prog 138 [magL m] (.tup [nU64 (if m < 18446744073709551616 then m else 0), bL (decide (m < 18446744073709551616))]) := by
  have hd0 := getD_dig_lt m 0
  have hd1 := getD_dig_lt m 1
  refine callP_of fol Try.func138 rfl (by decide +kernel) (by decide +kernel) (Nat.le_of_ble_eq_true rfl) tm0 ?_
  refine wl_seq (wl_reg (asg (asg ?_)))
  refine st_end nfc_Fsmall_0 ?_
  refine then_n (wl_seq (wl_seq (wl_reg (mv ?_))))
  refine st_pure rfl ln32 ?_
  refine st_end nfc_Fsmall_0 ?_
  refine then_n (wl_block (wl_seq (wl_reg ?_)))
  refine st_pure rfl (.bin rfl rfl rfl) ?_
  refine asg ?_
  refine st_end nfc_Fsmall_0 ?_
  refine then_n ?_
  refine wl_cond rfl (fun h6 => ?_) (fun h6 => ?_)
  · skip
    have h6r := h6
    try simp only [hce, l1, t0, t1, dflt, val_dig] at h6
    have hm : m = 0 := dig_eq_nil.1 (List.eq_nil_of_length_eq_zero (by omega))
    refine wl_seq (wl_reg (asg (asg ?_)))
    refine st_end nfc_Fsmall_0 ?_
    refine then_n (wl_ret (blk_r (then_r ?_)))
    subst hm
    exact ret2 rfl (.pure rfl) rfl (.pure rfl)
  · skip
    have h6r := h6
    try simp only [hce, l1, t0, t1, dflt, val_dig] at h6
    refine wl_seq (wl_reg ?_)
    refine st_pure rfl (.bin rfl rfl rfl) ?_
    refine asg ?_
    refine st_end nfc_Fsmall_0 ?_
    refine then_n ?_
    refine wl_cond rfl (fun h8 => ?_) (fun h8 => ?_)
    · skip
      have h8r := h8
      try simp only [hce, l1, t0, t1, dflt, val_dig] at h8
      have hm := dig_is1 (n := m) (by omega)
      have hm2 := dig_len_le1.1 (show (dig m).length ≤ 1 by omega)
      refine wl_seq (wl_reg (mv ?_))
      refine st_pure rfl ix32 ?_
      refine st_pure rfl ld31 ?_
      refine st_pure rfl (.cv64 Try.underlying31 Try.underlying116 rfl om) ?_
      refine asg (asg ?_)
      refine st_end nfc_Fsmall_0 ?_
      refine then_n (wl_ret (blk_r (then_r ?_)))
      rw [if_pos (by omega), decide_eq_true (by omega)]
      refine ret2 (x := nU64 ((dig m).getD 0 0)) rfl ?_ rfl (.pure rfl)
      rw [hm.1]
      exact .pure rfl
    · skip
      have h8r := h8
      try simp only [hce, l1, t0, t1, dflt, val_dig] at h8
      refine wl_seq (wl_reg ?_)
      refine st_pure rfl (.bin rfl rfl rfl) ?_
      refine asg ?_
      refine st_end nfc_Fsmall_0 ?_
      refine then_n ?_
      refine wl_cond rfl (fun h14 => ?_) (fun h14 => ?_)
      · skip
        have h14r := h14
        try simp only [hce, l1, t0, t1, dflt, val_dig] at h14
        have h2v : m = (dig m).getD 1 0 * 4294967296 + (dig m).getD 0 0 := dig_is2 (by omega)
        have hm2 := dig_len_le2.1 (show (dig m).length ≤ 2 by omega)
        refine wl_seq ?_
        refine wl_regD 12 (by decide +kernel) ?_
        refine mv ?_
        refine st_pure rfl ix32 ?_
        refine st_pure rfl ld31 ?_
        refine st_pure rfl (.cv64 Try.underlying31 Try.underlying116 rfl om) ?_
        refine mv ?_
        refine st_pure rfl ix32 ?_
        refine st_pure rfl ld31 ?_
        refine st_pure rfl (.cv64 Try.underlying31 Try.underlying116 rfl om) ?_
        refine st_pure rfl (.sh rfl rfl (shl32 (by simp only [dflt, tz0, tz1]; omega))) ?_
        refine st_pure rfl (.bin rfl rfl (orC (by simp only [dflt, tz0, tz1]; omega) (by simp only [dflt, tz0, tz1]; omega))) ?_
        refine asg (asg ?_)
        refine st_end nfc_Fsmall_0 ?_
        refine then_n (wl_ret (blk_r (then_r ?_)))
        rw [if_pos hm2, decide_eq_true hm2]
        refine ret2 (x := nU64 ((dig m).getD 1 0 * 4294967296 + (dig m).getD 0 0)) rfl ?_ rfl (.pure rfl)
        rw [← h2v]
        exact .pure rfl
      · skip
        have h14r := h14
        try simp only [hce, l1, t0, t1, dflt, val_dig] at h14
        have hm2 : ¬ m < 18446744073709551616 := fun h => by have := dig_len_le2.2 h; omega
        refine wl_skip (blk_n (then_n (wl_seq (wl_reg (asg (asg ?_))))))
        refine st_end nfc_Fsmall_0 ?_
        refine then_n (wl_ret ?_)
        rw [if_neg hm2, decide_eq_false hm2]
        exact ret2 rfl (.pure rfl) rfl (.pure rfl)
theorem nfc_FCmp_0 {p : Prop} (h : p := by (try simp only [e1, e2, e3, e4, p1, p2, p3, q1, q2, q3, l1, t0, t1, r1, r2, r3, r4, Nat.zero_add, Nat.reduceMul, Nat.reduceAdd, b1, b2, b3, b4, b5, b6, i1, i2, i3, i4, i5, i6, Nat.reduceBEq, dflt, ej, ek]); exact rfl) : p := h
theorem clc_FCmp_1 {p : Prop} (h : p := by first | rfl | (simp only [e1, e2, e3, e4, p1, p2, p3, q1, q2, q3, l1, t0, t1, r1, r2, r3, r4, Nat.zero_add, Nat.reduceMul, Nat.reduceAdd, b1, b2, b3, b4, b5, b6, i1, i2, i3, i4, i5, i6, Nat.reduceBEq, dflt, ej, ek]; done) | (simp only [e1, e2, e3, e4, p1, p2, p3, q1, q2, q3, l1, t0, t1, r1, r2, r3, r4, Nat.zero_add, Nat.reduceMul, Nat.reduceAdd, b1, b2, b3, b4, b5, b6, i1, i2, i3, i4, i5, i6, Nat.reduceBEq, dflt, ej, ek]; rfl) | (simp only [e1, e2, e3, e4, p1, p2, p3, q1, q2, q3, l1, t0, t1, r1, r2, r3, r4, Nat.zero_add, Nat.reduceMul, Nat.reduceAdd, b1, b2, b3, b4, b5, b6, i1, i2, i3, i4, i5, i6, Nat.reduceBEq, dflt, ej, ek]; congr 3 <;> omega) | (simp only [e1, e2, e3, e4, p1, p2, p3, q1, q2, q3, l1, t0, t1, r1, r2, r3, r4, Nat.zero_add, Nat.reduceMul, Nat.reduceAdd, b1, b2, b3, b4, b5, b6, i1, i2, i3, i4, i5, i6, Nat.reduceBEq, dflt, ej, ek]; congr 2 <;> omega)) : p := h
namespace H_c_FCmp
theorem om {p : Prop} (h : p := by first | (simp only [e1, e2, e3, e4, p1, p2, p3, q1, q2, q3, l1, t0, t1, r1, r2, r3, r4, Nat.zero_add, Nat.reduceMul, Nat.reduceAdd, b1, b2, b3, b4, b5, b6, i1, i2, i3, i4, i5, i6, Nat.reduceBEq, dflt, ej, ek]; omega) | omega) : p := h
end H_c_FCmp
open H_c_FCmp in
set_option maxHeartbeats 1000000 in
set_option maxRecDepth 100000 in
theorem c_FCmp (m n : Nat) (hla : (dig m).length ≤ 1099511627776) (hlb : (dig n).length ≤ 1099511627776) : CallP Try.prog 60 [magL m, magL n] (iL (cmpN m n)) := by
  refine callP_of fol Try.func60 rfl (by decide +kernel) (by decide +kernel) (Nat.le_of_ble_eq_true rfl) tm0 ?_
  have ej : True := trivial
  have ek : True := trivial
  refine wl_seq (wl_reg (asg ?_))
  refine st_end nfc_FCmp_0 ?_
  refine then_n (wl_seq (wl_seq (wl_reg (mv ?_))))
  refine st_pure rfl ln32 ?_
  refine mv ?_
  refine st_pure rfl ln32 ?_
  refine st_pure rfl (.bin rfl rfl rfl) ?_
  refine st_end nfc_FCmp_0 ?_
  refine then_n ?_
  refine wl_cond rfl (fun h10 => ?_) (fun h10 => ?_)
  · skip
    have h10r := h10
    try simp only [hce, l1, t0, t1, dflt, val_dig] at h10
    refine wl_seq (wl_seq (wl_reg (mv ?_)))
    refine st_pure rfl ln32 ?_
    refine mv ?_
    refine st_pure rfl ln32 ?_
    refine st_pure rfl (.bin rfl rfl rfl) ?_
    refine st_end nfc_FCmp_0 ?_
    refine then_n ?_
    refine wl_cond rfl (fun h15 => ?_) (fun h15 => ?_)
    · skip
      have h15r := h15
      try simp only [hce, l1, t0, t1, dflt, val_dig] at h15
      have hE := lt_of_len (m := m) (n := n) (by omega)
      refine wl_seq (wl_reg (asg ?_))
      refine st_end nfc_FCmp_0 ?_
      refine then_n (wl_ret (then_r (then_r ?_)))
      first | (rw [cmpN_lt hE]; exact ret1 rfl (.pure rfl)) | (rw [cmpN_gt hE]; exact ret1 rfl (.pure rfl)) | (rw [cmpN_eq hE]; exact ret1 rfl (.pure rfl))
    · skip
      have h15r := h15
      try simp only [hce, l1, t0, t1, dflt, val_dig] at h15
      have hE := lt_of_len (m := n) (n := m) (by omega)
      refine wl_skip (then_n (wl_seq (wl_reg (asg ?_))))
      refine st_end nfc_FCmp_0 ?_
      refine then_n (wl_ret (then_r ?_))
      first | (rw [cmpN_lt hE]; exact ret1 rfl (.pure rfl)) | (rw [cmpN_gt hE]; exact ret1 rfl (.pure rfl)) | (rw [cmpN_eq hE]; exact ret1 rfl (.pure rfl))
  · skip
    have h10r := h10
    try simp only [hce, l1, t0, t1, dflt, val_dig] at h10
    have hlen : (dig m).length = (dig n).length := by omega
    clear h10 h10r
    refine wl_skip (then_n (wl_seq (wl_seq (wl_reg (mv ?_)))))
    refine st_pure rfl ln32 ?_
    refine st_pure rfl (.bin rfl rfl (sub64 om om)) ?_
    refine asg ?_
    refine st_end nfc_FCmp_0 ?_
    refine then_n (wl_block ?_)
    refine wl_loop (α := Nat) (fun st L => ((((St.mk L.slot (hp [])).put (some 0) (magL m)).put (some 1) (magL n)).put (some 5) (iL ((st : Int) - 1)))) (fun st => st ≤ (dig m).length ∧ (dig m).drop st = (dig n).drop st) (fun st => st) (dig m).length (show ((dig m).length) ≤ (dig m).length ∧ (dig m).drop ((dig m).length) = (dig n).drop ((dig m).length) from ⟨Nat.le_refl _, by rw [List.drop_length, List.drop_of_length_le (by omega)]⟩) ⟨_, Weak.of_eq (put_id' (put_id' (put_id' (mk_id' clc_FCmp_1) clc_FCmp_1) clc_FCmp_1) clc_FCmp_1)⟩ ?_
    rintro k L1 hLC
    obtain ⟨hk, hd⟩ : k ≤ (dig m).length ∧ (dig m).drop k = (dig n).drop k := hLC
    show wpL _ _ _ ((((St.mk L1.slot (hp [])).put (some 0) (magL m)).put (some 1) (magL n)).put (some 5) (iL ((k : Int) - 1)))
    refine wl_seq (wl_seq (wl_reg (mv ?_)))
    refine st_pure rfl (.bin rfl rfl rfl) ?_
    refine st_end nfc_FCmp_0 ?_
    refine then_n ?_
    refine wl_cond rfl (fun h20 => ?_) (fun h20 => ?_)
    · skip
      have h20r := h20
      try simp only [hce, l1, t0, t1, dflt, val_dig] at h20
      obtain ⟨j, rfl⟩ : ∃ j, k = j + 1 := ⟨k - 1, by omega⟩
      have ej : (((j + 1 : Nat) : Int) - 1).toNat = j := by omega
      have ek : (((j + 1 : Nat) : Int) - 1) = j := by omega
      refine wl_skip (then_n (wl_seq (wl_block (wl_seq (wl_seq ?_)))))
      refine wl_regD 9 (by decide +kernel) ?_
      refine mv (mv ?_)
      refine st_pure rfl ix32 ?_
      refine st_pure rfl ld31 ?_
      refine mv (mv ?_)
      refine st_pure rfl ix32 ?_
      refine st_pure rfl ld31 ?_
      refine st_pure rfl (.bin rfl rfl rfl) ?_
      refine st_end nfc_FCmp_0 ?_
      refine then_n ?_
      refine wl_cond rfl (fun h31 => ?_) (fun h31 => ?_)
      · skip
        have h31r := h31
        try simp only [hce, l1, t0, t1, dflt, val_dig] at h31
        have hE := val_lt_of_limb (lim_dig m) (k := j) (by omega) (by omega) hd (by omega)
        rw [val_dig, val_dig] at hE
        refine wl_seq (wl_reg (asg ?_))
        refine st_end nfc_FCmp_0 ?_
        refine then_n (wl_ret (then_r (blk_r (then_r (then_r (blk_r (then_r ?_)))))))
        first | (rw [cmpN_lt hE]; exact ret1 rfl (.pure rfl)) | (rw [cmpN_gt hE]; exact ret1 rfl (.pure rfl)) | (rw [cmpN_eq hE]; exact ret1 rfl (.pure rfl))
      · skip
        have h31r := h31
        try simp only [hce, l1, t0, t1, dflt, val_dig] at h31
        refine wl_skip (then_n (wl_seq ?_))
        refine wl_regD 9 (by decide +kernel) ?_
        refine mv (mv ?_)
        refine st_pure rfl ix32 ?_
        refine st_pure rfl ld31 ?_
        refine mv (mv ?_)
        refine st_pure rfl ix32 ?_
        refine st_pure rfl ld31 ?_
        refine st_pure rfl (.bin rfl rfl rfl) ?_
        refine st_end nfc_FCmp_0 ?_
        refine then_n ?_
        refine wl_cond rfl (fun h40 => ?_) (fun h40 => ?_)
        · skip
          have h40r := h40
          try simp only [hce, l1, t0, t1, dflt, val_dig] at h40
          have hE := val_lt_of_limb (lim_dig n) (k := j) (by omega) (by omega) hd.symm (by omega)
          rw [val_dig, val_dig] at hE
          refine wl_seq (wl_reg (asg ?_))
          refine st_end nfc_FCmp_0 ?_
          refine then_n (wl_ret (blk_r (then_r (then_r (blk_r (then_r ?_))))))
          first | (rw [cmpN_lt hE]; exact ret1 rfl (.pure rfl)) | (rw [cmpN_gt hE]; exact ret1 rfl (.pure rfl)) | (rw [cmpN_eq hE]; exact ret1 rfl (.pure rfl))
        · skip
          have h40r := h40
          try simp only [hce, l1, t0, t1, dflt, val_dig] at h40
          refine wl_skip (blk_n (then_n (wl_reg (mv ?_))))
          refine st_pure rfl (.bin rfl rfl (sub64 om om)) ?_
          refine asg ?_
          refine st_end nfc_FCmp_0 ?_
          refine then_n ?_
          exact ⟨j, _, (show (j) ≤ (dig m).length ∧ (dig m).drop (j) = (dig n).drop (j) from ⟨by omega, drop_eq_of (by omega) (by omega) hd (by omega)⟩), (show (j) < j + 1 from by omega), Weak.of_eq (put_id' (put_id' (put_id' (mk_id' clc_FCmp_1) clc_FCmp_1) clc_FCmp_1) clc_FCmp_1)⟩
    · skip
      have h20r := h20
      try simp only [hce, l1, t0, t1, dflt, val_dig] at h20
      obtain rfl : k = 0 := by omega
      rw [List.drop_zero, List.drop_zero] at hd
      have hE : m = n := by have := congrArg val hd; rwa [val_dig, val_dig] at this
      refine wl_exit ?_
      refine then_e (then_e (blk_e (then_n (wl_seq (wl_reg (asg ?_))))))
      refine st_end nfc_FCmp_0 ?_
      refine then_n (wl_ret ?_)
      first | (rw [cmpN_lt hE]; exact ret1 rfl (.pure rfl)) | (rw [cmpN_gt hE]; exact ret1 rfl (.pure rfl)) | (rw [cmpN_eq hE]; exact ret1 rfl (.pure rfl))
theorem nfc_FAdd_0 {p : Prop} (h : p := by (try simp only [e1, e2, e3, e4, p1, p2, p3, q1, q2, q3, l1, t0, t1, r1, r2, r3, r4, Nat.zero_add, Nat.reduceMul, Nat.reduceAdd, b1, b2, b3, b4, b5, b6, i1, i2, i3, i4, i5, i6, Nat.reduceBEq, dflt, List.take_zero, List.take_nil, List.nil_append, kills_map u32E, LV.kill, take_map_len, map_snoc, len_snoc, List.length_cons, List.length_nil]); exact rfl) : p := h
theorem clc_FAdd_1 {p : Prop} (h : p := by first | rfl | (simp only [e1, e2, e3, e4, p1, p2, p3, q1, q2, q3, l1, t0, t1, r1, r2, r3, r4, Nat.zero_add, Nat.reduceMul, Nat.reduceAdd, b1, b2, b3, b4, b5, b6, i1, i2, i3, i4, i5, i6, Nat.reduceBEq, dflt, List.take_zero, List.take_nil, List.nil_append, kills_map u32E, LV.kill, take_map_len, map_snoc, len_snoc, List.length_cons, List.length_nil]; done) | (simp only [e1, e2, e3, e4, p1, p2, p3, q1, q2, q3, l1, t0, t1, r1, r2, r3, r4, Nat.zero_add, Nat.reduceMul, Nat.reduceAdd, b1, b2, b3, b4, b5, b6, i1, i2, i3, i4, i5, i6, Nat.reduceBEq, dflt, List.take_zero, List.take_nil, List.nil_append, kills_map u32E, LV.kill, take_map_len, map_snoc, len_snoc, List.length_cons, List.length_nil]; rfl) | (simp only [e1, e2, e3, e4, p1, p2, p3, q1, q2, q3, l1, t0, t1, r1, r2, r3, r4, Nat.zero_add, Nat.reduceMul, Nat.reduceAdd, b1, b2, b3, b4, b5, b6, i1, i2, i3, i4, i5, i6, Nat.reduceBEq, dflt, List.take_zero, List.take_nil, List.nil_append, kills_map u32E, LV.kill, take_map_len, map_snoc, len_snoc, List.length_cons, List.length_nil]; congr 3 <;> omega) | (simp only [e1, e2, e3, e4, p1, p2, p3, q1, q2, q3, l1, t0, t1, r1, r2, r3, r4, Nat.zero_add, Nat.reduceMul, Nat.reduceAdd, b1, b2, b3, b4, b5, b6, i1, i2, i3, i4, i5, i6, Nat.reduceBEq, dflt, List.take_zero, List.take_nil, List.nil_append, kills_map u32E, LV.kill, take_map_len, map_snoc, len_snoc, List.length_cons, List.length_nil]; congr 2 <;> omega)) : p := h
namespace H_c_FAdd
theorem om {p : Prop} (h : p := by first | (simp only [e1, e2, e3, e4, p1, p2, p3, q1, q2, q3, l1, t0, t1, r1, r2, r3, r4, Nat.zero_add, Nat.reduceMul, Nat.reduceAdd, b1, b2, b3, b4, b5, b6, i1, i2, i3, i4, i5, i6, Nat.reduceBEq, dflt, List.take_zero, List.take_nil, List.nil_append, kills_map u32E, LV.kill, take_map_len, map_snoc, len_snoc, List.length_cons, List.length_nil]; omega) | omega) : p := h
end H_c_FAdd
open H_c_FAdd in
set_option maxHeartbeats 4000000 in
set_option maxRecDepth 100000 in
theorem c_FAdd (m n : Nat) (hla : (dig m).length ≤ 1099511627776) (hlb : (dig n).length ≤ 1099511627776) : CallP Try.prog 88 [magL m, magL n] (magL (m + n)) := by
  refine callP_of fol Try.func88 rfl (by decide +kernel) (by decide +kernel) (Nat.le_of_ble_eq_true rfl) tm0 ?_
  refine wl_seq (wl_reg (asg ?_))
  refine st_end nfc_FAdd_0 ?_
  refine then_n (wl_seq (wl_reg (asg ?_)))
  refine st_end nfc_FAdd_0 ?_
  refine then_n (wl_seq (wl_reg (asg ?_)))
  refine st_end nfc_FAdd_0 ?_
  refine then_n (wl_seq (wl_seq (wl_reg (asg ?_))))
  refine st_end nfc_FAdd_0 ?_
  refine then_n (wl_block ?_)
  refine wl_weak (Weak.own (t := 5) 50 1 rfl rfl) ?_
  refine wl_loop (α := List Nat × Nat) (fun st L => ((((((St.mk L.slot (hp [(50, ⟨1, st.1.map u32L, true⟩)])).put (some 0) (magL m)).put (some 1) (magL n)).put (some 5) (.ref 50 1 0 st.1.length)).put (some 6) (nU64 st.2)).put (some 7) (nI64 st.1.length))) (fun st => st.2 ≤ 1 ∧ Lim st.1 ∧ (st.1.length ≤ max (dig m).length (dig n).length ∨ (st.1.length = max (dig m).length (dig n).length + 1 ∧ st.2 = 0)) ∧ val st.1 + 4294967296 ^ st.1.length * st.2 = val ((dig m).take st.1.length) + val ((dig n).take st.1.length) ∧ (st.1.length = max (dig m).length (dig n).length + 1 → 4294967296 ^ (st.1.length - 1) ≤ m + n)) (fun st => max (dig m).length (dig n).length + 2 - st.1.length) ([], 0) (show (0) ≤ 1 ∧ Lim ([]) ∧ (([]).length ≤ max (dig m).length (dig n).length ∨ (([]).length = max (dig m).length (dig n).length + 1 ∧ (0) = 0)) ∧ val ([]) + 4294967296 ^ ([]).length * (0) = val ((dig m).take ([]).length) + val ((dig n).take ([]).length) ∧ (([]).length = max (dig m).length (dig n).length + 1 → 4294967296 ^ (([]).length - 1) ≤ m + n) from ⟨by omega, (by intro x hx; cases hx), .inl (Nat.zero_le _), by simp [val], by simp⟩) ⟨_, Weak.of_eq (put_id' (put_id' (put_id' (put_id' (put_id' (mk_id' clc_FAdd_1) clc_FAdd_1) clc_FAdd_1) clc_FAdd_1) clc_FAdd_1) clc_FAdd_1)⟩ ?_
  rintro ⟨o, c⟩ L1 hLC
  obtain ⟨hc, hlo, hol, hv, hge⟩ : c ≤ 1 ∧ Lim o ∧ (o.length ≤ max (dig m).length (dig n).length ∨ (o.length = max (dig m).length (dig n).length + 1 ∧ c = 0)) ∧ val o + 4294967296 ^ o.length * c = val ((dig m).take o.length) + val ((dig n).take o.length) ∧ (o.length = max (dig m).length (dig n).length + 1 → 4294967296 ^ (o.length - 1) ≤ m + n) := hLC
  show wpL _ _ _ ((((((St.mk L1.slot (hp [(50, ⟨1, o.map u32L, true⟩)])).put (some 0) (magL m)).put (some 1) (magL n)).put (some 5) (.ref 50 1 0 o.length)).put (some 6) (nU64 c)).put (some 7) (nI64 o.length))
  have hxk := getD_dig_lt m o.length
  have hyk := getD_dig_lt n o.length
  refine wl_seq (wl_seq ?_)
  refine wl_cut (fun L => ∃ (t : Bool) (L1 : St), (t = decide (o.length < max (dig m).length (dig n).length ∨ c ≠ 0)) ∧ L = (((((((St.mk L1.slot (hp [(50, ⟨1, o.map u32L, true⟩)])).put (some 0) (magL m)).put (some 1) (magL n)).put (some 5) (.ref 50 1 0 o.length)).put (some 6) (nU64 c)).put (some 7) (nI64 o.length)).put (some 21) (bL t))) ?_ ?_
  · skip
    refine wl_reg (mv (mv ?_))
    refine st_pure rfl ln32 ?_
    refine st_pure rfl (.bin rfl rfl rfl) ?_
    refine mv ?_
    refine opsL_split (d := 12) rfl (fun h12 => ?_) (fun h12 => ?_)
    · skip
      have h12r := h12
      try simp only [hce, l1, t0, t1, dflt, val_dig] at h12
      refine st_skip (guardX (v := true) rfl rfl (h12r) rfl) ?_
      refine st_skip (guardX (v := true) rfl rfl (h12r) rfl) ?_
      refine st_skip (guardX (v := true) rfl rfl (h12r) rfl) ?_
      refine st_skip (guardX (v := true) rfl rfl (h12r) rfl) ?_
      refine st_pure rfl (.pickT rfl (h12r)) ?_
      refine mv ?_
      refine st_skip (guardX (v := true) rfl rfl (rfl) rfl) ?_
      refine st_skip (guardX (v := true) rfl rfl (rfl) rfl) ?_
      refine st_pure rfl (.pickT rfl (rfl)) ?_
      refine st_end nfc_FAdd_0 ?_
      refine then_n ?_
      exact ⟨true, _, by symm; rw [decide_eq_true_iff]; omega, ((put_id' (put_id' (put_id' (put_id' (put_id' (put_id' (mk_id' clc_FAdd_1) clc_FAdd_1) clc_FAdd_1) clc_FAdd_1) clc_FAdd_1) clc_FAdd_1) clc_FAdd_1)).symm⟩
    · skip
      have h12r := h12
      try simp only [hce, l1, t0, t1, dflt, val_dig] at h12
      refine st_pure (guardX (v := false) rfl rfl (h12r) rfl) (.move _) ?_
      refine st_pure (guardX (v := false) rfl rfl (h12r) rfl) (.move _) ?_
      refine st_pure (guardX (v := false) rfl rfl (h12r) rfl) ln32 ?_
      refine st_pure (guardX (v := false) rfl rfl (h12r) rfl) (.bin rfl rfl rfl) ?_
      refine st_pure rfl (.pickF rfl (h12r)) ?_
      refine mv ?_
      refine opsL_split (d := 18) rfl (fun h18 => ?_) (fun h18 => ?_)
      · skip
        have h18r := h18
        try simp only [hce, l1, t0, t1, dflt, val_dig] at h18
        refine st_skip (guardX (v := true) rfl rfl (h18r) rfl) ?_
        refine st_skip (guardX (v := true) rfl rfl (h18r) rfl) ?_
        refine st_pure rfl (.pickT rfl (h18r)) ?_
        refine st_end nfc_FAdd_0 ?_
        refine then_n ?_
        exact ⟨true, _, by symm; rw [decide_eq_true_iff]; omega, ((put_id' (put_id' (put_id' (put_id' (put_id' (put_id' (mk_id' clc_FAdd_1) clc_FAdd_1) clc_FAdd_1) clc_FAdd_1) clc_FAdd_1) clc_FAdd_1) clc_FAdd_1)).symm⟩
      · skip
        have h18r := h18
        try simp only [hce, l1, t0, t1, dflt, val_dig] at h18
        refine st_pure (guardX (v := false) rfl rfl (h18r) rfl) (.move _) ?_
        refine st_pure (guardX (v := false) rfl rfl (h18r) rfl) (.bin rfl rfl rfl) ?_
        refine st_pure rfl (.pickF rfl (h18r)) ?_
        refine st_end nfc_FAdd_0 ?_
        refine then_n ?_
        exact ⟨((c : Int) != 0), _, by rw [Bool.eq_iff_iff, bne_iff_ne, decide_eq_true_iff]; omega, ((put_id' (put_id' (put_id' (put_id' (put_id' (put_id' (mk_id' clc_FAdd_1) clc_FAdd_1) clc_FAdd_1) clc_FAdd_1) clc_FAdd_1) clc_FAdd_1) clc_FAdd_1)).symm⟩
  · skip
    rintro _ ⟨t, LR4, ht, rfl⟩
    refine then_n ?_
    refine wl_cond rfl (fun h21 => ?_) (fun h21 => ?_)
    · skip
      have h21r := h21
      try simp only [hce, l1, t0, t1, dflt, val_dig] at h21
      rw [ht, decide_eq_true_iff] at h21r
      have hg := h21r
      refine wl_skip (then_n (wl_seq (wl_block (wl_seq (wl_seq (wl_reg (mv (mv ?_))))))))
      refine st_pure rfl ln32 ?_
      refine st_pure rfl (.bin rfl rfl rfl) ?_
      refine st_end nfc_FAdd_0 ?_
      refine then_n ?_
      refine wl_cut (fun L => ∃ (s1 : Nat) (L1 : St), (s1 = c + (dig m).getD o.length 0) ∧ L = ((((((St.mk L1.slot (hp [(50, ⟨1, o.map u32L, true⟩)])).put (some 0) (magL m)).put (some 1) (magL n)).put (some 5) (.ref 50 1 0 o.length)).put (some 6) (nU64 s1)).put (some 7) (nI64 o.length))) ?_ ?_
      · skip
        refine wl_cond rfl (fun h27 => ?_) (fun h27 => ?_)
        · skip
          have h27r := h27
          try simp only [hce, l1, t0, t1, dflt, val_dig] at h27
          refine wl_reg (mv (mv (mv ?_)))
          refine st_pure rfl ix32 ?_
          refine st_pure rfl ld31 ?_
          refine st_pure rfl (.cv64 Try.underlying31 Try.underlying116 rfl om) ?_
          refine st_pure rfl (.bin rfl rfl (addU om)) ?_
          refine asg ?_
          refine st_end nfc_FAdd_0 ?_
          refine then_n ?_
          exact ⟨c + (dig m).getD o.length 0, _, rfl, ((put_id' (put_id' (put_id' (put_id' (put_id' (mk_id' clc_FAdd_1) clc_FAdd_1) clc_FAdd_1) clc_FAdd_1) clc_FAdd_1) clc_FAdd_1)).symm⟩
        · skip
          have h27r := h27
          try simp only [hce, l1, t0, t1, dflt, val_dig] at h27
          refine wl_skip (then_n ?_)
          exact ⟨c, _, by rw [getD_ge (dig m) o.length (by omega)]; rfl, ((put_id' (put_id' (put_id' (put_id' (put_id' (mk_id' clc_FAdd_1) clc_FAdd_1) clc_FAdd_1) clc_FAdd_1) clc_FAdd_1) clc_FAdd_1)).symm⟩
      · skip
        rintro _ ⟨s1, LC27, hs1, rfl⟩
        refine then_n (wl_seq (wl_seq (wl_reg (mv (mv ?_)))))
        refine st_pure rfl ln32 ?_
        refine st_pure rfl (.bin rfl rfl rfl) ?_
        refine st_end nfc_FAdd_0 ?_
        refine then_n ?_
        refine wl_cut (fun L => ∃ (s : Nat) (L1 : St), (s = c + (dig m).getD o.length 0 + (dig n).getD o.length 0) ∧ L = ((((((St.mk L1.slot (hp [(50, ⟨1, o.map u32L, true⟩)])).put (some 0) (magL m)).put (some 1) (magL n)).put (some 5) (.ref 50 1 0 o.length)).put (some 6) (nU64 s)).put (some 7) (nI64 o.length))) ?_ ?_
        · skip
          refine wl_cond rfl (fun h38 => ?_) (fun h38 => ?_)
          · skip
            have h38r := h38
            try simp only [hce, l1, t0, t1, dflt, val_dig] at h38
            refine wl_reg (mv (mv (mv ?_)))
            refine st_pure rfl ix32 ?_
            refine st_pure rfl ld31 ?_
            refine st_pure rfl (.cv64 Try.underlying31 Try.underlying116 rfl om) ?_
            refine st_pure rfl (.bin rfl rfl (addU om)) ?_
            refine asg ?_
            refine st_end nfc_FAdd_0 ?_
            refine then_n ?_
            exact ⟨s1 + (dig n).getD o.length 0, _, by rw [hs1], ((put_id' (put_id' (put_id' (put_id' (put_id' (mk_id' clc_FAdd_1) clc_FAdd_1) clc_FAdd_1) clc_FAdd_1) clc_FAdd_1) clc_FAdd_1)).symm⟩
          · skip
            have h38r := h38
            try simp only [hce, l1, t0, t1, dflt, val_dig] at h38
            refine wl_skip (then_n ?_)
            exact ⟨s1, _, by rw [hs1, getD_ge (dig n) o.length (by omega)]; rfl, ((put_id' (put_id' (put_id' (put_id' (put_id' (mk_id' clc_FAdd_1) clc_FAdd_1) clc_FAdd_1) clc_FAdd_1) clc_FAdd_1) clc_FAdd_1)).symm⟩
        · skip
          rintro _ ⟨s, LC38, hs, rfl⟩
          refine then_n (wl_seq (wl_reg (mv (mv ?_))))
          refine st_pure rfl (.cv32 Try.underlying116 Try.underlying31 rfl) ?_
          refine st_alloc rfl rfl (.lit1 u32E Try.underlying32 Z31 T31 rfl (by decide) (by decide)) ?_
          refine st_store rfl (.app (news := [u32L (s % 4294967296)]) rfl rfl rfl rfl rfl (by simp) (.inl rfl) (by decide) Try.underlying32 Try.underlying32 Z31 T31 rfl B31 (.inl ⟨49, 0, _, rfl, by decide, rfl, rfl, by simp, rfl, rfl⟩) (by simp; omega) (by simp; omega) (by decide)) ?_
          refine asg ?_
          refine st_end nfc_FAdd_0 ?_
          refine then_n ?_
          refine wl_regW (Weak.kill _ 49) ?_
          refine mv ?_
          refine st_pure rfl (.sh rfl rfl shr32) ?_
          refine asg ?_
          refine st_end nfc_FAdd_0 ?_
          refine blk_n (then_n (wl_reg (mv ?_)))
          refine st_pure rfl (.bin rfl rfl (add64 om om)) ?_
          refine asg ?_
          refine st_end nfc_FAdd_0 ?_
          refine then_n ?_
          exact ⟨(o ++ [s % 4294967296], s / 4294967296), _, (show (s / 4294967296) ≤ 1 ∧ Lim (o ++ [s % 4294967296]) ∧ ((o ++ [s % 4294967296]).length ≤ max (dig m).length (dig n).length ∨ ((o ++ [s % 4294967296]).length = max (dig m).length (dig n).length + 1 ∧ (s / 4294967296) = 0)) ∧ val (o ++ [s % 4294967296]) + 4294967296 ^ (o ++ [s % 4294967296]).length * (s / 4294967296) = val ((dig m).take (o ++ [s % 4294967296]).length) + val ((dig n).take (o ++ [s % 4294967296]).length) ∧ ((o ++ [s % 4294967296]).length = max (dig m).length (dig n).length + 1 → 4294967296 ^ ((o ++ [s % 4294967296]).length - 1) ≤ m + n) from ⟨by omega, lim_snoc hlo (by omega), by rw [len_snoc]; exact fadd_len hc hol hg hs, by rw [len_snoc]; exact fadd_inv hv hs, by rw [len_snoc]; exact fadd_ge hv hol hg⟩), (show max (dig m).length (dig n).length + 2 - (o ++ [s % 4294967296]).length < max (dig m).length (dig n).length + 2 - o.length from by rw [len_snoc]; omega), Weak.of_eq (put_id' (put_id' (put_id' (put_id' (put_id' (mk_id' clc_FAdd_1) clc_FAdd_1) clc_FAdd_1) clc_FAdd_1) clc_FAdd_1) clc_FAdd_1)⟩
    · skip
      have h21r := h21
      try simp only [hce, l1, t0, t1, dflt, val_dig] at h21
      rw [ht, decide_eq_false_iff_not] at h21r
      have hN := fadd_end hc hlo hol hv hge h21r
      refine wl_exit ?_
      refine then_e (then_e (blk_e (then_n (wl_seq (wl_reg (mv (asg ?_)))))))
      refine st_end nfc_FAdd_0 ?_
      refine then_n (wl_ret ?_)
      skip
      exact ret1f [50] rfl rfl (by rw [show magL (m + n) = .list 1 (o.map u32L) by rw [← hN]; rfl]; exact imm_refm u32E rfl rfl rfl)
theorem nfc_Fminus_0 {p : Prop} (h : p := by (try simp only [e1, e2, e3, e4, p1, p2, p3, q1, q2, q3, l1, t0, t1, r1, r2, r3, r4, Nat.zero_add, Nat.reduceMul, Nat.reduceAdd, b1, b2, b3, b4, b5, b6, i1, i2, i3, i4, i5, i6, Nat.reduceBEq, dflt]); exact rfl) : p := h
theorem mlc_Fminus_1 {p : Prop} (h : p := by first | rfl | (simp only [e1, e2, e3, e4, p1, p2, p3, q1, q2, q3, l1, t0, t1, r1, r2, r3, r4, Nat.zero_add, Nat.reduceMul, Nat.reduceAdd, b1, b2, b3, b4, b5, b6, i1, i2, i3, i4, i5, i6, Nat.reduceBEq, dflt]; done) | (simp only [e1, e2, e3, e4, p1, p2, p3, q1, q2, q3, l1, t0, t1, r1, r2, r3, r4, Nat.zero_add, Nat.reduceMul, Nat.reduceAdd, b1, b2, b3, b4, b5, b6, i1, i2, i3, i4, i5, i6, Nat.reduceBEq, dflt]; rfl) | (simp only [e1, e2, e3, e4, p1, p2, p3, q1, q2, q3, l1, t0, t1, r1, r2, r3, r4, Nat.zero_add, Nat.reduceMul, Nat.reduceAdd, b1, b2, b3, b4, b5, b6, i1, i2, i3, i4, i5, i6, Nat.reduceBEq, dflt]; congr 2 <;> omega)) : p := h
theorem clc_Fminus_2 {p : Prop} (h : p := by first | rfl | (simp only [e1, e2, e3, e4, p1, p2, p3, q1, q2, q3, l1, t0, t1, r1, r2, r3, r4, Nat.zero_add, Nat.reduceMul, Nat.reduceAdd, b1, b2, b3, b4, b5, b6, i1, i2, i3, i4, i5, i6, Nat.reduceBEq, dflt]; done) | (simp only [e1, e2, e3, e4, p1, p2, p3, q1, q2, q3, l1, t0, t1, r1, r2, r3, r4, Nat.zero_add, Nat.reduceMul, Nat.reduceAdd, b1, b2, b3, b4, b5, b6, i1, i2, i3, i4, i5, i6, Nat.reduceBEq, dflt]; rfl) | (simp only [e1, e2, e3, e4, p1, p2, p3, q1, q2, q3, l1, t0, t1, r1, r2, r3, r4, Nat.zero_add, Nat.reduceMul, Nat.reduceAdd, b1, b2, b3, b4, b5, b6, i1, i2, i3, i4, i5, i6, Nat.reduceBEq, dflt]; congr 3 <;> omega) | (simp only [e1, e2, e3, e4, p1, p2, p3, q1, q2, q3, l1, t0, t1, r1, r2, r3, r4, Nat.zero_add, Nat.reduceMul, Nat.reduceAdd, b1, b2, b3, b4, b5, b6, i1, i2, i3, i4, i5, i6, Nat.reduceBEq, dflt]; congr 2 <;> omega)) : p := h
namespace H_c_Fminus
theorem om {p : Prop} (h : p := by first | (simp only [e1, e2, e3, e4, p1, p2, p3, q1, q2, q3, l1, t0, t1, r1, r2, r3, r4, Nat.zero_add, Nat.reduceMul, Nat.reduceAdd, b1, b2, b3, b4, b5, b6, i1, i2, i3, i4, i5, i6, Nat.reduceBEq, dflt]; omega) | omega) : p := h
end H_c_Fminus
open H_c_Fminus in
set_option maxHeartbeats 2000000 in
set_option maxRecDepth 100000 in
theorem c_Fminus (m n : Nat) (hla : (dig m).length ≤ 1099511627776) (hlb : (dig n).length ≤ 1099511627776) (hle : n ≤ m) : CallP Try.prog 118 [magL m, magL n] (magL (m - n)) := by
  have hbl := len_dig_mono hle
  refine callP_of fol Try.func118 rfl (by decide +kernel) (by decide +kernel) (Nat.le_of_ble_eq_true rfl) tm0 ?_
  refine wl_seq (wl_reg (asg ?_))
  refine st_end nfc_Fminus_0 ?_
  refine then_n (wl_seq (wl_reg (mv ?_)))
  refine st_pure rfl ln32 ?_
  refine st_alloc rfl rfl (.makeM (n := (dig m).length) (m := (dig m).length) u32E Try.underlying32 Z31 T31 B31 mlc_Fminus_1 mlc_Fminus_1 om om om) ?_
  refine asg ?_
  refine st_end nfc_Fminus_0 ?_
  refine then_n (wl_seq (wl_reg (asg ?_)))
  refine st_end nfc_Fminus_0 ?_
  refine then_n (wl_seq (wl_seq (wl_reg (asg ?_))))
  refine st_end nfc_Fminus_0 ?_
  refine then_n (wl_block ?_)
  refine wl_loop (α := Nat × List Nat × Nat) (fun st L => ((((((St.mk L.slot (hp [(12, ⟨1, st.2.1.map u32L, true⟩)])).put (some 0) (magL m)).put (some 1) (magL n)).put (some 5) (.ref 12 1 0 (dig m).length)).put (some 6) (nU64 st.2.2)).put (some 7) (nI64 st.1))) (fun st => st.1 ≤ (dig m).length ∧ st.2.1.length = (dig m).length ∧ st.2.2 ≤ 1 ∧ Lim st.2.1 ∧ val (st.2.1.take st.1) + val ((dig n).take st.1) = val ((dig m).take st.1) + 4294967296 ^ st.1 * st.2.2) (fun st => (dig m).length - st.1) (0, List.replicate (dig m).length 0, 0) (show (0) ≤ (dig m).length ∧ (List.replicate (dig m).length 0).length = (dig m).length ∧ (0) ≤ 1 ∧ Lim (List.replicate (dig m).length 0) ∧ val ((List.replicate (dig m).length 0).take (0)) + val ((dig n).take (0)) = val ((dig m).take (0)) + 4294967296 ^ (0) * (0) from ⟨Nat.zero_le _, by simp, by omega, lim_zeros _, by simp [val]⟩) ⟨_, Weak.of_eq (put_id' (put_id' (put_id' (put_id' (put_id' (mk_id' clc_Fminus_2) clc_Fminus_2) clc_Fminus_2) clc_Fminus_2) clc_Fminus_2) clc_Fminus_2)⟩ ?_
  rintro ⟨k, o, br⟩ L1 hLC
  obtain ⟨hk, hol, hbr, hlo, hv⟩ : k ≤ (dig m).length ∧ o.length = (dig m).length ∧ br ≤ 1 ∧ Lim o ∧ val (o.take k) + val ((dig n).take k) = val ((dig m).take k) + 4294967296 ^ k * br := hLC
  show wpL _ _ _ ((((((St.mk L1.slot (hp [(12, ⟨1, o.map u32L, true⟩)])).put (some 0) (magL m)).put (some 1) (magL n)).put (some 5) (.ref 12 1 0 (dig m).length)).put (some 6) (nU64 br)).put (some 7) (nI64 k))
  have hxk := getD_dig_lt m k
  have hyk := getD_dig_lt n k
  refine wl_seq (wl_seq (wl_reg (mv (mv ?_))))
  refine st_pure rfl ln32 ?_
  refine st_pure rfl (.bin rfl rfl rfl) ?_
  refine st_end nfc_Fminus_0 ?_
  refine then_n ?_
  refine wl_cond rfl (fun h16 => ?_) (fun h16 => ?_)
  · skip
    have h16r := h16
    try simp only [hce, l1, t0, t1, dflt, val_dig] at h16
    refine wl_skip (then_n (wl_seq (wl_block (wl_seq (wl_reg (mv (asg ?_)))))))
    refine st_end nfc_Fminus_0 ?_
    refine then_n (wl_seq (wl_seq (wl_reg (mv (mv ?_)))))
    refine st_pure rfl ln32 ?_
    refine st_pure rfl (.bin rfl rfl rfl) ?_
    refine st_end nfc_Fminus_0 ?_
    refine then_n ?_
    refine wl_cut (fun L => ∃ (x : Nat) (L1 : St), (x = br + (dig n).getD k 0) ∧ L = (((((((St.mk L1.slot (hp [(12, ⟨1, o.map u32L, true⟩)])).put (some 0) (magL m)).put (some 1) (magL n)).put (some 5) (.ref 12 1 0 (dig m).length)).put (some 6) (nU64 br)).put (some 7) (nI64 k)).put (some 8) (nU64 x))) ?_ ?_
    · skip
      refine wl_cond rfl (fun h23 => ?_) (fun h23 => ?_)
      · skip
        have h23r := h23
        try simp only [hce, l1, t0, t1, dflt, val_dig] at h23
        refine wl_reg (mv (mv (mv ?_)))
        refine st_pure rfl ix32 ?_
        refine st_pure rfl ld31 ?_
        refine st_pure rfl (.cv64 Try.underlying31 Try.underlying116 rfl om) ?_
        refine st_pure rfl (.bin rfl rfl (addU om)) ?_
        refine asg ?_
        refine st_end nfc_Fminus_0 ?_
        refine then_n ?_
        exact ⟨br + (dig n).getD k 0, _, rfl, ((put_id' (put_id' (put_id' (put_id' (put_id' (put_id' (mk_id' clc_Fminus_2) clc_Fminus_2) clc_Fminus_2) clc_Fminus_2) clc_Fminus_2) clc_Fminus_2) clc_Fminus_2)).symm⟩
      · skip
        have h23r := h23
        try simp only [hce, l1, t0, t1, dflt, val_dig] at h23
        refine wl_skip (then_n ?_)
        exact ⟨br, _, by rw [getD_ge _ k (by omega)]; rfl, ((put_id' (put_id' (put_id' (put_id' (put_id' (put_id' (mk_id' clc_Fminus_2) clc_Fminus_2) clc_Fminus_2) clc_Fminus_2) clc_Fminus_2) clc_Fminus_2) clc_Fminus_2)).symm⟩
    · skip
      rintro _ ⟨x, LC23, hx, rfl⟩
      refine then_n (wl_seq (wl_reg (mv (mv ?_))))
      refine st_pure rfl ix32 ?_
      refine st_pure rfl ld31 ?_
      refine st_pure rfl (.cv64 Try.underlying31 Try.underlying116 rfl om) ?_
      refine asg ?_
      refine st_end nfc_Fminus_0 ?_
      refine then_n (wl_seq (wl_reg (asg ?_)))
      refine st_end nfc_Fminus_0 ?_
      refine then_n (wl_seq (wl_seq (wl_reg (mv (mv ?_)))))
      refine st_pure rfl (.bin rfl rfl rfl) ?_
      refine st_end nfc_Fminus_0 ?_
      refine then_n ?_
      refine wl_cut (fun L => ∃ (y2 : Nat) (br2 : Nat) (L1 : St), (((dig m).getD k 0 < x ∧ y2 = (dig m).getD k 0 + 4294967296 ∧ br2 = 1) ∨ (x ≤ (dig m).getD k 0 ∧ y2 = (dig m).getD k 0 ∧ br2 = 0)) ∧ L = ((((((((St.mk L1.slot (hp [(12, ⟨1, o.map u32L, true⟩)])).put (some 0) (magL m)).put (some 1) (magL n)).put (some 5) (.ref 12 1 0 (dig m).length)).put (some 6) (nU64 br2)).put (some 7) (nI64 k)).put (some 8) (nU64 x)).put (some 9) (nU64 y2))) ?_ ?_
      · skip
        refine wl_cond rfl (fun h38 => ?_) (fun h38 => ?_)
        · skip
          have h38r := h38
          try simp only [hce, l1, t0, t1, dflt, val_dig] at h38
          refine wl_seq (wl_reg (mv ?_))
          refine st_pure rfl (.bin rfl rfl (addU om)) ?_
          refine asg ?_
          refine st_end nfc_Fminus_0 ?_
          refine then_n (wl_reg (asg ?_))
          refine st_end nfc_Fminus_0 ?_
          refine then_n ?_
          exact ⟨(dig m).getD k 0 + 4294967296, 1, _, .inl ⟨by omega, rfl, rfl⟩, ((put_id' (put_id' (put_id' (put_id' (put_id' (put_id' (put_id' (mk_id' clc_Fminus_2) clc_Fminus_2) clc_Fminus_2) clc_Fminus_2) clc_Fminus_2) clc_Fminus_2) clc_Fminus_2) clc_Fminus_2)).symm⟩
        · skip
          have h38r := h38
          try simp only [hce, l1, t0, t1, dflt, val_dig] at h38
          refine wl_skip (then_n ?_)
          exact ⟨(dig m).getD k 0, 0, _, .inr ⟨by omega, rfl, rfl⟩, ((put_id' (put_id' (put_id' (put_id' (put_id' (put_id' (put_id' (mk_id' clc_Fminus_2) clc_Fminus_2) clc_Fminus_2) clc_Fminus_2) clc_Fminus_2) clc_Fminus_2) clc_Fminus_2) clc_Fminus_2)).symm⟩
      · skip
        rintro _ ⟨y2, br2, LC38, hf, rfl⟩
        obtain ⟨hf1, hf2, hf3, hf4⟩ := sub_invF (by omega) hlo hbr hxk hyk hv hx hf
        refine then_n (wl_reg (mv (mv (mv (mv ?_)))))
        refine st_pure rfl (.bin rfl rfl (subU om om)) ?_
        refine st_pure rfl (.cv32 Try.underlying116 Try.underlying31 rfl) ?_
        refine st_pure rfl ix32 ?_
        refine st_store rfl (by exact .storeM u32E rfl rfl rfl T31 om) ?_
        refine st_end nfc_Fminus_0 ?_
        refine blk_n (then_n (wl_reg (mv ?_)))
        refine st_pure rfl (.bin rfl rfl (add64 om om)) ?_
        refine asg ?_
        refine st_end nfc_Fminus_0 ?_
        refine then_n ?_
        exact ⟨(k + 1, o.set k ((y2 - x) % 4294967296), br2), _, (show (k + 1) ≤ (dig m).length ∧ (o.set k ((y2 - x) % 4294967296)).length = (dig m).length ∧ (br2) ≤ 1 ∧ Lim (o.set k ((y2 - x) % 4294967296)) ∧ val ((o.set k ((y2 - x) % 4294967296)).take (k + 1)) + val ((dig n).take (k + 1)) = val ((dig m).take (k + 1)) + 4294967296 ^ (k + 1) * (br2) from ⟨by omega, by simp [hol], hf2, hf3, hf4⟩), (show (dig m).length - (k + 1) < (dig m).length - k from by omega), Weak.of_eq (put_id' (put_id' (put_id' (put_id' (put_id' (mk_id' clc_Fminus_2) clc_Fminus_2) clc_Fminus_2) clc_Fminus_2) clc_Fminus_2) clc_Fminus_2)⟩
  · skip
    have h16r := h16
    try simp only [hce, l1, t0, t1, dflt, val_dig] at h16
    obtain rfl : k = (dig m).length := by omega
    refine wl_exit ?_
    refine then_e (then_e (blk_e (then_n (wl_seq (wl_reg (mv ?_))))))
    refine st_callPf [12] rfl rfl (.cons im1 .nil) (c_FTrim _ (by first | assumption | exact lim_dig _) (by first | omega | (simp; done) | (simp; omega))) ?_
    refine asg ?_
    refine st_end nfc_Fminus_0 ?_
    refine then_n (wl_ret ?_)
    have e := sub_end (lim_dig m) hlo hol hbl (by rw [val_dig, val_dig]; exact hle) hv
    rw [trimL_dig hlo, val_dig, val_dig] at e
    have e2 := congrArg val e
    rw [val_dig, val_dig] at e2
    rw [← e2]
    exact ret1 rfl (by first | exact .pure rfl | exact .pure (limL_pure _) | exact .pure (magL_pure _) | exact .pure (ratE.pure _) | exact .pure (pure_lst u32E _ _) | exact .pure (pure_lst ratE _ _))
open H0 in
set_option maxHeartbeats 1000000 in
set_option maxRecDepth 100000 in
theorem c_FSub (m n : Nat) (hla : (dig m).length ≤ 1099511627776) (hlb : (dig n).length ≤ 1099511627776) : CallP Try.prog 89 [magL m, magL n] (.tup [limL (subL m n), iL (subE m n)]) := by
  refine callP_of fol Try.func89 rfl (by decide +kernel) (by decide +kernel) (Nat.le_of_ble_eq_true rfl) tm0 ?_
  refine wl_seq (wl_reg (asg (asg ?_)))
  refine st_end nf0 ?_
  refine then_n (wl_seq (wl_seq (wl_reg (mv (mv ?_)))))
  refine st_callP rfl (.cons im0 (.cons im0 .nil)) (c_FCmp _ _ (by omega) (by omega)) ?_
  refine st_pure rfl (.bin rfl rfl rfl) ?_
  refine st_end nf0 ?_
  refine then_n ?_
  refine wl_cond rfl (fun h9 => ?_) (fun h9 => ?_)
  · skip
    have h9r := h9
    try simp only [hce, l1, t0, t1, dflt, val_dig] at h9
    have hlt : m < n := by unfold cmpN at h9; split at h9; assumption; split at h9 <;> omega
    refine wl_seq (wl_reg (asg (asg ?_)))
    refine st_end nf0 ?_
    refine then_n (wl_ret (then_r ?_))
    rw [subL, if_pos hlt, subE, if_pos hlt]
    exact ret2 rfl (.nil 1) rfl (.pure rfl)
  · skip
    have h9r := h9
    try simp only [hce, l1, t0, t1, dflt, val_dig] at h9
    have hle : n ≤ m := by
      rcases Nat.lt_or_ge m n with h | h
      · rw [cmpN_lt h] at h9; omega
      · exact h
    refine wl_skip (then_n (wl_seq (wl_reg (mv (mv ?_)))))
    refine st_callP rfl (.cons im0 (.cons im0 .nil)) (c_Fminus _ _ (by omega) (by omega) (by omega)) ?_
    refine asg (asg ?_)
    refine st_end nf0 ?_
    refine then_n (wl_ret ?_)
    rw [subL_le hle, subE_0.2 hle]
    exact ret2 rfl (.pure (magL_pure _)) rfl (.pure rfl)
end Go.Proofs.Ythhdcfhaldcheaa
