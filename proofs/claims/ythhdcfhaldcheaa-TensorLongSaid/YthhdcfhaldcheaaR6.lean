/- Valid numbers, texts of small ones. -/
import Derived.Test.YthhdcfhaldcheaaM1
set_option linter.unusedVariables false
set_option linter.unusedSimpArgs false
namespace Go.Proofs.Ythhdcfhaldcheaa
open Go.Lg
theorem denN_ne1 (q : Rat) : denN q ≠ 1 := by rw [denN_eq]; split <;> omega
theorem c_NValidD (n : Nat) (h : (dig n).length ≤ 4611686018427387904) : CallP Try.prog 95 [magL n] (bL true) := by
  have := c_NValid (dig n) h
  rwa [decide_eq_true] at this
  by_cases h0 : (dig n).length = 0
  · exact .inl h0
  · exact .inr (can_getLast (can_dig n) (by omega))
theorem c_FValidD (n : Nat) (h : (dig n).length ≤ 4611686018427387904) : CallP Try.prog 128 [magL n] (bL true) := by
  have := c_FValid (dig n) h
  rwa [decide_eq_true] at this
  by_cases h0 : (dig n).length = 0
  · exact .inl h0
  · exact .inr (can_getLast (can_dig n) (by omega))
theorem gcd1 {q : Rat} (h : 0 < (dig (denN q)).length) : Nat.gcd q.num.natAbs (denN q) = 1 := by
  rw [denN_pos h]; exact q.reduced
theorem gcd1d (q : Rat) : Nat.gcd q.num.natAbs q.den = 1 := q.reduced
theorem blen1 : blen 1 = 1 := rfl
def u8L (n : Nat) : LV := .v (.int .u8 (n : Nat))
theorem u8E : EncOK u8L 1 false := ⟨fun _ => rfl, fun _ => rfl, fun _ => rfl⟩
end Go.Proofs.Ythhdcfhaldcheaa
namespace Go.Lg
open Go.Proofs.Ythhdcfhaldcheaa in
theorem OpP.cv8 {P : Program} {H : Heap} {ρ : Operand → LV} {S T : TypeId} {x : Operand} {d : TypeDesc} {k' : IntKind} {n : Nat} (hS : P.underlying S = some d) (hD : P.underlying T = some (.int .u8)) (hx : ρ x = .v (.int k' (n : Nat))) (h : n < 256) :
    OpP P H ρ (.convert S T x) (u8L n) := by
  have := OpP.conv (H := H) hS hD hx
  rwa [IntKind.wrap_u8, show ((n : Nat) : Int) % 256 = (n : Int) by omega] at this
end Go.Lg
namespace Go.Proofs.Ythhdcfhaldcheaa
open Go.Lg
theorem rem32 {a b : Nat} (h : 0 < b) : binI .rem .u32 (a : Nat) (b : Nat) = some (.int .u32 ((a % b : Nat) : Int)) := by
  have e : ((a : Int)).tmod b = ((a % b : Nat) : Int) := by rw [Int.tmod_eq_emod_of_nonneg (by omega)]; simp
  simp [binI, e]; omega
theorem quo32 {a b : Nat} (h : 0 < b) (h1 : a < 4294967296) : binI .quo .u32 (a : Nat) (b : Nat) = some (.int .u32 ((a / b : Nat) : Int)) := by
  have e : ((a : Int)).tdiv b = ((a / b : Nat) : Int) := by rw [Int.tdiv_eq_ediv_of_nonneg (by omega)]; simp
  have := Nat.div_le_self a b
  simp only [binI, if_neg (show ¬ ((b : Nat) : Int) = 0 by omega), e]
  rw [IntKind.wrap_u32]
  generalize a / b = x at *
  congr 2; omega
theorem m10 {m : Nat} (h : m < 10) : (48 + m % 10) % 4294967296 = 48 + m := by
  rw [Nat.mod_eq_of_lt h, Nat.mod_eq_of_lt (Nat.lt_of_lt_of_le (Nat.add_lt_add_left h 48) (by decide))]
theorem nfc_RValid_0 {p : Prop} (h : p := by (try simp only [e1, e2, e3, e4, p1, p2, p3, q1, q2, q3, l1, t0, t1, r1, r2, r3, r4, Nat.zero_add, Nat.reduceMul, Nat.reduceAdd, b1, b2, b3, b4, b5, b6, i1, i2, i3, i4, i5, i6, Nat.reduceBEq, val_dig, dflt, tz0]); exact rfl) : p := h
namespace H_c_RValid
theorem om {p : Prop} (h : p := by first | (simp only [e1, e2, e3, e4, p1, p2, p3, q1, q2, q3, l1, t0, t1, r1, r2, r3, r4, Nat.zero_add, Nat.reduceMul, Nat.reduceAdd, b1, b2, b3, b4, b5, b6, i1, i2, i3, i4, i5, i6, Nat.reduceBEq, val_dig, dflt, tz0]; omega) | omega) : p := h
end H_c_RValid
open H_c_RValid in
set_option maxHeartbeats 2000000 in
set_option maxRecDepth 100000 in
theorem c_RValid (q : Rat) (h : rl q ≤ 1099511627776) : CallP Try.prog 56 [ratL q] (bL true) := by
  have a1 := rl_num q
  have a2 := rl_den q
  have a3 := rl_denN q
  have hne := denN_ne1 q
  refine callP_of fol Try.func56 rfl (by decide +kernel) (by decide +kernel) (Nat.le_of_ble_eq_true rfl) tm0 ?_
  refine wl_seq (wl_reg ?_)
  refine st_alloc rfl rfl (.boxE ratE rfl) ?_
  refine asg ?_
  refine st_end nfc_RValid_0 ?_
  refine then_n (wl_seq (wl_seq (wl_reg ?_)))
  refine st_pure rfl fa34 ?_
  refine st_pure rfl ld32 ?_
  refine st_callP rfl (.cons im0 .nil) (c_NValidD _ (by omega)) ?_
  refine st_pure rfl (.not rfl) ?_
  refine mv ?_
  refine st_pure (guardX (v := false) rfl rfl (rfl) rfl) fa34 ?_
  refine st_pure (guardX (v := false) rfl rfl (rfl) rfl) ld32 ?_
  refine st_callP (guardX (v := false) rfl rfl (rfl) rfl) (.cons im0 .nil) (c_NValidD _ (by omega)) ?_
  refine st_pure (guardX (v := false) rfl rfl (rfl) rfl) (.not rfl) ?_
  refine st_pure rfl (.pickF rfl (rfl)) ?_
  refine mv ?_
  refine st_pure (guardX (v := false) rfl rfl (rfl) rfl) fa34 ?_
  refine st_pure (guardX (v := false) rfl rfl (rfl) rfl) ld32 ?_
  refine st_pure (guardX (v := false) rfl rfl (rfl) rfl) ln32 ?_
  refine st_pure (guardX (v := false) rfl rfl (rfl) rfl) (.bin rfl rfl rfl) ?_
  refine st_pure (guardX (v := false) rfl rfl (rfl) rfl) (.move _) ?_
  refine opsL_split (d := 18) rfl (fun h18 => ?_) (fun h18 => ?_)
  · skip
    have h18r := h18
    try simp only [hce, l1, t0, t1, dflt, val_dig] at h18
    refine st_pure (guardX (v := true) rfl rfl (h18r) rfl) fa34 ?_
    refine st_pure (guardX (v := true) rfl rfl (h18r) rfl) ld32 ?_
    refine st_pure (guardX (v := true) rfl rfl (h18r) rfl) ix32 ?_
    refine st_pure (guardX (v := true) rfl rfl (h18r) rfl) ld31 ?_
    refine st_pure (guardX (v := true) rfl rfl (h18r) rfl) (.bin rfl rfl rfl) ?_
    refine st_pure (guardX (v := false) rfl rfl (rfl) rfl) (.pickT rfl (h18r)) ?_
    refine st_pure rfl (.pickF rfl (rfl)) ?_
    refine st_end nfc_RValid_0 ?_
    refine then_n ?_
    refine wl_cond rfl (fun h25 => ?_) (fun h25 => ?_)
    · skip
      have h25r := h25
      try simp only [hce, l1, t0, t1, dflt, val_dig] at h25
      exfalso
      have := (dig_is1 (n := denN q) (by omega)).1
      omega
    · skip
      have h25r := h25
      try simp only [hce, l1, t0, t1, dflt, val_dig] at h25
      refine wl_skip (then_n (wl_seq (wl_seq (wl_reg ?_))))
      refine st_pure rfl fa34 ?_
      refine st_pure rfl ld32 ?_
      refine st_pure rfl ln32 ?_
      refine st_pure rfl (.bin rfl rfl rfl) ?_
      refine st_end nfc_RValid_0 ?_
      refine then_n ?_
      refine wl_cond rfl (fun h29 => ?_) (fun h29 => ?_)
      · skip
        have h29r := h29
        try simp only [hce, l1, t0, t1, dflt, val_dig] at h29
        refine wl_seq (wl_reg ?_)
        refine st_pure rfl fa34 ?_
        refine st_pure rfl ld4 ?_
        refine st_pure rfl (.not rfl) ?_
        refine mv ?_
        refine opsL_split (d := 33) rfl (fun h33 => ?_) (fun h33 => ?_)
        · skip
          have h33r := h33
          try simp only [hce, l1, t0, t1, dflt, val_dig] at h33
          have hz := num0 (q := q) (by omega)
          subst hz
          refine st_pure (guardX (v := true) rfl rfl (h33r) rfl) fa34 ?_
          refine st_pure (guardX (v := true) rfl rfl (h33r) rfl) ld32 ?_
          refine st_pure (guardX (v := true) rfl rfl (h33r) rfl) ln32 ?_
          refine st_pure (guardX (v := true) rfl rfl (h33r) rfl) (.bin rfl rfl rfl) ?_
          refine st_pure rfl (.pickT rfl (h33r)) ?_
          refine asg ?_
          refine st_end nfc_RValid_0 ?_
          refine then_n (wl_ret (then_r ?_))
          exact ret1 rfl (by first | exact .pure rfl | exact .pure (limL_pure _) | exact .pure (magL_pure _) | exact .pure (ratE.pure _) | exact .pure (pure_lst u32E _ _) | exact .pure (pure_lst ratE _ _))
        · skip
          have h33r := h33
          try simp only [hce, l1, t0, t1, dflt, val_dig] at h33
          exfalso
          have hz := num0 (q := q) (by omega)
          subst hz
          revert h33r
          decide
      · skip
        have h29r := h29
        try simp only [hce, l1, t0, t1, dflt, val_dig] at h29
        refine wl_skip (then_n (wl_seq (wl_reg ?_)))
        refine st_pure rfl fa34 ?_
        refine st_pure rfl ld32 ?_
        refine st_pure rfl ln32 ?_
        refine st_pure rfl (.bin rfl rfl rfl) ?_
        refine mv ?_
        refine opsL_split (d := 43) rfl (fun h43 => ?_) (fun h43 => ?_)
        · skip
          have h43r := h43
          try simp only [hce, l1, t0, t1, dflt, val_dig] at h43
          refine st_skip (guardX (v := true) rfl rfl (h43r) rfl) ?_
          refine st_skip (guardX (v := true) rfl rfl (h43r) rfl) ?_
          refine st_skip (guardX (v := true) rfl rfl (h43r) rfl) ?_
          refine st_skip (guardX (v := true) rfl rfl (h43r) rfl) ?_
          refine st_skip (guardX (v := true) rfl rfl (h43r) rfl) ?_
          first | simp only [val_dig, hg1] | skip
          refine st_skip (guardX (v := true) rfl rfl (h43r) rfl) ?_
          refine st_skip (guardX (v := true) rfl rfl (h43r) rfl) ?_
          refine st_pure rfl (.pickT rfl (h43r)) ?_
          refine asg ?_
          refine st_end nfc_RValid_0 ?_
          refine then_n (wl_ret ?_)
          exact ret1 rfl (by first | exact .pure rfl | exact .pure (limL_pure _) | exact .pure (magL_pure _) | exact .pure (ratE.pure _) | exact .pure (pure_lst u32E _ _) | exact .pure (pure_lst ratE _ _))
        · skip
          have h43r := h43
          try simp only [hce, l1, t0, t1, dflt, val_dig] at h43
          have hg1 := gcd1 (q := q) (by omega)
          refine st_pure (guardX (v := false) rfl rfl (h43r) rfl) fa34 ?_
          refine st_pure (guardX (v := false) rfl rfl (h43r) rfl) ld32 ?_
          refine st_pure (guardX (v := false) rfl rfl (h43r) rfl) fa34 ?_
          refine st_pure (guardX (v := false) rfl rfl (h43r) rfl) ld32 ?_
          refine st_callP (guardX (v := false) rfl rfl (h43r) rfl) (.cons im0 (.cons im0 .nil)) (c_NGcd _ _ (lim_dig _) (lim_dig _) (by omega) (by omega)) ?_
          first | simp only [val_dig, hg1] | skip
          refine st_callP (guardX (v := false) rfl rfl (h43r) rfl) (.cons im0 .nil) (c_NBits (dig 1) (lim_dig _) (by decide)) ?_
          refine st_pure (guardX (v := false) rfl rfl (h43r) rfl) (.bin rfl rfl rfl) ?_
          refine st_pure rfl (.pickF rfl (h43r)) ?_
          refine asg ?_
          refine st_end nfc_RValid_0 ?_
          refine then_n (wl_ret ?_)
          exact ret1 rfl (by first | exact .pure rfl | exact .pure (limL_pure _) | exact .pure (magL_pure _) | exact .pure (ratE.pure _) | exact .pure (pure_lst u32E _ _) | exact .pure (pure_lst ratE _ _))
  · skip
    have h18r := h18
    try simp only [hce, l1, t0, t1, dflt, val_dig] at h18
    refine st_skip (guardX (v := false) rfl rfl (h18r) rfl) ?_
    refine st_skip (guardX (v := false) rfl rfl (h18r) rfl) ?_
    refine st_skip (guardX (v := false) rfl rfl (h18r) rfl) ?_
    refine st_skip (guardX (v := false) rfl rfl (h18r) rfl) ?_
    refine st_skip (guardX (v := false) rfl rfl (h18r) rfl) ?_
    refine st_pure (guardX (v := false) rfl rfl (rfl) rfl) (.pickF rfl (h18r)) ?_
    refine st_pure rfl (.pickF rfl (rfl)) ?_
    refine st_end nfc_RValid_0 ?_
    refine then_n ?_
    refine wl_condY (b := _) rfl rfl ?_
    refine wl_skip (then_n (wl_seq (wl_seq (wl_reg ?_))))
    refine st_pure rfl fa34 ?_
    refine st_pure rfl ld32 ?_
    refine st_pure rfl ln32 ?_
    refine st_pure rfl (.bin rfl rfl rfl) ?_
    refine st_end nfc_RValid_0 ?_
    refine then_n ?_
    refine wl_cond rfl (fun h29 => ?_) (fun h29 => ?_)
    · skip
      have h29r := h29
      try simp only [hce, l1, t0, t1, dflt, val_dig] at h29
      refine wl_seq (wl_reg ?_)
      refine st_pure rfl fa34 ?_
      refine st_pure rfl ld4 ?_
      refine st_pure rfl (.not rfl) ?_
      refine mv ?_
      refine opsL_split (d := 33) rfl (fun h33 => ?_) (fun h33 => ?_)
      · skip
        have h33r := h33
        try simp only [hce, l1, t0, t1, dflt, val_dig] at h33
        have hz := num0 (q := q) (by omega)
        subst hz
        refine st_pure (guardX (v := true) rfl rfl (h33r) rfl) fa34 ?_
        refine st_pure (guardX (v := true) rfl rfl (h33r) rfl) ld32 ?_
        refine st_pure (guardX (v := true) rfl rfl (h33r) rfl) ln32 ?_
        refine st_pure (guardX (v := true) rfl rfl (h33r) rfl) (.bin rfl rfl rfl) ?_
        refine st_pure rfl (.pickT rfl (h33r)) ?_
        refine asg ?_
        refine st_end nfc_RValid_0 ?_
        refine then_n (wl_ret (then_r ?_))
        exact ret1 rfl (by first | exact .pure rfl | exact .pure (limL_pure _) | exact .pure (magL_pure _) | exact .pure (ratE.pure _) | exact .pure (pure_lst u32E _ _) | exact .pure (pure_lst ratE _ _))
      · skip
        have h33r := h33
        try simp only [hce, l1, t0, t1, dflt, val_dig] at h33
        exfalso
        have hz := num0 (q := q) (by omega)
        subst hz
        revert h33r
        decide
    · skip
      have h29r := h29
      try simp only [hce, l1, t0, t1, dflt, val_dig] at h29
      refine wl_skip (then_n (wl_seq (wl_reg ?_)))
      refine st_pure rfl fa34 ?_
      refine st_pure rfl ld32 ?_
      refine st_pure rfl ln32 ?_
      refine st_pure rfl (.bin rfl rfl rfl) ?_
      refine mv ?_
      refine opsL_split (d := 43) rfl (fun h43 => ?_) (fun h43 => ?_)
      · skip
        have h43r := h43
        try simp only [hce, l1, t0, t1, dflt, val_dig] at h43
        refine st_skip (guardX (v := true) rfl rfl (h43r) rfl) ?_
        refine st_skip (guardX (v := true) rfl rfl (h43r) rfl) ?_
        refine st_skip (guardX (v := true) rfl rfl (h43r) rfl) ?_
        refine st_skip (guardX (v := true) rfl rfl (h43r) rfl) ?_
        refine st_skip (guardX (v := true) rfl rfl (h43r) rfl) ?_
        first | simp only [val_dig, hg1] | skip
        refine st_skip (guardX (v := true) rfl rfl (h43r) rfl) ?_
        refine st_skip (guardX (v := true) rfl rfl (h43r) rfl) ?_
        refine st_pure rfl (.pickT rfl (h43r)) ?_
        refine asg ?_
        refine st_end nfc_RValid_0 ?_
        refine then_n (wl_ret ?_)
        exact ret1 rfl (by first | exact .pure rfl | exact .pure (limL_pure _) | exact .pure (magL_pure _) | exact .pure (ratE.pure _) | exact .pure (pure_lst u32E _ _) | exact .pure (pure_lst ratE _ _))
      · skip
        have h43r := h43
        try simp only [hce, l1, t0, t1, dflt, val_dig] at h43
        have hg1 := gcd1 (q := q) (by omega)
        refine st_pure (guardX (v := false) rfl rfl (h43r) rfl) fa34 ?_
        refine st_pure (guardX (v := false) rfl rfl (h43r) rfl) ld32 ?_
        refine st_pure (guardX (v := false) rfl rfl (h43r) rfl) fa34 ?_
        refine st_pure (guardX (v := false) rfl rfl (h43r) rfl) ld32 ?_
        refine st_callP (guardX (v := false) rfl rfl (h43r) rfl) (.cons im0 (.cons im0 .nil)) (c_NGcd _ _ (lim_dig _) (lim_dig _) (by omega) (by omega)) ?_
        first | simp only [val_dig, hg1] | skip
        refine st_callP (guardX (v := false) rfl rfl (h43r) rfl) (.cons im0 .nil) (c_NBits (dig 1) (lim_dig _) (by decide)) ?_
        refine st_pure (guardX (v := false) rfl rfl (h43r) rfl) (.bin rfl rfl rfl) ?_
        refine st_pure rfl (.pickF rfl (h43r)) ?_
        refine asg ?_
        refine st_end nfc_RValid_0 ?_
        refine then_n (wl_ret ?_)
        exact ret1 rfl (by first | exact .pure rfl | exact .pure (limL_pure _) | exact .pure (magL_pure _) | exact .pure (ratE.pure _) | exact .pure (pure_lst u32E _ _) | exact .pure (pure_lst ratE _ _))
theorem nfc_FText1_0 {p : Prop} (h : p := by (try simp only [e1, e2, e3, e4, p1, p2, p3, q1, q2, q3, l1, t0, t1, r1, r2, r3, r4, Nat.zero_add, Nat.reduceMul, Nat.reduceAdd, b1, b2, b3, b4, b5, b6, i1, i2, i3, i4, i5, i6, Nat.reduceBEq, val_dig, dflt, tz0, hdv, hmd, m10 h10, hm100, take_map_len, map_snoc, len_snoc, List.length_cons, List.length_nil, List.nil_append, kills_map u8E, LV.kill, ei0, List.map_cons, List.map_nil, List.length_map]); exact rfl) : p := h
theorem clc_FText1_1 {p : Prop} (h : p := by first | rfl | (simp only [e1, e2, e3, e4, p1, p2, p3, q1, q2, q3, l1, t0, t1, r1, r2, r3, r4, Nat.zero_add, Nat.reduceMul, Nat.reduceAdd, b1, b2, b3, b4, b5, b6, i1, i2, i3, i4, i5, i6, Nat.reduceBEq, val_dig, dflt, tz0, hdv, hmd, m10 h10, hm100, take_map_len, map_snoc, len_snoc, List.length_cons, List.length_nil, List.nil_append, kills_map u8E, LV.kill, ei0, List.map_cons, List.map_nil, List.length_map]; done) | (simp only [e1, e2, e3, e4, p1, p2, p3, q1, q2, q3, l1, t0, t1, r1, r2, r3, r4, Nat.zero_add, Nat.reduceMul, Nat.reduceAdd, b1, b2, b3, b4, b5, b6, i1, i2, i3, i4, i5, i6, Nat.reduceBEq, val_dig, dflt, tz0, hdv, hmd, m10 h10, hm100, take_map_len, map_snoc, len_snoc, List.length_cons, List.length_nil, List.nil_append, kills_map u8E, LV.kill, ei0, List.map_cons, List.map_nil, List.length_map]; rfl) | (simp only [e1, e2, e3, e4, p1, p2, p3, q1, q2, q3, l1, t0, t1, r1, r2, r3, r4, Nat.zero_add, Nat.reduceMul, Nat.reduceAdd, b1, b2, b3, b4, b5, b6, i1, i2, i3, i4, i5, i6, Nat.reduceBEq, val_dig, dflt, tz0, hdv, hmd, m10 h10, hm100, take_map_len, map_snoc, len_snoc, List.length_cons, List.length_nil, List.nil_append, kills_map u8E, LV.kill, ei0, List.map_cons, List.map_nil, List.length_map]; congr 3 <;> omega) | (simp only [e1, e2, e3, e4, p1, p2, p3, q1, q2, q3, l1, t0, t1, r1, r2, r3, r4, Nat.zero_add, Nat.reduceMul, Nat.reduceAdd, b1, b2, b3, b4, b5, b6, i1, i2, i3, i4, i5, i6, Nat.reduceBEq, val_dig, dflt, tz0, hdv, hmd, m10 h10, hm100, take_map_len, map_snoc, len_snoc, List.length_cons, List.length_nil, List.nil_append, kills_map u8E, LV.kill, ei0, List.map_cons, List.map_nil, List.length_map]; congr 2 <;> omega)) : p := h
theorem mlc_FText1_2 {p : Prop} (h : p := by first | rfl | (simp only [e1, e2, e3, e4, p1, p2, p3, q1, q2, q3, l1, t0, t1, r1, r2, r3, r4, Nat.zero_add, Nat.reduceMul, Nat.reduceAdd, b1, b2, b3, b4, b5, b6, i1, i2, i3, i4, i5, i6, Nat.reduceBEq, val_dig, dflt, tz0, hdv, hmd, m10 h10, hm100, take_map_len, map_snoc, len_snoc, List.length_cons, List.length_nil, List.nil_append, kills_map u8E, LV.kill, ei0, List.map_cons, List.map_nil, List.length_map]; done) | (simp only [e1, e2, e3, e4, p1, p2, p3, q1, q2, q3, l1, t0, t1, r1, r2, r3, r4, Nat.zero_add, Nat.reduceMul, Nat.reduceAdd, b1, b2, b3, b4, b5, b6, i1, i2, i3, i4, i5, i6, Nat.reduceBEq, val_dig, dflt, tz0, hdv, hmd, m10 h10, hm100, take_map_len, map_snoc, len_snoc, List.length_cons, List.length_nil, List.nil_append, kills_map u8E, LV.kill, ei0, List.map_cons, List.map_nil, List.length_map]; rfl) | (simp only [e1, e2, e3, e4, p1, p2, p3, q1, q2, q3, l1, t0, t1, r1, r2, r3, r4, Nat.zero_add, Nat.reduceMul, Nat.reduceAdd, b1, b2, b3, b4, b5, b6, i1, i2, i3, i4, i5, i6, Nat.reduceBEq, val_dig, dflt, tz0, hdv, hmd, m10 h10, hm100, take_map_len, map_snoc, len_snoc, List.length_cons, List.length_nil, List.nil_append, kills_map u8E, LV.kill, ei0, List.map_cons, List.map_nil, List.length_map]; congr 2 <;> omega)) : p := h
namespace H_c_FText1
theorem om {p : Prop} (h : p := by first | (simp only [e1, e2, e3, e4, p1, p2, p3, q1, q2, q3, l1, t0, t1, r1, r2, r3, r4, Nat.zero_add, Nat.reduceMul, Nat.reduceAdd, b1, b2, b3, b4, b5, b6, i1, i2, i3, i4, i5, i6, Nat.reduceBEq, val_dig, dflt, tz0, hdv, hmd, m10 h10, hm100, take_map_len, map_snoc, len_snoc, List.length_cons, List.length_nil, List.nil_append, kills_map u8E, LV.kill, ei0, List.map_cons, List.map_nil, List.length_map]; omega) | omega) : p := h
end H_c_FText1
open H_c_FText1 in
set_option maxHeartbeats 2000000 in
set_option maxRecDepth 100000 in
theorem c_FText1 (m : Nat) (h0 : 0 < m) (h10 : m < 10) : CallP Try.prog 93 [magL m] (.v (.string ⟨#[UInt8.ofNat (48 + m)]⟩)) := by
  have hd := dig_small h0 (by omega : m < 4294967296)
  have hl : (dig m).length = 1 := by rw [hd]; rfl
  have hdv : m / 1000000000 = 0 := by omega
  have hmd : m % 1000000000 = m := by omega
  have hm100 : m / 10 = 0 := by omega
  refine callP_of fol Try.func93 rfl (by decide +kernel) (by decide +kernel) (Nat.le_of_ble_eq_true rfl) tm0 ?_
  have ei0 : True := trivial
  refine wl_seq (wl_reg (asg ?_))
  refine st_end nfc_FText1_0 ?_
  refine then_n (wl_seq (wl_seq (wl_reg (mv ?_))))
  refine st_pure rfl ln32 ?_
  refine st_pure rfl (.bin rfl rfl rfl) ?_
  refine st_end nfc_FText1_0 ?_
  refine then_n ?_
  refine wl_cond rfl (fun h11 => ?_) (fun h11 => ?_)
  · skip
    have h11r := h11
    try simp only [hce, l1, t0, t1, dflt, val_dig] at h11
    omega
  · skip
    have h11r := h11
    try simp only [hce, l1, t0, t1, dflt, val_dig] at h11
    refine wl_skip (then_n (wl_seq (wl_reg (asg ?_))))
    refine st_end nfc_FText1_0 ?_
    refine then_n (wl_seq (wl_block ?_))
    refine wl_weak (Weak.own (t := 3) 39 1 rfl rfl) ?_
    refine wl_loop (α := Nat × List Nat) (fun st L => (((St.mk L.slot (hp [(39, ⟨1, st.2.map u8L, true⟩)])).put (some 0) (magL st.1)).put (some 3) (.ref 39 1 0 st.2.length))) (fun st => (m = st.1 ∧ st.2 = []) ∨ (st.1 = 0 ∧ st.2 = [48 + m])) (fun st => st.1) (m, []) (show (m = (m) ∧ ([]) = []) ∨ ((m) = 0 ∧ ([]) = [48 + m]) from .inl ⟨rfl, rfl⟩) ⟨_, Weak.of_eq (put_id' (put_id' (mk_id' clc_FText1_1) clc_FText1_1) clc_FText1_1)⟩ ?_
    rintro ⟨a, o⟩ L1 hLC
    have hao : (m = a ∧ o = []) ∨ (a = 0 ∧ o = [48 + m]) := hLC
    clear hLC
    show wpL _ _ _ (((St.mk L1.slot (hp [(39, ⟨1, o.map u8L, true⟩)])).put (some 0) (magL a)).put (some 3) (.ref 39 1 0 o.length))
    refine wl_seq (wl_seq (wl_reg (mv ?_)))
    refine st_pure rfl ln32 ?_
    refine st_pure rfl (.bin rfl rfl rfl) ?_
    refine st_end nfc_FText1_0 ?_
    refine then_n ?_
    refine wl_cond rfl (fun h14 => ?_) (fun h14 => ?_)
    · skip
      have h14r := h14
      try simp only [hce, l1, t0, t1, dflt, val_dig] at h14
      have hao2 : m = a ∧ o = [] := by
        rcases hao with h | h
        · exact h
        · rw [h.1] at h14; exact absurd h14 (by decide)
      obtain ⟨rfl, rfl⟩ := hao2
      refine wl_skip (then_n (wl_block (wl_seq (wl_reg (mv ?_)))))
      refine st_callP rfl (.cons im0 (.cons im0 .nil)) (c_FbyLimb m 1000000000 (by omega) (by omega) (by omega)) ?_
      refine mv ?_
      refine st_pure rfl (.extract rfl rfl nt0) ?_
      refine st_pure rfl (.extract rfl rfl nt0) ?_
      refine asg (asg ?_)
      refine st_end nfc_FText1_0 ?_
      refine then_n (wl_seq (wl_seq (wl_reg (asg ?_))))
      refine st_end nfc_FText1_0 ?_
      refine then_n (wl_block ?_)
      refine wl_loop (α := Nat × Nat × List Nat) (fun st L => ((((((St.mk L.slot (hp [(39, ⟨1, st.2.2.map u8L, true⟩)])).put (some 0) (magL m)).put (some 3) (.ref 39 1 0 st.2.2.length)).put (some 4) (magL 0)).put (some 5) (nU32 st.2.1)).put (some 6) (nI64 st.1))) (fun st => (st.1 = 0 ∧ m = st.2.1 ∧ st.2.2 = []) ∨ (st.1 = 1 ∧ st.2.1 = 0 ∧ st.2.2 = [48 + m])) (fun st => st.2.1) (0, m, []) (show ((0) = 0 ∧ m = (m) ∧ ([]) = []) ∨ ((0) = 1 ∧ (m) = 0 ∧ ([]) = [48 + m]) from .inl ⟨rfl, rfl, rfl⟩) ⟨_, Weak.of_eq (put_id' (put_id' (put_id' (put_id' (put_id' (mk_id' clc_FText1_1) clc_FText1_1) clc_FText1_1) clc_FText1_1) clc_FText1_1) clc_FText1_1)⟩ ?_
      rintro ⟨i, r, o2⟩ L2 hLC
      have hio : (i = 0 ∧ m = r ∧ o2 = []) ∨ (i = 1 ∧ r = 0 ∧ o2 = [48 + m]) := hLC
      clear hLC
      show wpL _ _ _ ((((((St.mk L2.slot (hp [(39, ⟨1, o2.map u8L, true⟩)])).put (some 0) (magL m)).put (some 3) (.ref 39 1 0 o2.length)).put (some 4) (magL 0)).put (some 5) (nU32 r)).put (some 6) (nI64 i))
      refine wl_seq (wl_seq ?_)
      refine wl_cut (fun L => ∃ (t : Bool) (L1 : St), (t = decide (0 < r)) ∧ L = (((((((St.mk L1.slot (hp [(39, ⟨1, o2.map u8L, true⟩)])).put (some 0) (magL m)).put (some 3) (.ref 39 1 0 o2.length)).put (some 4) (magL 0)).put (some 5) (nU32 r)).put (some 6) (nI64 i)).put (some 30) (bL t))) ?_ ?_
      · skip
        refine wl_reg (mv ?_)
        refine st_pure rfl (.bin rfl rfl rfl) ?_
        refine mv ?_
        refine opsL_split (d := 22) rfl (fun h22 => ?_) (fun h22 => ?_)
        · skip
          have h22r := h22
          try simp only [hce, l1, t0, t1, dflt, val_dig] at h22
          refine st_pure (guardX (v := true) rfl rfl (h22r) rfl) (.move _) ?_
          refine st_pure (guardX (v := true) rfl rfl (h22r) rfl) (.bin rfl rfl rfl) ?_
          refine st_pure (guardX (v := true) rfl rfl (h22r) rfl) (.move _) ?_
          refine opsL_split (d := 25) rfl (fun h25 => ?_) (fun h25 => ?_)
          · skip
            have h25r := h25
            try simp only [hce, l1, t0, t1, dflt, val_dig] at h25
            refine st_skip (guardX (v := true) rfl rfl (h25r) rfl) ?_
            refine st_skip (guardX (v := true) rfl rfl (h25r) rfl) ?_
            refine st_skip (guardX (v := true) rfl rfl (h25r) rfl) ?_
            refine st_pure (guardX (v := true) rfl rfl (h22r) rfl) (.pickT rfl (h25r)) ?_
            refine st_pure rfl (.pickT rfl (h22r)) ?_
            refine st_end nfc_FText1_0 ?_
            refine then_n ?_
            exact ⟨true, _, by symm; rw [decide_eq_true_iff]; omega, ((put_id' (put_id' (put_id' (put_id' (put_id' (put_id' (mk_id' clc_FText1_1) clc_FText1_1) clc_FText1_1) clc_FText1_1) clc_FText1_1) clc_FText1_1) clc_FText1_1)).symm⟩
          · skip
            have h25r := h25
            try simp only [hce, l1, t0, t1, dflt, val_dig] at h25
            refine st_pure (guardX (v := false) rfl rfl (h25r) rfl) (.move _) ?_
            refine st_pure (guardX (v := false) rfl rfl (h25r) rfl) ln32 ?_
            refine st_pure (guardX (v := false) rfl rfl (h25r) rfl) (.bin rfl rfl rfl) ?_
            refine st_pure (guardX (v := true) rfl rfl (h22r) rfl) (.pickF rfl (h25r)) ?_
            refine st_pure rfl (.pickT rfl (h22r)) ?_
            refine st_end nfc_FText1_0 ?_
            refine then_n ?_
            exact ⟨false, _, by symm; rw [decide_eq_false_iff_not]; omega, ((put_id' (put_id' (put_id' (put_id' (put_id' (put_id' (mk_id' clc_FText1_1) clc_FText1_1) clc_FText1_1) clc_FText1_1) clc_FText1_1) clc_FText1_1) clc_FText1_1)).symm⟩
        · skip
          have h22r := h22
          try simp only [hce, l1, t0, t1, dflt, val_dig] at h22
          exfalso
          omega
      · skip
        rintro _ ⟨t, LR7, ht, rfl⟩
        refine then_n ?_
        refine wl_cond rfl (fun h30 => ?_) (fun h30 => ?_)
        · skip
          have h30r := h30
          try simp only [hce, l1, t0, t1, dflt, val_dig] at h30
          rw [ht, decide_eq_true_iff] at h30r
          have hio2 : i = 0 ∧ m = r ∧ o2 = [] := by
            rcases hio with h | h
            · exact h
            · omega
          obtain ⟨rfl, rfl, rfl⟩ := hio2
          refine wl_skip (then_n (wl_seq (wl_block (wl_seq (wl_reg (mv (mv ?_)))))))
          refine st_pure rfl (.bin rfl rfl (rem32 (b := 10) (by decide))) ?_
          refine st_pure rfl (.bin rfl rfl (addU32)) ?_
          refine st_pure rfl (.cv8 (n := 48 + m) Try.underlying31 Try.underlying5 (by simp only [e1, p1, p2, Nat.reduceBEq, m10 h10]; rfl) (by omega)) ?_
          refine st_alloc rfl rfl (.lit1 u8E Try.underlying126 Z5 T5 rfl (by decide) (by decide)) ?_
          refine st_store rfl (.app (news := [u8L (48 + m)]) rfl rfl rfl rfl rfl (by simp) (.inl rfl) (by decide) Try.underlying126 Try.underlying126 Z5 T5 rfl B5 (.inl ⟨38, 0, _, rfl, by decide, rfl, rfl, by simp, rfl, rfl⟩) (by simp) (by simp) (by decide)) ?_
          refine asg ?_
          refine st_end nfc_FText1_0 ?_
          refine then_n (wl_reg (mv ?_))
          refine st_pure rfl (.bin rfl rfl (quo32 (b := 10) (by decide) (by omega))) ?_
          refine asg ?_
          refine st_end nfc_FText1_0 ?_
          refine blk_n (then_n ?_)
          refine wl_regW (Weak.kill _ 38) ?_
          refine mv ?_
          refine st_pure rfl (.bin rfl rfl (add64 om om)) ?_
          refine asg ?_
          refine st_end nfc_FText1_0 ?_
          refine then_n ?_
          exact ⟨(1, 0, [48 + m]), _, (show ((1) = 0 ∧ m = (0) ∧ ([48 + m]) = []) ∨ ((1) = 1 ∧ (0) = 0 ∧ ([48 + m]) = [48 + m]) from .inr ⟨rfl, rfl, rfl⟩), (show (0) < m from h0), Weak.of_eq (put_id' (put_id' (put_id' (put_id' (put_id' (mk_id' clc_FText1_1) clc_FText1_1) clc_FText1_1) clc_FText1_1) clc_FText1_1) clc_FText1_1)⟩
        · skip
          have h30r := h30
          try simp only [hce, l1, t0, t1, dflt, val_dig] at h30
          rw [ht, decide_eq_false_iff_not] at h30r
          have hio2 : i = 1 ∧ r = 0 ∧ o2 = [48 + m] := by
            rcases hio with h | h
            · omega
            · exact h
          obtain ⟨rfl, rfl, rfl⟩ := hio2
          refine wl_exit ?_
          refine then_e (then_e (blk_e (then_n (wl_reg (mv (asg ?_))))))
          refine st_end nfc_FText1_0 ?_
          refine blk_n (then_n ?_)
          exact ⟨(0, [48 + m]), _, (show (m = (0) ∧ ([48 + m]) = []) ∨ ((0) = 0 ∧ ([48 + m]) = [48 + m]) from .inr ⟨rfl, rfl⟩), (show (0) < m from h0), Weak.of_eq (put_id' (put_id' (mk_id' clc_FText1_1) clc_FText1_1) clc_FText1_1)⟩
    · skip
      have h14r := h14
      try simp only [hce, l1, t0, t1, dflt, val_dig] at h14
      have hao2 : a = 0 ∧ o = [48 + m] := by
        rcases hao with h | h
        · rw [← h.1] at h14; omega
        · exact h
      obtain ⟨rfl, rfl⟩ := hao2
      refine wl_exit ?_
      refine then_e (then_e (blk_e (then_n (wl_seq (wl_reg (mv ?_))))))
      refine st_pure rfl ln126 ?_
      refine st_alloc rfl rfl (.makeM (n := 1) (m := 1) u8E Try.underlying126 Z5 T5 B5 mlc_FText1_2 mlc_FText1_2 om om om) ?_
      refine asg ?_
      refine st_end nfc_FText1_0 ?_
      refine then_n (wl_seq (wl_seq (wl_reg (asg ?_))))
      refine st_end nfc_FText1_0 ?_
      refine then_n (wl_block ?_)
      refine wl_loop (α := Nat × List Nat) (fun st L => ((((St.mk L.slot (hp [(39, ⟨1, [48 + m].map u8L, true⟩), (45, ⟨1, st.2.map u8L, true⟩)])).put (some 3) (.ref 39 1 0 1)).put (some 7) (.ref 45 1 0 1)).put (some 8) (nI64 st.1))) (fun st => (st.1 = 0 ∧ st.2 = [0]) ∨ (st.1 = 1 ∧ st.2 = [48 + m])) (fun st => 1 - st.1) (0, [0]) (show ((0) = 0 ∧ ([0]) = [0]) ∨ ((0) = 1 ∧ ([0]) = [48 + m]) from .inl ⟨rfl, rfl⟩) ⟨_, Weak.of_eq (put_id' (put_id' (put_id' (mk_id' clc_FText1_1) clc_FText1_1) clc_FText1_1) clc_FText1_1)⟩ ?_
      rintro ⟨i, w⟩ L3 hLC
      have hiw : (i = 0 ∧ w = [0]) ∨ (i = 1 ∧ w = [48 + m]) := hLC
      clear hLC
      show wpL _ _ _ ((((St.mk L3.slot (hp [(39, ⟨1, [48 + m].map u8L, true⟩), (45, ⟨1, w.map u8L, true⟩)])).put (some 3) (.ref 39 1 0 1)).put (some 7) (.ref 45 1 0 1)).put (some 8) (nI64 i))
      refine wl_seq (wl_seq (wl_reg (mv (mv ?_))))
      refine st_pure rfl ln126 ?_
      refine st_pure rfl (.bin rfl rfl rfl) ?_
      refine st_end nfc_FText1_0 ?_
      refine then_n ?_
      refine wl_cond rfl (fun h49 => ?_) (fun h49 => ?_)
      · skip
        have h49r := h49
        try simp only [hce, l1, t0, t1, dflt, val_dig] at h49
        have hiw2 : i = 0 ∧ w = [0] := by
          rcases hiw with h | h
          · exact h
          · omega
        obtain ⟨rfl, rfl⟩ := hiw2
        have ei0 : ((1 : Int) - 1 - 0).toNat = 0 := rfl
        refine wl_skip (then_n (wl_seq (wl_block (wl_reg (mv (mv ?_))))))
        refine st_pure rfl ln126 ?_
        refine st_pure rfl (.bin rfl rfl (sub64 om om)) ?_
        refine mv ?_
        refine st_pure rfl (.bin rfl rfl (sub64 om om)) ?_
        refine mv (mv ?_)
        refine st_pure rfl ix126 ?_
        refine st_pure rfl ld5 ?_
        refine st_pure rfl ix126 ?_
        refine st_store rfl (by exact .storeM u8E rfl rfl rfl T5 om) ?_
        refine st_end nfc_FText1_0 ?_
        refine blk_n (then_n (wl_reg (mv ?_)))
        refine st_pure rfl (.bin rfl rfl (add64 om om)) ?_
        refine asg ?_
        refine st_end nfc_FText1_0 ?_
        refine then_n ?_
        exact ⟨(1, [48 + m]), _, (show ((1) = 0 ∧ ([48 + m]) = [0]) ∨ ((1) = 1 ∧ ([48 + m]) = [48 + m]) from .inr ⟨rfl, rfl⟩), (show 1 - (1) < 1 - 0 from by omega), Weak.of_eq (put_id' (put_id' (put_id' (mk_id' clc_FText1_1) clc_FText1_1) clc_FText1_1) clc_FText1_1)⟩
      · skip
        have h49r := h49
        try simp only [hce, l1, t0, t1, dflt, val_dig] at h49
        have hiw2 : i = 1 ∧ w = [48 + m] := by
          rcases hiw with h | h
          · omega
          · exact h
        obtain ⟨rfl, rfl⟩ := hiw2
        refine wl_exit ?_
        refine then_e (then_e (blk_e (then_n (wl_seq (wl_reg (mv ?_))))))
        refine st_pure rfl (.strR (ns := [48 + m]) Try.underlying126 Try.underlying5 Try.underlying9 rfl rfl rfl rfl (by simp)) ?_
        refine asg ?_
        refine st_end nfc_FText1_0 ?_
        refine then_n (wl_ret ?_)
        exact ret1 rfl (.pure rfl)
theorem nfc_FText_0 {p : Prop} (h : p := by (try simp only [e1, e2, e3, e4, p1, p2, p3, q1, q2, q3, l1, t0, t1, r1, r2, r3, r4, Nat.zero_add, Nat.reduceMul, Nat.reduceAdd, b1, b2, b3, b4, b5, b6, i1, i2, i3, i4, i5, i6, Nat.reduceBEq, edd]); exact rfl) : p := h
namespace H_c_FText
theorem om {p : Prop} (h : p := by first | (simp only [e1, e2, e3, e4, p1, p2, p3, q1, q2, q3, l1, t0, t1, r1, r2, r3, r4, Nat.zero_add, Nat.reduceMul, Nat.reduceAdd, b1, b2, b3, b4, b5, b6, i1, i2, i3, i4, i5, i6, Nat.reduceBEq, edd]; omega) | omega) : p := h
end H_c_FText
open H_c_FText in
set_option maxHeartbeats 1000000 in
set_option maxRecDepth 100000 in
theorem c_FText (q : Rat) (h0 : 0 < q) (hn : q.num.natAbs < 10) (hd : q.den < 10) : CallP Try.prog 52 [ratL q] (.v (.string (if q.den = 1 then ⟨#[UInt8.ofNat (48 + q.num.natAbs)]⟩ else ⟨#[UInt8.ofNat (48 + q.num.natAbs), 47, UInt8.ofNat (48 + q.den)]⟩))) := by
  have hq0 : 0 < q.num.natAbs := by have := pos_iff.1 h0; omega
  have hnn : ¬ q < 0 := by grind
  have hdp := q.den_pos
  refine callP_of fol Try.func52 rfl (by decide +kernel) (by decide +kernel) (Nat.le_of_ble_eq_true rfl) tm0 ?_
  have edd : True := trivial
  refine wl_seq (wl_reg ?_)
  refine st_alloc rfl rfl (.boxE ratE rfl) ?_
  refine asg ?_
  refine st_end nfc_FText_0 ?_
  refine then_n (wl_seq (wl_reg ?_))
  refine st_pure rfl fa34 ?_
  refine st_pure rfl ld32 ?_
  refine st_callP rfl (.cons im0 .nil) (c_FText1 _ (by omega) (by omega)) ?_
  refine asg ?_
  refine st_end nfc_FText_0 ?_
  refine then_n (wl_seq (wl_seq (wl_reg ?_)))
  refine st_pure rfl fa34 ?_
  refine st_pure rfl ld4 ?_
  refine st_end nfc_FText_0 ?_
  refine then_n ?_
  refine wl_cond rfl (fun h8 => ?_) (fun h8 => ?_)
  · skip
    have h8r := h8
    try simp only [hce, l1, t0, t1, dflt, val_dig] at h8
    exact absurd h8 hnn
  · skip
    have h8r := h8
    try simp only [hce, l1, t0, t1, dflt, val_dig] at h8
    refine wl_skip (then_n (wl_seq (wl_seq (wl_reg ?_))))
    refine st_pure rfl fa34 ?_
    refine st_pure rfl ld32 ?_
    refine st_pure rfl ln32 ?_
    refine st_pure rfl (.bin rfl rfl rfl) ?_
    refine st_end nfc_FText_0 ?_
    refine then_n ?_
    refine wl_cond rfl (fun h14 => ?_) (fun h14 => ?_)
    · skip
      have h14r := h14
      try simp only [hce, l1, t0, t1, dflt, val_dig] at h14
      have edd := denN_pos (q := q) (by omega)
      have hd1 : q.den ≠ 1 := fun e => by have := denN_eq q; rw [if_pos e] at this; omega
      refine wl_reg (mv ?_)
      refine st_pure rfl fa34 ?_
      refine st_pure rfl ld32 ?_
      simp only [edd]
      refine st_callP rfl (.cons im0 .nil) (c_FText1 _ (by omega) (by omega)) ?_
      refine st_pure rfl (.addS rfl rfl (Nat.le_of_ble_eq_true rfl)) ?_
      refine st_pure rfl (.addS rfl rfl (Nat.le_of_ble_eq_true rfl)) ?_
      refine asg ?_
      refine st_end nfc_FText_0 ?_
      refine then_n (wl_seq (wl_reg (mv (asg ?_))))
      refine st_end nfc_FText_0 ?_
      refine then_n (wl_ret ?_)
      rw [if_neg hd1]
      exact ret1 rfl (.pure rfl)
    · skip
      have h14r := h14
      try simp only [hce, l1, t0, t1, dflt, val_dig] at h14
      have hd1 := denN_zero (q := q) (by omega)
      refine wl_skip (then_n (wl_seq (wl_reg (mv (asg ?_)))))
      refine st_end nfc_FText_0 ?_
      refine then_n (wl_ret ?_)
      rw [if_pos hd1]
      exact ret1 rfl (.pure rfl)
end Go.Proofs.Ythhdcfhaldcheaa
