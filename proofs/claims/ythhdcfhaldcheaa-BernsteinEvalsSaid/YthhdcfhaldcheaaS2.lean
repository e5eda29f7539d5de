/- Changes of sign; the law BernsteinSigns. -/
import Derived.Test.YthhdcfhaldcheaaS1
import Derived.Test.YthhdcfhaldcheaaL1
set_option linter.unusedVariables false
set_option linter.unusedSimpArgs false
namespace Go.Proofs.Ythhdcfhaldcheaa
open Go.Lg
end Go.Proofs.Ythhdcfhaldcheaa
namespace Go.Lg
/-- a block of the call's own that is not written any more is a list -/
theorem Weak.imm {L : St} {t : Nat} {x y : LV} (bs : List Nat) (h0 : bs.contains 0 = false) (h : L.slot t = x) (hi : Imm (L.frz bs).heap x y) : Weak L ((L.frz bs).put (some t) y) := by
  rintro n W X Z0 a w ⟨hdf, hsz, μ, Z, hc, hr⟩
  obtain ⟨Z1, k1, k2⟩ := hc.widen (frz_le bs h0)
  refine ⟨hdf, hsz, μ, Z1, by rw [put_heap]; exact k1, fun s => ?_⟩
  have hfr : Frame Z μ w w := ⟨fun _ _ => rfl, fun _ id _ c _ _ hh => ⟨c, hh, rfl⟩⟩
  have hs := (hr s).mono k2 (fun _ _ h => h) hfr
  rw [put_slot]
  split
  · rename_i hst
    subst hst
    rw [h] at hs
    exact RepV.of1 (LV.pure_ne_tup hi.lay.2.2) (hi.soundV k1 hs)
  · exact hs
end Go.Lg
namespace Go.Proofs.Ythhdcfhaldcheaa
open Go.Lg
theorem quo64 {a b : Int} (h : b ≠ 0) (h1 : -9223372036854775808 ≤ a.tdiv b) (h2 : a.tdiv b ≤ 9223372036854775807) : binI .quo .i64 a b = some (.int .i64 (a.tdiv b)) := by
  simp only [binI]; rw [if_neg h, IntWalk.i64_in _ ⟨h1, h2⟩]
theorem vr_step {p : List Rat} {k : Nat} {s : Int} (h : k < p.length) : vrs s ((p.drop k).map sgnR) = (if sgnR (p.getD k 0) * s < 0 then 1 else 0) + vrs (if sgnR (p.getD k 0) ≠ 0 then sgnR (p.getD k 0) else s) ((p.drop (k + 1)).map sgnR) := by
  rw [List.drop_eq_getElem_cons h, List.map_cons, vrs]
  rw [List.getD_eq_getElem?_getD, List.getElem?_eq_getElem h]; rfl
theorem sgn3 (a : Rat) : sgnR a = 0 ∨ sgnR a = 1 ∨ sgnR a = -1 := by
  rcases sgn_cases a with ⟨_, h⟩ | ⟨_, h⟩ | ⟨_, h⟩ <;> omega
theorem sgn_bd {q s : Int} (h : q = 0 ∨ q = 1 ∨ q = -1) (g : s = 0 ∨ s = 1 ∨ s = -1) : -1 ≤ q * s ∧ q * s ≤ 1 := by
  rcases h with rfl | rfl | rfl <;> rcases g with rfl | rfl | rfl <;> decide
def rtV (n d : Int) : Rat := ((n % 41 - 20 : Int) : Rat) / ((d % 8 + 1 : Int) : Rat)
theorem rtV_rl (n d : Int) : rl (rtV n d) ≤ 1 := by
  unfold rtV
  have h1 := Int.emod_nonneg n (show (41 : Int) ≠ 0 by decide)
  have h2 := Int.emod_lt_of_pos n (show (0 : Int) < 41 by decide)
  have h3 := Int.emod_nonneg d (show (8 : Int) ≠ 0 by decide)
  have h4 := Int.emod_lt_of_pos d (show (0 : Int) < 8 by decide)
  exact rl_ints (by omega) (by omega)
theorem ks0 {c : Int} (h : 1 ≤ c) : KS 0 (scl [(c : Rat)]) := by
  have e : scl [(c : Rat)] = [(c : Rat)] := by
    simp [scl, List.range_succ, chR, chs]
    try grind
  rw [e]
  refine .z (s := 1) (by simp) (.inl rfl) fun x hx => ?_
  rw [List.mem_singleton.1 hx]
  exact sgn_pos (Rat.intCast_pos.2 (by omega))
theorem ks_root {n : Nat} {p : List Rat} {a : Rat} (h : KS n (scl p)) (h0 : 0 < p.length) (h1 : 0 < a) (h2 : a < 1) : KS (n + 1) (scl (mulP p [-a, 1 - a])) := by
  rw [scl_mul h0]; exact .r h h1 (by grind)
theorem ks_non {n : Nat} {p : List Rat} {a : Rat} (h : KS n (scl p)) (h0 : 0 < p.length) (h1 : a < 0 ∨ 1 < a) : KS n (scl (mulP p [-a, 1 - a])) := by
  rw [scl_mul h0]
  rcases h1 with h1 | h1
  · exact h.non (.inl ⟨by grind, by grind⟩)
  · exact h.non (.inr ⟨by grind, by grind⟩)
theorem cmpR_lt {a b : Rat} : cmpR a b < 0 ↔ a < b := by
  unfold cmpR; split
  · simp [*]
  · split <;> simp [*]
theorem sgnR_pos {a : Rat} : 0 < sgnR a ↔ 0 < a := by
  rcases sgn_cases a with ⟨g, h⟩ | ⟨g, h⟩ | ⟨g, h⟩
  · rw [h, g]; exact ⟨fun e => absurd e (by decide), fun e => absurd e (by decide)⟩
  · rw [h]; exact ⟨fun _ => g, fun _ => by decide⟩
  · rw [h]; exact ⟨fun e => absurd e (by decide), fun e => by grind⟩
theorem sgnR_ne {a : Rat} (h : sgnR a ≠ 0) : a ≠ 0 := fun e => h (by rw [e]; rfl)
theorem ns1 {p : List Rat} {n : Nat} (h : KS n (scl p)) : decide (((n : Nat) : Int) ≤ ((vrR p : Nat) : Int)) = true := by
  have := h.vr.1
  rw [vr_scl] at this
  exact decide_eq_true (by omega)
theorem ns2 {p : List Rat} {n : Nat} (h : KS n (scl p)) : ((((vrR p : Nat) : Int) - ((n : Nat) : Int)).tmod 2 == 0) = true := by
  have h1 := h.vr
  rw [vr_scl] at h1
  rw [Int.tmod_eq_emod_of_nonneg (by omega)]
  rw [show (((vrR p : Nat) : Int) - ((n : Nat) : Int)) % 2 = 0 by omega]
  rfl
theorem ks_len {i : Nat} {p : List Rat} {a : Rat} (h0 : 0 < p.length) (hi : i < 7) (hl : p.length ≤ i + 1) (ha : rl a ≤ 1) (hr : ∀ x ∈ p, rl x + 13 ≤ 2 ^ i * 14) : 0 < (mulP p [-a, 1 - a]).length ∧ (mulP p [-a, 1 - a]).length ≤ i + 1 + 1 ∧ ∀ x ∈ mulP p [-a, 1 - a], rl x + 13 ≤ 2 ^ (i + 1) * 14 := by
  have e := mul2_len (u := -a) (v := 1 - a) h0
  refine ⟨by omega, by omega, fun x hx => ?_⟩
  have h1 := rl_sub 1 a
  rw [show rl 1 = 1 from rfl] at h1
  have hp : 1 ≤ 2 ^ i := Nat.one_le_two_pow
  have := mul2_rl (R := 2 ^ i * 14 - 13) h0 (by omega) (by omega) (fun x hx => by have := hr x hx; omega) (by rw [rl_neg]; omega) (by omega) x hx
  rw [Nat.pow_succ]; omega

theorem getD_memI {l : List Int} {i : Nat} (h : i < l.length) : l.getD i 0 ∈ l := by
  rw [List.getD_eq_getElem?_getD, List.getElem?_eq_getElem h]; exact List.getElem_mem h
theorem ks_rl {i : Nat} {a : Rat} (ha : rl a ≤ 1) : ∀ x ∈ [-a, 1 - a], rl x ≤ 2 ^ i * 14 := fun x hx => by
  have h1 := rl_sub 1 a
  rw [show rl 1 = 1 from rfl] at h1
  have hp : 1 ≤ 2 ^ i := Nat.one_le_two_pow
  simp only [List.mem_cons, List.not_mem_nil, or_false] at hx
  rcases hx with rfl | rfl
  · rw [rl_neg]; omega
  · omega
theorem non1 {a : Rat} (h : ¬ a = 1) (g : ¬ cmpR a 1 < 0) : a < 0 ∨ 1 < a := by
  have : ¬ a < 1 := fun e => g (cmpR_lt.2 e)
  exact .inr (by grind)
theorem non2 {a : Rat} (h : ¬ sgnR a = 0) (g : ¬ sgnR a > 0) : a < 0 ∨ 1 < a := by
  rcases sgn_cases a with ⟨_, e⟩ | ⟨_, e⟩ | ⟨e, _⟩
  · exact absurd e h
  · omega
  · exact .inl e
theorem nfc_Variations_0 {p : Prop} (h : p := by (try simp only [e1, e2, e3, e4, p1, p2, p3, q1, q2, q3, l1, t0, t1, r1, r2, r3, r4, Nat.zero_add, Nat.reduceMul, Nat.reduceAdd, b1, b2, b3, b4, b5, b6, i1, i2, i3, i4, i5, i6, Nat.reduceBEq, dfq, kills_map ratE, ratL_kill, LV.kill, kills]); exact rfl) : p := h
theorem clc_Variations_1 {p : Prop} (h : p := by first | rfl | (simp only [e1, e2, e3, e4, p1, p2, p3, q1, q2, q3, l1, t0, t1, r1, r2, r3, r4, Nat.zero_add, Nat.reduceMul, Nat.reduceAdd, b1, b2, b3, b4, b5, b6, i1, i2, i3, i4, i5, i6, Nat.reduceBEq, dfq, kills_map ratE, ratL_kill, LV.kill, kills]; done) | (simp only [e1, e2, e3, e4, p1, p2, p3, q1, q2, q3, l1, t0, t1, r1, r2, r3, r4, Nat.zero_add, Nat.reduceMul, Nat.reduceAdd, b1, b2, b3, b4, b5, b6, i1, i2, i3, i4, i5, i6, Nat.reduceBEq, dfq, kills_map ratE, ratL_kill, LV.kill, kills]; rfl) | (simp only [e1, e2, e3, e4, p1, p2, p3, q1, q2, q3, l1, t0, t1, r1, r2, r3, r4, Nat.zero_add, Nat.reduceMul, Nat.reduceAdd, b1, b2, b3, b4, b5, b6, i1, i2, i3, i4, i5, i6, Nat.reduceBEq, dfq, kills_map ratE, ratL_kill, LV.kill, kills]; congr 3 <;> omega) | (simp only [e1, e2, e3, e4, p1, p2, p3, q1, q2, q3, l1, t0, t1, r1, r2, r3, r4, Nat.zero_add, Nat.reduceMul, Nat.reduceAdd, b1, b2, b3, b4, b5, b6, i1, i2, i3, i4, i5, i6, Nat.reduceBEq, dfq, kills_map ratE, ratL_kill, LV.kill, kills]; congr 2 <;> omega)) : p := h
namespace H_c_Variations
theorem om {p : Prop} (h : p := by first | (simp only [e1, e2, e3, e4, p1, p2, p3, q1, q2, q3, l1, t0, t1, r1, r2, r3, r4, Nat.zero_add, Nat.reduceMul, Nat.reduceAdd, b1, b2, b3, b4, b5, b6, i1, i2, i3, i4, i5, i6, Nat.reduceBEq, dfq, kills_map ratE, ratL_kill, LV.kill, kills]; omega) | omega) : p := h
end H_c_Variations
open H_c_Variations in
set_option maxHeartbeats 1000000 in
set_option maxRecDepth 100000 in
theorem c_Variations (p : List Rat) (hl : p.length ≤ 1048576) (hpr : ∀ x ∈ p, rl x ≤ 1099511627776) : CallP Try.prog 36 [.list 3 (p.map ratL)] (nI64 (vrR p)) := by
  refine callP_of fol Try.func36 rfl (by decide +kernel) (by decide +kernel) (Nat.le_of_ble_eq_true rfl) tm0 ?_
  refine wl_seq (wl_reg (asg ?_))
  refine st_end nfc_Variations_0 ?_
  refine then_n (wl_seq (wl_reg (asg (asg ?_))))
  refine st_end nfc_Variations_0 ?_
  refine then_n (wl_seq (wl_seq (wl_reg (mv ?_))))
  refine st_pure rfl ln37 ?_
  refine mv ?_
  refine st_end nfc_Variations_0 ?_
  refine then_n (wl_block ?_)
  refine wl_loop (α := Nat × Int × Nat) (fun st L => ((((((St.mk L.slot (hp [])).put (some 3) (iL st.2.1)).put (some 4) (nI64 st.2.2)).put (some 8) (.list 3 (p.map ratL))).put (some 9) (nI64 p.length)).put (some 10) (nI64 st.1))) (fun st => st.1 ≤ p.length ∧ (st.2.1 = 0 ∨ st.2.1 = 1 ∨ st.2.1 = -1) ∧ st.2.2 ≤ st.1 ∧ st.2.2 + vrs st.2.1 ((p.drop st.1).map sgnR) = vrR p) (fun st => p.length - st.1) (0, 0, 0) (show (0) ≤ p.length ∧ ((0) = 0 ∨ (0) = 1 ∨ (0) = -1) ∧ (0) ≤ (0) ∧ (0) + vrs (0) ((p.drop (0)).map sgnR) = vrR p from ⟨Nat.zero_le _, .inl rfl, Nat.le_refl _, by simp [vrR]⟩) ⟨_, Weak.of_eq (put_id' (put_id' (put_id' (put_id' (put_id' (mk_id' clc_Variations_1) clc_Variations_1) clc_Variations_1) clc_Variations_1) clc_Variations_1) clc_Variations_1)⟩ ?_
  rintro ⟨k, s, m⟩ L1 hLC
  obtain ⟨hk, hs3, hmk, hv⟩ : k ≤ p.length ∧ (s = 0 ∨ s = 1 ∨ s = -1) ∧ m ≤ k ∧ m + vrs s ((p.drop k).map sgnR) = vrR p := hLC
  show wpL _ _ _ ((((((St.mk L1.slot (hp [])).put (some 3) (iL s)).put (some 4) (nI64 m)).put (some 8) (.list 3 (p.map ratL))).put (some 9) (nI64 p.length)).put (some 10) (nI64 k))
  refine wl_seq (wl_reg ?_)
  refine st_pure rfl (.bin rfl rfl rfl) ?_
  refine st_end nfc_Variations_0 ?_
  refine then_n (wl_seq ?_)
  refine wl_cond rfl (fun h11 => ?_) (fun h11 => ?_)
  · skip
    have h11r := h11
    try simp only [hce, l1, t0, t1, dflt, val_dig] at h11
    have hk2 : k < p.length := by omega
    have hrk := hpr _ (getD_mem (i := k) hk2)
    rw [vr_step hk2] at hv
    have hx3 := sgn3 (p.getD k 0)
    have hbd := sgn_bd hx3 hs3
    refine wl_skip (then_n (wl_seq (wl_block (wl_seq (wl_reg ?_)))))
    refine st_pure rfl ix37 ?_
    refine st_pure rfl ld34 ?_
    refine st_alloc rfl rfl (.alloc Z34a) ?_
    refine st_store rfl sr34 ?_
    refine st_end nfc_Variations_0 ?_
    refine then_n (wl_seq (wl_reg ?_))
    refine st_pure rfl ld34 ?_
    refine st_callP rfl (.cons im0 .nil) (c_RSign _ (by omega)) ?_
    refine asg ?_
    refine st_end nfc_Variations_0 ?_
    refine then_n (wl_seq (wl_seq (wl_reg (mv (mv ?_)))))
    refine st_pure rfl (.bin rfl rfl (mul64 om om)) ?_
    refine st_pure rfl (.bin rfl rfl rfl) ?_
    refine st_end nfc_Variations_0 ?_
    refine then_n ?_
    refine wl_cond rfl (fun h19 => ?_) (fun h19 => ?_)
    · skip
      have h19r := h19
      try simp only [hce, l1, t0, t1, dflt, val_dig] at h19
      refine wl_reg (mv ?_)
      refine st_pure rfl (.bin rfl rfl (add64 om om)) ?_
      refine asg ?_
      refine st_end nfc_Variations_0 ?_
      refine then_n (wl_seq (wl_reg (mv ?_)))
      refine st_pure rfl (.bin rfl rfl rfl) ?_
      refine st_end nfc_Variations_0 ?_
      refine then_n ?_
      refine wl_cond rfl (fun h23 => ?_) (fun h23 => ?_)
      · skip
        have h23r := h23
        try simp only [hce, l1, t0, t1, dflt, val_dig] at h23
        refine wl_reg (mv (asg ?_))
        refine st_end nfc_Variations_0 ?_
        refine blk_n (then_n ?_)
        refine wl_regW (Weak.kill _ 6) ?_
        refine st_pure rfl (.bin rfl rfl (add64 om om)) ?_
        refine mv ?_
        refine st_end nfc_Variations_0 ?_
        refine then_n ?_
        exact ⟨(k + 1, sgnR (p.getD k 0), m + 1), _, (show (k + 1) ≤ p.length ∧ ((sgnR (p.getD k 0)) = 0 ∨ (sgnR (p.getD k 0)) = 1 ∨ (sgnR (p.getD k 0)) = -1) ∧ (m + 1) ≤ (k + 1) ∧ (m + 1) + vrs (sgnR (p.getD k 0)) ((p.drop (k + 1)).map sgnR) = vrR p from ⟨by omega, hx3, by omega, by rw [if_pos h19, if_pos h23] at hv; omega⟩), (show p.length - (k + 1) < p.length - k from by omega), Weak.of_eq (put_id' (put_id' (put_id' (put_id' (put_id' (mk_id' clc_Variations_1) clc_Variations_1) clc_Variations_1) clc_Variations_1) clc_Variations_1) clc_Variations_1)⟩
      · skip
        have h23r := h23
        try simp only [hce, l1, t0, t1, dflt, val_dig] at h23
        refine wl_skip (blk_n (then_n ?_))
        refine wl_regW (Weak.kill _ 6) ?_
        refine st_pure rfl (.bin rfl rfl (add64 om om)) ?_
        refine mv ?_
        refine st_end nfc_Variations_0 ?_
        refine then_n ?_
        exact ⟨(k + 1, s, m + 1), _, (show (k + 1) ≤ p.length ∧ ((s) = 0 ∨ (s) = 1 ∨ (s) = -1) ∧ (m + 1) ≤ (k + 1) ∧ (m + 1) + vrs (s) ((p.drop (k + 1)).map sgnR) = vrR p from ⟨by omega, hs3, by omega, by rw [if_pos h19, if_neg (fun g => g h23)] at hv; omega⟩), (show p.length - (k + 1) < p.length - k from by omega), Weak.of_eq (put_id' (put_id' (put_id' (put_id' (put_id' (mk_id' clc_Variations_1) clc_Variations_1) clc_Variations_1) clc_Variations_1) clc_Variations_1) clc_Variations_1)⟩
    · skip
      have h19r := h19
      try simp only [hce, l1, t0, t1, dflt, val_dig] at h19
      refine wl_skip (then_n (wl_seq (wl_reg (mv ?_))))
      refine st_pure rfl (.bin rfl rfl rfl) ?_
      refine st_end nfc_Variations_0 ?_
      refine then_n ?_
      refine wl_cond rfl (fun h23 => ?_) (fun h23 => ?_)
      · skip
        have h23r := h23
        try simp only [hce, l1, t0, t1, dflt, val_dig] at h23
        refine wl_reg (mv (asg ?_))
        refine st_end nfc_Variations_0 ?_
        refine blk_n (then_n ?_)
        refine wl_regW (Weak.kill _ 6) ?_
        refine st_pure rfl (.bin rfl rfl (add64 om om)) ?_
        refine mv ?_
        refine st_end nfc_Variations_0 ?_
        refine then_n ?_
        exact ⟨(k + 1, sgnR (p.getD k 0), m), _, (show (k + 1) ≤ p.length ∧ ((sgnR (p.getD k 0)) = 0 ∨ (sgnR (p.getD k 0)) = 1 ∨ (sgnR (p.getD k 0)) = -1) ∧ (m) ≤ (k + 1) ∧ (m) + vrs (sgnR (p.getD k 0)) ((p.drop (k + 1)).map sgnR) = vrR p from ⟨by omega, hx3, by omega, by rw [if_neg h19, if_pos h23] at hv; omega⟩), (show p.length - (k + 1) < p.length - k from by omega), Weak.of_eq (put_id' (put_id' (put_id' (put_id' (put_id' (mk_id' clc_Variations_1) clc_Variations_1) clc_Variations_1) clc_Variations_1) clc_Variations_1) clc_Variations_1)⟩
      · skip
        have h23r := h23
        try simp only [hce, l1, t0, t1, dflt, val_dig] at h23
        refine wl_skip (blk_n (then_n ?_))
        refine wl_regW (Weak.kill _ 6) ?_
        refine st_pure rfl (.bin rfl rfl (add64 om om)) ?_
        refine mv ?_
        refine st_end nfc_Variations_0 ?_
        refine then_n ?_
        exact ⟨(k + 1, s, m), _, (show (k + 1) ≤ p.length ∧ ((s) = 0 ∨ (s) = 1 ∨ (s) = -1) ∧ (m) ≤ (k + 1) ∧ (m) + vrs (s) ((p.drop (k + 1)).map sgnR) = vrR p from ⟨by omega, hs3, by omega, by rw [if_neg h19, if_neg (fun g => g h23)] at hv; omega⟩), (show p.length - (k + 1) < p.length - k from by omega), Weak.of_eq (put_id' (put_id' (put_id' (put_id' (put_id' (mk_id' clc_Variations_1) clc_Variations_1) clc_Variations_1) clc_Variations_1) clc_Variations_1) clc_Variations_1)⟩
  · skip
    have h11r := h11
    try simp only [hce, l1, t0, t1, dflt, val_dig] at h11
    obtain rfl : k = p.length := by omega
    rw [List.drop_length] at hv
    have hv2 : m = vrR p := hv
    refine wl_exit ?_
    refine then_e (then_e (blk_e (then_n (wl_seq (wl_reg (mv (asg ?_)))))))
    refine st_end nfc_Variations_0 ?_
    refine then_n (wl_ret ?_)
    rw [← hv2]
    exact ret1 rfl (by first | exact .pure rfl | exact .pure (limL_pure _) | exact .pure (magL_pure _) | exact .pure (ratE.pure _) | exact .pure (pure_lst u32E _ _) | exact .pure (pure_lst ratE _ _))
open H0 in
set_option maxHeartbeats 1000000 in
set_option maxRecDepth 100000 in
theorem c_MRat (n d : Int) (hn : -9223372036854775808 ≤ n ∧ n ≤ 9223372036854775807) (hd : -9223372036854775808 ≤ d ∧ d ≤ 9223372036854775807) : CallP Try.prog 18 [iL n, iL d] (ratL (rtV n d)) := by
  have h1 := Int.emod_nonneg n (show (41 : Int) ≠ 0 by decide)
  have h2 := Int.emod_lt_of_pos n (show (0 : Int) < 41 by decide)
  have h3 := Int.emod_nonneg d (show (8 : Int) ≠ 0 by decide)
  have h4 := Int.emod_lt_of_pos d (show (0 : Int) < 8 by decide)
  refine callP_of fol Try.func18 rfl (by decide +kernel) (by decide +kernel) (Nat.le_of_ble_eq_true rfl) tm0 ?_
  refine wl_seq (wl_reg ?_)
  refine st_alloc rfl rfl (.alloc Z34a) ?_
  refine st_end nf0 ?_
  refine then_n (wl_seq (wl_reg (mv ?_)))
  refine st_callP rfl (.cons im0 (.cons im0 .nil)) (c_Mod n 41 (by decide) (by decide)) ?_
  refine st_pure rfl (.bin rfl rfl (sub64 (by omega) (by omega))) ?_
  refine mv ?_
  refine st_callP rfl (.cons im0 (.cons im0 .nil)) (c_Mod d 8 (by decide) (by decide)) ?_
  refine st_pure rfl (.bin rfl rfl (add64 (by omega) (by omega))) ?_
  refine st_callP rfl (.cons im0 (.cons im0 .nil)) (c_FFrac (n % 41 - 20) (d % 8 + 1) (by omega) (by omega) (by omega) (by omega) (by omega)) ?_
  refine st_store rfl sr34 ?_
  refine st_end nf0 ?_
  refine then_n (wl_ret ?_)
  exact retC [] rfl rfl rfl (ratE.csize _) (ratL_all _) T34 (.pure (ratE.pure _))
theorem nfc_BernsteinSigns_0 {p : Prop} (h : p := by (try simp only [e1, e2, e3, e4, p1, p2, p3, q1, q2, q3, l1, t0, t1, r1, r2, r3, r4, Nat.zero_add, Nat.reduceMul, Nat.reduceAdd, b1, b2, b3, b4, b5, b6, i1, i2, i3, i4, i5, i6, Nat.reduceBEq, dfi, dfq, r1r, List.length_map, kills_map ratE, ratL_kill, LV.kill, kills]); exact rfl) : p := h
theorem clc_BernsteinSigns_1 {p : Prop} (h : p := by first | rfl | (simp only [e1, e2, e3, e4, p1, p2, p3, q1, q2, q3, l1, t0, t1, r1, r2, r3, r4, Nat.zero_add, Nat.reduceMul, Nat.reduceAdd, b1, b2, b3, b4, b5, b6, i1, i2, i3, i4, i5, i6, Nat.reduceBEq, dfi, dfq, r1r, List.length_map, kills_map ratE, ratL_kill, LV.kill, kills]; done) | (simp only [e1, e2, e3, e4, p1, p2, p3, q1, q2, q3, l1, t0, t1, r1, r2, r3, r4, Nat.zero_add, Nat.reduceMul, Nat.reduceAdd, b1, b2, b3, b4, b5, b6, i1, i2, i3, i4, i5, i6, Nat.reduceBEq, dfi, dfq, r1r, List.length_map, kills_map ratE, ratL_kill, LV.kill, kills]; rfl) | (simp only [e1, e2, e3, e4, p1, p2, p3, q1, q2, q3, l1, t0, t1, r1, r2, r3, r4, Nat.zero_add, Nat.reduceMul, Nat.reduceAdd, b1, b2, b3, b4, b5, b6, i1, i2, i3, i4, i5, i6, Nat.reduceBEq, dfi, dfq, r1r, List.length_map, kills_map ratE, ratL_kill, LV.kill, kills]; congr 3 <;> omega) | (simp only [e1, e2, e3, e4, p1, p2, p3, q1, q2, q3, l1, t0, t1, r1, r2, r3, r4, Nat.zero_add, Nat.reduceMul, Nat.reduceAdd, b1, b2, b3, b4, b5, b6, i1, i2, i3, i4, i5, i6, Nat.reduceBEq, dfi, dfq, r1r, List.length_map, kills_map ratE, ratL_kill, LV.kill, kills]; congr 2 <;> omega)) : p := h
namespace H_c_BernsteinSigns
theorem om {p : Prop} (h : p := by first | (simp only [e1, e2, e3, e4, p1, p2, p3, q1, q2, q3, l1, t0, t1, r1, r2, r3, r4, Nat.zero_add, Nat.reduceMul, Nat.reduceAdd, b1, b2, b3, b4, b5, b6, i1, i2, i3, i4, i5, i6, Nat.reduceBEq, dfi, dfq, r1r, List.length_map, kills_map ratE, ratL_kill, LV.kill, kills]; omega) | omega) : p := h
end H_c_BernsteinSigns
open H_c_BernsteinSigns in
set_option maxHeartbeats 4000000 in
set_option maxRecDepth 100000 in
theorem c_BernsteinSigns (l : List Int) (last : Int) (hl : l.length ≤ 9223372036854775807 ∧ ∀ n ∈ l, -9223372036854775808 ≤ n ∧ n ≤ 9223372036854775807) (hlast : -9223372036854775808 ≤ last ∧ last ≤ 9223372036854775807) : CallP Try.prog 6 [.list 1 (l.map i64L), iL last] (bL true) := by
  have h1 := Int.emod_nonneg last (show (5 : Int) ≠ 0 by decide)
  have h2 := Int.emod_lt_of_pos last (show (0 : Int) < 5 by decide)
  refine callP_of fol Try.func6 rfl (by decide +kernel) (by decide +kernel) (Nat.le_of_ble_eq_true rfl) tm0 ?_
  refine wl_seq (wl_reg (asg ?_))
  refine st_end nfc_BernsteinSigns_0 ?_
  refine then_n (wl_seq (wl_seq (wl_reg (mv ?_))))
  refine st_pure rfl ln22 ?_
  refine st_pure rfl (.bin rfl rfl rfl) ?_
  refine st_end nfc_BernsteinSigns_0 ?_
  refine then_n ?_
  refine wl_cond rfl (fun h14 => ?_) (fun h14 => ?_)
  · skip
    have h14r := h14
    try simp only [hce, l1, t0, t1, dflt, val_dig] at h14
    refine wl_seq (wl_reg ?_)
    refine st_callP rfl .nil (c_awake5) ?_
    refine asg ?_
    refine st_end nfc_BernsteinSigns_0 ?_
    refine then_n (wl_ret (then_r ?_))
    exact ret1 rfl (by first | exact .pure rfl | exact .pure (limL_pure _) | exact .pure (magL_pure _) | exact .pure (ratE.pure _) | exact .pure (pure_lst u32E _ _) | exact .pure (pure_lst ratE _ _))
  · skip
    have h14r := h14
    try simp only [hce, l1, t0, t1, dflt, val_dig] at h14
    refine wl_skip (then_n (wl_seq (wl_reg (mv ?_))))
    refine st_callP rfl (.cons im0 (.cons im0 .nil)) (c_Mod last 5 (by decide) (by decide)) ?_
    refine st_pure rfl (.bin rfl rfl (add64 (by omega) (by omega))) ?_
    refine st_callP rfl (.cons im0 .nil) (c_FInt (1 + last % 5) (by omega) (by omega)) ?_
    refine st_alloc rfl rfl (.lit1 ratE Try.underlying37 Z34 T34 rfl (by decide) (by decide)) ?_
    refine asg ?_
    refine st_end nfc_BernsteinSigns_0 ?_
    refine then_n (wl_seq (wl_reg (asg ?_)))
    refine st_end nfc_BernsteinSigns_0 ?_
    refine then_n (wl_seq (wl_seq (wl_reg (asg ?_))))
    refine st_end nfc_BernsteinSigns_0 ?_
    refine then_n (wl_block ?_)
    refine wl_weak ((Weak.imm (t := 5) [20] rfl rfl (imm_refm ratE rfl rfl (by simp))).trans (Weak.kill _ 20)) ?_
    refine wl_loop (α := Nat × Nat × List Rat) (fun st L => (((((St.mk L.slot (hp [])).put (some 0) (.list 1 (l.map i64L))).put (some 5) (.list 3 (st.2.2.map ratL))).put (some 6) (nI64 st.2.1)).put (some 7) (nI64 st.1))) (fun st => st.1 ≤ l.length ∧ st.2.1 ≤ st.1 ∧ KS st.2.1 (scl st.2.2) ∧ 0 < st.2.2.length ∧ st.2.2.length ≤ st.1 + 1 ∧ ∀ x ∈ st.2.2, rl x + 13 ≤ 2 ^ st.1 * 14) (fun st => l.length - st.1) (0, 0, [((1 + last % 5 : Int) : Rat)]) (show (0) ≤ l.length ∧ (0) ≤ (0) ∧ KS (0) (scl ([((1 + last % 5 : Int) : Rat)])) ∧ 0 < ([((1 + last % 5 : Int) : Rat)]).length ∧ ([((1 + last % 5 : Int) : Rat)]).length ≤ (0) + 1 ∧ ∀ x ∈ ([((1 + last % 5 : Int) : Rat)]), rl x + 13 ≤ 2 ^ (0) * 14 from ⟨Nat.zero_le _, Nat.le_refl _, ks0 (by omega), by simp, by simp, fun x hx => by rw [List.mem_singleton.1 hx]; have := rl_int (n := 1 + last % 5) (by omega); omega⟩) ⟨_, Weak.of_eq (put_id' (put_id' (put_id' (put_id' (mk_id' clc_BernsteinSigns_1) clc_BernsteinSigns_1) clc_BernsteinSigns_1) clc_BernsteinSigns_1) clc_BernsteinSigns_1)⟩ ?_
    rintro ⟨i, n, p⟩ L1 hLC
    obtain ⟨hi, hni, hK, h0, hpl, hr⟩ : i ≤ l.length ∧ n ≤ i ∧ KS n (scl p) ∧ 0 < p.length ∧ p.length ≤ i + 1 ∧ ∀ x ∈ p, rl x + 13 ≤ 2 ^ i * 14 := hLC
    show wpL _ _ _ (((((St.mk L1.slot (hp [])).put (some 0) (.list 1 (l.map i64L))).put (some 5) (.list 3 (p.map ratL))).put (some 6) (nI64 n)).put (some 7) (nI64 i))
    refine wl_seq (wl_seq (wl_reg (mv (mv ?_))))
    refine st_pure rfl ln22 ?_
    refine st_pure rfl (.bin rfl rfl rfl) ?_
    refine st_end nfc_BernsteinSigns_0 ?_
    refine then_n ?_
    refine wl_cond rfl (fun h24 => ?_) (fun h24 => ?_)
    · skip
      have h24r := h24
      try simp only [hce, l1, t0, t1, dflt, val_dig] at h24
      have hi2 : i < l.length := by omega
      have hli := hl.2 _ (getD_memI (i := i) hi2)
      have hq : ((l.getD i 0).tdiv 41).natAbs = (l.getD i 0).natAbs / 41 := Int.natAbs_tdiv _ _
      have ha1 := rtV_rl (l.getD i 0) ((l.getD i 0).tdiv 41)
      have hrr : rl 1 = 1 := rfl
      have h2r := ks_rl (i := i) ha1
      have h2i : 2 ^ i ≤ 64 := Nat.le_trans (Nat.pow_le_pow_right (n := 2) (by decide) (show i ≤ 6 by omega)) (by decide)
      have h2j : 1 ≤ 2 ^ i := Nat.one_le_two_pow
      refine wl_skip (then_n (wl_seq (wl_block (wl_seq ?_))))
      refine wl_regD 11 (by decide +kernel) ?_
      refine mv (mv ?_)
      refine st_pure rfl ix22 ?_
      refine st_pure rfl ld3 ?_
      refine mv (mv ?_)
      refine st_pure rfl ix22 ?_
      refine st_pure rfl ld3 ?_
      refine st_pure rfl (.bin rfl rfl (quo64 (a := l.getD i 0) (b := 41) (by decide) (by omega) (by omega))) ?_
      refine st_callP rfl (.cons im0 (.cons im0 .nil)) (c_MRat (l.getD i 0) ((l.getD i 0).tdiv 41) hli (by omega)) ?_
      refine st_alloc rfl rfl (.alloc Z34a) ?_
      refine st_store rfl sr34 ?_
      refine st_end nfc_BernsteinSigns_0 ?_
      refine then_n (wl_seq (wl_seq ?_))
      refine wl_regD 8 (by decide +kernel) ?_
      refine st_pure rfl ld34 ?_
      refine st_callP rfl (.cons im0 .nil) (c_FSign (rtV (l.getD i 0) ((l.getD i 0).tdiv 41))) ?_
      refine st_pure rfl (.bin rfl rfl rfl) ?_
      refine mv ?_
      refine opsL_split (d := 40) rfl (fun h40 => ?_) (fun h40 => ?_)
      · skip
        have h40r := h40
        try simp only [hce, l1, t0, t1, dflt, val_dig] at h40
        refine st_skip (guardX (v := true) rfl rfl (h40r) rfl) ?_
        refine st_skip (guardX (v := true) rfl rfl (h40r) rfl) ?_
        refine st_skip (guardX (v := true) rfl rfl (h40r) rfl) ?_
        refine st_pure rfl (.pickT rfl (h40r)) ?_
        refine st_end nfc_BernsteinSigns_0 ?_
        refine then_n ?_
        refine wl_condX (b := _) rfl rfl ?_
        refine wl_exit ?_
        refine then_e (blk_e (then_n ?_))
        refine wl_regW ((Weak.kill _ 8).trans (Weak.kill _ 63)) ?_
        refine mv ?_
        refine st_pure rfl (.bin rfl rfl (add64 om om)) ?_
        refine asg ?_
        refine st_end nfc_BernsteinSigns_0 ?_
        refine then_n ?_
        exact ⟨(i + 1, n, p), _, (show (i + 1) ≤ l.length ∧ (n) ≤ (i + 1) ∧ KS (n) (scl (p)) ∧ 0 < (p).length ∧ (p).length ≤ (i + 1) + 1 ∧ ∀ x ∈ (p), rl x + 13 ≤ 2 ^ (i + 1) * 14 from ⟨by omega, by omega, hK, h0, by omega, fun x hx => by have := hr x hx; rw [Nat.pow_succ]; omega⟩), (show l.length - (i + 1) < l.length - i from by omega), Weak.of_eq (put_id' (put_id' (put_id' (put_id' (mk_id' clc_BernsteinSigns_1) clc_BernsteinSigns_1) clc_BernsteinSigns_1) clc_BernsteinSigns_1) clc_BernsteinSigns_1)⟩
      · skip
        have h40r := h40
        try simp only [hce, l1, t0, t1, dflt, val_dig] at h40
        refine st_pure (guardX (v := false) rfl rfl (h40r) rfl) ld34 ?_
        refine st_callP (guardX (v := false) rfl rfl (h40r) rfl) (.cons im0 .nil) (c_FInt 1 (by decide) (by decide)) ?_
        refine st_callP (guardX (v := false) rfl rfl (h40r) rfl) (.cons im0 (.cons im0 .nil)) (c_FSame (rtV (l.getD i 0) ((l.getD i 0).tdiv 41)) 1 (by omega)) ?_
        refine st_pure rfl (.pickF rfl (h40r)) ?_
        refine st_end nfc_BernsteinSigns_0 ?_
        refine then_n ?_
        refine wl_cond rfl (fun h44 => ?_) (fun h44 => ?_)
        · skip
          have h44r := h44
          try simp only [hce, l1, t0, t1, dflt, val_dig] at h44
          refine wl_exit ?_
          refine then_e (blk_e (then_n ?_))
          refine wl_regW ((Weak.kill _ 8).trans (Weak.kill _ 63)) ?_
          refine mv ?_
          refine st_pure rfl (.bin rfl rfl (add64 om om)) ?_
          refine asg ?_
          refine st_end nfc_BernsteinSigns_0 ?_
          refine then_n ?_
          exact ⟨(i + 1, n, p), _, (show (i + 1) ≤ l.length ∧ (n) ≤ (i + 1) ∧ KS (n) (scl (p)) ∧ 0 < (p).length ∧ (p).length ≤ (i + 1) + 1 ∧ ∀ x ∈ (p), rl x + 13 ≤ 2 ^ (i + 1) * 14 from ⟨by omega, by omega, hK, h0, by omega, fun x hx => by have := hr x hx; rw [Nat.pow_succ]; omega⟩), (show l.length - (i + 1) < l.length - i from by omega), Weak.of_eq (put_id' (put_id' (put_id' (put_id' (mk_id' clc_BernsteinSigns_1) clc_BernsteinSigns_1) clc_BernsteinSigns_1) clc_BernsteinSigns_1) clc_BernsteinSigns_1)⟩
        · skip
          have h44r := h44
          try simp only [hce, l1, t0, t1, dflt, val_dig] at h44
          refine wl_skip (then_n (wl_seq (wl_seq ?_)))
          refine wl_regD 9 (by decide +kernel) ?_
          refine st_pure rfl ld34 ?_
          refine st_callP rfl (.cons im0 .nil) (c_FSign (rtV (l.getD i 0) ((l.getD i 0).tdiv 41))) ?_
          refine st_pure rfl (.bin rfl rfl rfl) ?_
          refine mv ?_
          refine opsL_split (d := 48) rfl (fun h48 => ?_) (fun h48 => ?_)
          · skip
            have h48r := h48
            try simp only [hce, l1, t0, t1, dflt, val_dig] at h48
            refine st_pure (guardX (v := true) rfl rfl (h48r) rfl) ld34 ?_
            refine st_callP (guardX (v := true) rfl rfl (h48r) rfl) (.cons im0 .nil) (c_FInt 1 (by decide) (by decide)) ?_
            refine st_callP (guardX (v := true) rfl rfl (h48r) rfl) (.cons im0 (.cons im0 .nil)) (c_FRCmp (rtV (l.getD i 0) ((l.getD i 0).tdiv 41)) 1 (by omega)) ?_
            refine st_pure (guardX (v := true) rfl rfl (h48r) rfl) (.bin rfl rfl rfl) ?_
            refine st_pure rfl (.pickT rfl (h48r)) ?_
            refine st_end nfc_BernsteinSigns_0 ?_
            refine then_n ?_
            refine wl_cond rfl (fun h53 => ?_) (fun h53 => ?_)
            · skip
              have h53r := h53
              try simp only [hce, l1, t0, t1, dflt, val_dig] at h53
              refine wl_reg (mv ?_)
              refine st_pure rfl (.bin rfl rfl (add64 om om)) ?_
              refine asg ?_
              refine st_end nfc_BernsteinSigns_0 ?_
              refine then_n (wl_seq ?_)
              refine wl_regD 13 (by decide +kernel) ?_
              refine mv ?_
              refine st_pure rfl ld34 ?_
              refine st_callP rfl (.cons im0 .nil) (c_FNeg (rtV (l.getD i 0) ((l.getD i 0).tdiv 41))) ?_
              refine st_callP rfl (.cons im0 .nil) (c_FInt 1 (by decide) (by decide)) ?_
              refine st_pure rfl ld34 ?_
              refine st_callP rfl (.cons im0 (.cons im0 .nil)) (c_FRSub 1 (rtV (l.getD i 0) ((l.getD i 0).tdiv 41)) (by omega)) ?_
              refine st_alloc rfl rfl (.lit2 ratE Try.underlying37 Z34 T34 rfl rfl (by decide) (by decide)) ?_
              refine st_callPf [63] rfl rfl (.cons im1 (.cons im1 .nil)) (c_BMul p [-(rtV (l.getD i 0) ((l.getD i 0).tdiv 41)), 1 - (rtV (l.getD i 0) ((l.getD i 0).tdiv 41))] (2 ^ i * 14) h0 (by simp) (by simp; omega) (by omega) (by omega) (fun x hx => by have := hr x hx; omega) (fun x hx => h2r x hx)) ?_
              refine mv ?_
              refine st_pure rfl (.extract rfl rfl nt0) ?_
              refine st_pure rfl (.extract rfl rfl nt0) ?_
              refine asg (asg ?_)
              refine st_end nfc_BernsteinSigns_0 ?_
              refine then_n (wl_seq (wl_seq (wl_reg (mv ?_))))
              refine st_pure rfl (.bin rfl rfl rfl) ?_
              refine st_end nfc_BernsteinSigns_0 ?_
              refine then_n ?_
              refine wl_cond rfl (fun h68 => ?_) (fun h68 => ?_)
              · skip
                have h68r := h68
                try simp only [hce, l1, t0, t1, dflt, val_dig] at h68
                exact absurd h68 (by decide)
              · skip
                have h68r := h68
                try simp only [hce, l1, t0, t1, dflt, val_dig] at h68
                refine wl_skip (then_n (wl_reg (mv (asg ?_))))
                refine st_end nfc_BernsteinSigns_0 ?_
                refine blk_n (then_n ?_)
                refine wl_regW ((Weak.kill _ 8).trans (Weak.kill _ 63)) ?_
                refine mv ?_
                refine st_pure rfl (.bin rfl rfl (add64 om om)) ?_
                refine asg ?_
                refine st_end nfc_BernsteinSigns_0 ?_
                refine then_n ?_
                exact ⟨(i + 1, n + 1, mulP p [-(rtV (l.getD i 0) ((l.getD i 0).tdiv 41)), 1 - (rtV (l.getD i 0) ((l.getD i 0).tdiv 41))]), _, (show (i + 1) ≤ l.length ∧ (n + 1) ≤ (i + 1) ∧ KS (n + 1) (scl (mulP p [-(rtV (l.getD i 0) ((l.getD i 0).tdiv 41)), 1 - (rtV (l.getD i 0) ((l.getD i 0).tdiv 41))])) ∧ 0 < (mulP p [-(rtV (l.getD i 0) ((l.getD i 0).tdiv 41)), 1 - (rtV (l.getD i 0) ((l.getD i 0).tdiv 41))]).length ∧ (mulP p [-(rtV (l.getD i 0) ((l.getD i 0).tdiv 41)), 1 - (rtV (l.getD i 0) ((l.getD i 0).tdiv 41))]).length ≤ (i + 1) + 1 ∧ ∀ x ∈ (mulP p [-(rtV (l.getD i 0) ((l.getD i 0).tdiv 41)), 1 - (rtV (l.getD i 0) ((l.getD i 0).tdiv 41))]), rl x + 13 ≤ 2 ^ (i + 1) * 14 from ⟨by omega, by omega, ks_root hK h0 (sgnR_pos.1 h48) (cmpR_lt.1 h53), ks_len h0 (by omega) hpl ha1 hr⟩), (show l.length - (i + 1) < l.length - i from by omega), Weak.of_eq (put_id' (put_id' (put_id' (put_id' (mk_id' clc_BernsteinSigns_1) clc_BernsteinSigns_1) clc_BernsteinSigns_1) clc_BernsteinSigns_1) clc_BernsteinSigns_1)⟩
            · skip
              have h53r := h53
              try simp only [hce, l1, t0, t1, dflt, val_dig] at h53
              have hnon := non1 h44 h53
              refine wl_skip (then_n (wl_seq ?_))
              refine wl_regD 13 (by decide +kernel) ?_
              refine mv ?_
              refine st_pure rfl ld34 ?_
              refine st_callP rfl (.cons im0 .nil) (c_FNeg (rtV (l.getD i 0) ((l.getD i 0).tdiv 41))) ?_
              refine st_callP rfl (.cons im0 .nil) (c_FInt 1 (by decide) (by decide)) ?_
              refine st_pure rfl ld34 ?_
              refine st_callP rfl (.cons im0 (.cons im0 .nil)) (c_FRSub 1 (rtV (l.getD i 0) ((l.getD i 0).tdiv 41)) (by omega)) ?_
              refine st_alloc rfl rfl (.lit2 ratE Try.underlying37 Z34 T34 rfl rfl (by decide) (by decide)) ?_
              refine st_callPf [63] rfl rfl (.cons im1 (.cons im1 .nil)) (c_BMul p [-(rtV (l.getD i 0) ((l.getD i 0).tdiv 41)), 1 - (rtV (l.getD i 0) ((l.getD i 0).tdiv 41))] (2 ^ i * 14) h0 (by simp) (by simp; omega) (by omega) (by omega) (fun x hx => by have := hr x hx; omega) (fun x hx => h2r x hx)) ?_
              refine mv ?_
              refine st_pure rfl (.extract rfl rfl nt0) ?_
              refine st_pure rfl (.extract rfl rfl nt0) ?_
              refine asg (asg ?_)
              refine st_end nfc_BernsteinSigns_0 ?_
              refine then_n (wl_seq (wl_seq (wl_reg (mv ?_))))
              refine st_pure rfl (.bin rfl rfl rfl) ?_
              refine st_end nfc_BernsteinSigns_0 ?_
              refine then_n ?_
              refine wl_cond rfl (fun h68 => ?_) (fun h68 => ?_)
              · skip
                have h68r := h68
                try simp only [hce, l1, t0, t1, dflt, val_dig] at h68
                exact absurd h68 (by decide)
              · skip
                have h68r := h68
                try simp only [hce, l1, t0, t1, dflt, val_dig] at h68
                refine wl_skip (then_n (wl_reg (mv (asg ?_))))
                refine st_end nfc_BernsteinSigns_0 ?_
                refine blk_n (then_n ?_)
                refine wl_regW ((Weak.kill _ 8).trans (Weak.kill _ 63)) ?_
                refine mv ?_
                refine st_pure rfl (.bin rfl rfl (add64 om om)) ?_
                refine asg ?_
                refine st_end nfc_BernsteinSigns_0 ?_
                refine then_n ?_
                exact ⟨(i + 1, n, mulP p [-(rtV (l.getD i 0) ((l.getD i 0).tdiv 41)), 1 - (rtV (l.getD i 0) ((l.getD i 0).tdiv 41))]), _, (show (i + 1) ≤ l.length ∧ (n) ≤ (i + 1) ∧ KS (n) (scl (mulP p [-(rtV (l.getD i 0) ((l.getD i 0).tdiv 41)), 1 - (rtV (l.getD i 0) ((l.getD i 0).tdiv 41))])) ∧ 0 < (mulP p [-(rtV (l.getD i 0) ((l.getD i 0).tdiv 41)), 1 - (rtV (l.getD i 0) ((l.getD i 0).tdiv 41))]).length ∧ (mulP p [-(rtV (l.getD i 0) ((l.getD i 0).tdiv 41)), 1 - (rtV (l.getD i 0) ((l.getD i 0).tdiv 41))]).length ≤ (i + 1) + 1 ∧ ∀ x ∈ (mulP p [-(rtV (l.getD i 0) ((l.getD i 0).tdiv 41)), 1 - (rtV (l.getD i 0) ((l.getD i 0).tdiv 41))]), rl x + 13 ≤ 2 ^ (i + 1) * 14 from ⟨by omega, by omega, ks_non hK h0 hnon, ks_len h0 (by omega) hpl ha1 hr⟩), (show l.length - (i + 1) < l.length - i from by omega), Weak.of_eq (put_id' (put_id' (put_id' (put_id' (mk_id' clc_BernsteinSigns_1) clc_BernsteinSigns_1) clc_BernsteinSigns_1) clc_BernsteinSigns_1) clc_BernsteinSigns_1)⟩
          · skip
            have h48r := h48
            try simp only [hce, l1, t0, t1, dflt, val_dig] at h48
            have hnon := non2 h40 h48
            refine st_skip (guardX (v := false) rfl rfl (h48r) rfl) ?_
            refine st_skip (guardX (v := false) rfl rfl (h48r) rfl) ?_
            refine st_skip (guardX (v := false) rfl rfl (h48r) rfl) ?_
            refine st_skip (guardX (v := false) rfl rfl (h48r) rfl) ?_
            refine st_pure rfl (.pickF rfl (h48r)) ?_
            refine st_end nfc_BernsteinSigns_0 ?_
            refine then_n ?_
            refine wl_condY (b := _) rfl rfl ?_
            refine wl_skip (then_n (wl_seq ?_))
            refine wl_regD 13 (by decide +kernel) ?_
            refine mv ?_
            refine st_pure rfl ld34 ?_
            refine st_callP rfl (.cons im0 .nil) (c_FNeg (rtV (l.getD i 0) ((l.getD i 0).tdiv 41))) ?_
            refine st_callP rfl (.cons im0 .nil) (c_FInt 1 (by decide) (by decide)) ?_
            refine st_pure rfl ld34 ?_
            refine st_callP rfl (.cons im0 (.cons im0 .nil)) (c_FRSub 1 (rtV (l.getD i 0) ((l.getD i 0).tdiv 41)) (by omega)) ?_
            refine st_alloc rfl rfl (.lit2 ratE Try.underlying37 Z34 T34 rfl rfl (by decide) (by decide)) ?_
            refine st_callPf [63] rfl rfl (.cons im1 (.cons im1 .nil)) (c_BMul p [-(rtV (l.getD i 0) ((l.getD i 0).tdiv 41)), 1 - (rtV (l.getD i 0) ((l.getD i 0).tdiv 41))] (2 ^ i * 14) h0 (by simp) (by simp; omega) (by omega) (by omega) (fun x hx => by have := hr x hx; omega) (fun x hx => h2r x hx)) ?_
            refine mv ?_
            refine st_pure rfl (.extract rfl rfl nt0) ?_
            refine st_pure rfl (.extract rfl rfl nt0) ?_
            refine asg (asg ?_)
            refine st_end nfc_BernsteinSigns_0 ?_
            refine then_n (wl_seq (wl_seq (wl_reg (mv ?_))))
            refine st_pure rfl (.bin rfl rfl rfl) ?_
            refine st_end nfc_BernsteinSigns_0 ?_
            refine then_n ?_
            refine wl_cond rfl (fun h68 => ?_) (fun h68 => ?_)
            · skip
              have h68r := h68
              try simp only [hce, l1, t0, t1, dflt, val_dig] at h68
              exact absurd h68 (by decide)
            · skip
              have h68r := h68
              try simp only [hce, l1, t0, t1, dflt, val_dig] at h68
              refine wl_skip (then_n (wl_reg (mv (asg ?_))))
              refine st_end nfc_BernsteinSigns_0 ?_
              refine blk_n (then_n ?_)
              refine wl_regW ((Weak.kill _ 8).trans (Weak.kill _ 63)) ?_
              refine mv ?_
              refine st_pure rfl (.bin rfl rfl (add64 om om)) ?_
              refine asg ?_
              refine st_end nfc_BernsteinSigns_0 ?_
              refine then_n ?_
              exact ⟨(i + 1, n, mulP p [-(rtV (l.getD i 0) ((l.getD i 0).tdiv 41)), 1 - (rtV (l.getD i 0) ((l.getD i 0).tdiv 41))]), _, (show (i + 1) ≤ l.length ∧ (n) ≤ (i + 1) ∧ KS (n) (scl (mulP p [-(rtV (l.getD i 0) ((l.getD i 0).tdiv 41)), 1 - (rtV (l.getD i 0) ((l.getD i 0).tdiv 41))])) ∧ 0 < (mulP p [-(rtV (l.getD i 0) ((l.getD i 0).tdiv 41)), 1 - (rtV (l.getD i 0) ((l.getD i 0).tdiv 41))]).length ∧ (mulP p [-(rtV (l.getD i 0) ((l.getD i 0).tdiv 41)), 1 - (rtV (l.getD i 0) ((l.getD i 0).tdiv 41))]).length ≤ (i + 1) + 1 ∧ ∀ x ∈ (mulP p [-(rtV (l.getD i 0) ((l.getD i 0).tdiv 41)), 1 - (rtV (l.getD i 0) ((l.getD i 0).tdiv 41))]), rl x + 13 ≤ 2 ^ (i + 1) * 14 from ⟨by omega, by omega, ks_non hK h0 hnon, ks_len h0 (by omega) hpl ha1 hr⟩), (show l.length - (i + 1) < l.length - i from by omega), Weak.of_eq (put_id' (put_id' (put_id' (put_id' (mk_id' clc_BernsteinSigns_1) clc_BernsteinSigns_1) clc_BernsteinSigns_1) clc_BernsteinSigns_1) clc_BernsteinSigns_1)⟩
    · skip
      have h24r := h24
      try simp only [hce, l1, t0, t1, dflt, val_dig] at h24
      obtain rfl : i = l.length := by omega
      have h2i : 2 ^ l.length ≤ 128 := Nat.le_trans (Nat.pow_le_pow_right (n := 2) (by decide) (show l.length ≤ 7 by omega)) (by decide)
      have hvl : vrR p ≤ p.length := by have := vrs_le 0 (p.map sgnR); rw [List.length_map] at this; exact this
      refine wl_exit ?_
      refine then_e (then_e (blk_e (then_n (wl_seq (wl_reg (mv ?_))))))
      refine st_callP rfl (.cons im0 .nil) (c_Variations p (by omega) (fun x hx => by have := hr x hx; omega)) ?_
      refine asg ?_
      refine st_end nfc_BernsteinSigns_0 ?_
      refine then_n (wl_seq (wl_reg (mv (mv ?_))))
      refine st_pure rfl (.bin rfl rfl rfl) ?_
      refine mv ?_
      refine st_pure (guardX (v := true) rfl rfl ((ns1 hK)) rfl) (.move _) ?_
      refine st_pure (guardX (v := true) rfl rfl ((ns1 hK)) rfl) (.move _) ?_
      refine st_pure (guardX (v := true) rfl rfl ((ns1 hK)) rfl) (.bin rfl rfl (sub64 (by omega) (by omega))) ?_
      refine st_pure (guardX (v := true) rfl rfl ((ns1 hK)) rfl) (.bin rfl rfl (rem64 (b := 2) (by decide))) ?_
      refine st_pure (guardX (v := true) rfl rfl ((ns1 hK)) rfl) (.bin rfl rfl rfl) ?_
      refine st_pure rfl (.pickT rfl ((ns1 hK))) ?_
      refine mv ?_
      refine st_callP (guardX (v := true) rfl rfl ((ns2 hK)) rfl) .nil (c_awake5) ?_
      refine st_pure rfl (.pickT rfl ((ns2 hK))) ?_
      refine asg ?_
      refine st_end nfc_BernsteinSigns_0 ?_
      refine then_n (wl_ret ?_)
      exact ret1 rfl (by first | exact .pure rfl | exact .pure (limL_pure _) | exact .pure (magL_pure _) | exact .pure (ratE.pure _) | exact .pure (pure_lst u32E _ _) | exact .pure (pure_lst ratE _ _))
end Go.Proofs.Ythhdcfhaldcheaa
