/- Magnitudes: contracts. -/
import Derived.Test.YthhdcfhaldcheaaLgTy
set_option linter.unusedVariables false
set_option linter.unusedSimpArgs false
namespace Go.Proofs.Ythhdcfhaldcheaa
open Go.Lg
theorem val_trim {l : List Nat} (h : Lim l) : trimL l = dig (val l) := trimL_dig h
theorem nfc_trim_0 {p : Prop} (h : p := by (try simp only [e1, e2, e3, e4, p1, p2, p3, q1, q2, q3, l1, t0, t1, r1, r2, r3, r4, Nat.zero_add, Nat.reduceMul, Nat.reduceAdd, b1, b2, b3, b4, b5, b6, i1, i2, i3, i4, i5, i6, Nat.reduceBEq, ej, ek]); exact rfl) : p := h
theorem nfc_trim_1 {p : Prop} (h : p := by (try simp only [e1, e2, e3, e4, p1, p2, p3, q1, q2, q3, l1, t0, t1, r1, r2, r3, r4, Nat.zero_add, Nat.reduceMul, Nat.reduceAdd, b1, b2, b3, b4, b5, b6, i1, i2, i3, i4, i5, i6, Nat.reduceBEq, ek]); exact rfl) : p := h
open H0 in
set_option maxHeartbeats 1000000 in
set_option maxRecDepth 100000 in
theorem c_trim (l : List Nat) (hl : l.length ≤ 4611686018427387904) : CallP Try.prog 122 [limL l] (limL (trimL l)) := by
  unfold limL trimL
  refine callP_of fol Try.func122 rfl (by decide +kernel) (by decide +kernel) (Nat.le_of_ble_eq_true rfl) tm0 ?_
  refine wl_seq (wl_reg (asg ?_))
  refine st_end nf0 ?_
  refine then_n (wl_seq (wl_reg (mv ?_)))
  refine st_pure rfl ln32 ?_
  refine asg ?_
  refine st_end nf0 ?_
  refine then_n (wl_seq (wl_block ?_))
  refine wl_loop (α := Nat) (fun st L => (((St.mk L.slot (hp [])).put (some 0) (.list 1 (l.map u32L))).put (some 3) (nI64 st))) (fun st => st ≤ l.length ∧ trimN l.length l = trimN st l) (fun st => st) l.length (show (l.length) ≤ l.length ∧ trimN l.length l = trimN (l.length) l from ⟨Nat.le_refl _, rfl⟩) ⟨_, Weak.of_eq (put_id' (put_id' (mk_id' cl0) cl0) cl0)⟩ ?_
  rintro k L1 hLC
  obtain ⟨hk, hkt⟩ : k ≤ l.length ∧ trimN l.length l = trimN k l := hLC
  show wpL _ _ _ (((St.mk L1.slot (hp [])).put (some 0) (.list 1 (l.map u32L))).put (some 3) (nI64 k))
  refine wl_seq (wl_seq (wl_reg (mv ?_)))
  refine st_pure rfl (.bin rfl rfl rfl) ?_
  refine mv ?_
  refine opsL_split (d := 8) rfl (fun h8 => ?_) (fun h8 => ?_)
  · skip
    have h8r := h8
    try simp only [hce, l1, t0, t1, dflt, val_dig] at h8
    obtain ⟨j, rfl⟩ : ∃ j, k = j + 1 := ⟨k - 1, by omega⟩
    have ej : (((j + 1 : Nat) : Int) - 1).toNat = j := by omega
    have ek : (((j + 1 : Nat) : Int) - 1) = j := by omega
    refine st_pure (guardX (v := true) rfl rfl (h8r) rfl) (.move _) ?_
    refine st_pure (guardX (v := true) rfl rfl (h8r) rfl) (.move _) ?_
    refine st_pure (guardX (v := true) rfl rfl (h8r) rfl) (.bin rfl rfl (sub64 om om)) ?_
    refine st_pure (guardX (v := true) rfl rfl (h8r) rfl) ix32 ?_
    refine st_pure (guardX (v := true) rfl rfl (h8r) rfl) ld31 ?_
    refine st_pure (guardX (v := true) rfl rfl (h8r) rfl) (.bin rfl rfl rfl) ?_
    refine st_pure rfl (.pickT rfl (h8r)) ?_
    refine st_end nfc_trim_0 ?_
    refine then_n ?_
    refine wl_cond rfl (fun h15 => ?_) (fun h15 => ?_)
    · skip
      have h15r := h15
      try simp only [hce, l1, t0, t1, dflt, val_dig] at h15
      refine wl_skip (then_n (wl_block (wl_reg (mv ?_))))
      refine st_pure rfl (.bin rfl rfl (sub64 om om)) ?_
      refine asg ?_
      refine st_end nfc_trim_1 ?_
      refine blk_n (then_n ?_)
      exact ⟨j, _, (show (j) ≤ l.length ∧ trimN l.length l = trimN (j) l from ⟨by omega, hkt.trans (by simp only [trimN]; rw [if_pos (by simpa using h15)])⟩), (show (j) < j + 1 from by omega), Weak.of_eq (put_id' (put_id' (mk_id' cl0) cl0) cl0)⟩
    · skip
      have h15r := h15
      try simp only [hce, l1, t0, t1, dflt, val_dig] at h15
      refine wl_exit ?_
      refine then_e (then_e (blk_e (then_n (wl_seq (wl_reg (mv (mv ?_)))))))
      refine st_pure rfl (by first | exact .sliceLh (h := _) u32E rfl Try.underlying32 T31 rfl om | exact .sliceRh rfl Try.underlying32 T31 rfl om om) ?_
      refine asg ?_
      refine st_end nf0 ?_
      refine then_n (wl_ret ?_)
      rw [hkt, trimN, if_neg (by simpa using h15)]
      exact ret1 rfl (.pure (pure_lst u32E _ _))
  · skip
    have h8r := h8
    try simp only [hce, l1, t0, t1, dflt, val_dig] at h8
    have hk0 : k = 0 := by omega
    subst hk0
    have ej : True := trivial
    have ek : True := trivial
    refine st_skip (guardX (v := false) rfl rfl (h8r) rfl) ?_
    refine st_skip (guardX (v := false) rfl rfl (h8r) rfl) ?_
    refine st_skip (guardX (v := false) rfl rfl (h8r) rfl) ?_
    refine st_skip (guardX (v := false) rfl rfl (h8r) rfl) ?_
    refine st_skip (guardX (v := false) rfl rfl (h8r) rfl) ?_
    refine st_skip (guardX (v := false) rfl rfl (h8r) rfl) ?_
    refine st_pure rfl (.pickF rfl (h8r)) ?_
    refine st_end nfc_trim_0 ?_
    refine then_n ?_
    refine wl_condY (b := _) rfl rfl ?_
    refine wl_exit ?_
    refine then_e (then_e (blk_e (then_n (wl_seq (wl_reg (mv (mv ?_)))))))
    refine st_pure rfl (by first | exact .sliceLh (h := _) u32E rfl Try.underlying32 T31 rfl om | exact .sliceRh rfl Try.underlying32 T31 rfl om om) ?_
    refine asg ?_
    refine st_end nf0 ?_
    refine then_n (wl_ret ?_)
    rw [hkt]
    exact ret1 rfl (.pure (pure_lst u32E _ _))
end Go.Proofs.Ythhdcfhaldcheaa
