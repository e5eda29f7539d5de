/- Products of nets. -/
import Derived.Test.YthhdcfhaldcheaaGreatT1
set_option linter.unusedVariables false
set_option linter.unusedSimpArgs false
set_option maxHeartbeats 8000000
set_option maxRecDepth 100000
attribute [local irreducible] Go.Lg.opsL Go.Lg.wpL Go.Lg.thenL Go.Lg.blockL
namespace Go.Proofs.YthhdcfhaldcheaaGreat
open Go.Lg
theorem gL_zero (W : Nat → Rat) : gL 0 W = [] := rfl
namespace H_c_TMul
theorem zSm {p q : Prop} (k : q) (e : p = q := by simp only [e1, e2, e3, e4, p1, p2, p3, q1, q2, q3, l1, t0, t1, r1, r2, r3, r4, Nat.zero_add, Nat.reduceMul, Nat.reduceAdd, b1, b2, b3, b4, b5, b6, i1, i2, i3, i4, i5, i6, Nat.reduceBEq, frz_nil, dfq, dfi, rowI_len, egu, egv, Nat.add_zero, egd, esd, List.length_set, kills_map i64E, kills_map ratE, ratL_kill, spL_kill, LV.kill, kills]; exact rfl) : p := e.mpr k
theorem zSm1 {p q : Prop} (k : q) (e : p = q := by simp only [e1, e2, e3, e4, p1, p2, p3, q1, q2, q3, l1, t0, t1, r1, r2, r3, r4, Nat.zero_add, Nat.reduceMul, Nat.reduceAdd, b1, b2, b3, b4, b5, b6, i1, i2, i3, i4, i5, i6, Nat.reduceBEq, frz_nil, dfq, dfi, rowI_len, egu, egv, Nat.add_zero, egd, esd, List.length_set, kills_map i64E, kills_map ratE, ratL_kill, spL_kill, LV.kill, kills, gL_zero, List.nil_append, List.drop_zero]; exact rfl) : p := e.mpr k
theorem cl1 {p : Prop} (h : p := by first | rfl | (refine zSm1 ?_; first | exact trivial | rfl | (congr 3 <;> omega) | (congr 2 <;> omega))) : p := h
end H_c_TMul
open H_c_TMul in
theorem c_TMul (U1 V1 U2 V2 : Nat) (a b : List Rat) (ha : a.length = (U1 + 1) * (V1 + 1)) (hb : b.length = (U2 + 1) * (V2 + 1)) (hal : a.length ≤ 1048576) (hbl : b.length ≤ 1048576) (hu : U1 + U2 ≤ 40) (hv : V1 + V2 ≤ 40) (R : Nat) (hR1 : 1 ≤ R) (hR : R ≤ 1000) (haR : ∀ x ∈ a, rl x ≤ R) (hbR : ∀ x ∈ b, rl x ≤ R) : CallP Tryz.prog 49 [.agg [nI64 U1, nI64 V1, .list 3 (a.map ratL)], .agg [nI64 U2, nI64 V2, .list 3 (b.map ratL)]] (.tup [.agg [nI64 (U1 + U2), nI64 (V1 + V2), .list 3 ((tmL U1 V1 U2 V2 a b).map ratL)], iL 0]) := by
  have hA1 : U1 + 1 ≤ a.length := by rw [ha]; exact Nat.le_mul_of_pos_right _ (Nat.succ_pos V1)
  have hA2 : V1 + 1 ≤ a.length := by rw [ha]; exact Nat.le_mul_of_pos_left _ (Nat.succ_pos U1)
  have hB1 : U2 + 1 ≤ b.length := by rw [hb]; exact Nat.le_mul_of_pos_right _ (Nat.succ_pos V2)
  have hB2 : V2 + 1 ≤ b.length := by rw [hb]; exact Nat.le_mul_of_pos_left _ (Nat.succ_pos U2)
  have hnp1 := net_pureN U1 V1 a
  have hnp2 := net_pureN U2 V2 b
  have hT : ((U1 + U2 + 1) * (V1 + V2 + 1)) ≤ 1681 := Nat.le_trans (Nat.mul_le_mul (show U1 + U2 + 1 ≤ 41 by omega) (show V1 + V2 + 1 ≤ 41 by omega)) (by decide)
  have hwa := wt_rl (U := U1) (V := V1) (c := a) (by omega) (by omega) hR1 haR
  have hwb := wt_rl (U := U2) (V := V2) (c := b) (by omega) (by omega) hR1 hbR
  have hwal : (wtL U1 V1 a).length = a.length := by rw [wtL, gL_len, ha]
  have hwbl : (wtL U2 V2 b).length = b.length := by rw [wtL, gL_len, hb]
  obtain ⟨z1, hz1⟩ : ∃ z1, (V2 + 1) * (2 * R + 14) = z1 := ⟨_, rfl⟩
  obtain ⟨z2, hz2⟩ : ∃ z2, (U2 + 1) * z1 = z2 := ⟨_, rfl⟩
  obtain ⟨z3, hz3⟩ : ∃ z3, (V1 + 1) * z2 = z3 := ⟨_, rfl⟩
  have hq1 : z1 ≤ 41 * (2 * R + 14) := by rw [← hz1]; exact Nat.mul_le_mul_right _ (by omega)
  have hq2 : z2 ≤ 41 * z1 := by rw [← hz2]; exact Nat.mul_le_mul_right _ (by omega)
  have hq3 : z3 ≤ 41 * z2 := by rw [← hz3]; exact Nat.mul_le_mul_right _ (by omega)
  have hq4 : (U1 + 1) * z3 ≤ 41 * z3 := Nat.mul_le_mul_right _ (by omega)
  have hq5 : (U1 + 1) * z3 ≤ 2825761 * (2 * R + 14) := by omega
  refine fnP Tryz.func49 (ht := (tame2 (net_pureN _ _ _) rfl)) ?_
  have egu : True := trivial
  have egv : True := trivial
  have egd : True := trivial
  have esd : True := trivial
  refine zg14 ?_
  refine st_pure rfl (.bin rfl rfl (add64N (by omega))) ?_
  refine zg4 ?_
  refine st_pure rfl (.bin rfl rfl (add64N (by omega))) ?_
  refine zg12 ?_
  refine st_pure (guardX (v := false) rfl rfl ((decide_eq_false (by omega))) rfl) fa27 ?_
  refine st_pure (guardX (v := false) rfl rfl ((decide_eq_false (by omega))) rfl) ld3 ?_
  refine st_pure (guardX (v := false) rfl rfl ((decide_eq_false (by omega))) rfl) (.bin rfl rfl rfl) ?_
  refine st_pure rfl (.pickF rfl ((decide_eq_false (by omega)))) ?_
  refine zg2 ?_
  refine wl_condY (b := _) rfl (decide_eq_false (by omega)) ?_
  refine zg6 ?_
  refine cp am1 (c_shaped U1 V1 a ha hal) ?_
  refine zg3 ?_
  refine cp am1 (c_shaped U2 V2 b hb hbl) ?_
  refine zg11 ?_
  refine st_pure rfl (.bin rfl rfl (add1N (by omega))) ?_
  refine zg2 ?_
  refine st_pure rfl (.bin rfl rfl (add1N (by omega))) ?_
  refine st_pure rfl (.bin rfl rfl (mulE rfl (by omega))) ?_
  refine st_alloc rfl rfl (.mkE (n := ((U1 + U2 + 1) * (V1 + V2 + 1))) (m := ((U1 + U2 + 1) * (V1 + V2 + 1))) ml ml om om om) ?_
  refine zg5 ?_
  refine wl_regD 6 (by decide +kernel) ?_
  refine zg1 ?_
  refine cp am1 (c_weighted U1 V1 a ha hal (by omega) (by omega) R hR1 (by omega) haR) ?_
  refine zg1 ?_
  refine cp am1 (c_weighted U2 V2 b hb hbl (by omega) (by omega) R hR1 (by omega) hbR) ?_
  refine zg9 ?_
  refine st_pure rfl (.bin rfl rfl (add1N (by omega))) ?_
  refine zg4 ?_
  refine lp2 (fun (i : Nat) (oI : List Rat) L => (((((((((St.mk L.slot (hp [(2, ⟨3, [.agg [nI64 U1, nI64 V1, .list 3 (a.map ratL)]], true⟩), (3, ⟨3, [.agg [nI64 U2, nI64 V2, .list 3 (b.map ratL)]], true⟩), (4, ⟨3, [.agg [.v (.int .i64 0), .v (.int .i64 0), .v (.slice none 0 0)]], true⟩), (6, ⟨3, [.agg [nI64 (U1 + U2), nI64 (V1 + V2), .ref 55 3 0 ((U1 + U2 + 1) * (V1 + V2 + 1))]], true⟩), (55, ⟨3, oI.map ratL, true⟩)])).put (some 2) (.eptr 2 3 0 0)).put (some 3) (.eptr 3 3 0 0)).put (some 4) (.eptr 4 3 0 0)).put (some 6) (.eptr 6 3 0 0)).put (some 7) (.list 3 ((wtL U1 V1 a).map ratL))).put (some 8) (.list 3 ((wtL U2 V2 b).map ratL))).put (some 63) (nI64 (U1 + 1))).put (some 64) (nI64 i))) (fun i oI => i ≤ U1 + 1 ∧ oI = mI V1 V2 (V1 + V2) U2 (wtL U1 V1 a) (wtL U2 V2 b) i (List.replicate ((U1 + U2 + 1) * (V1 + V2 + 1)) 0) ∧ oI.length = ((U1 + U2 + 1) * (V1 + V2 + 1)) ∧ ∀ x ∈ oI, rl x ≤ 1 + i * z3) (fun i oI => U1 + 1 - i) 0 (List.replicate ((U1 + U2 + 1) * (V1 + V2 + 1)) 0) ⟨Nat.zero_le _, rfl, by simp, fun x hx => by rw [(List.mem_replicate.1 hx).2]; exact Nat.le_add_right 1 _⟩ ?_
  rintro i oI L1 ⟨hi, hoI, hlI, hrI⟩
  refine zg6 ?_
  refine wl_if rfl (fun h65r h65 => ?_) (fun h65r h65 => ?_)
  · have hi2 : i ≤ U1 := by omega
    have hi3 : i * z3 + z3 ≤ (U1 + 1) * z3 := by rw [← Nat.succ_mul]; exact Nat.mul_le_mul_right _ (by omega)
    refine zg14 ?_
    refine st_pure rfl (.bin rfl rfl (add1N (by omega))) ?_
    refine zg4 ?_
    refine lp2 (fun (j : Nat) (oJ : List Rat) L => ((((((((((((St.mk L.slot (hp [(2, ⟨3, [.agg [nI64 U1, nI64 V1, .list 3 (a.map ratL)]], true⟩), (3, ⟨3, [.agg [nI64 U2, nI64 V2, .list 3 (b.map ratL)]], true⟩), (4, ⟨3, [.agg [.v (.int .i64 0), .v (.int .i64 0), .v (.slice none 0 0)]], true⟩), (6, ⟨3, [.agg [nI64 (U1 + U2), nI64 (V1 + V2), .ref 55 3 0 ((U1 + U2 + 1) * (V1 + V2 + 1))]], true⟩), (55, ⟨3, oJ.map ratL, true⟩)])).put (some 2) (.eptr 2 3 0 0)).put (some 3) (.eptr 3 3 0 0)).put (some 4) (.eptr 4 3 0 0)).put (some 6) (.eptr 6 3 0 0)).put (some 7) (.list 3 ((wtL U1 V1 a).map ratL))).put (some 8) (.list 3 ((wtL U2 V2 b).map ratL))).put (some 63) (nI64 (U1 + 1))).put (some 64) (nI64 i)).put (some 9) (nI64 i)).put (some 69) (nI64 (V1 + 1))).put (some 70) (nI64 j))) (fun j oJ => j ≤ V1 + 1 ∧ oJ = mJ V1 V2 (V1 + V2) U2 (wtL U1 V1 a) (wtL U2 V2 b) i j oI ∧ oJ.length = ((U1 + U2 + 1) * (V1 + V2 + 1)) ∧ ∀ x ∈ oJ, rl x ≤ 1 + i * z3 + j * z2) (fun j oJ => V1 + 1 - j) 0 oI ⟨Nat.zero_le _, rfl, hlI, fun x hx => by rw [Nat.zero_mul]; exact hrI x hx⟩ ?_
    rintro j oJ L2 ⟨hj, hoJ, hlJ, hrJ⟩
    refine zg6 ?_
    refine wl_if rfl (fun h71r h71 => ?_) (fun h71r h71 => ?_)
    · have hj2 : j ≤ V1 := by omega
      have hj3 : j * z2 + z2 ≤ z3 := by rw [← Nat.succ_mul, ← hz3]; exact Nat.mul_le_mul_right _ (by omega)
      refine zg14 ?_
      refine st_pure rfl (.bin rfl rfl (add1N (by omega))) ?_
      refine zg4 ?_
      refine lp2 (fun (k : Nat) (oK : List Rat) L => (((((((((((((((St.mk L.slot (hp [(2, ⟨3, [.agg [nI64 U1, nI64 V1, .list 3 (a.map ratL)]], true⟩), (3, ⟨3, [.agg [nI64 U2, nI64 V2, .list 3 (b.map ratL)]], true⟩), (4, ⟨3, [.agg [.v (.int .i64 0), .v (.int .i64 0), .v (.slice none 0 0)]], true⟩), (6, ⟨3, [.agg [nI64 (U1 + U2), nI64 (V1 + V2), .ref 55 3 0 ((U1 + U2 + 1) * (V1 + V2 + 1))]], true⟩), (55, ⟨3, oK.map ratL, true⟩)])).put (some 2) (.eptr 2 3 0 0)).put (some 3) (.eptr 3 3 0 0)).put (some 4) (.eptr 4 3 0 0)).put (some 6) (.eptr 6 3 0 0)).put (some 7) (.list 3 ((wtL U1 V1 a).map ratL))).put (some 8) (.list 3 ((wtL U2 V2 b).map ratL))).put (some 63) (nI64 (U1 + 1))).put (some 64) (nI64 i)).put (some 9) (nI64 i)).put (some 69) (nI64 (V1 + 1))).put (some 70) (nI64 j)).put (some 10) (nI64 j)).put (some 75) (nI64 (U2 + 1))).put (some 76) (nI64 k))) (fun k oK => k ≤ U2 + 1 ∧ oK = mK V1 V2 (V1 + V2) (wtL U1 V1 a) (wtL U2 V2 b) i j k oJ ∧ oK.length = ((U1 + U2 + 1) * (V1 + V2 + 1)) ∧ ∀ x ∈ oK, rl x ≤ 1 + i * z3 + j * z2 + k * z1) (fun k oK => U2 + 1 - k) 0 oJ ⟨Nat.zero_le _, rfl, hlJ, fun x hx => by rw [Nat.zero_mul]; exact hrJ x hx⟩ ?_
      rintro k oK L3 ⟨hk, hoK, hlK, hrK⟩
      refine zg6 ?_
      refine wl_if rfl (fun h77r h77 => ?_) (fun h77r h77 => ?_)
      · have hk2 : k ≤ U2 := by omega
        have hk3 : k * z1 + z1 ≤ z2 := by rw [← Nat.succ_mul, ← hz2]; exact Nat.mul_le_mul_right _ (by omega)
        refine zg14 ?_
        refine st_pure rfl (.bin rfl rfl (add1N (by omega))) ?_
        refine zg4 ?_
        refine lp2 (fun (l : Nat) (o : List Rat) L => ((((((((((((((((((St.mk L.slot (hp [(2, ⟨3, [.agg [nI64 U1, nI64 V1, .list 3 (a.map ratL)]], true⟩), (3, ⟨3, [.agg [nI64 U2, nI64 V2, .list 3 (b.map ratL)]], true⟩), (4, ⟨3, [.agg [.v (.int .i64 0), .v (.int .i64 0), .v (.slice none 0 0)]], true⟩), (6, ⟨3, [.agg [nI64 (U1 + U2), nI64 (V1 + V2), .ref 55 3 0 ((U1 + U2 + 1) * (V1 + V2 + 1))]], true⟩), (55, ⟨3, o.map ratL, true⟩)])).put (some 2) (.eptr 2 3 0 0)).put (some 3) (.eptr 3 3 0 0)).put (some 4) (.eptr 4 3 0 0)).put (some 6) (.eptr 6 3 0 0)).put (some 7) (.list 3 ((wtL U1 V1 a).map ratL))).put (some 8) (.list 3 ((wtL U2 V2 b).map ratL))).put (some 63) (nI64 (U1 + 1))).put (some 64) (nI64 i)).put (some 9) (nI64 i)).put (some 69) (nI64 (V1 + 1))).put (some 70) (nI64 j)).put (some 10) (nI64 j)).put (some 75) (nI64 (U2 + 1))).put (some 76) (nI64 k)).put (some 11) (nI64 k)).put (some 81) (nI64 (V2 + 1))).put (some 82) (nI64 l))) (fun l o => l ≤ V2 + 1 ∧ o = mL V1 V2 (V1 + V2) (wtL U1 V1 a) (wtL U2 V2 b) i j k l oK ∧ o.length = ((U1 + U2 + 1) * (V1 + V2 + 1)) ∧ ∀ x ∈ o, rl x ≤ 1 + i * z3 + j * z2 + k * z1 + l * (2 * R + 14)) (fun l o => V2 + 1 - l) 0 oK ⟨Nat.zero_le _, rfl, hlK, fun x hx => by rw [Nat.zero_mul]; exact hrK x hx⟩ ?_
        rintro l o L4 ⟨hl, ho, hlL, hrL⟩
        refine zg6 ?_
        refine wl_if rfl (fun h83r h83 => ?_) (fun h83r h83 => ?_)
        · have hl2 : l ≤ V2 := by omega
          have hl3 : l * (2 * R + 14) + (2 * R + 14) ≤ z1 := by rw [← Nat.succ_mul, ← hz1]; exact Nat.mul_le_mul_right _ (by omega)
          have hx1 := ix_lt (U := U1 + U2) (V := V1 + V2) (i := i + k) (j := j + l) (by omega) (by omega)
          have hx2 := ix_lt hi2 hj2
          have hx3 := ix_lt hk2 hl2
          rw [← ha] at hx2
          rw [← hb] at hx3
          have hr1 := getD_rl (S := R + 6) (by omega) hwa (i * (V1 + 1) + j)
          have hr2 := getD_rl (S := R + 6) (by omega) hwb (k * (V2 + 1) + l)
          have hr3 := getD_rl (by omega) hrL ((i + k) * (V1 + V2 + 1) + j + l)
          have hr4 := rl_mul ((wtL U1 V1 a).getD (i * (V1 + 1) + j) 0) ((wtL U2 V2 b).getD (k * (V2 + 1) + l) 0)
          have hr5 := rl_add (o.getD ((i + k) * (V1 + V2 + 1) + j + l) 0) ((wtL U1 V1 a).getD (i * (V1 + 1) + j) 0 * (wtL U2 V2 b).getD (k * (V2 + 1) + l) 0)
          refine zg14 ?_
          refine st_pure rfl (.bin rfl rfl (add64N (by omega))) ?_
          refine zg2 ?_
          refine st_pure rfl (.bin rfl rfl (add1N (by omega))) ?_
          refine st_pure rfl (.bin rfl rfl (mulE rfl (by omega))) ?_
          refine zg1 ?_
          refine st_pure rfl (.bin rfl rfl (add64N (by omega))) ?_
          refine zg1 ?_
          refine st_pure rfl (.bin rfl rfl (add64N (by omega))) ?_
          refine zg3 ?_
          refine wl_regD 31 (by decide +kernel) ?_
          refine zg8 ?_
          try simp only [t1, dfq, Nat.zero_add]
          refine zg4 ?_
          refine st_pure rfl (.bin rfl rfl (add1N (by omega))) ?_
          refine st_pure rfl (.bin rfl rfl (mulE rfl (by omega))) ?_
          refine zg1 ?_
          refine st_pure rfl (.bin rfl rfl (add64N (by omega))) ?_
          refine zg6 ?_
          refine st_pure rfl (.bin rfl rfl (add1N (by omega))) ?_
          refine st_pure rfl (.bin rfl rfl (mulE rfl (by omega))) ?_
          refine zg1 ?_
          refine st_pure rfl (.bin rfl rfl (add64N (by omega))) ?_
          refine zg2 ?_
          refine cp am2 (c_RMul ((wtL U1 V1 a).getD (i * (V1 + 1) + j) 0) ((wtL U2 V2 b).getD (k * (V2 + 1) + l) 0) (by omega)) ?_
          refine cp am2 (c_RAdd (o.getD ((i + k) * (V1 + V2 + 1) + j + l) 0) ((wtL U1 V1 a).getD (i * (V1 + 1) + j) 0 * (wtL U2 V2 b).getD (k * (V2 + 1) + l) 0) (by omega)) ?_
          refine zg10 ?_
          exact nx2 (l + 1) (o.set ((i + k) * (V1 + V2 + 1) + j + l) (o.getD ((i + k) * (V1 + V2 + 1) + j + l) 0 + (wtL U1 V1 a).getD (i * (V1 + 1) + j) 0 * (wtL U2 V2 b).getD (k * (V2 + 1) + l) 0)) ⟨by omega, by rw [ho]; rfl, by rw [List.length_set]; exact hlL, set_rl (fun x hx => by have := hrL x hx; rw [Nat.succ_mul]; omega) (by rw [Nat.succ_mul]; omega)⟩
        · obtain rfl : l = V2 + 1 := by omega
          refine zg11 ?_
          exact nx2 (k + 1) o ⟨by omega, by rw [ho, hoK]; rfl, hlL, fun x hx => by have := hrL x hx; rw [hz1] at this; rw [Nat.succ_mul]; omega⟩
      · obtain rfl : k = U2 + 1 := by omega
        rw [hz2] at hrK
        refine zg11 ?_
        exact nx2 (j + 1) oK ⟨by omega, by rw [hoK, hoJ]; rfl, hlK, fun x hx => by have := hrK x hx; rw [Nat.succ_mul]; omega⟩
    · obtain rfl : j = V1 + 1 := by omega
      rw [hz3] at hrJ
      refine zg11 ?_
      exact nx2 (i + 1) oJ ⟨by omega, by rw [hoJ, hoI]; rfl, hlJ, fun x hx => by have := hrJ x hx; rw [Nat.succ_mul]; omega⟩
  · obtain rfl : i = U1 + 1 := by omega
    have hOF : oI = (mTop U1 V1 U2 V2 a b) := hoI
    clear hoI
    subst hOF
    refine zg6 ?_
    refine wl_regD 8 (by decide +kernel) ?_
    refine zg2 ?_
    refine cp am1 (c_choose7 (U1 + U2) hu) ?_
    refine zg2 ?_
    refine cp am1 (c_choose7 (V1 + V2) hv) ?_
    refine zg13 ?_
    refine lp2 (fun (i m : Nat) L => (((((((((St.mk L.slot (hp [(2, ⟨3, [.agg [nI64 U1, nI64 V1, .list 3 (a.map ratL)]], true⟩), (3, ⟨3, [.agg [nI64 U2, nI64 V2, .list 3 (b.map ratL)]], true⟩), (4, ⟨3, [.agg [.v (.int .i64 0), .v (.int .i64 0), .v (.slice none 0 0)]], true⟩), (6, ⟨3, [.agg [nI64 (U1 + U2), nI64 (V1 + V2), .ref 55 3 0 ((U1 + U2 + 1) * (V1 + V2 + 1))]], true⟩), (55, ⟨3, (gL m (dvV (U1 + U2) (V1 + V2) (mTop U1 V1 U2 V2 a b)) ++ (mTop U1 V1 U2 V2 a b).drop m).map ratL, true⟩)])).put (some 2) (.eptr 2 3 0 0)).put (some 3) (.eptr 3 3 0 0)).put (some 4) (.eptr 4 3 0 0)).put (some 6) (.eptr 6 3 0 0)).put (some 14) (.list 1 ((rowI (U1 + U2)).map i64L))).put (some 15) (.list 1 ((rowI (V1 + V2)).map i64L))).put (some 138) (nI64 (U1 + U2 + 1))).put (some 139) (nI64 i))) (fun i m => i ≤ U1 + U2 + 1 ∧ i * (V1 + V2 + 1) = m) (fun i m => U1 + U2 + 1 - i) 0 0 ⟨Nat.zero_le _, Nat.zero_mul _⟩ (h0 := ⟨_, Weak.of_eq (put_id' (put_id' (put_id' (put_id' (put_id' (put_id' (put_id' (put_id' (mk_id' cl1) cl1) cl1) cl1) cl1) cl1) cl1) cl1) cl1)⟩) ?_
    rintro i m L5 ⟨hi, hm⟩
    refine zg6 ?_
    refine wl_if rfl (fun h140r h140 => ?_) (fun h140r h140 => ?_)
    · have hi2 : i ≤ U1 + U2 := by omega
      have egu := rowI_get hi2
      have hcu := chs_40 i hu
      refine zg18 ?_
      refine lp1 (fun (j : Nat) L => ((((((((((((St.mk L.slot (hp [(2, ⟨3, [.agg [nI64 U1, nI64 V1, .list 3 (a.map ratL)]], true⟩), (3, ⟨3, [.agg [nI64 U2, nI64 V2, .list 3 (b.map ratL)]], true⟩), (4, ⟨3, [.agg [.v (.int .i64 0), .v (.int .i64 0), .v (.slice none 0 0)]], true⟩), (6, ⟨3, [.agg [nI64 (U1 + U2), nI64 (V1 + V2), .ref 55 3 0 ((U1 + U2 + 1) * (V1 + V2 + 1))]], true⟩), (55, ⟨3, (gL (m + j) (dvV (U1 + U2) (V1 + V2) (mTop U1 V1 U2 V2 a b)) ++ (mTop U1 V1 U2 V2 a b).drop (m + j)).map ratL, true⟩)])).put (some 2) (.eptr 2 3 0 0)).put (some 3) (.eptr 3 3 0 0)).put (some 4) (.eptr 4 3 0 0)).put (some 6) (.eptr 6 3 0 0)).put (some 14) (.list 1 ((rowI (U1 + U2)).map i64L))).put (some 15) (.list 1 ((rowI (V1 + V2)).map i64L))).put (some 138) (nI64 (U1 + U2 + 1))).put (some 139) (nI64 i)).put (some 16) (nI64 i)).put (some 143) (nI64 (V1 + V2 + 1))).put (some 144) (nI64 j))) (fun j => j ≤ V1 + V2 + 1) (fun j => V1 + V2 + 1 - j) 0 (Nat.zero_le _) ?_
      rintro j L6 hj
      refine zg6 ?_
      refine wl_if rfl (fun h145r h145 => ?_) (fun h145r h145 => ?_)
      · have hj2 : j ≤ V1 + V2 := by omega
        have egv := rowI_get hj2
        have hcv := chs_40 j hv
        have hix := ix_lt hi2 hj2
        rw [hm] at hix
        have egd := get_gd (W := (dvV (U1 + U2) (V1 + V2) (mTop U1 V1 U2 V2 a b))) (o := (mTop U1 V1 U2 V2 a b)) (m := m + j)
        have hdv : (dvV (U1 + U2) (V1 + V2) (mTop U1 V1 U2 V2 a b)) (m + j) = (mTop U1 V1 U2 V2 a b).getD (m + j) 0 / ((((chs (U1 + U2) i : Nat) : Int) : Rat) * (((chs (V1 + V2) j : Nat) : Int) : Rat)) := by rw [dvV, ← hm, ix_div hj2, ix_mod hj2]
        have esd := set_gd (W := (dvV (U1 + U2) (V1 + V2) (mTop U1 V1 U2 V2 a b))) (o := (mTop U1 V1 U2 V2 a b)) (m := m + j) (by omega) hdv.symm
        have hgl : (gL (m + j) (dvV (U1 + U2) (V1 + V2) (mTop U1 V1 U2 V2 a b)) ++ (mTop U1 V1 U2 V2 a b).drop (m + j)).length = ((U1 + U2 + 1) * (V1 + V2 + 1)) := by rw [List.length_append, gL_len, List.length_drop]; omega
        have hr1 := chsR_rl i hu
        have hr2 := chsR_rl j hv
        have hr3 := getD_rl (by omega) hrI (m + j)
        have hr4 := rl_mul ((((chs (U1 + U2) i : Nat) : Int) : Rat)) ((((chs (V1 + V2) j : Nat) : Int) : Rat))
        refine zg15 ?_
        refine st_pure rfl (.bin rfl rfl (add1N (by omega))) ?_
        refine st_pure rfl (.bin rfl rfl (mulE hm (by omega))) ?_
        refine zg1 ?_
        refine st_pure rfl (.bin rfl rfl (add64N (by omega))) ?_
        refine zg3 ?_
        refine wl_regF 24 [22] (by decide +kernel) ?_
        refine zg8 ?_
        try simp only [t1, dfq, Nat.zero_add, egd]
        refine zg4 ?_
        try simp only [t1, dfi, Nat.zero_add, egu]
        refine cp am1 (c_RInt ((chs (U1 + U2) i : Nat) : Int) (by omega) (by omega)) ?_
        refine zg4 ?_
        try simp only [t1, dfi, Nat.zero_add, egv]
        refine cp am1 (c_RInt ((chs (V1 + V2) j : Nat) : Int) (by omega) (by omega)) ?_
        refine cp am2 (c_RMul ((((chs (U1 + U2) i : Nat) : Int) : Rat)) ((((chs (V1 + V2) j : Nat) : Int) : Rat)) (by omega)) ?_
        refine cp am2 (c_RQuo ((mTop U1 V1 U2 V2 a b).getD (m + j) 0) ((((chs (U1 + U2) i : Nat) : Int) : Rat) * (((chs (V1 + V2) j : Nat) : Int) : Rat)) (by omega)) ?_
        refine zg13 ?_
        exact nx1 (j + 1) (by omega)
      · obtain rfl : j = V1 + V2 + 1 := by omega
        refine zg11 ?_
        exact nx2 (i + 1) (m + (V1 + V2 + 1)) ⟨by omega, by rw [Nat.succ_mul]; omega⟩ (he := Weak.of_eq (put_id' (put_id' (put_id' (put_id' (put_id' (put_id' (put_id' (put_id' (mk_id' cl1) cl1) cl1) cl1) cl1) cl1) cl1) cl1) cl1))
    · obtain rfl : i = U1 + U2 + 1 := by omega
      have hE : (gL m (dvV (U1 + U2) (V1 + V2) (mTop U1 V1 U2 V2 a b)) ++ (mTop U1 V1 U2 V2 a b).drop m) = tmL U1 V1 U2 V2 a b := by rw [← hm, List.drop_of_length_le (by omega), List.append_nil]; rfl
      refine zg13 ?_
      rw [← hE]
      exact retCT [55] rfl rfl rfl rfl rfl T27 (.agg (.cons (.pure rfl) (.cons (.pure rfl) (.cons (imm_refm ratE rfl rfl (by rw [List.length_append, gL_len, List.length_drop]; omega)) .nil)))) rfl (.pure rfl)
end Go.Proofs.YthhdcfhaldcheaaGreat
