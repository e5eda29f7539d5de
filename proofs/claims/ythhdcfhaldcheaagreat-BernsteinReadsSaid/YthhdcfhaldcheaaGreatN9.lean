/- Rational numbers: short ones, reduced ones, integers. -/
import Derived.Test.YthhdcfhaldcheaaGreatN8
set_option linter.unusedVariables false
set_option linter.unusedSimpArgs false
set_option maxHeartbeats 8000000
set_option maxRecDepth 100000
attribute [local irreducible] Go.Lg.opsL Go.Lg.wpL Go.Lg.thenL Go.Lg.blockL
namespace Go.Proofs.YthhdcfhaldcheaaGreat
open Go.Lg
theorem val_nil : val [] = 0 := rfl
theorem blen_dec (n : Nat) : decide (((blen n : Nat) : Int) = 0) = decide (n = 0) := by
  rw [decide_eq_decide, ← blen_zero]; omega
theorem dig_is1 {n : Nat} (h : (dig n).length = 1) : (dig n).getD 0 0 = n ∧ 0 < n := by
  have h0 : 0 < n := Nat.pos_of_ne_zero (fun e => by rw [e, dig_zero] at h; cases h)
  rw [dig_small h0 (dig_len_le1.1 (by omega))]; exact ⟨rfl, h0⟩
namespace H_c_parts
theorem zSm {p q : Prop} (k : q) (e : p = q := by simp only [e1, e2, e3, e4, p1, p2, p3, q1, q2, q3, l1, t0, t1, r1, r2, r3, r4, Nat.zero_add, Nat.reduceMul, Nat.reduceAdd, b1, b2, b3, b4, b5, b6, i1, i2, i3, i4, i5, i6, Nat.reduceBEq, kills_map ratE, ratL_kill, dflt, val_dig]; exact rfl) : p := e.mpr k
end H_c_parts
open H_c_parts in
theorem c_parts (q : Rat) : CallP Tryz.prog 151 [ratL q] (.tup [nU64 (pN q), nU64 (pD q), bL (smB q)]) := by
  have hdp := q.den_pos
  have hden := denN_eq q
  refine fnP Tryz.func151 ?_
  refine zg16 ?_
  refine op_if 9 rfl (fun h9r h9 => ?_) (fun h9r h9 => ?_)
  · have hs : smB q = false := decide_eq_false (fun h => by have := dig_len_le1.2 h.1; omega)
    have h14 : True := trivial
    refine zg17 ?_
    simp only [pN, pD, hs, Bool.false_eq_true, if_false]
    exact ret3f [] rfl rfl (.pure rfl) rfl (.pure rfl) rfl (.pure rfl)
  · have hn1 := dig_len_le1.1 (show (dig q.num.natAbs).length ≤ 1 by omega)
    refine zg7 ?_
    refine wl_if rfl (fun h14r h14 => ?_) (fun h14r h14 => ?_)
    · have hs : smB q = false := by first | exact hs | exact decide_eq_false (fun h => by have := sm_den h.2; omega)
      refine zg9 ?_
      simp only [pN, pD, hs, Bool.false_eq_true, if_false]
      exact ret3f [] rfl rfl (.pure rfl) rfl (.pure rfl) rfl (.pure rfl)
    · have hd1 : q.den < 4294967296 := by
        have := dig_len_le1.1 (show (dig (denN q)).length ≤ 1 by omega)
        rw [hden] at this; split at this <;> omega
      have hs : smB q = true := decide_eq_true ⟨hn1, hd1⟩
      refine zg16 ?_
      refine wl_cut (fun L => ∃ (d : Nat) (L1 : St), (d = q.den) ∧ L = (((St.mk L1.slot (hp [(1, ⟨3, [ratL q], true⟩)])).put (some 1) (.eptr 1 3 0 0)).put (some 3) (nU64 d))) ?_ ?_
      · refine wl_if rfl (fun h18r h18 => ?_) (fun h18r h18 => ?_)
        · have hdn := denN_pos (q := q) (by omega)
          have hg0 : (dig (denN q)).getD 0 0 = q.den := by rw [hdn, dig_small hdp hd1]; rfl
          refine zg9 ?_
          exact ⟨(dig (denN q)).getD 0 0, _, hg0, ((put_id' (put_id' (mk_id' cl) cl) cl)).symm⟩
        · have hdn := denN_zero (q := q) (by omega)
          refine zg2 ?_
          exact ⟨1, _, hdn.symm, ((put_id' (put_id' (mk_id' cl) cl) cl)).symm⟩
      · rintro _ ⟨d, LC18, rfl, rfl⟩
        refine zg5 ?_
        refine cp am1 (c_Rword _ (lim_dig _) (by omega)) ?_
        refine zg9 ?_
        simp only [pN, pD, hs, if_true]
        have hb0 : ((q.den : Int) != 0) = true := by simp; omega
        refine ret3f [] rfl rfl (.pure rfl) rfl (.pure rfl) (x'' := .v (.bool ((q.den : Int) != 0))) rfl ?_
        rw [hb0]
        exact .pure rfl
namespace H_c_short
theorem zSm {p q : Prop} (k : q) (e : p = q := by simp only [e1, e2, e3, e4, p1, p2, p3, q1, q2, q3, l1, t0, t1, r1, r2, r3, r4, Nat.zero_add, Nat.reduceMul, Nat.reduceAdd, b1, b2, b3, b4, b5, b6, i1, i2, i3, i4, i5, i6, Nat.reduceBEq, dflt, Nat.sub_zero, Nat.zero_add, Nat.add_sub_cancel_left, Nat.add_zero]; exact rfl) : p := e.mpr k
theorem zSm1 {p q : Prop} (k : q) (e : p = q := by simp only [e1, e2, e3, e4, p1, p2, p3, q1, q2, q3, l1, t0, t1, r1, r2, r3, r4, Nat.zero_add, Nat.reduceMul, Nat.reduceAdd, b1, b2, b3, b4, b5, b6, i1, i2, i3, i4, i5, i6, Nat.reduceBEq, dflt, Nat.sub_zero, Nat.zero_add, Nat.add_sub_cancel_left, Nat.add_zero, ← hN, ← hD]; exact rfl) : p := e.mpr k
theorem nf1 {p : Prop} (h : p := by first | (refine zSm1 ?_; exact rfl) | exact rfl) : p := h
end H_c_short
open H_c_short in
theorem c_short (s : Bool) (n d : Nat) (hn : n < 18446744073709551616) (hd0 : 0 < d) (hd : d < 18446744073709551616) : CallP Tryz.prog 152 [bL s, nU64 n, nU64 d] (ratL (qv s n d)) := by
  refine fnP Tryz.func152 ?_
  refine zg12 ?_
  refine wl_if rfl (fun h13r h13 => ?_) (fun h13r h13 => ?_)
  · refine zg8 ?_
    obtain rfl : n = 0 := by omega
    rw [qv_zero, ratL_zero]
    exact retC [] rfl rfl rfl rfl rfl T33 (.pure rfl)
  · have hn0 : 0 < n := by omega
    have hg : 0 < Nat.gcd n d := Nat.gcd_pos_of_pos_left _ hn0
    have hn2 : 0 < n / Nat.gcd n d := Nat.div_pos (Nat.le_of_dvd hn0 (Nat.gcd_dvd_left n d)) hg
    have hd2 : 0 < d / Nat.gcd n d := Nat.div_pos (Nat.le_of_dvd hd0 (Nat.gcd_dvd_right n d)) hg
    have hn3 : n / Nat.gcd n d < 18446744073709551616 := Nat.lt_of_le_of_lt (Nat.div_le_self _ _) hn
    have hd3 : d / Nat.gcd n d < 18446744073709551616 := Nat.lt_of_le_of_lt (Nat.div_le_self _ _) hd
    have hE := ratL_qv s hn0 hd0
    obtain ⟨g, hgg⟩ : ∃ g, g = Nat.gcd n d := ⟨_, rfl⟩
    obtain ⟨N, hN⟩ : ∃ N, N = n / Nat.gcd n d := ⟨_, rfl⟩
    obtain ⟨D, hD⟩ : ∃ D, D = d / Nat.gcd n d := ⟨_, rfl⟩
    rw [← hN, ← hD] at hE
    rw [← hN] at hn2 hn3
    rw [← hD] at hd2 hd3
    have hk1 := dig_dlen hn2 hn3
    have hk2 := dig_dlen hd2 hd3
    obtain ⟨hs1, hs2⟩ := short_two hn2 hn3 hd2 hd3
    have hs0 := short_one hn2 hn3
    have hl1 : (putd [0, 0, 0, 0] 0 N).length = 4 := putd_len _ _ _
    have hl2 : (putd (putd [0, 0, 0, 0] 0 N) (dlen N) D).length = 4 := by rw [putd_len, putd_len]; rfl
    refine zg6 ?_
    refine cp am2 (c_divisor _ _ (by omega) (by omega)) ?_
    refine zg4 ?_
    refine wl_regD 8 (by decide +kernel) ?_
    refine zg2 ?_
    refine st_pure rfl (.bin rfl rfl (quoU (by omega) (by omega))) ?_
    refine zg2 ?_
    refine st_pure rfl (.bin rfl rfl (quoU (by omega) (by omega))) ?_
    refine zg2 ?_
    refine st_end nf1 ?_
    refine zg3 ?_
    refine st_alloc rfl rfl (.mkE (n := 4) (m := 4) ml ml om om om) ?_
    refine zg7 ?_
    refine st_callM 24 rfl rfl rfl (pures_map u32E _) (.cons .ref (.cons (.imm (.pure rfl)) .nil)) (.ref (by decide)) (c_limbs [0, 0, 0, 0] 0 4 N hn3 (by omega) (by omega) (by simp)) rfl (pures_map u32E _) ?_
    refine zg9 ?_
    refine st_pure rfl (.sliceR3 (a := 0) (h := dlen N) (mx := dlen N) rfl Tryz.underlying31 T114 (fun y hy => by cases hy) (fun _ => rfl) rfl rfl (by omega) (by omega) (by omega) (by omega)) ?_
    refine zg12 ?_
    refine wl_if rfl (fun h35r h35 => ?_) (fun h35r h35 => ?_)
    · refine zg5 ?_
      refine st_pure rfl (.sliceR (a := dlen N) (h := 4) rfl Tryz.underlying31 T114 (fun y hy => by cases hy; exact ⟨_, rfl⟩) (fun h => by cases h) (fun y hy => by cases hy) (fun _ => rfl) (by omega) (by omega) (by omega)) ?_
      refine zg1 ?_
      refine st_callM 24 rfl rfl rfl (pures_map u32E _) (.cons .ref (.cons (.imm (.pure rfl)) .nil)) (.ref (by omega)) (c_limbs (putd [0, 0, 0, 0] 0 N) (0 + dlen N) (4 - dlen N) D hd3 (by omega) (by omega) (by omega)) rfl (pures_map u32E _) ?_
      refine zg9 ?_
      refine st_pure rfl (.sliceR3 (a := dlen N) (h := dlen N + dlen D) (mx := dlen N + dlen D) rfl Tryz.underlying31 T114 (fun y hy => by cases hy; exact ⟨_, rfl⟩) (fun h => by cases h) rfl rfl (by omega) (by omega) (by omega) (by omega)) ?_
      refine zg11 ?_
      rw [hE, if_neg (by omega)]
      exact retC [24] rfl rfl rfl rfl rfl T33 (.agg (.cons (.pure rfl) (.cons (imm_refS u32E rfl rfl (by omega) hs1) (.cons (imm_refS u32E rfl rfl (by omega) hs2) .nil))))
    · refine zg9 ?_
      rw [hE, if_pos (by omega)]
      exact retC [24] rfl rfl rfl rfl rfl T33 (.agg (.cons (.pure rfl) (.cons (imm_refS u32E rfl rfl (by omega) hs0) (.cons (.pure rfl) .nil))))
namespace H_c_reduce
theorem zSm {p q : Prop} (k : q) (e : p = q := by simp only [e1, e2, e3, e4, p1, p2, p3, q1, q2, q3, l1, t0, t1, r1, r2, r3, r4, Nat.zero_add, Nat.reduceMul, Nat.reduceAdd, b1, b2, b3, b4, b5, b6, i1, i2, i3, i4, i5, i6, Nat.reduceBEq, dflt, val_dig, val_nil, Nat.add_zero]; exact rfl) : p := e.mpr k
end H_c_reduce
open H_c_reduce in
theorem c_reduce (s : Bool) (a b : List Nat) (ha : Lim a) (hb : Lim b) (hla : a.length ≤ 1099511627776) (hlb : b.length ≤ 1099511627776) : CallP Tryz.prog 153 [bL s, limL a, limL b] (ratL (qv s (val a) (val b))) := by
  have hla2 := c_trimC a ha hla
  have hlb2 := c_trimC b hb hlb
  refine fnP Tryz.func153 ?_
  refine zg7 ?_
  refine wl_cut (fun L => ∃ (t : Bool) (L1 : St), (t = decide (val a = 0 ∨ val b = 0)) ∧ L = ((((((St.mk L1.slot (hp [(6, ⟨3, [.agg [.v (.bool false), .list 1 [], .list 1 []]], true⟩)])).put (some 0) (bL s)).put (some 1) (limL a)).put (some 2) (limL b)).put (some 6) (.eptr 6 3 0 0)).put (some 15) (bL t))) ?_ ?_
  · refine zg2 ?_
    refine cp am1 (c_NBits _ (by first | assumption | exact lim_dig _) (by omega)) ?_
    refine zg2 ?_
    refine op_if 11 rfl (fun h11r h11 => ?_) (fun h11r h11 => ?_)
    · have hz : val a = 0 := blen_zero.1 (by omega)
      refine zg6 ?_
      exact ⟨true, _, (decide_eq_true (.inl hz)).symm, ((put_id' (put_id' (put_id' (put_id' (put_id' (mk_id' cl) cl) cl) cl) cl) cl)).symm⟩
    · have hza : val a ≠ 0 := fun h => by rw [blen_zero.2 h] at h11; exact h11 rfl
      refine zg1 ?_
      refine cp am1 (c_NBits _ (by first | assumption | exact lim_dig _) (by omega)) ?_
      refine zg4 ?_
      exact ⟨decide (((blen (val b) : Nat) : Int) = 0), _, by show decide _ = _; rw [blen_dec]; simp [hza], ((put_id' (put_id' (put_id' (put_id' (put_id' (mk_id' cl) cl) cl) cl) cl) cl)).symm⟩
  · rintro _ ⟨t, LR1, ht, rfl⟩
    refine zg1 ?_
    refine wl_if rfl (fun h15r h15 => ?_) (fun h15r h15 => ?_)
    · have hq : qv s (val a) (val b) = 0 := by
        rw [ht, decide_eq_true_eq] at h15r
        rcases h15r with h | h
        · rw [h]; exact qv_zero _ _
        · rw [h]; exact qv_den0 _ _
      refine zg8 ?_
      rw [hq, ratL_zero]
      exact retC [] rfl rfl rfl rfl rfl T33 (.pure rfl)
    · rw [ht, decide_eq_false_iff_not, not_or] at h15r
      have ha0 : 0 < val a := Nat.pos_of_ne_zero h15r.1
      have hb0 : 0 < val b := Nat.pos_of_ne_zero h15r.2
      have hg : 0 < Nat.gcd (val a) (val b) := Nat.gcd_pos_of_pos_left _ ha0
      have hE := ratL_qv s ha0 hb0
      have hgl : (dig (Nat.gcd (val a) (val b))).length ≤ 1099511627776 := Nat.le_trans (len_dig_mono (Nat.le_of_dvd ha0 (Nat.gcd_dvd_left _ _))) hla2
      have hqa : (dig (val a / Nat.gcd (val a) (val b))).length ≤ 1099511627776 := Nat.le_trans (len_dig_mono (Nat.div_le_self _ _)) hla2
      have hqb : (dig (val b / Nat.gcd (val a) (val b))).length ≤ 1099511627776 := Nat.le_trans (len_dig_mono (Nat.div_le_self _ _)) hlb2
      refine zg4 ?_
      refine wl_cut (fun L => ∃ (t : Bool) (L1 : St), (t = decide (a.length ≤ 2 ∧ b.length ≤ 2)) ∧ L = ((((((St.mk L1.slot (hp [(6, ⟨3, [.agg [.v (.bool false), .list 1 [], .list 1 []]], true⟩)])).put (some 0) (bL s)).put (some 1) (limL a)).put (some 2) (limL b)).put (some 6) (.eptr 6 3 0 0)).put (some 24) (bL t))) ?_ ?_
      · refine zg5 ?_
        refine op_if 20 rfl (fun h20r h20 => ?_) (fun h20r h20 => ?_)
        · refine zg6 ?_
          exact ⟨decide (((b.length : Nat) : Int) ≤ 2), _, by rw [decide_eq_decide]; omega, ((put_id' (put_id' (put_id' (put_id' (put_id' (mk_id' cl) cl) cl) cl) cl) cl)).symm⟩
        · refine zg6 ?_
          exact ⟨false, _, by symm; rw [decide_eq_false_iff_not]; omega, ((put_id' (put_id' (put_id' (put_id' (put_id' (mk_id' cl) cl) cl) cl) cl) cl)).symm⟩
      · rintro _ ⟨t, LR3, ht2, rfl⟩
        refine zg1 ?_
        refine wl_if rfl (fun h24r h24 => ?_) (fun h24r h24 => ?_)
        · rw [ht2, decide_eq_true_eq] at h24r
          have hla24 := h24r.1
          have hlb24 := h24r.2
          refine zg4 ?_
          have hva := val_lt_len ha (k := 2) (by omega)
          have hvb := val_lt_len hb (k := 2) (by omega)
          refine cp am1 (c_Rword a ha (by omega)) ?_
          refine zg1 ?_
          refine cp am1 (c_Rword b hb (by omega)) ?_
          refine cp am3 (c_short _ _ _ hva hb0 hvb) ?_
          refine zg5 ?_
          exact retC [] rfl rfl rfl (ratE.csize _) (ratL_all _) T33 (.pure (ratE.pure _))
        · refine zg7 ?_
          refine cp am2 (c_NGcd _ _ (by first | assumption | exact lim_dig _) (by first | assumption | exact lim_dig _) (by omega) (by omega)) ?_
          refine zg6 ?_
          refine cp am1 (c_NBits _ (by first | assumption | exact lim_dig _) (by omega)) ?_
          refine zg3 ?_
          refine wl_cut (fun L => ∃ (x : List Nat) (y : List Nat) (L1 : St), (Lim x ∧ Lim y ∧ x.length ≤ 1099511627776 ∧ y.length ≤ 1099511627776 ∧ val x = val a / Nat.gcd (val a) (val b) ∧ val y = val b / Nat.gcd (val a) (val b)) ∧ L = (((((St.mk L1.slot (hp [(6, ⟨3, [.agg [.v (.bool false), .list 1 [], .list 1 []]], true⟩)])).put (some 0) (bL s)).put (some 1) (limL x)).put (some 2) (limL y)).put (some 6) (.eptr 6 3 0 0))) ?_ ?_
          · refine wl_if rfl (fun h36r h36 => ?_) (fun h36r h36 => ?_)
            · refine zg4 ?_
              refine cp am2 (c_NDiv _ _ (by first | assumption | exact lim_dig _) (by first | assumption | exact lim_dig _) (by omega) (by omega) (by rw [val_dig]; exact hg)) ?_
              refine zg10 ?_
              refine cp am2 (c_NDiv _ _ (by first | assumption | exact lim_dig _) (by first | assumption | exact lim_dig _) (by omega) (by omega) (by rw [val_dig]; exact hg)) ?_
              refine zg7 ?_
              exact ⟨dig (val a / Nat.gcd (val a) (val b)), dig (val b / Nat.gcd (val a) (val b)), _, ⟨lim_dig _, lim_dig _, hqa, hqb, val_dig _, val_dig _⟩, ((put_id' (put_id' (put_id' (put_id' (mk_id' cl) cl) cl) cl) cl)).symm⟩
            · have hg1 : Nat.gcd (val a) (val b) = 1 := blen_one.1 (by have := blen_zero (n := Nat.gcd (val a) (val b)); omega)
              refine zg2 ?_
              exact ⟨a, b, _, ⟨ha, hb, hla, hlb, by rw [hg1, Nat.div_one], by rw [hg1, Nat.div_one]⟩, ((put_id' (put_id' (put_id' (put_id' (mk_id' cl) cl) cl) cl) cl)).symm⟩
          · rintro _ ⟨x, y, LC36, ⟨hx, hy, hlx, hly, hvx, hvy⟩, rfl⟩
            rw [← hvx, ← hvy] at hE
            have hy0 : 0 < val y := by rw [hvy]; exact Nat.div_pos (Nat.le_of_dvd hb0 (Nat.gcd_dvd_right _ _)) hg
            refine zg4 ?_
            refine cp am2 (c_Add x [] hx (by intro y hy; cases hy) hlx (by simp)) ?_
            refine zg1 ?_
            refine cp am2 (c_Add y [] hy (by intro y hy; cases hy) hly (by simp)) ?_
            refine zg11 ?_
            refine op_if 58 rfl (fun h58r h58 => ?_) (fun h58r h58 => ?_)
            · refine zg7 ?_
              refine wl_if rfl (fun h63r h63 => ?_) (fun h63r h63 => ?_)
              · have hy1 : val y = 1 := by have := (dig_is1 (n := val y) (by omega)).1; omega
                refine zg14 ?_
                rw [hE, if_pos hy1]
                exact retC [] rfl rfl rfl rfl rfl T33 (.agg (.cons (.pure rfl) (.cons (.pure (magL_pure _)) (.cons (.nil 1) .nil))))
              · have hy1 : val y ≠ 1 := by have := (dig_is1 (n := val y) (by omega)).1; omega
                refine zg12 ?_
                rw [hE, if_neg hy1]
                exact retC [] rfl rfl rfl rfl rfl T33 (.agg (.cons (.pure rfl) (.cons (.pure (magL_pure _)) (.cons (.pure (magL_pure _)) .nil))))
            · have hy1 : val y ≠ 1 := fun e => by rw [e, dig_one] at h58; exact h58 rfl
              refine zg20 ?_
              rw [hE, if_neg hy1]
              exact retC [] rfl rfl rfl rfl rfl T33 (.agg (.cons (.pure rfl) (.cons (.pure (magL_pure _)) (.cons (.pure (magL_pure _)) .nil))))
open H0 in
theorem c_size (n : Int) (h1 : -9223372036854775808 ≤ n) (h2 : n ≤ 9223372036854775807) : CallP Tryz.prog 160 [iL n] (magL n.natAbs) := by
  refine fnP Tryz.func160 ?_
  refine zg12 ?_
  refine wl_if rfl (fun h4r h4 => ?_) (fun h4r h4 => ?_)
  · refine zg2 ?_
    refine cp am1 (c_NOf 9223372036854775808 (by omega)) ?_
    refine zg5 ?_
    rw [show n.natAbs = 9223372036854775808 by omega]
    exact ret1 rfl (by first | exact .pure rfl | exact .pure (limL_pure _) | exact .pure (magL_pure _) | exact .pure (ratE.pure _) | exact .pure (pure_lst u32E _ _) | exact .pure (pure_lst ratE _ _))
  · refine zg6 ?_
    refine st_pure rfl (.neg rfl) ?_
    refine zg1 ?_
    refine st_pure rfl (.cv64 (n := n.natAbs) Tryz.underlying2 Tryz.underlying117 (by simp only [e1, p1, p2, Nat.reduceBEq]; rw [max_abs (by omega) (by omega)]) (by omega)) ?_
    refine cp am1 (c_NOf n.natAbs (by omega)) ?_
    refine zg4 ?_
    exact ret1 rfl (by first | exact .pure rfl | exact .pure (limL_pure _) | exact .pure (magL_pure _) | exact .pure (ratE.pure _) | exact .pure (pure_lst u32E _ _) | exact .pure (pure_lst ratE _ _))
theorem retCT {P : Program} {L : St} {a u : Nat} {T : TypeId} {b sz : Nat} {x y x' y' : LV} {m : Bool} {n : Nat} {ag : Bool} (bs : List Nat) (h0 : bs.contains 0 = false) (h : L.slot a = .eptr b sz 0 0) (hb : L.heap b = some ⟨sz, [x], m⟩)
    (hx : x.csize = sz) (hat : x.at 0 n ag = some x) (hT : TyIs P T n ag) (hi : Imm (L.frz bs).heap x y) (h' : L.slot u = x') (hi' : Imm (L.frz bs).heap x' y') : RetL P [.cell a T, .tmp u] L (.tup [y, y']) [] :=
  ⟨[x, x'], [y, y'], (L.frz bs).heap, [], .cons ⟨b, sz, 0, 0, _, x, n, ag, h, hb, rfl, rfl, hx, hat, hT⟩ (.cons h' .nil), frz_le bs h0, .cons (.imm hi) (.cons (.imm hi') .nil), List.nodup_nil, rfl, fun k b h => by simp at h, rfl⟩
namespace H_c_RInt
theorem zSm {p q : Prop} (k : q) (e : p = q := by simp only [e1, e2, e3, e4, p1, p2, p3, q1, q2, q3, l1, t0, t1, r1, r2, r3, r4, Nat.zero_add, Nat.reduceMul, Nat.reduceAdd, b1, b2, b3, b4, b5, b6, i1, i2, i3, i4, i5, i6, Nat.reduceBEq, val_dig]; exact rfl) : p := e.mpr k
end H_c_RInt
open H_c_RInt in
theorem c_RInt (n : Int) (h1 : -9223372036854775808 ≤ n) (h2 : n ≤ 9223372036854775807) : CallP Tryz.prog 115 [iL n] (ratL (n : Rat)) := by
  refine fnP Tryz.func115 ?_
  refine zg10 ?_
  refine cp am1 (c_size _ (by omega) (by omega)) ?_
  refine cp am0 (c_one) ?_
  refine cp am3 (c_reduce (decide (n < 0)) (dig n.natAbs) (dig 1) (lim_dig _) (lim_dig _) (Nat.le_trans (dig_len_le2.2 (by omega)) (by omega)) (by rw [dig_one]; decide)) ?_
  refine zg4 ?_
  rw [← qv_int n]
  exact retC [] rfl rfl rfl (ratE.csize _) (ratL_all _) T33 (.pure (ratE.pure _))
namespace H_c_RMake
theorem zSm {p q : Prop} (k : q) (e : p = q := by simp only [e1, e2, e3, e4, p1, p2, p3, q1, q2, q3, l1, t0, t1, r1, r2, r3, r4, Nat.zero_add, Nat.reduceMul, Nat.reduceAdd, b1, b2, b3, b4, b5, b6, i1, i2, i3, i4, i5, i6, Nat.reduceBEq, val_dig]; exact rfl) : p := e.mpr k
end H_c_RMake
open H_c_RMake in
theorem c_RMake (n d : Int) (h1 : -9223372036854775808 ≤ n) (h2 : n ≤ 9223372036854775807) (h3 : -9223372036854775808 ≤ d) (h4 : d ≤ 9223372036854775807) (hd : d ≠ 0) : CallP Tryz.prog 149 [iL n, iL d] (.tup [ratL ((n : Rat) / (d : Rat)), iL 0]) := by
  refine fnP Tryz.func149 ?_
  refine zg13 ?_
  refine wl_if rfl (fun h7r h7 => ?_) (fun h7r h7 => ?_)
  · exact absurd h7 hd
  · refine zg10 ?_
    refine cp am1 (c_size _ (by omega) (by omega)) ?_
    refine zg1 ?_
    refine cp am1 (c_size _ (by omega) (by omega)) ?_
    refine cp am3 (c_reduce (decide (n < 0) != decide (d < 0)) (dig n.natAbs) (dig d.natAbs) (lim_dig _) (lim_dig _) (Nat.le_trans (dig_len_le2.2 (by omega)) (by omega)) (Nat.le_trans (dig_len_le2.2 (by omega)) (by omega))) ?_
    refine zg5 ?_
    rw [← qv_ints]
    exact retCT [] rfl rfl rfl (ratE.csize _) (ratL_all _) T33 (.pure (ratE.pure _)) rfl (.pure rfl)
end Go.Proofs.YthhdcfhaldcheaaGreat
