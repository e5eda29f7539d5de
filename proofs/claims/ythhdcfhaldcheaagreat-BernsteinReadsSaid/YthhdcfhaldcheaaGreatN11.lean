/- Rational numbers: sums, quotients, least and greatest. -/
import Derived.Test.YthhdcfhaldcheaaGreatN10
set_option linter.unusedVariables false
set_option linter.unusedSimpArgs false
set_option maxHeartbeats 8000000
set_option maxRecDepth 100000
attribute [local irreducible] Go.Lg.opsL Go.Lg.wpL Go.Lg.thenL Go.Lg.blockL
namespace Go.Proofs.YthhdcfhaldcheaaGreat
open Go.Lg
namespace H_c_RQuo
theorem zSm {p q : Prop} (k : q) (e : p = q := by simp only [e1, e2, e3, e4, p1, p2, p3, q1, q2, q3, l1, t0, t1, r1, r2, r3, r4, Nat.zero_add, Nat.reduceMul, Nat.reduceAdd, b1, b2, b3, b4, b5, b6, i1, i2, i3, i4, i5, i6, Nat.reduceBEq, val_dig, ekA, ekB, ekC, ekD]; exact rfl) : p := e.mpr k
end H_c_RQuo
open H_c_RQuo in
theorem c_RQuo (a b : Rat) (h : rl a + rl b ≤ 1099511627776) : CallP Tryz.prog 124 [ratL a, ratL b] (.tup [ratL (a / b), iL (if b = 0 then 3 else 0)]) := by
  have a1 := rl_num a
  have a2 := rl_den a
  have a3 := rl_denN a
  have c1 := rl_num b
  have c2 := rl_den b
  have c3 := rl_denN b
  have a0 := a.den_pos
  have c0 := b.den_pos
  have m1 := len_mul a1 c2
  have m2 := len_mul c1 a2
  have m3 := len_mul a2 c2
  have m4 := len_mul a1 c1
  have m5 := len_mul a2 c1
  have m6 := len_mul c2 a2
  have hE := qv_div (decide (a < 0)) (decide (b < 0)) a.num.natAbs a.den b.num.natAbs b.den
  rw [qv_self, qv_self] at hE
  refine fnP Tryz.func124 ?_
  have ekA : True := trivial
  have ekB : True := trivial
  have ekC : True := trivial
  have ekD : True := trivial
  refine zg12 ?_
  refine cp am1 (c_RSign _ (by omega)) ?_
  refine zg3 ?_
  refine wl_if rfl (fun h14r h14 => ?_) (fun h14r h14 => ?_)
  · have hz : b = 0 := by
      unfold sgnR at h14; split at h14
      · assumption
      · split at h14 <;> omega
    refine zg9 ?_
    subst hz
    rw [show a / 0 = 0 by rw [Rat.div_def]; simp, ratL_zero]
    exact retCT [] rfl rfl rfl rfl rfl T33 (.pure rfl) rfl (.pure rfl)
  · have hz : b ≠ 0 := by rintro rfl; exact h14 rfl
    have hbn : 0 < b.num.natAbs := Nat.pos_of_ne_zero (fun h => hz (Rat.num_eq_zero.1 (by omega)))
    refine zg6 ?_
    refine cp am1 (c_parts _) ?_
    refine zg14 ?_
    refine wl_cut (fun L => ∃  (L1 : St), (True) ∧ L = (((((St.mk L1.slot (hp [(2, ⟨3, [ratL a], true⟩), (3, ⟨3, [ratL b], true⟩), (4, ⟨3, [.agg [.v (.bool false), .list 1 [], .list 1 []]], true⟩)])).put (some 2) (.eptr 2 3 0 0)).put (some 3) (.eptr 3 3 0 0)).put (some 4) (.eptr 4 3 0 0)).put (some 5) (iL 0))) ?_ ?_
    · refine wl_if rfl (fun h22r h22 => ?_) (fun h22r h22 => ?_)
      · obtain ⟨ekA, ekB, k3, k4⟩ := smB_t h22r
        refine zg3 ?_
        refine cp am1 (c_parts _) ?_
        refine zg14 ?_
        refine wl_if rfl (fun h29r h29 => ?_) (fun h29r h29 => ?_)
        · obtain ⟨ekC, ekD, k7, k8⟩ := smB_t h29r
          have n1 := mulLt k3 k8
          have n2 := mulLt k4 k7
          have np := Nat.mul_pos a0 hbn
          refine zg9 ?_
          refine st_pure rfl (.bin rfl rfl (mulU (by first | omega | (simp only [ekA, ekB, ekC, ekD]; omega)))) ?_
          refine zg2 ?_
          refine st_pure rfl (.bin rfl rfl (mulU (by first | omega | (simp only [ekA, ekB, ekC, ekD]; omega)))) ?_
          refine cp am3 (c_short _ _ _ (by first | omega | (simp only [ekA, ekB, ekC, ekD]; omega)) (by first | exact np | (simp only [ekA, ekB, ekC, ekD]; exact np)) (by first | omega | (simp only [ekA, ekB, ekC, ekD]; omega))) ?_
          refine zg7 ?_
          rw [hE, if_neg hz]
          exact retCT [] rfl rfl rfl (ratE.csize _) (ratL_all _) T33 (.pure (ratE.pure _)) rfl (.pure rfl)
        · refine zg2 ?_
          exact ⟨_, trivial, ((put_id' (put_id' (put_id' (put_id' (mk_id' cl) cl) cl) cl) cl)).symm⟩
      · refine zg2 ?_
        exact ⟨_, trivial, ((put_id' (put_id' (put_id' (put_id' (mk_id' cl) cl) cl) cl) cl)).symm⟩
    · rintro _ ⟨LC22, -, rfl⟩
      refine zg2 ?_
      refine wl_regD 16 (by decide +kernel) ?_
      refine zg8 ?_
      refine cp am1 (c_den _) ?_
      refine cp am2 (c_NMul _ _ (lim_dig _) (lim_dig _) (by omega) (by omega)) ?_
      refine zg1 ?_
      refine cp am1 (c_den _) ?_
      refine zg2 ?_
      refine cp am2 (c_NMul _ _ (lim_dig _) (lim_dig _) (by omega) (by omega)) ?_
      refine cp am3 (c_reduce _ _ _ (lim_dig _) (lim_dig _) (by first | omega | (simp only [val_dig]; omega)) (by first | omega | (simp only [val_dig]; omega))) ?_
      refine zg5 ?_
      rw [hE, if_neg hz]
      exact retCT [] rfl rfl rfl (ratE.csize _) (ratL_all _) T33 (.pure (ratE.pure _)) rfl (.pure rfl)
theorem beq_ne_of {p s : Bool} (h : (p == s) = false) : p ≠ s := by simpa using h
theorem bne_ne_of {p s : Bool} (h : (!(p == s)) = true) : p ≠ s := by simpa using h
namespace H_c_radd
theorem zSm {p q : Prop} (k : q) (e : p = q := by simp only [e1, e2, e3, e4, p1, p2, p3, q1, q2, q3, l1, t0, t1, r1, r2, r3, r4, Nat.zero_add, Nat.reduceMul, Nat.reduceAdd, b1, b2, b3, b4, b5, b6, i1, i2, i3, i4, i5, i6, Nat.reduceBEq, val_dig, Nat.one_mul, Nat.mul_one, eS, eK, eSb, eSc, ekA, ekB, ekC, ekD]; exact rfl) : p := e.mpr k
end H_c_radd
open H_c_radd in
theorem c_radd (a b : Rat) (s : Bool) (h : rl a + rl b ≤ 549755813888) : CallP Tryz.prog 156 [ratL a, ratL b, bL s] (ratL (a + sgR s b)) := by
  have a1 := rl_num a
  have a2 := rl_den a
  have a3 := rl_denN a
  have c1 := rl_num b
  have c2 := rl_den b
  have c3 := rl_denN b
  have a0 := a.den_pos
  have c0 := b.den_pos
  have m1 := len_mul a1 c2
  have m2 := len_mul c1 a2
  have m3 := len_mul a2 c2
  have m4 := len_mul a1 c1
  have m5 := len_mul a2 c1
  have m6 := len_mul c2 a2
  have mm := len_add (k := rl a + rl b) m1 (by omega)
  refine fnP Tryz.func156 ?_
  have eS : True := trivial
  have eK : True := trivial
  have eSb : True := trivial
  have eSc : True := trivial
  have ekA : True := trivial
  have ekB : True := trivial
  have ekC : True := trivial
  have ekD : True := trivial
  refine zg11 ?_
  refine cp am1 (c_parts _) ?_
  refine zg14 ?_
  refine wl_cut (fun L => ∃  (L1 : St), (True) ∧ L = (((((St.mk L1.slot (hp [(3, ⟨3, [ratL a], true⟩), (4, ⟨3, [ratL b], true⟩), (6, ⟨3, [.agg [.v (.bool false), .list 1 [], .list 1 []]], true⟩)])).put (some 2) (bL s)).put (some 3) (.eptr 3 3 0 0)).put (some 4) (.eptr 4 3 0 0)).put (some 6) (.eptr 6 3 0 0))) ?_ ?_
  · refine wl_if rfl (fun h28r h28 => ?_) (fun h28r h28 => ?_)
    · obtain ⟨ekA, ekB, k3, k4⟩ := smB_t h28r
      refine zg3 ?_
      refine cp am1 (c_parts _) ?_
      refine zg14 ?_
      refine wl_if rfl (fun h35r h35 => ?_) (fun h35r h35 => ?_)
      · obtain ⟨ekC, ekD, k7, k8⟩ := smB_t h35r
        have n1 := mulLt k3 k8
        have n2 := mulLt k7 k4
        have n3 := mulLt k4 k8
        have np := Nat.mul_pos a0 c0
        refine zg4 ?_
        refine st_pure rfl (.bin rfl rfl (mulU (by first | omega | (simp only [ekA, ekB, ekC, ekD]; omega)))) ?_
        refine zg2 ?_
        refine st_pure rfl (.bin rfl rfl (mulU (by first | omega | (simp only [ekA, ekB, ekC, ekD]; omega)))) ?_
        refine zg5 ?_
        have eS : (((a.num.natAbs * b.den : Nat) : Int) + ((b.num.natAbs * a.den : Nat) : Int) + 0) % 18446744073709551616 = (((a.num.natAbs * b.den + b.num.natAbs * a.den) % 18446744073709551616 : Nat) : Int) := by omega
        have eK : (((a.num.natAbs * b.den : Nat) : Int) + ((b.num.natAbs * a.den : Nat) : Int) + 0) / 18446744073709551616 = (((a.num.natAbs * b.den + b.num.natAbs * a.den) / 18446744073709551616 : Nat) : Int) := by omega
        refine zg3 ?_
        refine st_pure rfl (.ext2 Tryz.func183 rfl rfl rfl rfl (vs := [.int .u64 ((a.num.natAbs * b.den : Nat) : Int), .int .u64 ((b.num.natAbs * a.den : Nat) : Int), .int .u64 0]) rfl (fun w => run_add64 _ _ _ (by omega) (by omega) (by omega) (by omega) w) rfl rfl) ?_
        refine zg15 ?_
        refine op_if 53 rfl (fun h53r h53 => ?_) (fun h53r h53 => ?_)
        · refine zg6 ?_
          refine wl_if rfl (fun h48r h48 => ?_) (fun h48r h48 => ?_)
          · refine zg7 ?_
            refine cp am3 (c_short s ((a.num.natAbs * b.den + b.num.natAbs * a.den) % 18446744073709551616) (a.den * b.den) (by omega) np (by omega)) ?_
            refine zg7 ?_
            have hc0 : a.num.natAbs * b.den + b.num.natAbs * a.den < 18446744073709551616 := by omega
            rw [add_same (k := 1) (x := a.num.natAbs * b.den) (y := b.num.natAbs * a.den) (d := a.den * b.den) (by omega) (Nat.mul_one _) (Nat.mul_one _) (Nat.mul_one _) (eq_of_beq h53r), show qv s (a.num.natAbs * b.den + b.num.natAbs * a.den) (a.den * b.den) = qv s ((a.num.natAbs * b.den + b.num.natAbs * a.den) % 18446744073709551616) (a.den * b.den) by rw [Nat.mod_eq_of_lt hc0]]
            exact retC [] rfl rfl rfl (ratE.csize _) (ratL_all _) T33 (.pure (ratE.pure _))
          · refine zg7 ?_
            refine st_skip (guardX (v := false) rfl rfl ((by rw [h53r]; rfl)) rfl) ?_
            refine st_skip (guardX (v := false) rfl rfl ((by rw [h53r]; rfl)) rfl) ?_
            refine st_skip (guardX (v := false) rfl rfl ((by rw [h53r]; rfl)) rfl) ?_
            refine st_pure rfl (.pickF rfl ((by rw [h53r]; rfl))) ?_
            refine zg13 ?_
            refine wl_condY (b := _) rfl (by rw [h53r]; rfl) ?_
            refine zg3 ?_
            exact ⟨_, trivial, ((put_id' (put_id' (put_id' (put_id' (mk_id' cl) cl) cl) cl) cl)).symm⟩
        · refine zg14 ?_
          refine st_pure (guardX (v := true) rfl rfl ((by rw [h53r]; rfl)) rfl) (.move _) ?_
          refine st_pure (guardX (v := true) rfl rfl ((by rw [h53r]; rfl)) rfl) (.move _) ?_
          refine st_pure (guardX (v := true) rfl rfl ((by rw [h53r]; rfl)) rfl) (.bin rfl rfl rfl) ?_
          refine st_pure rfl (.pickT rfl ((by rw [h53r]; rfl))) ?_
          refine zg3 ?_
          refine wl_if rfl (fun h63r h63 => ?_) (fun h63r h63 => ?_)
          · refine zg10 ?_
            refine cp am3 (c_short _ _ _ (by first | omega | (simp only [ekA, ekB, ekC, ekD]; omega)) (by first | exact np | (simp only [ekA, ekB, ekC, ekD]; exact np)) (by first | omega | (simp only [ekA, ekB, ekC, ekD]; omega))) ?_
            refine zg7 ?_
            rw [add_ge (k := 1) (x := a.num.natAbs * b.den) (y := b.num.natAbs * a.den) (d := a.den * b.den) (by omega) (Nat.mul_one _) (Nat.mul_one _) (Nat.mul_one _) (beq_ne_of h53r) (by omega)]
            exact retC [] rfl rfl rfl (ratE.csize _) (ratL_all _) T33 (.pure (ratE.pure _))
          · refine zg9 ?_
            refine wl_condX (b := _) rfl (by rw [h53r]; rfl) ?_
            refine zg9 ?_
            refine cp am3 (c_short _ _ _ (by first | omega | (simp only [ekA, ekB, ekC, ekD]; omega)) (by first | exact np | (simp only [ekA, ekB, ekC, ekD]; exact np)) (by first | omega | (simp only [ekA, ekB, ekC, ekD]; omega))) ?_
            refine zg7 ?_
            rw [add_le (k := 1) (x := a.num.natAbs * b.den) (y := b.num.natAbs * a.den) (d := a.den * b.den) (by omega) (Nat.mul_one _) (Nat.mul_one _) (Nat.mul_one _) (beq_ne_of h53r) (by omega)]
            exact retC [] rfl rfl rfl (ratE.csize _) (ratL_all _) T33 (.pure (ratE.pure _))
      · refine zg2 ?_
        exact ⟨_, trivial, ((put_id' (put_id' (put_id' (put_id' (mk_id' cl) cl) cl) cl) cl)).symm⟩
    · refine zg2 ?_
      exact ⟨_, trivial, ((put_id' (put_id' (put_id' (put_id' (mk_id' cl) cl) cl) cl) cl)).symm⟩
  · rintro _ ⟨LC28, -, rfl⟩
    refine zg2 ?_
    refine wl_regD 9 (by decide +kernel) ?_
    refine zg5 ?_
    refine cp am1 (c_den _) ?_
    refine zg12 ?_
    refine cp am2 (c_Equal _ _ (by omega) (by omega)) ?_
    refine zg3 ?_
    refine wl_cut (fun L => ∃ (x : Nat) (y : Nat) (d : Nat) (L1 : St), (∃ k, 0 < k ∧ x * k = a.num.natAbs * b.den ∧ y * k = b.num.natAbs * a.den ∧ d * k = a.den * b.den ∧ 0 < d ∧ (dig x).length ≤ rl a + rl b ∧ (dig y).length ≤ rl a + rl b ∧ (dig d).length ≤ rl a + rl b) ∧ L = ((((((((St.mk L1.slot (hp [(3, ⟨3, [ratL a], true⟩), (4, ⟨3, [ratL b], true⟩), (6, ⟨3, [.agg [.v (.bool false), .list 1 [], .list 1 []]], true⟩)])).put (some 2) (bL s)).put (some 3) (.eptr 3 3 0 0)).put (some 4) (.eptr 4 3 0 0)).put (some 6) (.eptr 6 3 0 0)).put (some 15) (magL x)).put (some 16) (magL y)).put (some 17) (magL d))) ?_ ?_
    · refine wl_if rfl (fun h106r h106 => ?_) (fun h106r h106 => ?_)
      · refine wl_regD 15 (by decide +kernel) ?_
        refine zg2 ?_
        refine cp am1 (c_den _) ?_
        refine cp am2 (c_NMul _ _ (lim_dig _) (lim_dig _) (by omega) (by omega)) ?_
        refine zg2 ?_
        refine cp am1 (c_den _) ?_
        refine cp am2 (c_NMul _ _ (lim_dig _) (lim_dig _) (by omega) (by omega)) ?_
        refine zg2 ?_
        refine cp am1 (c_den _) ?_
        refine cp am2 (c_NMul _ _ (lim_dig _) (lim_dig _) (by omega) (by omega)) ?_
        refine zg5 ?_
        exact ⟨a.num.natAbs * b.den, b.num.natAbs * a.den, a.den * b.den, _, ⟨1, by omega, Nat.mul_one _, Nat.mul_one _, Nat.mul_one _, Nat.mul_pos a0 c0, m1, by omega, m3⟩, ((put_id' (put_id' (put_id' (put_id' (put_id' (put_id' (put_id' (mk_id' cl) cl) cl) cl) cl) cl) cl) cl)).symm⟩
      · have hde := denN_inj h106
        refine zg2 ?_
        exact ⟨a.num.natAbs, b.num.natAbs, a.den, _, ⟨a.den, a0, by rw [hde], rfl, by rw [hde], a0, by omega, by omega, by omega⟩, ((put_id' (put_id' (put_id' (put_id' (put_id' (put_id' (put_id' (mk_id' cl) cl) cl) cl) cl) cl) cl) cl)).symm⟩
    · rintro _ ⟨x, y, d, LC106, ⟨k, hk, hx, hy, hd, hd0, lx, ly, ld⟩, rfl⟩
      have lxy := len_add lx ly
      have lxs : (dig (x - y)).length ≤ rl a + rl b := Nat.le_trans (len_dig_mono (Nat.sub_le _ _)) lx
      have lys : (dig (y - x)).length ≤ rl a + rl b := Nat.le_trans (len_dig_mono (Nat.sub_le _ _)) ly
      refine zg10 ?_
      refine wl_if rfl (fun h122r h122 => ?_) (fun h122r h122 => ?_)
      · refine zg5 ?_
        refine cp am2 (c_Add _ _ (lim_dig _) (lim_dig _) (by omega) (by omega)) ?_
        refine zg1 ?_
        refine cp am3 (c_reduce _ _ _ (lim_dig _) (lim_dig _) (by first | omega | (simp only [val_dig]; omega)) (by first | omega | (simp only [val_dig]; omega))) ?_
        refine zg5 ?_
        rw [add_same hk hx hy hd (eq_of_beq h122r)]
        exact retC [] rfl rfl rfl (ratE.csize _) (ratL_all _) T33 (.pure (ratE.pure _))
      · refine zg7 ?_
        refine cp am2 (c_NSubAny _ _ (by omega) (by omega)) ?_
        refine zg13 ?_
        refine wl_if rfl (fun h136r h136 => ?_) (fun h136r h136 => ?_)
        · have hle := subE_0.1 (show subE x y = 0 by omega)
          have eSb := subL_le hle
          refine zg6 ?_
          refine cp am3 (c_reduce _ _ _ (by rw [eSb]; exact lim_dig _) (lim_dig _) (by rw [eSb]; omega) (by omega)) ?_
          refine zg5 ?_
          rw [add_ge hk hx hy hd (beq_ne_of h122r) hle]
          exact retC [] rfl rfl rfl (ratE.csize _) (ratL_all _) T33 (.pure (ratE.pure _))
        · have hle : x ≤ y := by
            rcases Nat.le_total x y with h | h
            · exact h
            · have := subE_0.2 h; omega
          have eSc := subL_le hle
          refine zg6 ?_
          refine cp am2 (c_NSubAny _ _ (by omega) (by omega)) ?_
          refine zg12 ?_
          refine cp am3 (c_reduce _ _ _ (lim_dig _) (lim_dig _) (by omega) (by omega)) ?_
          refine zg4 ?_
          rw [add_le hk hx hy hd (beq_ne_of h122r) hle]
          exact retC [] rfl rfl rfl (ratE.csize _) (ratL_all _) T33 (.pure (ratE.pure _))
theorem cmpR_neg {a b : Rat} : cmpR b a < 0 ↔ b < a := by unfold cmpR; split <;> (try split) <;> grind
theorem cmpR_pos {a b : Rat} : cmpR b a > 0 ↔ a < b := by unfold cmpR; split <;> (try split) <;> grind
open H0 in
theorem c_RAdd (a b : Rat) (h : rl a + rl b ≤ 549755813888) : CallP Tryz.prog 108 [ratL a, ratL b] (ratL (a + b)) := by
  refine fnP Tryz.func108 ?_
  refine zg13 ?_
  refine cp am3 (c_radd _ _ _ (by omega)) ?_
  refine zg4 ?_
  exact retC [] rfl rfl rfl (ratE.csize _) (ratL_all _) T33 (by rw [sgR_self]; exact .pure (ratE.pure _))
open H0 in
theorem c_RSub (a b : Rat) (h : rl a + rl b ≤ 549755813888) : CallP Tryz.prog 114 [ratL a, ratL b] (ratL (a - b)) := by
  refine fnP Tryz.func114 ?_
  refine zg14 ?_
  refine cp am3 (c_radd _ _ _ (by omega)) ?_
  refine zg4 ?_
  rw [Rat.sub_eq_add_neg]
  exact retC [] rfl rfl rfl (ratE.csize _) (ratL_all _) T33 (by rw [sgR_not]; exact .pure (ratE.pure _))
open H0 in
theorem c_RMin (a b : Rat) (h : rl a + rl b ≤ 549755813888) : CallP Tryz.prog 164 [ratL a, ratL b] (ratL (if b < a then b else a)) := by
  refine fnP Tryz.func164 ?_
  refine zg12 ?_
  refine cp am2 (c_RCmp _ _ (by omega)) ?_
  refine zg3 ?_
  refine wl_cut (fun L => ∃ (q : Rat) (L1 : St), (q = (if b < a then b else a) ∧ rl q ≤ 549755813888) ∧ L = (((St.mk L1.slot (hp [(2, ⟨3, [ratL q], true⟩), (3, ⟨3, [ratL b], true⟩), (4, ⟨3, [.agg [.v (.bool false), .list 1 [], .list 1 []]], true⟩)])).put (some 2) (.eptr 2 3 0 0)).put (some 4) (.eptr 4 3 0 0))) ?_ ?_
  · refine wl_if rfl (fun h8r h8 => ?_) (fun h8r h8 => ?_)
    · refine zg5 ?_
      exact ⟨b, _, ⟨by rw [if_pos (cmpR_neg.1 h8)], by omega⟩, ((put_id' (put_id' (mk_id' cl) cl) cl)).symm⟩
    · refine zg2 ?_
      exact ⟨a, _, ⟨by rw [if_neg (fun h => h8 (cmpR_neg.2 h))], by omega⟩, ((put_id' (put_id' (mk_id' cl) cl) cl)).symm⟩
  · rintro _ ⟨q, LC8, ⟨hq, hql⟩, rfl⟩
    refine zg4 ?_
    refine cp am1 (c_copied _ (by omega)) ?_
    refine zg4 ?_
    rw [← hq]
    exact retC [] rfl rfl rfl (ratE.csize _) (ratL_all _) T33 (.pure (ratE.pure _))
open H0 in
theorem c_RMax (a b : Rat) (h : rl a + rl b ≤ 549755813888) : CallP Tryz.prog 165 [ratL a, ratL b] (ratL (if a < b then b else a)) := by
  refine fnP Tryz.func165 ?_
  refine zg12 ?_
  refine cp am2 (c_RCmp _ _ (by omega)) ?_
  refine zg3 ?_
  refine wl_cut (fun L => ∃ (q : Rat) (L1 : St), (q = (if a < b then b else a) ∧ rl q ≤ 549755813888) ∧ L = (((St.mk L1.slot (hp [(2, ⟨3, [ratL q], true⟩), (3, ⟨3, [ratL b], true⟩), (4, ⟨3, [.agg [.v (.bool false), .list 1 [], .list 1 []]], true⟩)])).put (some 2) (.eptr 2 3 0 0)).put (some 4) (.eptr 4 3 0 0))) ?_ ?_
  · refine wl_if rfl (fun h8r h8 => ?_) (fun h8r h8 => ?_)
    · refine zg5 ?_
      exact ⟨b, _, ⟨by rw [if_pos (cmpR_pos.1 h8)], by omega⟩, ((put_id' (put_id' (mk_id' cl) cl) cl)).symm⟩
    · refine zg2 ?_
      exact ⟨a, _, ⟨by rw [if_neg (fun h => h8 (cmpR_pos.2 h))], by omega⟩, ((put_id' (put_id' (mk_id' cl) cl) cl)).symm⟩
  · rintro _ ⟨q, LC8, ⟨hq, hql⟩, rfl⟩
    refine zg4 ?_
    refine cp am1 (c_copied _ (by omega)) ?_
    refine zg4 ?_
    rw [← hq]
    exact retC [] rfl rfl rfl (ratE.csize _) (ratL_all _) T33 (.pure (ratE.pure _))
end Go.Proofs.YthhdcfhaldcheaaGreat
