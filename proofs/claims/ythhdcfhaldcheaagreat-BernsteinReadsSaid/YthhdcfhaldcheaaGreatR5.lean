/- The reference rational numbers. -/
import Derived.Test.YthhdcfhaldcheaaGreatR4
set_option linter.unusedVariables false
set_option linter.unusedSimpArgs false
set_option maxHeartbeats 8000000
set_option maxRecDepth 100000
attribute [local irreducible] Go.Lg.opsL Go.Lg.wpL Go.Lg.thenL Go.Lg.blockL
namespace Go.Proofs.YthhdcfhaldcheaaGreat
open Go.Lg
section
variable {q a b : Rat}
theorem neg_lt0 : (-q < 0) ↔ 0 < q := by grind
theorem len_pos {n : Nat} : 0 < (dig n).length ↔ 0 < n := by
  constructor
  · intro h; exact Nat.pos_of_ne_zero (fun e => by rw [e, dig_zero] at h; cases h)
  · intro h; exact List.length_pos_iff.2 (fun e => by have := dig_eq_nil.1 e; omega)
theorem pos_iff : 0 < q ↔ 0 < q.num := by rw [Rat.lt_iff]; simp
theorem neg1 (h : (!decide (q < 0)) = true) : decide (((dig q.num.natAbs).length : Int) > 0) = decide (-q < 0) := by
  rw [decide_eq_decide, neg_lt0, pos_iff]
  have h1 : ¬ q < 0 := by simpa using h
  rw [rat_lt0] at h1
  have := len_pos (n := q.num.natAbs)
  omega
theorem neg2 (h : (!decide (q < 0)) = false) : false = decide (-q < 0) := by
  have h1 : q < 0 := by simpa using h
  symm; rw [decide_eq_false_iff_not]; grind
theorem ratL_neg' (s : Bool) (h : s = decide (-q < 0)) : ratL (-q) = .agg [.v (.bool s), magL q.num.natAbs, magL (denN q)] := by
  rw [ratL_eq, h, denN_eq, denN_eq, Rat.neg_num, Int.natAbs_neg, Rat.neg_den]
theorem rat_ext' : a = b ↔ decide (a < 0) = decide (b < 0) ∧ a.num.natAbs = b.num.natAbs ∧ denN a = denN b := by
  constructor
  · rintro rfl; exact ⟨rfl, rfl, rfl⟩
  · rintro ⟨h1, h2, h3⟩
    have hd : a.den = b.den := denN_inj (by rw [h3])
    rw [← qv_self a, ← qv_self b, h1, h2, hd]
theorem cmp0 {m n : Nat} : (cmpN m n == 0) = decide (m = n) := by
  rw [Bool.eq_iff_iff, beq_iff_eq, decide_eq_true_iff]; unfold cmpN; split
  · omega
  · split <;> omega
theorem same1 (h : (decide (a < 0) == decide (b < 0)) = false) : false = decide (a = b) := by
  symm; rw [decide_eq_false_iff_not, rat_ext']; intro h2; rw [h2.1] at h; simp at h
theorem same2 (h2 : (cmpN a.num.natAbs b.num.natAbs == 0) = false) : false = decide (a = b) := by
  rw [cmp0] at h2
  symm; rw [decide_eq_false_iff_not, rat_ext']; intro h3; rw [decide_eq_false_iff_not] at h2; exact h2 h3.2.1
theorem same3 (h : (decide (a < 0) == decide (b < 0)) = true) (h2 : (cmpN a.num.natAbs b.num.natAbs == 0) = true) : (cmpN (denN a) (denN b) == 0) = decide (a = b) := by
  rw [cmp0] at h2 ⊢
  rw [decide_eq_decide, rat_ext']
  exact ⟨fun h3 => ⟨eq_of_beq h, of_decide_eq_true h2, h3⟩, fun h3 => h3.2.2⟩
end
end Go.Proofs.YthhdcfhaldcheaaGreat
namespace Go.Lg
open Go.Proofs.YthhdcfhaldcheaaGreat in
theorem OpT.stNegR {P : Program} {L : St} {dst : Option Nat} {T : TypeId} {p x : Operand} {b : Nat} {q : Rat} {s : Bool} (hp : L.ev p = .eptr b 3 0 0) (hb : L.heap b = some ⟨3, [ratL q], true⟩) (hx : L.ev x = .v (.bool s)) (hT : TyIs P T 1 false)
    (hs : s = decide (-q < 0)) : OpT P L dst (.store T p x) ((L.setB b (some ⟨3, [ratL (-q)], true⟩)).put dst .any) := by
  have h0 : LV.put (ratL q) 0 (L.ev x) = some (ratL (-q)) := by
    rw [hx, ratL_neg' s hs, ratL_eq q]
    have e1 : ∀ n, (magL n).csize = 1 := fun _ => rfl
    simp [LV.put, putFs, csizes, LV.csize, LV.isAgg]
  exact OpT.store (P := P) (dst := dst) (T := T) (p := p) (x := x) (y := ratL q) (y' := ratL (-q)) hp hb rfl rfl rfl (ratE.csize _) h0 (by rw [hx]; exact hT) (by rw [hx]; exact ⟨(fun h => by cases h), (fun _ h => by cases h)⟩)
end Go.Lg
namespace Go.Proofs.YthhdcfhaldcheaaGreat
open Go.Lg
theorem neg_wrap {n : Int} (h1 : -9223372036854775808 ≤ n) (h2 : n < 0) : IntKind.i64.wrap (0 - (n + 1)) = (((-(n + 1)).toNat : Nat) : Int) := by
  rw [IntWalk.i64_in _ (by omega)]; omega
open H0 in
theorem c_FDen (q : Rat) : CallP Tryz.prog 128 [ratL q] (magL q.den) := by
  refine fnP Tryz.func128 ?_
  refine zg15 ?_
  refine wl_if rfl (fun h6r h6 => ?_) (fun h6r h6 => ?_)
  · have hd1 := denN_zero (show (dig (denN q)).length = 0 by omega)
    refine zg8 ?_
    rw [hd1, show magL 1 = .list 1 ([1].map u32L) from rfl]
    exact ret1f [7] rfl rfl (imm_refm u32E rfl rfl rfl)
  · have hd1 := denN_pos (q := q) (by omega)
    refine zg10 ?_
    rw [← hd1]
    exact ret1 rfl (by first | exact .pure rfl | exact .pure (limL_pure _) | exact .pure (magL_pure _) | exact .pure (ratE.pure _) | exact .pure (pure_lst u32E _ _) | exact .pure (pure_lst ratE _ _))
namespace H_c_Freduce
theorem zSm {p q : Prop} (k : q) (e : p = q := by simp only [e1, e2, e3, e4, p1, p2, p3, q1, q2, q3, l1, t0, t1, r1, r2, r3, r4, Nat.zero_add, Nat.reduceMul, Nat.reduceAdd, b1, b2, b3, b4, b5, b6, i1, i2, i3, i4, i5, i6, Nat.reduceBEq, dflt, val_dig, tz0]; exact rfl) : p := e.mpr k
end H_c_Freduce
open H_c_Freduce in
theorem c_Freduce (s : Bool) (m n : Nat) (hla : (dig m).length ≤ 68719476736) (hlb : (dig n).length ≤ 68719476736) (hn0 : 0 < n) : CallP Tryz.prog 126 [bL s, magL m, magL n] (ratL (qv s m n)) := by
  refine fnP Tryz.func126 ?_
  refine zg8 ?_
  refine cp am1 (c_FTrim _ (lim_dig _) (by omega)) ?_
  refine zg1 ?_
  refine cp am1 (c_FTrim _ (lim_dig _) (by omega)) ?_
  refine zg12 ?_
  refine wl_if rfl (fun h14r h14 => ?_) (fun h14r h14 => ?_)
  · have hm : m = 0 := dig_eq_nil.1 (List.eq_nil_of_length_eq_zero (by omega))
    refine zg8 ?_
    rw [hm, qv_zero, ratL_zero]
    exact retC [] rfl rfl rfl rfl rfl T33 (.pure rfl)
  · have hm0 : 0 < m := len_pos.1 (by omega)
    have hg : 0 < Nat.gcd m n := Nat.gcd_pos_of_pos_left _ hm0
    have hE := ratL_qv s hm0 hn0
    have hgl : (dig (Nat.gcd m n)).length ≤ 68719476736 := Nat.le_trans (len_dig_mono (Nat.le_of_dvd hm0 (Nat.gcd_dvd_left _ _))) hla
    have hqa : (dig (m / Nat.gcd m n)).length ≤ 68719476736 := Nat.le_trans (len_dig_mono (Nat.div_le_self _ _)) hla
    have hqb : (dig (n / Nat.gcd m n)).length ≤ 68719476736 := Nat.le_trans (len_dig_mono (Nat.div_le_self _ _)) hlb
    have hg1l := dig_is1 (n := Nat.gcd m n)
    refine zg6 ?_
    refine cp am2 (c_FGcd _ _ (by omega) (by omega)) ?_
    refine zg5 ?_
    refine wl_cut (fun L => ∃ (t : Bool) (L1 : St), (t = decide (Nat.gcd m n ≠ 1)) ∧ L = (((((((St.mk L1.slot (hp [(6, ⟨3, [.agg [.v (.bool false), .list 1 [], .list 1 []]], true⟩)])).put (some 0) (bL s)).put (some 1) (magL m)).put (some 2) (magL n)).put (some 6) (.eptr 6 3 0 0)).put (some 7) (magL (Nat.gcd m n))).put (some 27) (bL t))) ?_ ?_
    · refine zg5 ?_
      refine op_if 22 rfl (fun h22r h22 => ?_) (fun h22r h22 => ?_)
      · refine zg7 ?_
        exact ⟨true, _, by symm; rw [decide_eq_true_iff]; intro e; rw [e, dig_one] at h22; exact h22 rfl, ((put_id' (put_id' (put_id' (put_id' (put_id' (put_id' (mk_id' cl) cl) cl) cl) cl) cl) cl)).symm⟩
      · refine zg7 ?_
        exact ⟨(((dig (Nat.gcd m n)).getD 0 0 : Int) != 1), _, by have := (hg1l (by omega)).1; rw [Bool.eq_iff_iff, bne_iff_ne, decide_eq_true_iff]; omega, ((put_id' (put_id' (put_id' (put_id' (put_id' (put_id' (mk_id' cl) cl) cl) cl) cl) cl) cl)).symm⟩
    · rintro _ ⟨t, LR5, ht, rfl⟩
      refine zg1 ?_
      refine wl_cut (fun L => ∃ (x : Nat) (y : Nat) (L1 : St), (x = m / Nat.gcd m n ∧ y = n / Nat.gcd m n) ∧ L = (((((St.mk L1.slot (hp [(6, ⟨3, [.agg [.v (.bool false), .list 1 [], .list 1 []]], true⟩)])).put (some 0) (bL s)).put (some 1) (magL x)).put (some 2) (magL y)).put (some 6) (.eptr 6 3 0 0))) ?_ ?_
      · refine wl_if rfl (fun h27r h27 => ?_) (fun h27r h27 => ?_)
        · refine zg4 ?_
          refine cp am2 (c_FDiv _ _ (by omega) (by omega) hg) ?_
          refine zg10 ?_
          refine cp am2 (c_FDiv _ _ (by omega) (by omega) hg) ?_
          refine zg7 ?_
          exact ⟨m / Nat.gcd m n, n / Nat.gcd m n, _, ⟨rfl, rfl⟩, ((put_id' (put_id' (put_id' (put_id' (mk_id' cl) cl) cl) cl) cl)).symm⟩
        · have hg1 : Nat.gcd m n = 1 := by rw [ht, decide_eq_false_iff_not] at h27r; omega
          refine zg2 ?_
          exact ⟨m, n, _, ⟨by rw [hg1, Nat.div_one], by rw [hg1, Nat.div_one]⟩, ((put_id' (put_id' (put_id' (put_id' (mk_id' cl) cl) cl) cl) cl)).symm⟩
      · rintro _ ⟨x, y, LC27, ⟨hx, hy⟩, rfl⟩
        rw [← hx, ← hy] at hE
        have hy0 : 0 < y := by rw [hy]; exact Nat.div_pos (Nat.le_of_dvd hn0 (Nat.gcd_dvd_right _ _)) hg
        refine zg8 ?_
        refine op_if 45 rfl (fun h45r h45 => ?_) (fun h45r h45 => ?_)
        · refine zg7 ?_
          refine wl_if rfl (fun h50r h50 => ?_) (fun h50r h50 => ?_)
          · have hy1 : y = 1 := by have := (dig_is1 (n := y) (by omega)).1; omega
            refine zg14 ?_
            rw [hE, if_pos hy1]
            exact retC [] rfl rfl rfl rfl rfl T33 (.agg (.cons (.pure rfl) (.cons (.pure (magL_pure _)) (.cons (.nil 1) .nil))))
          · have hy1 : y ≠ 1 := by have := (dig_is1 (n := y) (by omega)).1; omega
            refine zg12 ?_
            rw [hE, if_neg hy1]
            exact retC [] rfl rfl rfl rfl rfl T33 (.agg (.cons (.pure rfl) (.cons (.pure (magL_pure _)) (.cons (.pure (magL_pure _)) .nil))))
        · have hy1 : y ≠ 1 := fun e => by rw [e, dig_one] at h45; exact h45 rfl
          refine zg20 ?_
          rw [hE, if_neg hy1]
          exact retC [] rfl rfl rfl rfl rfl T33 (.agg (.cons (.pure rfl) (.cons (.pure (magL_pure _)) (.cons (.pure (magL_pure _)) .nil))))
open H0 in
theorem c_Fsize (n : Int) (h1 : -9223372036854775808 ≤ n) (h2 : n ≤ 9223372036854775807) : CallP Tryz.prog 120 [iL n] (.tup [magL n.natAbs, bL (decide (n < 0))]) := by
  refine fnP Tryz.func120 ?_
  refine zg13 ?_
  refine wl_if rfl (fun h5r h5 => ?_) (fun h5r h5 => ?_)
  · refine zg4 ?_
    refine st_pure rfl (.neg rfl) ?_
    refine st_pure rfl (.cv64 (n := (-(n + 1)).toNat) Tryz.underlying2 Tryz.underlying117 (by simp only [e1, p1, p2, Nat.reduceBEq]; rw [neg_wrap h1 h5]) (by omega)) ?_
    refine st_pure rfl (.bin rfl rfl (addU (show (-(n + 1)).toNat + 1 < 18446744073709551616 by omega))) ?_
    refine cp am1 (c_FOf ((-(n + 1)).toNat + 1) (by omega)) ?_
    refine zg6 ?_
    rw [decide_eq_true h5, show n.natAbs = (-(n + 1)).toNat + 1 by omega]
    exact ret2 rfl (.pure (magL_pure _)) rfl (.pure rfl)
  · refine zg5 ?_
    refine st_pure rfl (.cv64 (n := n.natAbs) Tryz.underlying2 Tryz.underlying117 (by simp only [e1, p1, p2, Nat.reduceBEq]; rw [show ((n.natAbs : Nat) : Int) = n by omega]; rfl) (by omega)) ?_
    refine cp am1 (c_FOf n.natAbs (by omega)) ?_
    refine zg5 ?_
    rw [decide_eq_false h5]
    exact ret2 rfl (.pure (magL_pure _)) rfl (.pure rfl)
open H0 in
theorem c_FMake (n d : Int) (h1 : -9223372036854775808 ≤ n) (h2 : n ≤ 9223372036854775807) (h3 : -9223372036854775808 ≤ d) (h4 : d ≤ 9223372036854775807) (hd : d ≠ 0) : CallP Tryz.prog 141 [iL n, iL d] (.tup [ratL ((n : Rat) / (d : Rat)), iL 0]) := by
  refine fnP Tryz.func141 ?_
  refine zg13 ?_
  refine wl_if rfl (fun h11r h11 => ?_) (fun h11r h11 => ?_)
  · exact absurd h11 hd
  · refine zg5 ?_
    refine cp am1 (c_Fsize _ (by omega) (by omega)) ?_
    refine zg10 ?_
    refine cp am1 (c_Fsize _ (by omega) (by omega)) ?_
    refine zg14 ?_
    refine cp am3 (c_Freduce (decide (n < 0) != decide (d < 0)) n.natAbs d.natAbs (Nat.le_trans (dig_len_le2.2 (by omega)) (by omega)) (Nat.le_trans (dig_len_le2.2 (by omega)) (by omega)) (by omega)) ?_
    refine zg5 ?_
    rw [← qv_ints]
    exact retCT [] rfl rfl rfl (ratE.csize _) (ratL_all _) T33 (.pure (ratE.pure _)) rfl (.pure rfl)
open H0 in
theorem c_FFrac (n d : Int) (h1 : -9223372036854775808 ≤ n) (h2 : n ≤ 9223372036854775807) (h3 : -9223372036854775808 ≤ d) (h4 : d ≤ 9223372036854775807) (hd : d ≠ 0) : CallP Tryz.prog 85 [iL n, iL d] (ratL ((n : Rat) / (d : Rat))) := by
  refine fnP Tryz.func85 ?_
  refine zg9 ?_
  refine cp am2 (c_FMake _ _ (by omega) (by omega) (by omega) (by omega) (by omega)) ?_
  refine zg15 ?_
  exact retC [] rfl rfl rfl (ratE.csize _) (ratL_all _) T33 (.pure (ratE.pure _))
open H0 in
theorem c_FInt (n : Int) (h1 : -9223372036854775808 ≤ n) (h2 : n ≤ 9223372036854775807) : CallP Tryz.prog 46 [iL n] (ratL (n : Rat)) := by
  refine fnP Tryz.func46 ?_
  refine zg8 ?_
  refine cp am1 (c_Fsize _ (by omega) (by omega)) ?_
  refine zg16 ?_
  rw [← qv_int n]
  have hz : n.natAbs = 0 ∨ 0 < n.natAbs := by omega
  rcases hz with hz | hz
  · obtain rfl : n = 0 := by omega
    rw [show qv (decide ((0 : Int) < 0)) (0 : Int).natAbs 1 = 0 from qv_zero _ _, ratL_zero]
    exact retC [] rfl rfl rfl rfl rfl T33 (.pure rfl)
  · rw [ratL_qv _ hz (by omega), Nat.gcd_one_right, Nat.div_one, if_pos (by omega)]
    exact retC [] rfl rfl rfl rfl rfl T33 (.agg (.cons (.pure rfl) (.cons (.pure (magL_pure _)) (.cons (.pure rfl) .nil))))
open H0 in
theorem c_FSame (a b : Rat) (h : rl a + rl b ≤ 1099511627776) : CallP Tryz.prog 14 [ratL a, ratL b] (bL (decide (a = b))) := by
  have a1 := rl_num a
  have a3 := rl_denN a
  have c1 := rl_num b
  have c3 := rl_denN b
  refine fnP Tryz.func14 ?_
  refine zg15 ?_
  refine op_if 10 rfl (fun h10r h10 => ?_) (fun h10r h10 => ?_)
  · refine zg4 ?_
    refine cp am2 (c_FCmp _ _ (by omega) (by omega)) ?_
    refine zg3 ?_
    refine op_if 18 rfl (fun h18r h18 => ?_) (fun h18r h18 => ?_)
    · refine zg4 ?_
      refine cp am2 (c_FCmp _ _ (by omega) (by omega)) ?_
      refine zg6 ?_
      rw [← same3 h10r h18r]
      exact ret1 rfl (by first | exact .pure rfl | exact .pure (limL_pure _) | exact .pure (magL_pure _) | exact .pure (ratE.pure _) | exact .pure (pure_lst u32E _ _) | exact .pure (pure_lst ratE _ _))
    · refine zg11 ?_
      rw [← same2 h18r]
      exact ret1 rfl (by first | exact .pure rfl | exact .pure (limL_pure _) | exact .pure (magL_pure _) | exact .pure (ratE.pure _) | exact .pure (pure_lst u32E _ _) | exact .pure (pure_lst ratE _ _))
  · refine zg19 ?_
    rw [← same1 h10r]
    exact ret1 rfl (by first | exact .pure rfl | exact .pure (limL_pure _) | exact .pure (magL_pure _) | exact .pure (ratE.pure _) | exact .pure (pure_lst u32E _ _) | exact .pure (pure_lst ratE _ _))
open H0 in
theorem c_FSign (q : Rat) : CallP Tryz.prog 133 [ratL q] (iL (sgnR q)) := by
  have hq := sgnR_eq q
  refine fnP Tryz.func133 ?_
  refine zg15 ?_
  refine wl_if rfl (fun h6r h6 => ?_) (fun h6r h6 => ?_)
  · have hz : q.num.natAbs = 0 := dig_eq_nil.1 (List.eq_nil_of_length_eq_zero (by omega))
    refine zg7 ?_
    rw [hq, if_pos hz]
    exact ret1 rfl (by first | exact .pure rfl | exact .pure (limL_pure _) | exact .pure (magL_pure _) | exact .pure (ratE.pure _) | exact .pure (pure_lst u32E _ _) | exact .pure (pure_lst ratE _ _))
  · have hz : q.num.natAbs ≠ 0 := fun e => by rw [e, dig_zero] at h6; exact h6 rfl
    refine zg9 ?_
    refine wl_if rfl (fun h8r h8 => ?_) (fun h8r h8 => ?_)
    · refine zg7 ?_
      rw [hq, if_neg hz, if_pos h8]
      exact ret1 rfl (by first | exact .pure rfl | exact .pure (limL_pure _) | exact .pure (magL_pure _) | exact .pure (ratE.pure _) | exact .pure (pure_lst u32E _ _) | exact .pure (pure_lst ratE _ _))
    · refine zg8 ?_
      rw [hq, if_neg hz, if_neg h8]
      exact ret1 rfl (by first | exact .pure rfl | exact .pure (limL_pure _) | exact .pure (magL_pure _) | exact .pure (ratE.pure _) | exact .pure (pure_lst u32E _ _) | exact .pure (pure_lst ratE _ _))
open H0 in
theorem c_FNeg (q : Rat) : CallP Tryz.prog 162 [ratL q] (ratL (-q)) := by
  refine fnP Tryz.func162 ?_
  refine zg12 ?_
  refine op_if 6 rfl (fun h6r h6 => ?_) (fun h6r h6 => ?_)
  · refine zg6 ?_
    refine st_store rfl (.stNegR rfl rfl rfl T4 (by first | exact neg1 h6r | exact neg2 h6r)) ?_
    refine zg9 ?_
    exact retC [] rfl rfl rfl (ratE.csize _) (ratL_all _) T33 (.pure (ratE.pure _))
  · refine zg6 ?_
    refine st_store rfl (.stNegR rfl rfl rfl T4 (by first | exact neg1 h6r | exact neg2 h6r)) ?_
    refine zg9 ?_
    exact retC [] rfl rfl rfl (ratE.csize _) (ratL_all _) T33 (.pure (ratE.pure _))
open H0 in
theorem c_FRMul (a b : Rat) (h : rl a + rl b ≤ 34359738368) : CallP Tryz.prog 51 [ratL a, ratL b] (ratL (a * b)) := by
  have a1 := rl_num a
  have a2 := rl_den a
  have a3 := rl_denN a
  have c1 := rl_num b
  have c2 := rl_den b
  have c3 := rl_denN b
  have a0 := a.den_pos
  have c0 := b.den_pos
  have m1 := len_mul a1 c2
  have m2 := len_mul c1 a2
  have m3 := len_mul a2 c2
  have m4 := len_mul a1 c1
  have m5 := len_mul a2 c1
  have m6 := len_mul c2 a2
  have np := Nat.mul_pos a0 c0
  have hE := qv_mul (decide (a < 0)) (decide (b < 0)) a.num.natAbs a.den b.num.natAbs b.den
  rw [qv_self, qv_self] at hE
  refine fnP Tryz.func51 ?_
  refine zg8 ?_
  refine wl_regD 16 (by decide +kernel) ?_
  refine zg9 ?_
  refine cp am2 (c_FMul _ _ (by omega) (by omega)) ?_
  refine zg1 ?_
  refine cp am1 (c_FDen _) ?_
  refine zg1 ?_
  refine cp am1 (c_FDen _) ?_
  refine cp am2 (c_FMul _ _ (by omega) (by omega)) ?_
  refine cp am3 (c_Freduce _ _ _ (by omega) (by omega) np) ?_
  refine zg4 ?_
  rw [hE]
  exact retC [] rfl rfl rfl (ratE.csize _) (ratL_all _) T33 (.pure (ratE.pure _))
open H0 in
theorem c_FRQuo (a b : Rat) (h : rl a + rl b ≤ 34359738368) : CallP Tryz.prog 159 [ratL a, ratL b] (.tup [ratL (a / b), iL (if b = 0 then 3 else 0)]) := by
  have a1 := rl_num a
  have a2 := rl_den a
  have a3 := rl_denN a
  have c1 := rl_num b
  have c2 := rl_den b
  have c3 := rl_denN b
  have a0 := a.den_pos
  have c0 := b.den_pos
  have m1 := len_mul a1 c2
  have m2 := len_mul c1 a2
  have m3 := len_mul a2 c2
  have m4 := len_mul a1 c1
  have m5 := len_mul a2 c1
  have m6 := len_mul c2 a2
  have np := Nat.mul_pos a0 c0
  have hE := qv_div (decide (a < 0)) (decide (b < 0)) a.num.natAbs a.den b.num.natAbs b.den
  rw [qv_self, qv_self] at hE
  refine fnP Tryz.func159 ?_
  refine zg17 ?_
  refine wl_if rfl (fun h9r h9 => ?_) (fun h9r h9 => ?_)
  · have hz := num0 (q := b) (by omega)
    refine zg9 ?_
    subst hz
    rw [show a / 0 = 0 by rw [Rat.div_def]; simp, ratL_zero]
    exact retCT [] rfl rfl rfl rfl rfl T33 (.pure rfl) rfl (.pure rfl)
  · have hb0 : 0 < b.num.natAbs := len_pos.1 (by omega)
    have hz : b ≠ 0 := by rintro rfl; exact absurd hb0 (by decide)
    refine zg3 ?_
    refine wl_regD 16 (by decide +kernel) ?_
    refine zg8 ?_
    refine cp am1 (c_FDen _) ?_
    refine cp am2 (c_FMul _ _ (by omega) (by omega)) ?_
    refine zg1 ?_
    refine cp am1 (c_FDen _) ?_
    refine zg2 ?_
    refine cp am2 (c_FMul _ _ (by omega) (by omega)) ?_
    refine cp am3 (c_Freduce _ _ _ (by omega) (by omega) (Nat.mul_pos a0 hb0)) ?_
    refine zg5 ?_
    rw [hE, if_neg hz]
    exact retCT [] rfl rfl rfl (ratE.csize _) (ratL_all _) T33 (.pure (ratE.pure _)) rfl (.pure rfl)
open H0 in
theorem c_FOver (a b : Rat) (h : rl a + rl b ≤ 34359738368) : CallP Tryz.prog 112 [ratL a, ratL b] (ratL (a / b)) := by
  refine fnP Tryz.func112 ?_
  refine zg11 ?_
  refine cp am2 (c_FRQuo _ _ (by omega)) ?_
  refine zg15 ?_
  exact retC [] rfl rfl rfl (ratE.csize _) (ratL_all _) T33 (.pure (ratE.pure _))
namespace H_c_FRAdd
theorem zSm {p q : Prop} (k : q) (e : p = q := by simp only [e1, e2, e3, e4, p1, p2, p3, q1, q2, q3, l1, t0, t1, r1, r2, r3, r4, Nat.zero_add, Nat.reduceMul, Nat.reduceAdd, b1, b2, b3, b4, b5, b6, i1, i2, i3, i4, i5, i6, Nat.reduceBEq, val_dig, eSb]; exact rfl) : p := e.mpr k
end H_c_FRAdd
open H_c_FRAdd in
theorem c_FRAdd (a b : Rat) (h : rl a + rl b ≤ 34359738368) : CallP Tryz.prog 111 [ratL a, ratL b] (ratL (a + b)) := by
  have a1 := rl_num a
  have a2 := rl_den a
  have a3 := rl_denN a
  have c1 := rl_num b
  have c2 := rl_den b
  have c3 := rl_denN b
  have a0 := a.den_pos
  have c0 := b.den_pos
  have m1 := len_mul a1 c2
  have m2 := len_mul c1 a2
  have m3 := len_mul a2 c2
  have m4 := len_mul a1 c1
  have m5 := len_mul a2 c1
  have m6 := len_mul c2 a2
  have np := Nat.mul_pos a0 c0
  have m7 : (dig (a.num.natAbs * b.den + b.num.natAbs * a.den)).length ≤ rl a + rl b + 1 := len_add m1 (by omega)
  have ls1 : (dig (a.num.natAbs * b.den - b.num.natAbs * a.den)).length ≤ rl a + rl b := Nat.le_trans (len_dig_mono (Nat.sub_le _ _)) m1
  have ls2 : (dig (b.num.natAbs * a.den - a.num.natAbs * b.den)).length ≤ rl b + rl a := Nat.le_trans (len_dig_mono (Nat.sub_le _ _)) m2
  refine fnP Tryz.func111 ?_
  have eSb : True := trivial
  refine zg16 ?_
  refine wl_if rfl (fun h15r h15 => ?_) (fun h15r h15 => ?_)
  · have hz := num0 (q := a) (by omega)
    refine zg8 ?_
    rw [hz, Rat.zero_add]
    exact retC [] rfl rfl rfl (ratE.csize _) (ratL_all _) T33 (.pure (ratE.pure _))
  · refine zg11 ?_
    refine wl_if rfl (fun h20r h20 => ?_) (fun h20r h20 => ?_)
    · have hz := num0 (q := b) (by omega)
      refine zg8 ?_
      rw [hz, Rat.add_zero]
      exact retC [] rfl rfl rfl (ratE.csize _) (ratL_all _) T33 (.pure (ratE.pure _))
    · refine zg3 ?_
      refine wl_regD 12 (by decide +kernel) ?_
      refine zg3 ?_
      refine cp am1 (c_FDen _) ?_
      refine cp am2 (c_FMul _ _ (by omega) (by omega)) ?_
      refine zg3 ?_
      refine cp am1 (c_FDen _) ?_
      refine cp am2 (c_FMul _ _ (by omega) (by omega)) ?_
      refine zg5 ?_
      refine wl_regD 6 (by decide +kernel) ?_
      refine zg1 ?_
      refine cp am1 (c_FDen _) ?_
      refine zg1 ?_
      refine cp am1 (c_FDen _) ?_
      refine cp am2 (c_FMul _ _ (by omega) (by omega)) ?_
      refine zg13 ?_
      refine wl_if rfl (fun h41r h41 => ?_) (fun h41r h41 => ?_)
      · refine zg1 ?_
        refine wl_regD 7 (by decide +kernel) ?_
        refine zg4 ?_
        refine cp am2 (c_FAdd _ _ (by omega) (by omega)) ?_
        refine zg1 ?_
        refine cp am3 (c_Freduce _ _ _ (by omega) (by omega) np) ?_
        refine zg5 ?_
        have E := add_same (k := 1) (x := a.num.natAbs * b.den) (y := b.num.natAbs * a.den) (d := a.den * b.den) (by omega) (Nat.mul_one _) (Nat.mul_one _) (Nat.mul_one _) (eq_of_beq h41r)
        rw [sgR_self, ← eq_of_beq h41r] at E
        rw [E]
        exact retC [] rfl rfl rfl (ratE.csize _) (ratL_all _) T33 (.pure (ratE.pure _))
      · refine zg7 ?_
        refine cp am2 (c_FCmp _ _ (by omega) (by omega)) ?_
        refine zg3 ?_
        refine wl_if rfl (fun h52r h52 => ?_) (fun h52r h52 => ?_)
        · have hlt : a.num.natAbs * b.den < b.num.natAbs * a.den := by unfold cmpN at h52; split at h52; assumption; split at h52 <;> omega
          have eSb := subL_le (Nat.le_of_lt hlt)
          refine zg4 ?_
          refine cp am2 (c_FSub _ _ (by omega) (by omega)) ?_
          refine zg13 ?_
          refine cp am3 (c_Freduce _ _ _ (by omega) (by omega) np) ?_
          refine zg5 ?_
          have E := add_le (k := 1) (x := a.num.natAbs * b.den) (y := b.num.natAbs * a.den) (d := a.den * b.den) (by omega) (Nat.mul_one _) (Nat.mul_one _) (Nat.mul_one _) (beq_ne_of h41r) (Nat.le_of_lt hlt)
          rw [sgR_self] at E
          rw [E]
          exact retC [] rfl rfl rfl (ratE.csize _) (ratL_all _) T33 (.pure (ratE.pure _))
        · have hle : b.num.natAbs * a.den ≤ a.num.natAbs * b.den := by
            rcases Nat.lt_or_ge (a.num.natAbs * b.den) (b.num.natAbs * a.den) with h | h
            · rw [cmpN_lt h] at h52; omega
            · exact h
          have eSb := subL_le hle
          refine zg6 ?_
          refine cp am2 (c_FSub _ _ (by omega) (by omega)) ?_
          refine zg13 ?_
          refine cp am3 (c_Freduce _ _ _ (by omega) (by omega) np) ?_
          refine zg4 ?_
          have E := add_ge (k := 1) (x := a.num.natAbs * b.den) (y := b.num.natAbs * a.den) (d := a.den * b.den) (by omega) (Nat.mul_one _) (Nat.mul_one _) (Nat.mul_one _) (beq_ne_of h41r) hle
          rw [sgR_self] at E
          rw [E]
          exact retC [] rfl rfl rfl (ratE.csize _) (ratL_all _) T33 (.pure (ratE.pure _))
open H0 in
theorem c_FRSub (a b : Rat) (h : rl a + rl b ≤ 34359738368) : CallP Tryz.prog 116 [ratL a, ratL b] (ratL (a - b)) := by
  refine fnP Tryz.func116 ?_
  refine zg8 ?_
  refine wl_regD 4 (by decide +kernel) ?_
  refine zg2 ?_
  refine cp am1 (c_FNeg _) ?_
  refine cp am2 (c_FRAdd _ _ (by rw [rl_neg]; omega)) ?_
  refine zg4 ?_
  rw [Rat.sub_eq_add_neg]
  exact retC [] rfl rfl rfl (ratE.csize _) (ratL_all _) T33 (.pure (ratE.pure _))
open H0 in
theorem c_FRCmp (a b : Rat) (h : rl a + rl b ≤ 34359738368) : CallP Tryz.prog 119 [ratL a, ratL b] (iL (cmpR a b)) := by
  have a1 := rl_num a
  have a2 := rl_den a
  have a3 := rl_denN a
  have c1 := rl_num b
  have c2 := rl_den b
  have c3 := rl_denN b
  have a0 := a.den_pos
  have c0 := b.den_pos
  have m1 := len_mul a1 c2
  have m2 := len_mul c1 a2
  have m3 := len_mul a2 c2
  have m4 := len_mul a1 c1
  have m5 := len_mul a2 c1
  have m6 := len_mul c2 a2
  have np := Nat.mul_pos a0 c0
  refine fnP Tryz.func119 ?_
  refine zg9 ?_
  refine wl_regD 6 (by decide +kernel) ?_
  refine zg1 ?_
  refine cp am1 (c_FSign _) ?_
  refine zg1 ?_
  refine cp am1 (c_FSign _) ?_
  refine zg11 ?_
  refine wl_if rfl (fun h14r h14 => ?_) (fun h14r h14 => ?_)
  · refine zg8 ?_
    refine wl_if rfl (fun h17r h17 => ?_) (fun h17r h17 => ?_)
    · refine zg8 ?_
      rw [cmp_slt h17]
      exact ret1 rfl (by first | exact .pure rfl | exact .pure (limL_pure _) | exact .pure (magL_pure _) | exact .pure (ratE.pure _) | exact .pure (pure_lst u32E _ _) | exact .pure (pure_lst ratE _ _))
    · refine zg9 ?_
      rw [cmp_sgt (by omega)]
      exact ret1 rfl (by first | exact .pure rfl | exact .pure (limL_pure _) | exact .pure (magL_pure _) | exact .pure (ratE.pure _) | exact .pure (pure_lst u32E _ _) | exact .pure (pure_lst ratE _ _))
  · have hss : sgnR a = sgnR b := by omega
    obtain ⟨c, hc⟩ : ∃ c, c = cmpN (a.num.natAbs * b.den) (b.num.natAbs * a.den) := ⟨_, rfl⟩
    refine zg3 ?_
    refine wl_regD 12 (by decide +kernel) ?_
    refine zg3 ?_
    refine cp am1 (c_FDen _) ?_
    refine cp am2 (c_FMul _ _ (by omega) (by omega)) ?_
    refine zg3 ?_
    refine cp am1 (c_FDen _) ?_
    refine cp am2 (c_FMul _ _ (by omega) (by omega)) ?_
    refine cp am2 (c_FCmp _ _ (by omega) (by omega)) ?_
    refine zg10 ?_
    refine wl_if rfl (fun h30r h30 => ?_) (fun h30r h30 => ?_)
    · refine zg9 ?_
      rw [cmp_same hss, if_pos h30, ← wrap_negc rfl]
      exact ret1 rfl (by first | exact .pure rfl | exact .pure (limL_pure _) | exact .pure (magL_pure _) | exact .pure (ratE.pure _) | exact .pure (pure_lst u32E _ _) | exact .pure (pure_lst ratE _ _))
    · refine zg9 ?_
      rw [cmp_same hss, if_neg h30]
      exact ret1 rfl (by first | exact .pure rfl | exact .pure (limL_pure _) | exact .pure (magL_pure _) | exact .pure (ratE.pure _) | exact .pure (pure_lst u32E _ _) | exact .pure (pure_lst ratE _ _))
end Go.Proofs.YthhdcfhaldcheaaGreat
