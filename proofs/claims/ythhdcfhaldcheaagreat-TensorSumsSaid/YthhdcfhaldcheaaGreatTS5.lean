/- Texts R5, B1, M1, R6, B2, L1, C1, C2, D1, T1, T2, T3, T4, T5, E1, E2, E3, T6, T7, H1, H2, G1, T8, T9 of this proof, joined. -/
import Derived.Test.YthhdcfhaldcheaaGreatTS4
set_option linter.unusedVariables false
set_option linter.unusedSimpArgs false
section
set_option linter.unusedVariables false
set_option linter.unusedSimpArgs false
set_option maxHeartbeats 8000000
set_option maxRecDepth 100000
attribute [local irreducible] Go.Lg.opsL Go.Lg.wpL Go.Lg.thenL Go.Lg.blockL
namespace Go.Proofs.YthhdcfhaldcheaaGreat
open Go.Lg
section
variable {q a b : Rat}
theorem neg_lt0 : (-q < 0) ↔ 0 < q := by grind
theorem len_pos {n : Nat} : 0 < (dig n).length ↔ 0 < n := by
  constructor
  · intro h; exact Nat.pos_of_ne_zero (fun e => by rw [e, dig_zero] at h; cases h)
  · intro h; exact List.length_pos_iff.2 (fun e => by have := dig_eq_nil.1 e; omega)
theorem pos_iff : 0 < q ↔ 0 < q.num := by rw [Rat.lt_iff]; simp
theorem neg1 (h : (!decide (q < 0)) = true) : decide (((dig q.num.natAbs).length : Int) > 0) = decide (-q < 0) := by
  rw [decide_eq_decide, neg_lt0, pos_iff]
  have h1 : ¬ q < 0 := by simpa using h
  rw [rat_lt0] at h1
  have := len_pos (n := q.num.natAbs)
  omega
theorem neg2 (h : (!decide (q < 0)) = false) : false = decide (-q < 0) := by
  have h1 : q < 0 := by simpa using h
  symm; rw [decide_eq_false_iff_not]; grind
theorem ratL_neg' (s : Bool) (h : s = decide (-q < 0)) : ratL (-q) = .agg [.v (.bool s), magL q.num.natAbs, magL (denN q)] := by
  rw [ratL_eq, h, denN_eq, denN_eq, Rat.neg_num, Int.natAbs_neg, Rat.neg_den]
theorem rat_ext' : a = b ↔ decide (a < 0) = decide (b < 0) ∧ a.num.natAbs = b.num.natAbs ∧ denN a = denN b := by
  constructor
  · rintro rfl; exact ⟨rfl, rfl, rfl⟩
  · rintro ⟨h1, h2, h3⟩
    have hd : a.den = b.den := denN_inj (by rw [h3])
    rw [← qv_self a, ← qv_self b, h1, h2, hd]
theorem cmp0 {m n : Nat} : (cmpN m n == 0) = decide (m = n) := by
  rw [Bool.eq_iff_iff, beq_iff_eq, decide_eq_true_iff]; unfold cmpN; split
  · omega
  · split <;> omega
theorem same1 (h : (decide (a < 0) == decide (b < 0)) = false) : false = decide (a = b) := by
  symm; rw [decide_eq_false_iff_not, rat_ext']; intro h2; rw [h2.1] at h; simp at h
theorem same2 (h2 : (cmpN a.num.natAbs b.num.natAbs == 0) = false) : false = decide (a = b) := by
  rw [cmp0] at h2
  symm; rw [decide_eq_false_iff_not, rat_ext']; intro h3; rw [decide_eq_false_iff_not] at h2; exact h2 h3.2.1
theorem same3 (h : (decide (a < 0) == decide (b < 0)) = true) (h2 : (cmpN a.num.natAbs b.num.natAbs == 0) = true) : (cmpN (denN a) (denN b) == 0) = decide (a = b) := by
  rw [cmp0] at h2 ⊢
  rw [decide_eq_decide, rat_ext']
  exact ⟨fun h3 => ⟨eq_of_beq h, of_decide_eq_true h2, h3⟩, fun h3 => h3.2.2⟩
end
end Go.Proofs.YthhdcfhaldcheaaGreat
namespace Go.Lg
open Go.Proofs.YthhdcfhaldcheaaGreat in
theorem OpT.stNegR {P : Program} {L : St} {dst : Option Nat} {T : TypeId} {p x : Operand} {b : Nat} {q : Rat} {s : Bool} (hp : L.ev p = .eptr b 3 0 0) (hb : L.heap b = some ⟨3, [ratL q], true⟩) (hx : L.ev x = .v (.bool s)) (hT : TyIs P T 1 false)
    (hs : s = decide (-q < 0)) : OpT P L dst (.store T p x) ((L.setB b (some ⟨3, [ratL (-q)], true⟩)).put dst .any) := by
  have h0 : LV.put (ratL q) 0 (L.ev x) = some (ratL (-q)) := by
    rw [hx, ratL_neg' s hs, ratL_eq q]
    have e1 : ∀ n, (magL n).csize = 1 := fun _ => rfl
    simp [LV.put, putFs, csizes, LV.csize, LV.isAgg]
  exact OpT.store (P := P) (dst := dst) (T := T) (p := p) (x := x) (y := ratL q) (y' := ratL (-q)) hp hb rfl rfl rfl (ratE.csize _) h0 (by rw [hx]; exact hT) (by rw [hx]; exact ⟨(fun h => by cases h), (fun _ h => by cases h)⟩)
end Go.Lg
namespace Go.Proofs.YthhdcfhaldcheaaGreat
open Go.Lg
theorem neg_wrap {n : Int} (h1 : -9223372036854775808 ≤ n) (h2 : n < 0) : IntKind.i64.wrap (0 - (n + 1)) = (((-(n + 1)).toNat : Nat) : Int) := by
  rw [IntWalk.i64_in _ (by omega)]; omega
open H0 in
theorem c_FDen (q : Rat) : CallP Tryz.prog 128 [ratL q] (magL q.den) := by
  refine fnP Tryz.func128 ?_
  refine zg15 ?_
  refine wl_if rfl (fun h6r h6 => ?_) (fun h6r h6 => ?_)
  · have hd1 := denN_zero (show (dig (denN q)).length = 0 by omega)
    refine zg8 ?_
    rw [hd1, show magL 1 = .list 1 ([1].map u32L) from rfl]
    exact ret1f [7] rfl rfl (imm_refm u32E rfl rfl rfl)
  · have hd1 := denN_pos (q := q) (by omega)
    refine zg10 ?_
    rw [← hd1]
    exact ret1 rfl (by first | exact .pure rfl | exact .pure (limL_pure _) | exact .pure (magL_pure _) | exact .pure (ratE.pure _) | exact .pure (pure_lst u32E _ _) | exact .pure (pure_lst ratE _ _))
namespace H_c_Freduce
theorem zSm {p q : Prop} (k : q) (e : p = q := by simp only [e1, e2, e3, e4, p1, p2, p3, q1, q2, q3, l1, t0, t1, r1, r2, r3, r4, Nat.zero_add, Nat.reduceMul, Nat.reduceAdd, b1, b2, b3, b4, b5, b6, i1, i2, i3, i4, i5, i6, Nat.reduceBEq, dflt, val_dig, tz0]; exact rfl) : p := e.mpr k
end H_c_Freduce
open H_c_Freduce in
theorem c_Freduce (s : Bool) (m n : Nat) (hla : (dig m).length ≤ 68719476736) (hlb : (dig n).length ≤ 68719476736) (hn0 : 0 < n) : CallP Tryz.prog 126 [bL s, magL m, magL n] (ratL (qv s m n)) := by
  refine fnP Tryz.func126 ?_
  refine zg8 ?_
  refine cp am1 (c_FTrim _ (lim_dig _) (by omega)) ?_
  refine zg1 ?_
  refine cp am1 (c_FTrim _ (lim_dig _) (by omega)) ?_
  refine zg12 ?_
  refine wl_if rfl (fun h14r h14 => ?_) (fun h14r h14 => ?_)
  · have hm : m = 0 := dig_eq_nil.1 (List.eq_nil_of_length_eq_zero (by omega))
    refine zg8 ?_
    rw [hm, qv_zero, ratL_zero]
    exact retC [] rfl rfl rfl rfl rfl T33 (.pure rfl)
  · have hm0 : 0 < m := len_pos.1 (by omega)
    have hg : 0 < Nat.gcd m n := Nat.gcd_pos_of_pos_left _ hm0
    have hE := ratL_qv s hm0 hn0
    have hgl : (dig (Nat.gcd m n)).length ≤ 68719476736 := Nat.le_trans (len_dig_mono (Nat.le_of_dvd hm0 (Nat.gcd_dvd_left _ _))) hla
    have hqa : (dig (m / Nat.gcd m n)).length ≤ 68719476736 := Nat.le_trans (len_dig_mono (Nat.div_le_self _ _)) hla
    have hqb : (dig (n / Nat.gcd m n)).length ≤ 68719476736 := Nat.le_trans (len_dig_mono (Nat.div_le_self _ _)) hlb
    have hg1l := dig_is1 (n := Nat.gcd m n)
    refine zg6 ?_
    refine cp am2 (c_FGcd _ _ (by omega) (by omega)) ?_
    refine zg5 ?_
    refine wl_cut (fun L => ∃ (t : Bool) (L1 : St), (t = decide (Nat.gcd m n ≠ 1)) ∧ L = (((((((St.mk L1.slot (hp [(6, ⟨3, [.agg [.v (.bool false), .list 1 [], .list 1 []]], true⟩)])).put (some 0) (bL s)).put (some 1) (magL m)).put (some 2) (magL n)).put (some 6) (.eptr 6 3 0 0)).put (some 7) (magL (Nat.gcd m n))).put (some 27) (bL t))) ?_ ?_
    · refine zg5 ?_
      refine op_if 22 rfl (fun h22r h22 => ?_) (fun h22r h22 => ?_)
      · refine zg7 ?_
        exact ⟨true, _, by symm; rw [decide_eq_true_iff]; intro e; rw [e, dig_one] at h22; exact h22 rfl, ((put_id' (put_id' (put_id' (put_id' (put_id' (put_id' (mk_id' cl) cl) cl) cl) cl) cl) cl)).symm⟩
      · refine zg7 ?_
        exact ⟨(((dig (Nat.gcd m n)).getD 0 0 : Int) != 1), _, by have := (hg1l (by omega)).1; rw [Bool.eq_iff_iff, bne_iff_ne, decide_eq_true_iff]; omega, ((put_id' (put_id' (put_id' (put_id' (put_id' (put_id' (mk_id' cl) cl) cl) cl) cl) cl) cl)).symm⟩
    · rintro _ ⟨t, LR5, ht, rfl⟩
      refine zg1 ?_
      refine wl_cut (fun L => ∃ (x : Nat) (y : Nat) (L1 : St), (x = m / Nat.gcd m n ∧ y = n / Nat.gcd m n) ∧ L = (((((St.mk L1.slot (hp [(6, ⟨3, [.agg [.v (.bool false), .list 1 [], .list 1 []]], true⟩)])).put (some 0) (bL s)).put (some 1) (magL x)).put (some 2) (magL y)).put (some 6) (.eptr 6 3 0 0))) ?_ ?_
      · refine wl_if rfl (fun h27r h27 => ?_) (fun h27r h27 => ?_)
        · refine zg4 ?_
          refine cp am2 (c_FDiv _ _ (by omega) (by omega) hg) ?_
          refine zg10 ?_
          refine cp am2 (c_FDiv _ _ (by omega) (by omega) hg) ?_
          refine zg7 ?_
          exact ⟨m / Nat.gcd m n, n / Nat.gcd m n, _, ⟨rfl, rfl⟩, ((put_id' (put_id' (put_id' (put_id' (mk_id' cl) cl) cl) cl) cl)).symm⟩
        · have hg1 : Nat.gcd m n = 1 := by rw [ht, decide_eq_false_iff_not] at h27r; omega
          refine zg2 ?_
          exact ⟨m, n, _, ⟨by rw [hg1, Nat.div_one], by rw [hg1, Nat.div_one]⟩, ((put_id' (put_id' (put_id' (put_id' (mk_id' cl) cl) cl) cl) cl)).symm⟩
      · rintro _ ⟨x, y, LC27, ⟨hx, hy⟩, rfl⟩
        rw [← hx, ← hy] at hE
        have hy0 : 0 < y := by rw [hy]; exact Nat.div_pos (Nat.le_of_dvd hn0 (Nat.gcd_dvd_right _ _)) hg
        refine zg8 ?_
        refine op_if 45 rfl (fun h45r h45 => ?_) (fun h45r h45 => ?_)
        · refine zg7 ?_
          refine wl_if rfl (fun h50r h50 => ?_) (fun h50r h50 => ?_)
          · have hy1 : y = 1 := by have := (dig_is1 (n := y) (by omega)).1; omega
            refine zg14 ?_
            rw [hE, if_pos hy1]
            exact retC [] rfl rfl rfl rfl rfl T33 (.agg (.cons (.pure rfl) (.cons (.pure (magL_pure _)) (.cons (.nil 1) .nil))))
          · have hy1 : y ≠ 1 := by have := (dig_is1 (n := y) (by omega)).1; omega
            refine zg12 ?_
            rw [hE, if_neg hy1]
            exact retC [] rfl rfl rfl rfl rfl T33 (.agg (.cons (.pure rfl) (.cons (.pure (magL_pure _)) (.cons (.pure (magL_pure _)) .nil))))
        · have hy1 : y ≠ 1 := fun e => by rw [e, dig_one] at h45; exact h45 rfl
          refine zg20 ?_
          rw [hE, if_neg hy1]
          exact retC [] rfl rfl rfl rfl rfl T33 (.agg (.cons (.pure rfl) (.cons (.pure (magL_pure _)) (.cons (.pure (magL_pure _)) .nil))))
open H0 in
theorem c_Fsize (n : Int) (h1 : -9223372036854775808 ≤ n) (h2 : n ≤ 9223372036854775807) : CallP Tryz.prog 120 [iL n] (.tup [magL n.natAbs, bL (decide (n < 0))]) := by
  refine fnP Tryz.func120 ?_
  refine zg13 ?_
  refine wl_if rfl (fun h5r h5 => ?_) (fun h5r h5 => ?_)
  · refine zg4 ?_
    refine st_pure rfl (.neg rfl) ?_
    refine st_pure rfl (.cv64 (n := (-(n + 1)).toNat) Tryz.underlying2 Tryz.underlying117 (by simp only [e1, p1, p2, Nat.reduceBEq]; rw [neg_wrap h1 h5]) (by omega)) ?_
    refine st_pure rfl (.bin rfl rfl (addU (show (-(n + 1)).toNat + 1 < 18446744073709551616 by omega))) ?_
    refine cp am1 (c_FOf ((-(n + 1)).toNat + 1) (by omega)) ?_
    refine zg6 ?_
    rw [decide_eq_true h5, show n.natAbs = (-(n + 1)).toNat + 1 by omega]
    exact ret2 rfl (.pure (magL_pure _)) rfl (.pure rfl)
  · refine zg5 ?_
    refine st_pure rfl (.cv64 (n := n.natAbs) Tryz.underlying2 Tryz.underlying117 (by simp only [e1, p1, p2, Nat.reduceBEq]; rw [show ((n.natAbs : Nat) : Int) = n by omega]; rfl) (by omega)) ?_
    refine cp am1 (c_FOf n.natAbs (by omega)) ?_
    refine zg5 ?_
    rw [decide_eq_false h5]
    exact ret2 rfl (.pure (magL_pure _)) rfl (.pure rfl)
open H0 in
theorem c_FMake (n d : Int) (h1 : -9223372036854775808 ≤ n) (h2 : n ≤ 9223372036854775807) (h3 : -9223372036854775808 ≤ d) (h4 : d ≤ 9223372036854775807) (hd : d ≠ 0) : CallP Tryz.prog 141 [iL n, iL d] (.tup [ratL ((n : Rat) / (d : Rat)), iL 0]) := by
  refine fnP Tryz.func141 ?_
  refine zg13 ?_
  refine wl_if rfl (fun h11r h11 => ?_) (fun h11r h11 => ?_)
  · exact absurd h11 hd
  · refine zg5 ?_
    refine cp am1 (c_Fsize _ (by omega) (by omega)) ?_
    refine zg10 ?_
    refine cp am1 (c_Fsize _ (by omega) (by omega)) ?_
    refine zg14 ?_
    refine cp am3 (c_Freduce (decide (n < 0) != decide (d < 0)) n.natAbs d.natAbs (Nat.le_trans (dig_len_le2.2 (by omega)) (by omega)) (Nat.le_trans (dig_len_le2.2 (by omega)) (by omega)) (by omega)) ?_
    refine zg5 ?_
    rw [← qv_ints]
    exact retCT [] rfl rfl rfl (ratE.csize _) (ratL_all _) T33 (.pure (ratE.pure _)) rfl (.pure rfl)
open H0 in
theorem c_FFrac (n d : Int) (h1 : -9223372036854775808 ≤ n) (h2 : n ≤ 9223372036854775807) (h3 : -9223372036854775808 ≤ d) (h4 : d ≤ 9223372036854775807) (hd : d ≠ 0) : CallP Tryz.prog 85 [iL n, iL d] (ratL ((n : Rat) / (d : Rat))) := by
  refine fnP Tryz.func85 ?_
  refine zg9 ?_
  refine cp am2 (c_FMake _ _ (by omega) (by omega) (by omega) (by omega) (by omega)) ?_
  refine zg15 ?_
  exact retC [] rfl rfl rfl (ratE.csize _) (ratL_all _) T33 (.pure (ratE.pure _))
open H0 in
theorem c_FInt (n : Int) (h1 : -9223372036854775808 ≤ n) (h2 : n ≤ 9223372036854775807) : CallP Tryz.prog 46 [iL n] (ratL (n : Rat)) := by
  refine fnP Tryz.func46 ?_
  refine zg8 ?_
  refine cp am1 (c_Fsize _ (by omega) (by omega)) ?_
  refine zg16 ?_
  rw [← qv_int n]
  have hz : n.natAbs = 0 ∨ 0 < n.natAbs := by omega
  rcases hz with hz | hz
  · obtain rfl : n = 0 := by omega
    rw [show qv (decide ((0 : Int) < 0)) (0 : Int).natAbs 1 = 0 from qv_zero _ _, ratL_zero]
    exact retC [] rfl rfl rfl rfl rfl T33 (.pure rfl)
  · rw [ratL_qv _ hz (by omega), Nat.gcd_one_right, Nat.div_one, if_pos (by omega)]
    exact retC [] rfl rfl rfl rfl rfl T33 (.agg (.cons (.pure rfl) (.cons (.pure (magL_pure _)) (.cons (.pure rfl) .nil))))
open H0 in
theorem c_FSame (a b : Rat) (h : rl a + rl b ≤ 1099511627776) : CallP Tryz.prog 14 [ratL a, ratL b] (bL (decide (a = b))) := by
  have a1 := rl_num a
  have a3 := rl_denN a
  have c1 := rl_num b
  have c3 := rl_denN b
  refine fnP Tryz.func14 ?_
  refine zg15 ?_
  refine op_if 10 rfl (fun h10r h10 => ?_) (fun h10r h10 => ?_)
  · refine zg4 ?_
    refine cp am2 (c_FCmp _ _ (by omega) (by omega)) ?_
    refine zg3 ?_
    refine op_if 18 rfl (fun h18r h18 => ?_) (fun h18r h18 => ?_)
    · refine zg4 ?_
      refine cp am2 (c_FCmp _ _ (by omega) (by omega)) ?_
      refine zg6 ?_
      rw [← same3 h10r h18r]
      exact ret1 rfl (by first | exact .pure rfl | exact .pure (limL_pure _) | exact .pure (magL_pure _) | exact .pure (ratE.pure _) | exact .pure (pure_lst u32E _ _) | exact .pure (pure_lst ratE _ _))
    · refine zg11 ?_
      rw [← same2 h18r]
      exact ret1 rfl (by first | exact .pure rfl | exact .pure (limL_pure _) | exact .pure (magL_pure _) | exact .pure (ratE.pure _) | exact .pure (pure_lst u32E _ _) | exact .pure (pure_lst ratE _ _))
  · refine zg19 ?_
    rw [← same1 h10r]
    exact ret1 rfl (by first | exact .pure rfl | exact .pure (limL_pure _) | exact .pure (magL_pure _) | exact .pure (ratE.pure _) | exact .pure (pure_lst u32E _ _) | exact .pure (pure_lst ratE _ _))
open H0 in
theorem c_FSign (q : Rat) : CallP Tryz.prog 133 [ratL q] (iL (sgnR q)) := by
  have hq := sgnR_eq q
  refine fnP Tryz.func133 ?_
  refine zg15 ?_
  refine wl_if rfl (fun h6r h6 => ?_) (fun h6r h6 => ?_)
  · have hz : q.num.natAbs = 0 := dig_eq_nil.1 (List.eq_nil_of_length_eq_zero (by omega))
    refine zg7 ?_
    rw [hq, if_pos hz]
    exact ret1 rfl (by first | exact .pure rfl | exact .pure (limL_pure _) | exact .pure (magL_pure _) | exact .pure (ratE.pure _) | exact .pure (pure_lst u32E _ _) | exact .pure (pure_lst ratE _ _))
  · have hz : q.num.natAbs ≠ 0 := fun e => by rw [e, dig_zero] at h6; exact h6 rfl
    refine zg9 ?_
    refine wl_if rfl (fun h8r h8 => ?_) (fun h8r h8 => ?_)
    · refine zg7 ?_
      rw [hq, if_neg hz, if_pos h8]
      exact ret1 rfl (by first | exact .pure rfl | exact .pure (limL_pure _) | exact .pure (magL_pure _) | exact .pure (ratE.pure _) | exact .pure (pure_lst u32E _ _) | exact .pure (pure_lst ratE _ _))
    · refine zg8 ?_
      rw [hq, if_neg hz, if_neg h8]
      exact ret1 rfl (by first | exact .pure rfl | exact .pure (limL_pure _) | exact .pure (magL_pure _) | exact .pure (ratE.pure _) | exact .pure (pure_lst u32E _ _) | exact .pure (pure_lst ratE _ _))
open H0 in
theorem c_FNeg (q : Rat) : CallP Tryz.prog 162 [ratL q] (ratL (-q)) := by
  refine fnP Tryz.func162 ?_
  refine zg12 ?_
  refine op_if 6 rfl (fun h6r h6 => ?_) (fun h6r h6 => ?_)
  · refine zg6 ?_
    refine st_store rfl (.stNegR rfl rfl rfl T4 (by first | exact neg1 h6r | exact neg2 h6r)) ?_
    refine zg9 ?_
    exact retC [] rfl rfl rfl (ratE.csize _) (ratL_all _) T33 (.pure (ratE.pure _))
  · refine zg6 ?_
    refine st_store rfl (.stNegR rfl rfl rfl T4 (by first | exact neg1 h6r | exact neg2 h6r)) ?_
    refine zg9 ?_
    exact retC [] rfl rfl rfl (ratE.csize _) (ratL_all _) T33 (.pure (ratE.pure _))
open H0 in
theorem c_FRMul (a b : Rat) (h : rl a + rl b ≤ 34359738368) : CallP Tryz.prog 51 [ratL a, ratL b] (ratL (a * b)) := by
  have a1 := rl_num a
  have a2 := rl_den a
  have a3 := rl_denN a
  have c1 := rl_num b
  have c2 := rl_den b
  have c3 := rl_denN b
  have a0 := a.den_pos
  have c0 := b.den_pos
  have m1 := len_mul a1 c2
  have m2 := len_mul c1 a2
  have m3 := len_mul a2 c2
  have m4 := len_mul a1 c1
  have m5 := len_mul a2 c1
  have m6 := len_mul c2 a2
  have np := Nat.mul_pos a0 c0
  have hE := qv_mul (decide (a < 0)) (decide (b < 0)) a.num.natAbs a.den b.num.natAbs b.den
  rw [qv_self, qv_self] at hE
  refine fnP Tryz.func51 ?_
  refine zg8 ?_
  refine wl_regD 16 (by decide +kernel) ?_
  refine zg9 ?_
  refine cp am2 (c_FMul _ _ (by omega) (by omega)) ?_
  refine zg1 ?_
  refine cp am1 (c_FDen _) ?_
  refine zg1 ?_
  refine cp am1 (c_FDen _) ?_
  refine cp am2 (c_FMul _ _ (by omega) (by omega)) ?_
  refine cp am3 (c_Freduce _ _ _ (by omega) (by omega) np) ?_
  refine zg4 ?_
  rw [hE]
  exact retC [] rfl rfl rfl (ratE.csize _) (ratL_all _) T33 (.pure (ratE.pure _))
open H0 in
theorem c_FRQuo (a b : Rat) (h : rl a + rl b ≤ 34359738368) : CallP Tryz.prog 159 [ratL a, ratL b] (.tup [ratL (a / b), iL (if b = 0 then 3 else 0)]) := by
  have a1 := rl_num a
  have a2 := rl_den a
  have a3 := rl_denN a
  have c1 := rl_num b
  have c2 := rl_den b
  have c3 := rl_denN b
  have a0 := a.den_pos
  have c0 := b.den_pos
  have m1 := len_mul a1 c2
  have m2 := len_mul c1 a2
  have m3 := len_mul a2 c2
  have m4 := len_mul a1 c1
  have m5 := len_mul a2 c1
  have m6 := len_mul c2 a2
  have np := Nat.mul_pos a0 c0
  have hE := qv_div (decide (a < 0)) (decide (b < 0)) a.num.natAbs a.den b.num.natAbs b.den
  rw [qv_self, qv_self] at hE
  refine fnP Tryz.func159 ?_
  refine zg17 ?_
  refine wl_if rfl (fun h9r h9 => ?_) (fun h9r h9 => ?_)
  · have hz := num0 (q := b) (by omega)
    refine zg9 ?_
    subst hz
    rw [show a / 0 = 0 by rw [Rat.div_def]; simp, ratL_zero]
    exact retCT [] rfl rfl rfl rfl rfl T33 (.pure rfl) rfl (.pure rfl)
  · have hb0 : 0 < b.num.natAbs := len_pos.1 (by omega)
    have hz : b ≠ 0 := by rintro rfl; exact absurd hb0 (by decide)
    refine zg3 ?_
    refine wl_regD 16 (by decide +kernel) ?_
    refine zg8 ?_
    refine cp am1 (c_FDen _) ?_
    refine cp am2 (c_FMul _ _ (by omega) (by omega)) ?_
    refine zg1 ?_
    refine cp am1 (c_FDen _) ?_
    refine zg2 ?_
    refine cp am2 (c_FMul _ _ (by omega) (by omega)) ?_
    refine cp am3 (c_Freduce _ _ _ (by omega) (by omega) (Nat.mul_pos a0 hb0)) ?_
    refine zg5 ?_
    rw [hE, if_neg hz]
    exact retCT [] rfl rfl rfl (ratE.csize _) (ratL_all _) T33 (.pure (ratE.pure _)) rfl (.pure rfl)
open H0 in
theorem c_FOver (a b : Rat) (h : rl a + rl b ≤ 34359738368) : CallP Tryz.prog 112 [ratL a, ratL b] (ratL (a / b)) := by
  refine fnP Tryz.func112 ?_
  refine zg11 ?_
  refine cp am2 (c_FRQuo _ _ (by omega)) ?_
  refine zg15 ?_
  exact retC [] rfl rfl rfl (ratE.csize _) (ratL_all _) T33 (.pure (ratE.pure _))
namespace H_c_FRAdd
theorem zSm {p q : Prop} (k : q) (e : p = q := by simp only [e1, e2, e3, e4, p1, p2, p3, q1, q2, q3, l1, t0, t1, r1, r2, r3, r4, Nat.zero_add, Nat.reduceMul, Nat.reduceAdd, b1, b2, b3, b4, b5, b6, i1, i2, i3, i4, i5, i6, Nat.reduceBEq, val_dig, eSb]; exact rfl) : p := e.mpr k
end H_c_FRAdd
open H_c_FRAdd in
theorem c_FRAdd (a b : Rat) (h : rl a + rl b ≤ 34359738368) : CallP Tryz.prog 111 [ratL a, ratL b] (ratL (a + b)) := by
  have a1 := rl_num a
  have a2 := rl_den a
  have a3 := rl_denN a
  have c1 := rl_num b
  have c2 := rl_den b
  have c3 := rl_denN b
  have a0 := a.den_pos
  have c0 := b.den_pos
  have m1 := len_mul a1 c2
  have m2 := len_mul c1 a2
  have m3 := len_mul a2 c2
  have m4 := len_mul a1 c1
  have m5 := len_mul a2 c1
  have m6 := len_mul c2 a2
  have np := Nat.mul_pos a0 c0
  have m7 : (dig (a.num.natAbs * b.den + b.num.natAbs * a.den)).length ≤ rl a + rl b + 1 := len_add m1 (by omega)
  have ls1 : (dig (a.num.natAbs * b.den - b.num.natAbs * a.den)).length ≤ rl a + rl b := Nat.le_trans (len_dig_mono (Nat.sub_le _ _)) m1
  have ls2 : (dig (b.num.natAbs * a.den - a.num.natAbs * b.den)).length ≤ rl b + rl a := Nat.le_trans (len_dig_mono (Nat.sub_le _ _)) m2
  refine fnP Tryz.func111 ?_
  have eSb : True := trivial
  refine zg16 ?_
  refine wl_if rfl (fun h15r h15 => ?_) (fun h15r h15 => ?_)
  · have hz := num0 (q := a) (by omega)
    refine zg8 ?_
    rw [hz, Rat.zero_add]
    exact retC [] rfl rfl rfl (ratE.csize _) (ratL_all _) T33 (.pure (ratE.pure _))
  · refine zg11 ?_
    refine wl_if rfl (fun h20r h20 => ?_) (fun h20r h20 => ?_)
    · have hz := num0 (q := b) (by omega)
      refine zg8 ?_
      rw [hz, Rat.add_zero]
      exact retC [] rfl rfl rfl (ratE.csize _) (ratL_all _) T33 (.pure (ratE.pure _))
    · refine zg3 ?_
      refine wl_regD 12 (by decide +kernel) ?_
      refine zg3 ?_
      refine cp am1 (c_FDen _) ?_
      refine cp am2 (c_FMul _ _ (by omega) (by omega)) ?_
      refine zg3 ?_
      refine cp am1 (c_FDen _) ?_
      refine cp am2 (c_FMul _ _ (by omega) (by omega)) ?_
      refine zg5 ?_
      refine wl_regD 6 (by decide +kernel) ?_
      refine zg1 ?_
      refine cp am1 (c_FDen _) ?_
      refine zg1 ?_
      refine cp am1 (c_FDen _) ?_
      refine cp am2 (c_FMul _ _ (by omega) (by omega)) ?_
      refine zg13 ?_
      refine wl_if rfl (fun h41r h41 => ?_) (fun h41r h41 => ?_)
      · refine zg1 ?_
        refine wl_regD 7 (by decide +kernel) ?_
        refine zg4 ?_
        refine cp am2 (c_FAdd _ _ (by omega) (by omega)) ?_
        refine zg1 ?_
        refine cp am3 (c_Freduce _ _ _ (by omega) (by omega) np) ?_
        refine zg5 ?_
        have E := add_same (k := 1) (x := a.num.natAbs * b.den) (y := b.num.natAbs * a.den) (d := a.den * b.den) (by omega) (Nat.mul_one _) (Nat.mul_one _) (Nat.mul_one _) (eq_of_beq h41r)
        rw [sgR_self, ← eq_of_beq h41r] at E
        rw [E]
        exact retC [] rfl rfl rfl (ratE.csize _) (ratL_all _) T33 (.pure (ratE.pure _))
      · refine zg7 ?_
        refine cp am2 (c_FCmp _ _ (by omega) (by omega)) ?_
        refine zg3 ?_
        refine wl_if rfl (fun h52r h52 => ?_) (fun h52r h52 => ?_)
        · have hlt : a.num.natAbs * b.den < b.num.natAbs * a.den := by unfold cmpN at h52; split at h52; assumption; split at h52 <;> omega
          have eSb := subL_le (Nat.le_of_lt hlt)
          refine zg4 ?_
          refine cp am2 (c_FSub _ _ (by omega) (by omega)) ?_
          refine zg13 ?_
          refine cp am3 (c_Freduce _ _ _ (by omega) (by omega) np) ?_
          refine zg5 ?_
          have E := add_le (k := 1) (x := a.num.natAbs * b.den) (y := b.num.natAbs * a.den) (d := a.den * b.den) (by omega) (Nat.mul_one _) (Nat.mul_one _) (Nat.mul_one _) (beq_ne_of h41r) (Nat.le_of_lt hlt)
          rw [sgR_self] at E
          rw [E]
          exact retC [] rfl rfl rfl (ratE.csize _) (ratL_all _) T33 (.pure (ratE.pure _))
        · have hle : b.num.natAbs * a.den ≤ a.num.natAbs * b.den := by
            rcases Nat.lt_or_ge (a.num.natAbs * b.den) (b.num.natAbs * a.den) with h | h
            · rw [cmpN_lt h] at h52; omega
            · exact h
          have eSb := subL_le hle
          refine zg6 ?_
          refine cp am2 (c_FSub _ _ (by omega) (by omega)) ?_
          refine zg13 ?_
          refine cp am3 (c_Freduce _ _ _ (by omega) (by omega) np) ?_
          refine zg4 ?_
          have E := add_ge (k := 1) (x := a.num.natAbs * b.den) (y := b.num.natAbs * a.den) (d := a.den * b.den) (by omega) (Nat.mul_one _) (Nat.mul_one _) (Nat.mul_one _) (beq_ne_of h41r) hle
          rw [sgR_self] at E
          rw [E]
          exact retC [] rfl rfl rfl (ratE.csize _) (ratL_all _) T33 (.pure (ratE.pure _))
open H0 in
theorem c_FRSub (a b : Rat) (h : rl a + rl b ≤ 34359738368) : CallP Tryz.prog 116 [ratL a, ratL b] (ratL (a - b)) := by
  refine fnP Tryz.func116 ?_
  refine zg8 ?_
  refine wl_regD 4 (by decide +kernel) ?_
  refine zg2 ?_
  refine cp am1 (c_FNeg _) ?_
  refine cp am2 (c_FRAdd _ _ (by rw [rl_neg]; omega)) ?_
  refine zg4 ?_
  rw [Rat.sub_eq_add_neg]
  exact retC [] rfl rfl rfl (ratE.csize _) (ratL_all _) T33 (.pure (ratE.pure _))
open H0 in
theorem c_FRCmp (a b : Rat) (h : rl a + rl b ≤ 34359738368) : CallP Tryz.prog 119 [ratL a, ratL b] (iL (cmpR a b)) := by
  have a1 := rl_num a
  have a2 := rl_den a
  have a3 := rl_denN a
  have c1 := rl_num b
  have c2 := rl_den b
  have c3 := rl_denN b
  have a0 := a.den_pos
  have c0 := b.den_pos
  have m1 := len_mul a1 c2
  have m2 := len_mul c1 a2
  have m3 := len_mul a2 c2
  have m4 := len_mul a1 c1
  have m5 := len_mul a2 c1
  have m6 := len_mul c2 a2
  have np := Nat.mul_pos a0 c0
  refine fnP Tryz.func119 ?_
  refine zg9 ?_
  refine wl_regD 6 (by decide +kernel) ?_
  refine zg1 ?_
  refine cp am1 (c_FSign _) ?_
  refine zg1 ?_
  refine cp am1 (c_FSign _) ?_
  refine zg11 ?_
  refine wl_if rfl (fun h14r h14 => ?_) (fun h14r h14 => ?_)
  · refine zg8 ?_
    refine wl_if rfl (fun h17r h17 => ?_) (fun h17r h17 => ?_)
    · refine zg8 ?_
      rw [cmp_slt h17]
      exact ret1 rfl (by first | exact .pure rfl | exact .pure (limL_pure _) | exact .pure (magL_pure _) | exact .pure (ratE.pure _) | exact .pure (pure_lst u32E _ _) | exact .pure (pure_lst ratE _ _))
    · refine zg9 ?_
      rw [cmp_sgt (by omega)]
      exact ret1 rfl (by first | exact .pure rfl | exact .pure (limL_pure _) | exact .pure (magL_pure _) | exact .pure (ratE.pure _) | exact .pure (pure_lst u32E _ _) | exact .pure (pure_lst ratE _ _))
  · have hss : sgnR a = sgnR b := by omega
    obtain ⟨c, hc⟩ : ∃ c, c = cmpN (a.num.natAbs * b.den) (b.num.natAbs * a.den) := ⟨_, rfl⟩
    refine zg3 ?_
    refine wl_regD 12 (by decide +kernel) ?_
    refine zg3 ?_
    refine cp am1 (c_FDen _) ?_
    refine cp am2 (c_FMul _ _ (by omega) (by omega)) ?_
    refine zg3 ?_
    refine cp am1 (c_FDen _) ?_
    refine cp am2 (c_FMul _ _ (by omega) (by omega)) ?_
    refine cp am2 (c_FCmp _ _ (by omega) (by omega)) ?_
    refine zg10 ?_
    refine wl_if rfl (fun h30r h30 => ?_) (fun h30r h30 => ?_)
    · refine zg9 ?_
      rw [cmp_same hss, if_pos h30, ← wrap_negc rfl]
      exact ret1 rfl (by first | exact .pure rfl | exact .pure (limL_pure _) | exact .pure (magL_pure _) | exact .pure (ratE.pure _) | exact .pure (pure_lst u32E _ _) | exact .pure (pure_lst ratE _ _))
    · refine zg9 ?_
      rw [cmp_same hss, if_neg h30]
      exact ret1 rfl (by first | exact .pure rfl | exact .pure (limL_pure _) | exact .pure (magL_pure _) | exact .pure (ratE.pure _) | exact .pure (pure_lst u32E _ _) | exact .pure (pure_lst ratE _ _))
end Go.Proofs.YthhdcfhaldcheaaGreat
end
section
set_option linter.unusedVariables false
set_option linter.unusedSimpArgs false
set_option maxHeartbeats 8000000
set_option maxRecDepth 100000
attribute [local irreducible] Go.Lg.opsL Go.Lg.wpL Go.Lg.thenL Go.Lg.blockL
namespace Go.Proofs.YthhdcfhaldcheaaGreat
open Go.Lg
end Go.Proofs.YthhdcfhaldcheaaGreat
namespace Go.Lg
open Go.Proofs.YthhdcfhaldcheaaGreat in
theorem OpP.build0 {P : Program} {H : Heap} {ρ : Operand → LV} {T : TypeId} (hT : StructLay P T [(1, false), (1, false), (1, false)]) (hz : ZeroOK P T (.agg [.v (.bool false), .list 1 [], .list 1 []])) : OpP P H ρ (.build T #[]) (ratL 0) := by
  rw [ratL_zero]
  exact OpP.build (zs := [.v (.bool false), .list 1 [], .list 1 []]) (ps := #[]) hT hz (by intro p hp; cases hp)
end Go.Lg
namespace Go.Proofs.YthhdcfhaldcheaaGreat
open Go.Lg
theorem dfq : (default : Rat) = 0 := rfl
def stp (t : Rat) : List Rat → List Rat
  | x :: y :: r => ((1 - t) * x + t * y) :: stp t (y :: r)
  | _ => []
theorem stp_len (t : Rat) : ∀ p : List Rat, (stp t p).length = p.length - 1
  | [] => rfl
  | [_] => rfl
  | x :: y :: r => by simp [stp, stp_len t (y :: r)]
theorem stp_get (t : Rat) : ∀ (p : List Rat) (i : Nat), i + 1 < p.length → (stp t p).getD i 0 = (1 - t) * p.getD i 0 + t * p.getD (i + 1) 0
  | [], i, h => by simp at h
  | [_], i, h => by simp at h
  | x :: y :: r, 0, _ => by simp [stp]
  | x :: y :: r, i + 1, h => by
      have := stp_get t (y :: r) i (by simpa using h)
      simpa [stp] using this
theorem getD_mem {p : List Rat} {i : Nat} (h : i < p.length) : p.getD i 0 ∈ p := by
  rw [List.getD_eq_getElem?_getD, List.getElem?_eq_getElem h]; exact List.getElem_mem h
theorem mem_getD {p : List Rat} {x : Rat} (h : x ∈ p) : ∃ i, i < p.length ∧ p.getD i 0 = x := by
  obtain ⟨i, hi, rfl⟩ := List.getElem_of_mem h
  exact ⟨i, hi, by rw [List.getD_eq_getElem?_getD, List.getElem?_eq_getElem hi]; rfl⟩
/-- the first coefficients of the levels -/
def loF (t : Rat) : Nat → List Rat → List Rat
  | 0, _ => []
  | k + 1, p => p.getD 0 0 :: loF t k (stp t p)
/-- the last coefficients of the levels, the last level first, ahead of what is there -/
def hiF (t : Rat) : Nat → List Rat → List Rat → List Rat
  | 0, q, tl => q ++ tl
  | k + 1, q, tl => hiF t k (stp t q) (q.getD k 0 :: tl)
def loP (p : List Rat) (t : Rat) : List Rat := loF t p.length p
def hiP (p : List Rat) (t : Rat) : List Rat := hiF t p.length p []
theorem loF_len (t : Rat) : ∀ (k : Nat) (p : List Rat), (loF t k p).length = k
  | 0, _ => rfl
  | k + 1, p => by simp [loF, loF_len t k]
theorem loP_len (p : List Rat) (t : Rat) : (loP p t).length = p.length := loF_len t _ _
theorem set_mid {α : Type} (A B : List α) (x v : α) {n : Nat} (h : n = A.length) : (A ++ x :: B).set n v = A ++ v :: B := by subst h; simp
theorem getD_app1 {α : Type} (A B : List α) (d : α) {i : Nat} (h : i < A.length) : (A ++ B).getD i d = A.getD i d := by simp [List.getD_eq_getElem?_getD, List.getElem?_append_left h]
theorem getD_app2 {α : Type} (A B : List α) (d : α) {i : Nat} (h : A.length ≤ i) : (A ++ B).getD i d = B.getD (i - A.length) d := by simp [List.getD_eq_getElem?_getD, List.getElem?_append_right h]
theorem getD_dropR (l : List Rat) (k p : Nat) : (l.drop k).getD p 0 = l.getD (k + p) 0 := by
  rw [List.getD_eq_getElem?_getD, List.getD_eq_getElem?_getD, List.getElem?_drop]
/-- the row in the middle of a round -/
theorem mid_get {t : Rat} {q tl : List Rat} {i : Nat} (h : i + 1 < q.length) :
    ((stp t q).take i ++ (q.drop i ++ tl)).getD i 0 = q.getD i 0 ∧ ((stp t q).take i ++ (q.drop i ++ tl)).getD (i + 1) 0 = q.getD (i + 1) 0 := by
  have hl : ((stp t q).take i).length = i := by rw [List.length_take, stp_len]; omega
  constructor
  · rw [getD_app2 _ _ _ (by omega), hl, Nat.sub_self, getD_app1 _ _ _ (by simp; omega), getD_dropR, Nat.add_zero]
  · rw [getD_app2 _ _ _ (by omega), hl, getD_app1 _ _ _ (by simp; omega), getD_dropR]; congr 1; omega
theorem mid_set {t : Rat} {q tl : List Rat} {i : Nat} (h : i + 1 < q.length) :
    ((stp t q).take i ++ (q.drop i ++ tl)).set i ((1 - t) * q.getD i 0 + t * q.getD (i + 1) 0) = (stp t q).take (i + 1) ++ (q.drop (i + 1) ++ tl) := by
  have hl : ((stp t q).take i).length = i := by rw [List.length_take, stp_len]; omega
  rw [List.drop_eq_getElem_cons (by omega), List.cons_append, set_mid _ _ _ _ hl.symm, ← stp_get t q i h]
  have hs : i < (stp t q).length := by rw [stp_len]; omega
  rw [List.take_succ_eq_append_getElem hs, List.append_assoc]
  congr 1
  rw [List.getD_eq_getElem?_getD, List.getElem?_eq_getElem hs]
  simp
theorem mid_end {t : Rat} {q tl : List Rat} {k : Nat} (h : q.length = k + 1) : (stp t q).take k ++ (q.drop k ++ tl) = stp t q ++ (q.getD k 0 :: tl) := by
  rw [List.take_of_length_le (by rw [stp_len]; omega), List.drop_eq_getElem_cons (by omega), List.drop_of_length_le (by omega), List.getD_eq_getElem?_getD, List.getElem?_eq_getElem (by omega)]
  simp
/-- sizes along the scheme -/
theorem stp_sz {t : Rat} {q : List Rat} {C M k : Nat} (hC : rl (1 - t) + rl t + 1 ≤ C) (h : ∀ x ∈ q, (rl x + C) * 2 ^ (k + 1) ≤ M) : ∀ x ∈ stp t q, (rl x + C) * 2 ^ k ≤ M := by
  intro x hx
  obtain ⟨i, hi, rfl⟩ := mem_getD hx
  rw [stp_len] at hi
  rw [stp_get t q i (by omega)]
  have h1 := h _ (getD_mem (p := q) (i := i) (by omega))
  have h2 := h _ (getD_mem (p := q) (i := i + 1) (by omega))
  have e1 := rl_add ((1 - t) * q.getD i 0) (t * q.getD (i + 1) 0)
  have e2 := rl_mul (1 - t) (q.getD i 0)
  have e3 := rl_mul t (q.getD (i + 1) 0)
  rw [Nat.pow_succ] at h1 h2
  have hle : rl ((1 - t) * q.getD i 0 + t * q.getD (i + 1) 0) + C ≤ (rl (q.getD i 0) + C) + (rl (q.getD (i + 1) 0) + C) := by omega
  have := Nat.mul_le_mul_right (2 ^ k) hle
  have e6 := Nat.add_mul (rl (q.getD i 0) + C) (rl (q.getD (i + 1) 0) + C) (2 ^ k)
  have e4 : (rl (q.getD i 0) + C) * (2 ^ k * 2) = (rl (q.getD i 0) + C) * 2 ^ k * 2 := by rw [Nat.mul_assoc]
  have e5 : (rl (q.getD (i + 1) 0) + C) * (2 ^ k * 2) = (rl (q.getD (i + 1) 0) + C) * 2 ^ k * 2 := by rw [Nat.mul_assoc]
  omega
theorem cp_take {o p : List Rat} {k : Nat} (hk : k < p.length) (hol : o.length = p.length) (ht : o.take k = p.take k) : (o.set k (p.getD k 0)).take (k + 1) = p.take (k + 1) := by
  rw [List.take_succ_eq_append_getElem (by simpa [hol] using hk), List.take_succ_eq_append_getElem hk, List.take_set_of_le (Nat.le_refl _), ht]
  congr 1
  simp [List.getD_eq_getElem?_getD, List.getElem?_eq_getElem hk]
theorem r1r : ((1 : Int) : Rat) = 1 := rfl
theorem sz_rl {x : Rat} {C M k : Nat} (h : (rl x + C) * 2 ^ k ≤ M) : rl x + C ≤ M := by
  have : 1 ≤ 2 ^ k := Nat.pow_pos (by omega)
  exact Nat.le_trans (Nat.le_mul_of_pos_right _ this) h
theorem sz_len {p : List Rat} {C : Nat} (hC : 1 ≤ C) (h : ∀ x ∈ p, (rl x + C) * 2 ^ p.length ≤ 1073741824) : p.length ≤ 30 := by
  cases p with
  | nil => simp
  | cons x r =>
    have h1 := h x (by simp)
    have h2 : 1 * 2 ^ (x :: r).length ≤ (rl x + C) * 2 ^ (x :: r).length := Nat.mul_le_mul_right _ (by omega)
    rcases Nat.lt_or_ge 30 (x :: r).length with h3 | h3
    · have h4 : 2 ^ 31 ≤ 2 ^ (x :: r).length := Nat.pow_le_pow_right (by omega) h3
      omega
    · exact h3
theorem mid_len {t : Rat} {q tl : List Rat} {i : Nat} (h : i < q.length) : ((stp t q).take i ++ (q.drop i ++ tl)).length = q.length + tl.length := by
  simp [stp_len]; omega
namespace H_c_copiedO
theorem zSm {p q : Prop} (k : q) (e : p = q := by simp only [e1, e2, e3, e4, p1, p2, p3, q1, q2, q3, l1, t0, t1, r1, r2, r3, r4, Nat.zero_add, Nat.reduceMul, Nat.reduceAdd, b1, b2, b3, b4, b5, b6, i1, i2, i3, i4, i5, i6, Nat.reduceBEq, dfq, Rat.add_zero, kills_map ratE, ratL_kill, LV.kill, kills]; exact rfl) : p := e.mpr k
end H_c_copiedO
open H_c_copiedO in
theorem c_copiedO (p : List Rat) (hl : p.length ≤ 1048576) (hpr : ∀ x ∈ p, rl x ≤ 274877906944) : CallOK Tryz.prog 134 [.list 3 (p.map ratL)] (.ref 1 3 0 p.length) [⟨3, p.map ratL, true⟩] := by
  refine fnO Tryz.func134 ?_
  refine zg9 ?_
  refine st_alloc rfl rfl (.mkE (n := p.length) (m := p.length) ml ml om om om) ?_
  refine zg12 ?_
  refine lp2 (fun (k : Nat) (o : List Rat) L => (((((St.mk L.slot (hp [(8, ⟨3, o.map ratL, true⟩)])).put (some 3) (.ref 8 3 0 p.length)).put (some 9) (.list 3 (p.map ratL))).put (some 10) (nI64 p.length)).put (some 11) (nI64 k))) (fun k o => k ≤ p.length ∧ o.length = p.length ∧ o.take k = p.take k) (fun k o => p.length - k) 0 (List.replicate p.length 0) ⟨Nat.zero_le _, by simp, rfl⟩ ?_
  rintro k o L1 ⟨hk, hol, ht⟩
  refine zg6 ?_
  refine wl_if rfl (fun h12r h12 => ?_) (fun h12r h12 => ?_)
  · have hk2 : k < p.length := by omega
    have hrk := hpr _ (getD_mem hk2)
    refine zg18 ?_
    refine st_pure rfl (.build0 SL33 Z33a) ?_
    refine cp am2 (c_RAdd (p.getD k 0) 0 (by rw [show rl 0 = 1 from rfl]; omega)) ?_
    refine zg5 ?_
    refine wl_regW (Weak.kill _ 5) ?_
    refine zg4 ?_
    exact nx2 (k + 1) (o.set k (p.getD k 0)) ⟨by omega, by simp [hol], cp_take hk2 hol ht⟩
  · obtain rfl : k = p.length := by omega
    rw [List.take_length, ← hol, List.take_length] at ht
    refine zg12 ?_
    subst ht
    exact ret1own rfl rfl (pures_map ratE _)
namespace H_c_halves
theorem zSm {p q : Prop} (k : q) (e : p = q := by simp only [e1, e2, e3, e4, p1, p2, p3, q1, q2, q3, l1, t0, t1, r1, r2, r3, r4, Nat.zero_add, Nat.reduceMul, Nat.reduceAdd, b1, b2, b3, b4, b5, b6, i1, i2, i3, i4, i5, i6, Nat.reduceBEq, frz_nil, dfq, Rat.add_zero, List.append_nil, List.length_append, r1r, ek, eq0, emg1, emg2, ems, eme, ei1, take_map_len, map_snoc, len_snoc, List.length_cons, List.length_nil, kills_map ratE, ratL_kill, LV.kill, kills]; exact rfl) : p := e.mpr k
end H_c_halves
open H_c_halves in
theorem c_halves (p : List Rat) (t : Rat) (cc : Nat) (hC : rl (1 - t) + rl t + 1 ≤ cc) (hcc : cc ≤ 1073741824) (hs : ∀ x ∈ p, (rl x + cc) * 2 ^ p.length ≤ 1073741824) : CallP Tryz.prog 144 [.list 3 (p.map ratL), ratL t] (.tup [.list 3 ((loP p t).map ratL), .list 3 ((hiP p t).map ratL)]) := by
  have hlen := sz_len (Nat.le_trans (Nat.le_add_left 1 _) hC) hs
  have hpr : ∀ x ∈ p, rl x ≤ 274877906944 := fun x hx => by have := sz_rl (hs x hx); omega
  refine fnP Tryz.func144 ?_
  have ek : True := trivial
  have eq0 : True := trivial
  have emg1 : True := trivial
  have emg2 : True := trivial
  have ems : True := trivial
  have eme : True := trivial
  have ei1 : True := trivial
  refine zg8 ?_
  refine wl_regD 4 (by decide +kernel) ?_
  refine cp am1 (c_RInt 1 (by decide) (by decide)) ?_
  refine zg1 ?_
  refine cp am2 (c_RSub _ _ (by rw [show rl ((1 : Int) : Rat) = 1 from rfl]; omega)) ?_
  refine zg7 ?_
  refine st_call1 [] rfl rfl (.cons (.pure (pure_lst ratE _ _)) .nil) (c_copiedO p (by omega) hpr) (pures_map ratE _) rfl ?_
  refine zg7 ?_
  refine st_alloc rfl rfl (.makeM (n := 0) (m := p.length) ratE Tryz.underlying38 Z33 T33 B33 rfl rfl (by omega) (by omega) (by omega)) ?_
  refine zg13 ?_
  refine wl_weak (Weak.mv (t := 8) (b := 18) 33 (by decide) (by decide) (by decide) rfl rfl rfl) ?_
  refine lp4 (fun (k : Nat) (q tl lo : List Rat) L => ((((((St.mk L.slot (hp [(3, ⟨3, [ratL t], true⟩), (6, ⟨3, [ratL (1 - t)], true⟩), (1000241, ⟨3, (q ++ tl).map ratL, true⟩), (33, ⟨3, lo.map ratL, true⟩)])).put (some 3) (.eptr 3 3 0 0)).put (some 6) (.eptr 6 3 0 0)).put (some 7) (.ref 1000241 3 0 p.length)).put (some 8) (.ref 33 3 0 lo.length)).put (some 9) (iL ((k : Int) - 1)))) (fun k q tl lo => q.length = k ∧ k + tl.length = p.length ∧ lo.length + k = p.length ∧ lo ++ loF t k q = loP p t ∧ hiF t k q tl = hiP p t ∧ ∀ x ∈ q, (rl x + cc) * 2 ^ k ≤ 1073741824) (fun k q tl lo => k) p.length p ([]) ([]) ⟨rfl, by simp, by simp, by simp [loP], rfl, hs⟩ ?_
  rintro k q tl lo L1 ⟨hq, htl, hlo, hL, hH, hsz⟩
  refine zg7 ?_
  refine wl_if rfl (fun h23r h23 => ?_) (fun h23r h23 => ?_)
  · obtain ⟨j, rfl⟩ : ∃ j, k = j + 1 := ⟨k - 1, by omega⟩
    have ek : (((j + 1 : Nat) : Int) - 1) = (j : Int) := by omega
    have eq0 : (q ++ tl).getD 0 0 = q.getD 0 0 := getD_app1 _ _ _ (by omega)
    have hq0 := sz_rl (hsz _ (getD_mem (i := 0) (by omega)))
    refine zg10 ?_
    refine st_pure rfl (.build0 SL33 Z33a) ?_
    simp only [tz0, dfq, Nat.zero_add, eq0]
    refine cp am2 (c_RAdd _ 0 (by rw [show rl 0 = 1 from rfl]; omega)) ?_
    refine zg1 ?_
    refine st_store rfl (.app (news := [ratL (q.getD 0 0 + 0)]) rfl rfl rfl rfl rfl (by simp) (.inl rfl) (by decide) Tryz.underlying38 Tryz.underlying38 Z33a T33 rfl B33 (.inl ⟨32, 0, _, rfl, by decide, rfl, rfl, by simp, rfl, by simp [pures, ratE.pure]⟩) (by simp; omega) (by simp; omega) (by decide)) ?_
    refine zg4 ?_
    refine wl_regW (Weak.kill _ 32) ?_
    refine zg5 ?_
    refine lp1 (fun (i : Nat) L => ((((((((St.mk L.slot (hp [(3, ⟨3, [ratL t], true⟩), (6, ⟨3, [ratL (1 - t)], true⟩), (1000241, ⟨3, ((stp t q).take i ++ (q.drop i ++ tl)).map ratL, true⟩), (33, ⟨3, (lo ++ [q.getD 0 0]).map ratL, true⟩)])).put (some 3) (.eptr 3 3 0 0)).put (some 6) (.eptr 6 3 0 0)).put (some 7) (.ref 1000241 3 0 p.length)).put (some 8) (.ref 33 3 0 (lo.length + 1))).put (some 9) (nI64 j)).put (some 34) (nI64 j)).put (some 35) (nI64 i))) (fun i => i ≤ j) (fun i => j - i) 0 (Nat.zero_le _) ?_
    rintro i L2 hi
    refine zg6 ?_
    refine wl_if rfl (fun h36r h36 => ?_) (fun h36r h36 => ?_)
    · have hij : i < j := by omega
      have ei1 : ((i : Int) + 1).toNat = i + 1 := by omega
      obtain ⟨emg1, emg2⟩ := mid_get (t := t) (q := q) (tl := tl) (i := i) (by omega)
      have ems := mid_set (t := t) (q := q) (tl := tl) (i := i) (by omega)
      have hr1 := sz_rl (hsz _ (getD_mem (i := i) (by omega)))
      have hr2 := sz_rl (hsz _ (getD_mem (i := i + 1) (by omega)))
      have hm1 := rl_mul (1 - t) (q.getD i 0)
      have hm2 := rl_mul t (q.getD (i + 1) 0)
      have hml := mid_len (t := t) (q := q) (tl := tl) (i := i) (by omega)
      refine zg10 ?_
      refine wl_regD 17 (by decide +kernel) ?_
      refine zg7 ?_
      simp only [t1, dfq, Nat.zero_add, emg1]
      refine cp am2 (c_RMul _ _ (by omega)) ?_
      refine zg6 ?_
      simp only [ei1, dfq, Nat.zero_add, emg2]
      refine cp am2 (c_RMul _ _ (by omega)) ?_
      refine cp am2 (c_RAdd _ _ (by omega)) ?_
      refine zg10 ?_
      exact nx1 (i + 1) (by omega)
    · obtain rfl : j = i := by omega
      have eme := mid_end (t := t) (tl := tl) hq
      refine zg12 ?_
      exact nx4 j (stp t q) (q.getD j 0 :: tl) (lo ++ [q.getD 0 0]) ⟨by rw [stp_len]; omega, by simp; omega, by simp; omega, by rw [List.append_assoc]; exact hL, hH, stp_sz hC hsz⟩
  · obtain rfl : k = 0 := by omega
    obtain rfl : q = [] := List.eq_nil_of_length_eq_zero hq
    rw [loF, List.append_nil] at hL
    rw [hiF] at hH
    refine zg14 ?_
    rw [← hL, ← hH]
    exact ret2f [33, 1000241] rfl rfl (imm_refm ratE rfl rfl rfl) rfl (imm_refm ratE rfl rfl (by simpa using htl.symm))
end Go.Proofs.YthhdcfhaldcheaaGreat
end
section
set_option linter.unusedVariables false
set_option linter.unusedSimpArgs false
set_option maxHeartbeats 8000000
set_option maxRecDepth 100000
attribute [local irreducible] Go.Lg.opsL Go.Lg.wpL Go.Lg.thenL Go.Lg.blockL
namespace Go.Proofs.YthhdcfhaldcheaaGreat
open Go.Lg
def diceL (l : List Int) (k : Nat) : LV := .agg [.list 1 (l.map i64L), .v (.int .i64 (k : Nat))]
theorem dice_pure (l : List Int) (k : Nat) : pures [diceL l k] = true := by simp [pures, diceL, LV.pure, pures_map i64E]
theorem rem64 {a b : Int} (h : b ≠ 0) : binI .rem .i64 a b = some (.int .i64 (a.tmod b)) := by simp [binI, h]
theorem dfi : (default : Int) = 0 := rfl
def nxV (l : List Int) (k : Nat) (n : Int) : Int := if k < l.length then l.getD k 0 % n else 0
def nxK (l : List Int) (k : Nat) : Nat := if k < l.length then k + 1 else k
theorem nxV_lt {l : List Int} {k : Nat} {n : Int} (h : 0 < n) : 0 ≤ nxV l k n ∧ nxV l k n < n := by
  unfold nxV; split
  · exact ⟨Int.emod_nonneg _ (by omega), Int.emod_lt_of_pos _ h⟩
  · omega
theorem mod_fix {a m : Int} (hm : 0 < m) : a % m = if a.tmod m < 0 then a.tmod m + m else a.tmod m := by
  have h1 := Int.emod_nonneg a (show m ≠ 0 by omega)
  have h2 := Int.emod_lt_of_pos a hm
  rw [Int.tmod_eq_emod]
  split <;> split <;> omega
theorem retMC {P : Program} {L : St} {a : Nat} {T : TypeId} {b sz : Nat} {x y : LV} {m : Bool} {n : Nat} {ag : Bool} {blk : Blk} (h : L.slot a = .eptr b sz 0 0) (hb : L.heap b = some ⟨sz, [x], m⟩)
    (hx : x.csize = sz) (hat : x.at 0 n ag = some x) (hT : TyIs P T n ag) (hi : Imm L.heap x y) (h0 : L.heap 0 = some blk) (hm : blk.mt = true) (hp : pures blk.vals = true) : RetM P [.cell a T] L y blk :=
  ⟨[x], [y], L.heap, .cons ⟨b, sz, 0, 0, _, x, n, ag, h, hb, rfl, rfl, hx, hat, hT⟩ .nil, Heap.le_refl _, .cons (.imm hi) .nil, h0, hm, hp, rfl⟩
def nbV (l : List Int) (k : Nat) : Rat × Nat :=
  if nxV l (nxK l k) 4 = 3 then (((nxV l k 13 - 6 : Int) : Rat) / ((1 + nxV l (nxK l (nxK l k)) 4 : Int) : Rat), nxK l (nxK l (nxK l k))) else (((nxV l k 13 - 6 : Int) : Rat), nxK l (nxK l k))
theorem rl_ints {n d : Int} (h1 : n.natAbs < 4294967296) (h2 : d.natAbs < 4294967296) : rl ((n : Rat) / (d : Rat)) ≤ 1 := by
  rw [← qv_ints]
  have := rl_qv (k := 1) (decide (n < 0) != decide (d < 0)) (by simpa using h1) (by simpa using h2)
  omega
theorem rl_int {n : Int} (h1 : n.natAbs < 4294967296) : rl (n : Rat) ≤ 1 := by
  have := rl_ints (n := n) (d := 1) h1 (by decide)
  rwa [show ((1 : Int) : Rat) = 1 from rfl, Rat.div_def, show (1 : Rat)⁻¹ = 1 by grind, Rat.mul_one] at this
theorem nb_rl (l : List Int) (k : Nat) : rl (nbV l k).1 ≤ 1 := by
  have h1 := nxV_lt (l := l) (k := k) (n := 13) (by decide)
  have h2 := nxV_lt (l := l) (k := nxK l (nxK l k)) (n := 4) (by decide)
  unfold nbV; split
  · exact rl_ints (by omega) (by omega)
  · exact rl_int (by omega)
/-- numbers one after the other -/
def plV (l : List Int) : Nat → Nat → List Rat
  | _, 0 => []
  | k, c + 1 => (nbV l k).1 :: plV l (nbV l k).2 c
def plK (l : List Int) : Nat → Nat → Nat
  | k, 0 => k
  | k, c + 1 => plK l (nbV l k).2 c
theorem plV_len (l : List Int) : ∀ k c, (plV l k c).length = c
  | _, 0 => rfl
  | k, c + 1 => by simp [plV, plV_len l]
theorem plV_rl (l : List Int) : ∀ k c, ∀ x ∈ plV l k c, rl x ≤ 1
  | _, 0, x, h => by simp [plV] at h
  | k, c + 1, x, h => by
      simp only [plV, List.mem_cons] at h
      rcases h with rfl | h
      · exact nb_rl l k
      · exact plV_rl l _ c x h
theorem ret1ptr {P : Program} {L : St} {t b sz : Nat} {blk : Blk} (h : L.slot t = .eptr b sz 0 0) (hb : L.heap b = some blk) (hp : pures blk.vals = true) : RetL P [.tmp t] L (.eptr 1 sz 0 0) [blk] :=
  ⟨[.eptr b sz 0 0], [.eptr 1 sz 0 0], L.heap, [b], .cons h .nil, Heap.le_refl _, .cons (.ptr (k := 0) rfl) .nil, by simp, rfl, fun k c hk => by
    cases k with
    | zero => simp at hk; subst hk; exact ⟨blk, hb, rfl, hp⟩
    | succ k => simp at hk, rfl⟩
theorem nxK_le {l : List Int} {k : Nat} (hl : l.length ≤ 500) (hk : k ≤ 500) : nxK l k ≤ 500 := by unfold nxK; split <;> omega
theorem nbK_le {l : List Int} {k : Nat} (hl : l.length ≤ 500) (hk : k ≤ 500) : (nbV l k).2 ≤ 500 := by
  have h1 := nxK_le (l := l) hl hk
  have h2 := nxK_le (l := l) hl h1
  unfold nbV; split
  · exact nxK_le hl h2
  · exact h2
theorem plK_le {l : List Int} (hl : l.length ≤ 500) : ∀ (k c : Nat), k ≤ 500 → plK l k c ≤ 500
  | k, 0, h => h
  | k, c + 1, h => plK_le hl _ c (nbK_le hl h)
theorem dice_kill (l : List Int) (k b : Nat) : (diceL l k).kill b = diceL l k := LV.kill_pure b _ (by simp [diceL, LV.pure, pures, pures_map i64E])
open H0 in
theorem c_Mod (n m : Int) (hm : 0 < m) (hm2 : m ≤ 4611686018427387904) : CallP Tryz.prog 90 [iL n, iL m] (iL (n % m)) := by
  have hE := mod_fix (a := n) hm
  have hb := Int.tmod_lt_of_pos n hm
  have hb2 := Int.lt_tmod_of_pos n hm
  refine fnP Tryz.func90 ?_
  refine zg9 ?_
  refine st_pure rfl (.bin rfl rfl (rem64 (by omega))) ?_
  refine zg10 ?_
  refine wl_cut (fun L => ∃ (r : Int) (L1 : St), (r = n % m) ∧ L = ((St.mk L1.slot (hp [])).put (some 0) (iL r))) ?_ ?_
  · refine wl_if rfl (fun h9r h9 => ?_) (fun h9r h9 => ?_)
    · refine zg3 ?_
      refine st_pure rfl (.bin rfl rfl (add64 (by omega) (by omega))) ?_
      refine zg3 ?_
      exact ⟨n.tmod m + m, _, by rw [hE, if_pos h9], ((put_id' (mk_id' cl) cl)).symm⟩
    · refine zg2 ?_
      exact ⟨n.tmod m, _, by rw [hE, if_neg h9], ((put_id' (mk_id' cl) cl)).symm⟩
  · rintro _ ⟨r, LC9, hr, rfl⟩
    refine zg8 ?_
    rw [← hr]
    exact ret1 rfl (by first | exact .pure rfl | exact .pure (limL_pure _) | exact .pure (magL_pure _) | exact .pure (ratE.pure _) | exact .pure (pure_lst u32E _ _) | exact .pure (pure_lst ratE _ _))
open H0 in
theorem c_Light (l : List Int) (h : l.length ≤ 9223372036854775807) : CallP Tryz.prog 9 [.list 1 (l.map i64L)] (bL (decide (l.length ≤ 500))) := by
  refine fnP Tryz.func9 ?_
  refine zg14 ?_
  refine ret1 (x := .v (.bool (decide (((l.length : Nat) : Int) ≤ 500)))) rfl ?_
  rw [show decide (((l.length : Nat) : Int) ≤ 500) = decide (l.length ≤ 500) by rw [decide_eq_decide]; omega]
  exact .pure rfl
open H0 in
theorem c_Roll (l : List Int) : CallOK Tryz.prog 11 [.list 1 (l.map i64L)] (.eptr 1 2 0 0) [⟨2, [diceL l 0], true⟩] := by
  refine fnO Tryz.func11 ?_
  refine zg8 ?_
  refine st_pure rfl (.build (zs := [.v (.slice none 0 0), .v (.int .i64 0)]) SL78 Z78 (by simp only [List.forall_mem_cons]; exact ⟨⟨_, rfl, rfl, ne0⟩, fun _ h => by cases h⟩)) ?_
  refine st_alloc rfl rfl (.box ne0) ?_
  refine zg4 ?_
  exact ret1ptr rfl rfl (dice_pure l 0)
namespace H_c_Next
theorem zSm {p q : Prop} (k : q) (e : p = q := by simp only [e1, e2, e3, e4, p1, p2, p3, q1, q2, q3, l1, t0, t1, r1, r2, r3, r4, Nat.zero_add, Nat.reduceMul, Nat.reduceAdd, b1, b2, b3, b4, b5, b6, i1, i2, i3, i4, i5, i6, Nat.reduceBEq, l1, ek1, dfi]; exact rfl) : p := e.mpr k
end H_c_Next
open H_c_Next in
theorem c_Next (l : List Int) (k : Nat) (n : Int) (hl : l.length ≤ 500) (hk : k ≤ 500) (hn : 0 < n) (hn2 : n ≤ 1000) : CallOKM Tryz.prog 88 ⟨2, [diceL l k], true⟩ [.eptr 0 2 0 0, iL n] (iL (nxV l k n)) ⟨2, [diceL l (nxK l k)], true⟩ := by
  refine fnM Tryz.func88 ?_
  have ek1 : True := trivial
  refine zg7 ?_
  refine wl_regD 10 (by decide +kernel) ?_
  refine zg12 ?_
  refine wl_if rfl (fun h14r h14 => ?_) (fun h14r h14 => ?_)
  · have hk1 : ¬ k < l.length := by omega
    refine zg7 ?_
    rw [nxV, if_neg hk1, nxK, if_neg hk1]
    exact retM1 rfl (.imm (.pure rfl)) rfl rfl (dice_pure l _)
  · have hk1 : k < l.length := by omega
    have ek1 : (((k + 1 : Nat) : Int) - 1).toNat = k := by omega
    refine zg11 ?_
    refine st_store rfl (.store (y := diceL l k) (y' := diceL l (k + 1)) rfl rfl rfl rfl rfl rfl rfl T3 ne0) ?_
    refine zg3 ?_
    refine wl_regD 14 (by decide +kernel) ?_
    refine zg8 ?_
    refine st_pure rfl (.bin rfl rfl (sub64 (by first | omega | (simp; omega)) (by first | omega | (simp; omega)))) ?_
    refine zg3 ?_
    refine cp am2 (c_Mod _ _ (by omega) (by omega)) ?_
    refine zg4 ?_
    rw [nxV, if_pos hk1, nxK, if_pos hk1]
    exact retM1 rfl (.imm (.pure rfl)) rfl rfl (dice_pure l _)
namespace H_c_number
theorem zSm {p q : Prop} (k : q) (e : p = q := by simp only [e1, e2, e3, e4, p1, p2, p3, q1, q2, q3, l1, t0, t1, r1, r2, r3, r4, Nat.zero_add, Nat.reduceMul, Nat.reduceAdd, b1, b2, b3, b4, b5, b6, i1, i2, i3, i4, i5, i6, Nat.reduceBEq, l1]; exact rfl) : p := e.mpr k
end H_c_number
open H_c_number in
theorem c_number (l : List Int) (k : Nat) (hl : l.length ≤ 500) (hk : k ≤ 500) : CallOKM Tryz.prog 89 ⟨2, [diceL l k], true⟩ [.eptr 0 2 0 0] (ratL (nbV l k).1) ⟨2, [diceL l (nbV l k).2], true⟩ := by
  have k1 := nxK_le (l := l) hl hk
  have k2 := nxK_le (l := l) hl k1
  have hb1 := nxV_lt (l := l) (k := k) (n := 13) (by decide)
  have hb2 := nxV_lt (l := l) (k := nxK l (nxK l k)) (n := 4) (by decide)
  refine fnM Tryz.func89 ?_
  refine zg8 ?_
  refine st_callM 0 rfl rfl rfl (dice_pure l _) (.cons .ptr (.cons (.imm (.pure rfl)) .nil)) .ptr (c_Next l k 13 (by omega) (by omega) (by decide) (by decide)) rfl (dice_pure l _) ?_
  refine zg7 ?_
  refine st_callM 0 rfl rfl rfl (dice_pure l _) (.cons .ptr (.cons (.imm (.pure rfl)) .nil)) .ptr (c_Next l (nxK l k) 4 (by omega) (by omega) (by decide) (by decide)) rfl (dice_pure l _) ?_
  refine zg3 ?_
  refine wl_if rfl (fun h8r h8 => ?_) (fun h8r h8 => ?_)
  · refine zg3 ?_
    refine st_pure rfl (.bin rfl rfl (sub64 (by omega) (by omega))) ?_
    refine zg1 ?_
    refine st_callM 0 rfl rfl rfl (dice_pure l _) (.cons .ptr (.cons (.imm (.pure rfl)) .nil)) .ptr (c_Next l (nxK l (nxK l k)) 4 (by omega) (by omega) (by decide) (by decide)) rfl (dice_pure l _) ?_
    refine st_pure rfl (.bin rfl rfl (add64 (by omega) (by omega))) ?_
    refine cp am2 (c_FFrac (nxV l k 13 - 6) (1 + nxV l (nxK l (nxK l k)) 4) (by omega) (by omega) (by omega) (by omega) (by omega)) ?_
    refine zg5 ?_
    rw [nbV, if_pos h8]
    exact retMC rfl rfl (ratE.csize _) (ratL_all _) T33 (.pure (ratE.pure _)) rfl rfl (dice_pure l _)
  · refine zg5 ?_
    refine st_pure rfl (.bin rfl rfl (sub64 (by omega) (by omega))) ?_
    refine cp am1 (c_FInt (nxV l k 13 - 6) (by omega) (by omega)) ?_
    refine zg4 ?_
    rw [nbV, if_neg h8]
    exact retMC rfl rfl (ratE.csize _) (ratL_all _) T33 (.pure (ratE.pure _)) rfl rfl (dice_pure l _)
end Go.Proofs.YthhdcfhaldcheaaGreat
end
section
set_option linter.unusedVariables false
set_option linter.unusedSimpArgs false
set_option maxHeartbeats 8000000
set_option maxRecDepth 100000
attribute [local irreducible] Go.Lg.opsL Go.Lg.wpL Go.Lg.thenL Go.Lg.blockL
namespace Go.Proofs.YthhdcfhaldcheaaGreat
open Go.Lg
theorem denN_ne1 (q : Rat) : denN q ≠ 1 := by rw [denN_eq]; split <;> omega
theorem c_NValidD (n : Nat) (h : (dig n).length ≤ 4611686018427387904) : CallP Tryz.prog 174 [magL n] (bL true) := by
  have := c_NValid (dig n) h
  rwa [decide_eq_true] at this
  by_cases h0 : (dig n).length = 0
  · exact .inl h0
  · exact .inr (can_getLast (can_dig n) (by omega))
theorem gcd1 {q : Rat} (h : 0 < (dig (denN q)).length) : Nat.gcd q.num.natAbs (denN q) = 1 := by
  rw [denN_pos h]; exact q.reduced
def u8L (n : Nat) : LV := .v (.int .u8 (n : Nat))
theorem u8E : EncOK u8L 1 false := ⟨fun _ => rfl, fun _ => rfl, fun _ => rfl⟩
end Go.Proofs.YthhdcfhaldcheaaGreat
namespace Go.Lg
open Go.Proofs.YthhdcfhaldcheaaGreat in
theorem OpP.cv8 {P : Program} {H : Heap} {ρ : Operand → LV} {S T : TypeId} {x : Operand} {d : TypeDesc} {k' : IntKind} {n : Nat} (hS : P.underlying S = some d) (hD : P.underlying T = some (.int .u8)) (hx : ρ x = .v (.int k' (n : Nat))) (h : n < 256) :
    OpP P H ρ (.convert S T x) (u8L n) := by
  have := OpP.conv (H := H) hS hD hx
  rwa [IntKind.wrap_u8, show ((n : Nat) : Int) % 256 = (n : Int) by omega] at this
end Go.Lg
namespace Go.Proofs.YthhdcfhaldcheaaGreat
open Go.Lg
theorem rem32 {a b : Nat} (h : 0 < b) : binI .rem .u32 (a : Nat) (b : Nat) = some (.int .u32 ((a % b : Nat) : Int)) := by
  have e : ((a : Int)).tmod b = ((a % b : Nat) : Int) := by rw [Int.tmod_eq_emod_of_nonneg (by omega)]; simp
  simp [binI, e]; omega
theorem quo32 {a b : Nat} (h : 0 < b) (h1 : a < 4294967296) : binI .quo .u32 (a : Nat) (b : Nat) = some (.int .u32 ((a / b : Nat) : Int)) := by
  have e : ((a : Int)).tdiv b = ((a / b : Nat) : Int) := by rw [Int.tdiv_eq_ediv_of_nonneg (by omega)]; simp
  have := Nat.div_le_self a b
  simp only [binI, if_neg (show ¬ ((b : Nat) : Int) = 0 by omega), e]
  rw [IntKind.wrap_u32]
  generalize a / b = x at *
  congr 2; omega
theorem m10 {m : Nat} (h : m < 10) : (48 + m % 10) % 4294967296 = 48 + m := by
  rw [Nat.mod_eq_of_lt h, Nat.mod_eq_of_lt (Nat.lt_of_lt_of_le (Nat.add_lt_add_left h 48) (by decide))]
namespace H_c_RValid
theorem zSm {p q : Prop} (k : q) (e : p = q := by simp only [e1, e2, e3, e4, p1, p2, p3, q1, q2, q3, l1, t0, t1, r1, r2, r3, r4, Nat.zero_add, Nat.reduceMul, Nat.reduceAdd, b1, b2, b3, b4, b5, b6, i1, i2, i3, i4, i5, i6, Nat.reduceBEq, val_dig, dflt, tz0]; exact rfl) : p := e.mpr k
end H_c_RValid
open H_c_RValid in
theorem c_RValid (q : Rat) (h : rl q ≤ 1099511627776) : CallP Tryz.prog 142 [ratL q] (bL true) := by
  have a1 := rl_num q
  have a2 := rl_den q
  have a3 := rl_denN q
  have hne := denN_ne1 q
  refine fnP Tryz.func142 ?_
  refine zg11 ?_
  refine cp am1 (c_NValidD _ (by omega)) ?_
  refine zg4 ?_
  refine cp am1 (c_NValidD _ (by omega)) ?_
  refine zg8 ?_
  refine op_if 18 rfl (fun h18r h18 => ?_) (fun h18r h18 => ?_)
  · refine zg9 ?_
    refine wl_if rfl (fun h25r h25 => ?_) (fun h25r h25 => ?_)
    · exfalso
      have := (dig_is1 (n := denN q) (by omega)).1
      omega
    · refine zg11 ?_
      refine wl_if rfl (fun h29r h29 => ?_) (fun h29r h29 => ?_)
      · refine zg6 ?_
        refine op_if 33 rfl (fun h33r h33 => ?_) (fun h33r h33 => ?_)
        · have hz := num0 (q := q) (by omega)
          subst hz
          refine zg10 ?_
          exact ret1 rfl (by first | exact .pure rfl | exact .pure (limL_pure _) | exact .pure (magL_pure _) | exact .pure (ratE.pure _) | exact .pure (pure_lst u32E _ _) | exact .pure (pure_lst ratE _ _))
        · exfalso
          have hz := num0 (q := q) (by omega)
          subst hz
          revert h33r
          decide
      · refine zg9 ?_
        refine op_if 43 rfl (fun h43r h43 => ?_) (fun h43r h43 => ?_)
        · refine zg5 ?_
          first | simp only [val_dig, hg1] | skip
          refine zg7 ?_
          exact ret1 rfl (by first | exact .pure rfl | exact .pure (limL_pure _) | exact .pure (magL_pure _) | exact .pure (ratE.pure _) | exact .pure (pure_lst u32E _ _) | exact .pure (pure_lst ratE _ _))
        · have hg1 := gcd1 (q := q) (by omega)
          refine zg4 ?_
          refine cp am2 (c_NGcd _ _ (lim_dig _) (lim_dig _) (by omega) (by omega)) ?_
          first | simp only [val_dig, hg1] | skip
          refine cp am1 (c_NBits (dig 1) (lim_dig _) (by decide)) ?_
          refine zg6 ?_
          exact ret1 rfl (by first | exact .pure rfl | exact .pure (limL_pure _) | exact .pure (magL_pure _) | exact .pure (ratE.pure _) | exact .pure (pure_lst u32E _ _) | exact .pure (pure_lst ratE _ _))
  · refine zg21 ?_
    refine wl_if rfl (fun h29r h29 => ?_) (fun h29r h29 => ?_)
    · refine zg6 ?_
      refine op_if 33 rfl (fun h33r h33 => ?_) (fun h33r h33 => ?_)
      · have hz := num0 (q := q) (by omega)
        subst hz
        refine zg10 ?_
        exact ret1 rfl (by first | exact .pure rfl | exact .pure (limL_pure _) | exact .pure (magL_pure _) | exact .pure (ratE.pure _) | exact .pure (pure_lst u32E _ _) | exact .pure (pure_lst ratE _ _))
      · exfalso
        have hz := num0 (q := q) (by omega)
        subst hz
        revert h33r
        decide
    · refine zg9 ?_
      refine op_if 43 rfl (fun h43r h43 => ?_) (fun h43r h43 => ?_)
      · refine zg5 ?_
        first | simp only [val_dig, hg1] | skip
        refine zg7 ?_
        exact ret1 rfl (by first | exact .pure rfl | exact .pure (limL_pure _) | exact .pure (magL_pure _) | exact .pure (ratE.pure _) | exact .pure (pure_lst u32E _ _) | exact .pure (pure_lst ratE _ _))
      · have hg1 := gcd1 (q := q) (by omega)
        refine zg4 ?_
        refine cp am2 (c_NGcd _ _ (lim_dig _) (lim_dig _) (by omega) (by omega)) ?_
        first | simp only [val_dig, hg1] | skip
        refine cp am1 (c_NBits (dig 1) (lim_dig _) (by decide)) ?_
        refine zg6 ?_
        exact ret1 rfl (by first | exact .pure rfl | exact .pure (limL_pure _) | exact .pure (magL_pure _) | exact .pure (ratE.pure _) | exact .pure (pure_lst u32E _ _) | exact .pure (pure_lst ratE _ _))
namespace H_c_FText1
theorem zSm {p q : Prop} (k : q) (e : p = q := by simp only [e1, e2, e3, e4, p1, p2, p3, q1, q2, q3, l1, t0, t1, r1, r2, r3, r4, Nat.zero_add, Nat.reduceMul, Nat.reduceAdd, b1, b2, b3, b4, b5, b6, i1, i2, i3, i4, i5, i6, Nat.reduceBEq, val_dig, dflt, tz0, hdv, hmd, m10 h10, hm100, take_map_len, map_snoc, len_snoc, List.length_cons, List.length_nil, List.nil_append, kills_map u8E, LV.kill, ei0, List.map_cons, List.map_nil, List.length_map]; exact rfl) : p := e.mpr k
end H_c_FText1
open H_c_FText1 in
theorem c_FText1 (m : Nat) (h0 : 0 < m) (h10 : m < 10) : CallP Tryz.prog 143 [magL m] (.v (.string ⟨#[UInt8.ofNat (48 + m)]⟩)) := by
  have hd := dig_small h0 (by omega : m < 4294967296)
  have hl : (dig m).length = 1 := by rw [hd]; rfl
  have hdv : m / 1000000000 = 0 := by omega
  have hmd : m % 1000000000 = m := by omega
  have hm100 : m / 10 = 0 := by omega
  refine fnP Tryz.func143 ?_
  have ei0 : True := trivial
  refine zg13 ?_
  refine wl_if rfl (fun h11r h11 => ?_) (fun h11r h11 => ?_)
  · omega
  · refine zg9 ?_
    refine wl_weak (Weak.own (t := 3) 39 1 rfl rfl) ?_
    refine lp2 (fun (a : Nat) (o : List Nat) L => (((St.mk L.slot (hp [(39, ⟨1, o.map u8L, true⟩)])).put (some 0) (magL a)).put (some 3) (.ref 39 1 0 o.length))) (fun a o => (m = a ∧ o = []) ∨ (a = 0 ∧ o = [48 + m])) (fun a o => a) m ([]) (.inl ⟨rfl, rfl⟩) ?_
    rintro a o L1 hao
    refine zg8 ?_
    refine wl_if rfl (fun h14r h14 => ?_) (fun h14r h14 => ?_)
    · have hao2 : m = a ∧ o = [] := by
        rcases hao with h | h
        · exact h
        · rw [h.1] at h14; exact absurd h14 (by decide)
      obtain ⟨rfl, rfl⟩ := hao2
      refine zg6 ?_
      refine cp am2 (c_FbyLimb m 1000000000 (by omega) (by omega) (by omega)) ?_
      refine zg14 ?_
      refine lp3 (fun (i r : Nat) (o2 : List Nat) L => ((((((St.mk L.slot (hp [(39, ⟨1, o2.map u8L, true⟩)])).put (some 0) (magL m)).put (some 3) (.ref 39 1 0 o2.length)).put (some 4) (magL 0)).put (some 5) (nU32 r)).put (some 6) (nI64 i))) (fun i r o2 => (i = 0 ∧ m = r ∧ o2 = []) ∨ (i = 1 ∧ r = 0 ∧ o2 = [48 + m])) (fun i r o2 => r) 0 m ([]) (.inl ⟨rfl, rfl, rfl⟩) ?_
      rintro i r o2 L2 hio
      refine zg2 ?_
      refine wl_cut (fun L => ∃ (t : Bool) (L1 : St), (t = decide (0 < r)) ∧ L = (((((((St.mk L1.slot (hp [(39, ⟨1, o2.map u8L, true⟩)])).put (some 0) (magL m)).put (some 3) (.ref 39 1 0 o2.length)).put (some 4) (magL 0)).put (some 5) (nU32 r)).put (some 6) (nI64 i)).put (some 30) (bL t))) ?_ ?_
      · refine zg4 ?_
        refine op_if 22 rfl (fun h22r h22 => ?_) (fun h22r h22 => ?_)
        · refine zg3 ?_
          refine op_if 25 rfl (fun h25r h25 => ?_) (fun h25r h25 => ?_)
          · refine zg7 ?_
            exact ⟨true, _, by symm; rw [decide_eq_true_iff]; omega, ((put_id' (put_id' (put_id' (put_id' (put_id' (put_id' (mk_id' cl) cl) cl) cl) cl) cl) cl)).symm⟩
          · refine zg7 ?_
            exact ⟨false, _, by symm; rw [decide_eq_false_iff_not]; omega, ((put_id' (put_id' (put_id' (put_id' (put_id' (put_id' (mk_id' cl) cl) cl) cl) cl) cl) cl)).symm⟩
        · exfalso
          omega
      · rintro _ ⟨t, LR7, ht, rfl⟩
        refine zg1 ?_
        refine wl_if rfl (fun h30r h30 => ?_) (fun h30r h30 => ?_)
        · rw [ht, decide_eq_true_iff] at h30r
          have hio2 : i = 0 ∧ m = r ∧ o2 = [] := by
            rcases hio with h | h
            · exact h
            · omega
          obtain ⟨rfl, rfl, rfl⟩ := hio2
          refine zg8 ?_
          refine st_pure rfl (.bin rfl rfl (rem32 (b := 10) (by decide))) ?_
          refine st_pure rfl (.bin rfl rfl (addU32)) ?_
          refine st_pure rfl (.cv8 (n := 48 + m) Tryz.underlying114 Tryz.underlying5 (by simp only [e1, p1, p2, Nat.reduceBEq, m10 h10]; rfl) (by omega)) ?_
          refine st_alloc rfl rfl (.lit1 u8E Tryz.underlying137 Z5 T5 rfl (by decide) (by decide)) ?_
          refine st_store rfl (.app (news := [u8L (48 + m)]) rfl rfl rfl rfl rfl (by simp) (.inl rfl) (by decide) Tryz.underlying137 Tryz.underlying137 Z5 T5 rfl B5 (.inl ⟨38, 0, _, rfl, by decide, rfl, rfl, by simp, rfl, rfl⟩) (by simp) (by simp) (by decide)) ?_
          refine zg5 ?_
          refine st_pure rfl (.bin rfl rfl (quo32 (b := 10) (by decide) (by omega))) ?_
          refine zg4 ?_
          refine wl_regW (Weak.kill _ 38) ?_
          refine zg5 ?_
          exact nx3 1 0 ([48 + m]) (.inr ⟨rfl, rfl, rfl⟩) (hm := h0)
        · rw [ht, decide_eq_false_iff_not] at h30r
          have hio2 : i = 1 ∧ r = 0 ∧ o2 = [48 + m] := by
            rcases hio with h | h
            · omega
            · exact h
          obtain ⟨rfl, rfl, rfl⟩ := hio2
          refine zg11 ?_
          exact nx2 0 ([48 + m]) (.inr ⟨rfl, rfl⟩) (hm := h0)
    · have hao2 : a = 0 ∧ o = [48 + m] := by
        rcases hao with h | h
        · rw [← h.1] at h14; omega
        · exact h
      obtain ⟨rfl, rfl⟩ := hao2
      refine zg9 ?_
      refine st_alloc rfl rfl (.makeM (n := 1) (m := 1) u8E Tryz.underlying137 Z5 T5 B5 ml ml om om om) ?_
      refine zg10 ?_
      refine lp2 (fun (i : Nat) (w : List Nat) L => ((((St.mk L.slot (hp [(39, ⟨1, [48 + m].map u8L, true⟩), (45, ⟨1, w.map u8L, true⟩)])).put (some 3) (.ref 39 1 0 1)).put (some 7) (.ref 45 1 0 1)).put (some 8) (nI64 i))) (fun i w => (i = 0 ∧ w = [0]) ∨ (i = 1 ∧ w = [48 + m])) (fun i w => 1 - i) 0 ([0]) (.inl ⟨rfl, rfl⟩) ?_
      rintro i w L3 hiw
      refine zg9 ?_
      refine wl_if rfl (fun h49r h49 => ?_) (fun h49r h49 => ?_)
      · have hiw2 : i = 0 ∧ w = [0] := by
          rcases hiw with h | h
          · exact h
          · omega
        obtain ⟨rfl, rfl⟩ := hiw2
        have ei0 : ((1 : Int) - 1 - 0).toNat = 0 := rfl
        refine zg13 ?_
        refine st_pure rfl ix137 ?_
        refine st_pure rfl ld5 ?_
        refine st_pure rfl ix137 ?_
        refine st_store rfl (by exact .storeM u8E rfl rfl rfl T5 om) ?_
        refine zg9 ?_
        exact nx2 1 ([48 + m]) (.inr ⟨rfl, rfl⟩)
      · have hiw2 : i = 1 ∧ w = [48 + m] := by
          rcases hiw with h | h
          · omega
          · exact h
        obtain ⟨rfl, rfl⟩ := hiw2
        refine zg8 ?_
        refine st_pure rfl (.strR (ns := [48 + m]) Tryz.underlying137 Tryz.underlying5 Tryz.underlying9 rfl rfl rfl rfl (by simp)) ?_
        refine zg4 ?_
        exact ret1 rfl (.pure rfl)
namespace H_c_FText
theorem zSm {p q : Prop} (k : q) (e : p = q := by simp only [e1, e2, e3, e4, p1, p2, p3, q1, q2, q3, l1, t0, t1, r1, r2, r3, r4, Nat.zero_add, Nat.reduceMul, Nat.reduceAdd, b1, b2, b3, b4, b5, b6, i1, i2, i3, i4, i5, i6, Nat.reduceBEq, edd]; exact rfl) : p := e.mpr k
end H_c_FText
open H_c_FText in
theorem c_FText (q : Rat) (h0 : 0 < q) (hn : q.num.natAbs < 10) (hd : q.den < 10) : CallP Tryz.prog 87 [ratL q] (.v (.string (if q.den = 1 then ⟨#[UInt8.ofNat (48 + q.num.natAbs)]⟩ else ⟨#[UInt8.ofNat (48 + q.num.natAbs), 47, UInt8.ofNat (48 + q.den)]⟩))) := by
  have hq0 : 0 < q.num.natAbs := by have := pos_iff.1 h0; omega
  have hnn : ¬ q < 0 := by grind
  have hdp := q.den_pos
  refine fnP Tryz.func87 ?_
  have edd : True := trivial
  refine zg10 ?_
  refine cp am1 (c_FText1 _ (by omega) (by omega)) ?_
  refine zg10 ?_
  refine wl_if rfl (fun h8r h8 => ?_) (fun h8r h8 => ?_)
  · exact absurd h8 hnn
  · refine zg11 ?_
    refine wl_if rfl (fun h14r h14 => ?_) (fun h14r h14 => ?_)
    · have edd := denN_pos (q := q) (by omega)
      have hd1 : q.den ≠ 1 := fun e => by have := denN_eq q; rw [if_pos e] at this; omega
      refine zg4 ?_
      simp only [edd]
      refine cp am1 (c_FText1 _ (by omega) (by omega)) ?_
      refine st_pure rfl (.addS rfl rfl (Nat.le_of_ble_eq_true rfl)) ?_
      refine st_pure rfl (.addS rfl rfl (Nat.le_of_ble_eq_true rfl)) ?_
      refine zg10 ?_
      rw [if_neg hd1]
      exact ret1 rfl (.pure rfl)
    · have hd1 := denN_zero (q := q) (by omega)
      refine zg9 ?_
      rw [if_pos hd1]
      exact ret1 rfl (.pure rfl)
end Go.Proofs.YthhdcfhaldcheaaGreat
end
section
set_option linter.unusedVariables false
set_option linter.unusedSimpArgs false
set_option maxHeartbeats 8000000
set_option maxRecDepth 100000
attribute [local irreducible] Go.Lg.opsL Go.Lg.wpL Go.Lg.thenL Go.Lg.blockL
namespace Go.Proofs.YthhdcfhaldcheaaGreat
open Go.Lg
/-- the sizes that a halving takes -/
def HS (p : List Rat) (t : Rat) : Prop := ∃ cc, rl (1 - t) + rl t + 1 ≤ cc ∧ cc ≤ 1073741824 ∧ ∀ x ∈ p, (rl x + cc) * 2 ^ p.length ≤ 1073741824
theorem c_halvesH (p : List Rat) (t : Rat) (h : HS p t) : CallP Tryz.prog 144 [.list 3 (p.map ratL), ratL t] (.tup [.list 3 ((loP p t).map ratL), .list 3 ((hiP p t).map ratL)]) := by
  obtain ⟨cc, h1, h2, h3⟩ := h
  exact c_halves p t cc h1 h2 h3
theorem HS.len {p : List Rat} {t : Rat} (h : HS p t) : p.length ≤ 30 := by
  obtain ⟨cc, h1, h2, h3⟩ := h
  exact sz_len (Nat.le_trans (Nat.le_add_left 1 _) h1) h3
theorem HS.rl {p : List Rat} {t : Rat} (h : HS p t) : rl t ≤ 1073741824 ∧ ∀ x ∈ p, Go.Lg.rl x ≤ 1073741824 := by
  obtain ⟨cc, h1, h2, h3⟩ := h
  exact ⟨by omega, fun x hx => by have := sz_rl (h3 x hx); omega⟩
def evP (p : List Rat) (t : Rat) : Rat := (loP p t).getD (p.length - 1) 0
theorem set_getD (o : List Rat) (i x : Nat) (v : Rat) (hi : i < o.length) : (o.set i v).getD x 0 = if x = i then v else o.getD x 0 := by
  rw [List.getD_eq_getElem?_getD, List.getD_eq_getElem?_getD, List.getElem?_set]
  by_cases h : i = x
  · subst h; simp [hi]
  · rw [if_neg h, if_neg (fun e => h e.symm)]
def fiI (p : List Rat) (g : Rat → Bool) : Int := if p.any g then ((p.findIdx g : Nat) : Int) else -1
theorem fi_any (p : List Rat) (g : Rat → Bool) : decide (fiI p g ≥ 0) = p.any g := by
  unfold fiI; cases h : p.any g <;> simp
theorem fi_hit {p : List Rat} {g : Rat → Bool} {k : Nat} (hk : k < p.length) (h : ∀ x, x < k → g (p.getD x 0) = false) (hg : g (p.getD k 0) = true) : fiI p g = (k : Int) := by
  have e : p.findIdx g = k := by
    have hpk : p.getD k 0 = p[k] := by rw [List.getD_eq_getElem?_getD, List.getElem?_eq_getElem hk]; rfl
    apply Nat.le_antisymm
    · rcases Nat.lt_or_ge k (p.findIdx g) with h1 | h1
      · have := List.not_of_lt_findIdx h1
        rw [← hpk, hg] at this; cases this
      · exact h1
    · rcases Nat.lt_or_ge (p.findIdx g) k with h1 | h1
      · have h2 := List.findIdx_getElem (p := g) (xs := p) (w := by omega)
        have h3 := h _ h1
        rw [List.getD_eq_getElem?_getD, List.getElem?_eq_getElem (by omega)] at h3
        simp at h3; rw [h3] at h2; cases h2
      · exact h1
  have ha : p.any g = true := List.any_eq_true.2 ⟨p.getD k 0, getD_mem hk, hg⟩
  rw [fiI, if_pos ha, e]
theorem fi_miss {p : List Rat} {g : Rat → Bool} (h : ∀ x, x < p.length → g (p.getD x 0) = false) : fiI p g = -1 := by
  have ha : p.any g = false := by
    rw [List.any_eq_false]
    intro x hx
    obtain ⟨i, hi, rfl⟩ := mem_getD hx
    rw [h i hi]; decide
  rw [fiI, ha]; rfl
namespace H_c_BEval
theorem zSm {p q : Prop} (k : q) (e : p = q := by simp only [e1, e2, e3, e4, p1, p2, p3, q1, q2, q3, l1, t0, t1, r1, r2, r3, r4, Nat.zero_add, Nat.reduceMul, Nat.reduceAdd, b1, b2, b3, b4, b5, b6, i1, i2, i3, i4, i5, i6, Nat.reduceBEq, dfq, ej, hll]; exact rfl) : p := e.mpr k
end H_c_BEval
open H_c_BEval in
theorem c_BEval (p : List Rat) (t : Rat) (h : HS p t) (hp0 : 0 < p.length) : CallP Tryz.prog 92 [.list 3 (p.map ratL), ratL t] (ratL (evP p t)) := by
  have hll := loP_len p t
  have hlen := h.len
  have hj : (((p.length : Nat) : Int) - 1).toNat = p.length - 1 := by omega
  refine fnP Tryz.func92 ?_
  have ej : True := trivial
  refine zg14 ?_
  refine wl_if rfl (fun h9r h9 => ?_) (fun h9r h9 => ?_)
  · omega
  · refine zg6 ?_
    refine cp am2 (c_halvesH _ _ (by assumption)) ?_
    refine zg12 ?_
    refine st_pure rfl (.bin rfl rfl (sub1N (by omega) (by omega))) ?_
    refine zg6 ?_
    rw [evP]
    exact retC [] rfl rfl rfl (ratE.csize _) (ratL_all _) T33 (.pure (ratE.pure _))
namespace H_c_IndexFunc
theorem zSm {p q : Prop} (k : q) (e : p = q := by simp only [e1, e2, e3, e4, p1, p2, p3, q1, q2, q3, l1, t0, t1, r1, r2, r3, r4, Nat.zero_add, Nat.reduceMul, Nat.reduceAdd, b1, b2, b3, b4, b5, b6, i1, i2, i3, i4, i5, i6, Nat.reduceBEq, dfq]; exact rfl) : p := e.mpr k
end H_c_IndexFunc
open H_c_IndexFunc in
theorem c_IndexFunc (p : List Rat) (f : Nat) (g : Rat → Bool) (hl : p.length ≤ 1048576) (hf : ∀ x ∈ p, CallP Tryz.prog f [ratL x] (bL (g x))) : CallP Tryz.prog 171 [.list 3 (p.map ratL), .clo f []] (iL (fiI p g)) := by
  refine fnP Tryz.func171 ?_
  refine zg14 ?_
  refine lp1 (fun (k : Nat) L => (((((St.mk L.slot (hp [])).put (some 0) (.list 3 (p.map ratL))).put (some 1) (.clo f [])).put (some 7) (nI64 p.length)).put (some 8) (nI64 k))) (fun k => k ≤ p.length ∧ ∀ x, x < k → g (p.getD x 0) = false) (fun k => p.length - k) 0 ⟨Nat.zero_le _, fun x hx => by omega⟩ ?_
  rintro k L1 ⟨hk, hg⟩
  refine zg6 ?_
  refine wl_if rfl (fun h9r h9 => ?_) (fun h9r h9 => ?_)
  · have hk2 : k < p.length := by omega
    have hfk := hf _ (getD_mem hk2)
    refine zg17 ?_
    simp only [t1, dfq]
    refine st_opc [] rfl rfl (.clo (f := f) (cap := []) (args := [ratL (p.getD k 0)]) rfl (.cons im0 .nil) ⟨rfl, fun _ h => by cases h⟩ hfk.1 (by decide) (fun _ h => by cases h)) (hfk.2 _) ?_
    refine zg2 ?_
    refine wl_if rfl (fun h16r h16 => ?_) (fun h16r h16 => ?_)
    · refine zg12 ?_
      rw [fi_hit hk2 hg h16r]
      exact ret1 rfl (by first | exact .pure rfl | exact .pure (limL_pure _) | exact .pure (magL_pure _) | exact .pure (ratE.pure _) | exact .pure (pure_lst u32E _ _) | exact .pure (pure_lst ratE _ _))
    · refine zg8 ?_
      exact nx1 (k + 1) ⟨by omega, fun x hx => by
        rcases Nat.lt_or_ge x k with h | h
        · exact hg x h
        · rw [show x = k by omega]; exact h16r⟩
  · obtain rfl : k = p.length := by omega
    refine zg11 ?_
    rw [fi_miss hg]
    exact ret1 rfl (by first | exact .pure rfl | exact .pure (limL_pure _) | exact .pure (magL_pure _) | exact .pure (ratE.pure _) | exact .pure (pure_lst u32E _ _) | exact .pure (pure_lst ratE _ _))
open H0 in
theorem c_ContainsFunc (p : List Rat) (f : Nat) (g : Rat → Bool) (hl : p.length ≤ 1048576) (hf : ∀ x ∈ p, CallP Tryz.prog f [ratL x] (bL (g x))) : CallP Tryz.prog 136 [.list 3 (p.map ratL), .clo f []] (bL (p.any g)) := by
  refine fnP Tryz.func136 ?_
  refine zg9 ?_
  refine cp am2 (c_IndexFunc p f g hl hf) ?_
  refine zg5 ?_
  rw [← fi_any]
  exact ret1 rfl (by first | exact .pure rfl | exact .pure (limL_pure _) | exact .pure (magL_pure _) | exact .pure (ratE.pure _) | exact .pure (pure_lst u32E _ _) | exact .pure (pure_lst ratE _ _))
end Go.Proofs.YthhdcfhaldcheaaGreat
end
section
set_option linter.unusedVariables false
set_option linter.unusedSimpArgs false
set_option maxHeartbeats 8000000
set_option maxRecDepth 100000
attribute [local irreducible] Go.Lg.opsL Go.Lg.wpL Go.Lg.thenL Go.Lg.blockL
namespace Go.Proofs.YthhdcfhaldcheaaGreat
open Go.Lg
end Go.Proofs.YthhdcfhaldcheaaGreat
namespace Go.Lg
end Go.Lg
namespace Go.Proofs.YthhdcfhaldcheaaGreat
open Go.Lg
theorem half_eq : (((1 : Int) : Rat) / ((2 : Int) : Rat)) = 1 / 2 := rfl
theorem c_tx14 : CallP Tryz.prog 87 [ratL (1 / 4)] (.v (.string ⟨#[49, 47, 52]⟩)) := by
  have := c_FText (1 / 4) (by decide +kernel) (by decide +kernel) (by decide +kernel)
  rw [show (1 / 4 : Rat).den = 4 by decide +kernel, show (1 / 4 : Rat).num.natAbs = 1 by decide +kernel] at this
  exact this
theorem tz2 : (2 : Int).toNat = 2 := rfl
end Go.Proofs.YthhdcfhaldcheaaGreat
end
section
set_option linter.unusedVariables false
set_option linter.unusedSimpArgs false
set_option maxHeartbeats 8000000
set_option maxRecDepth 100000
attribute [local irreducible] Go.Lg.opsL Go.Lg.wpL Go.Lg.thenL Go.Lg.blockL
namespace Go.Proofs.YthhdcfhaldcheaaGreat
open Go.Lg
def chs : Nat → Nat → Nat
  | _, 0 => 1
  | 0, _ + 1 => 0
  | n + 1, k + 1 => chs n k + chs n (k + 1)
theorem chs_gt : ∀ {n k : Nat}, n < k → chs n k = 0
  | 0, k + 1, _ => rfl
  | n + 1, k + 1, h => by rw [chs, chs_gt (by omega), chs_gt (by omega)]
theorem chs_self : ∀ n, chs n n = 1
  | 0 => rfl
  | n + 1 => by rw [chs, chs_self n, chs_gt (by omega)]
theorem chs_zero (n : Nat) : chs n 0 = 1 := by cases n <;> rfl
theorem chs_le : ∀ n k, chs n k ≤ 2 ^ n
  | n, 0 => by rw [chs_zero]; exact Nat.pow_pos (by omega)
  | 0, k + 1 => by simp [chs]
  | n + 1, k + 1 => by
      have h1 := chs_le n k
      have h2 := chs_le n (k + 1)
      rw [chs, Nat.pow_succ]; omega
theorem chs_pos : ∀ {n k : Nat}, k ≤ n → 0 < chs n k
  | n, 0, _ => by rw [chs_zero]; omega
  | n + 1, k + 1, h => by have := chs_pos (n := n) (k := k) (by omega); rw [chs]; omega
theorem chs_40 {n : Nat} (k : Nat) (h : n ≤ 40) : chs n k ≤ 1099511627776 := Nat.le_trans (chs_le n k) (Nat.pow_le_pow_right (n := 2) (by omega) h)
def rowI (n : Nat) : List Int := (List.range (n + 1)).map fun x => (chs n x : Int)
def chR (n : Nat) : List Rat := (List.range (n + 1)).map fun x => ((chs n x : Int) : Rat)
theorem rowI_len (n : Nat) : (rowI n).length = n + 1 := by simp [rowI]
theorem chR_len (n : Nat) : (chR n).length = n + 1 := by simp [chR]
theorem rowI_get {n x : Nat} (h : x ≤ n) : (rowI n).getD x 0 = (chs n x : Int) := by
  rw [List.getD_eq_getElem?_getD, List.getElem?_eq_getElem (by rw [rowI_len]; omega)]; simp [rowI]
theorem chR_get {n x : Nat} (h : x ≤ n) : (chR n).getD x 0 = ((chs n x : Int) : Rat) := by
  rw [List.getD_eq_getElem?_getD, List.getElem?_eq_getElem (by rw [chR_len]; omega)]; simp [chR]
theorem extI {p q : List Int} (hl : p.length = q.length) (h : ∀ i, i < p.length → p.getD i 0 = q.getD i 0) : p = q := by
  apply List.ext_getElem hl
  intro i h1 h2
  have := h i h1
  rw [List.getD_eq_getElem?_getD, List.getD_eq_getElem?_getD, List.getElem?_eq_getElem h1, List.getElem?_eq_getElem h2] at this
  exact this
theorem set_getI (o : List Int) (i x : Nat) (v : Int) (hi : i < o.length) : (o.set i v).getD x 0 = if x = i then v else o.getD x 0 := by
  rw [List.getD_eq_getElem?_getD, List.getD_eq_getElem?_getD, List.getElem?_set]
  by_cases h : i = x
  · subst h; simp [hi]
  · rw [if_neg h, if_neg (fun e => h e.symm)]
/-- the row in the middle of a step -/
def PasC (k i : Nat) (o : List Int) : Prop := o.length = k + 2 ∧ ∀ x, x < k + 2 → o.getD x 0 = if i < x ∧ x ≤ k then (chs (k + 1) x : Int) else if x ≤ k then (chs k x : Int) else 1
theorem pas_init (k : Nat) : PasC k k (rowI k ++ [1]) := by
  refine ⟨by simp [rowI_len], fun x hx => ?_⟩
  rw [if_neg (by omega)]
  by_cases h : x ≤ k
  · rw [if_pos h, getD_app1 _ _ _ (by rw [rowI_len]; omega), rowI_get h]
  · rw [if_neg h, getD_app2 _ _ _ (by rw [rowI_len]; omega), rowI_len, show x - (k + 1) = 0 by omega]; rfl
theorem pas_step {k i : Nat} {o : List Int} (h : PasC k (i + 1) o) (hi : i + 1 ≤ k) : PasC k i (o.set (i + 1) (o.getD (i + 1) 0 + o.getD i 0)) := by
  obtain ⟨h1, h2⟩ := h
  refine ⟨by simp [h1], fun x hx => ?_⟩
  rw [set_getI _ _ _ _ (by omega)]
  by_cases hxi : x = i + 1
  · subst hxi
    rw [if_pos rfl, if_pos ⟨by omega, hi⟩, h2 _ (by omega), h2 _ (by omega), if_neg (by omega), if_pos (by omega), if_neg (by omega), if_pos (by omega), chs]
    simp; omega
  · rw [if_neg hxi, h2 x hx]
    by_cases h3 : i + 1 < x ∧ x ≤ k
    · rw [if_pos h3, if_pos ⟨by omega, h3.2⟩]
    · rw [if_neg h3, if_neg (show ¬ (i < x ∧ x ≤ k) by omega)]
theorem pas_end {k : Nat} {o : List Int} (h : PasC k 0 o) : o = rowI (k + 1) := by
  obtain ⟨h1, h2⟩ := h
  refine extI (by rw [rowI_len, h1]) (fun x hx => ?_)
  rw [h2 x (by omega), rowI_get (by omega)]
  by_cases h3 : 0 < x ∧ x ≤ k
  · rw [if_pos h3]
  · rw [if_neg h3]
    by_cases h4 : x ≤ k
    · obtain rfl : x = 0 := by omega
      rw [if_pos h4, chs_zero, chs_zero]
    · obtain rfl : x = k + 1 := by omega
      rw [if_neg h4, chs_self]; rfl
theorem pas_bd {k i : Nat} {o : List Int} (h : PasC k i o) (hk : k ≤ 39) {x : Nat} (hx : x < k + 2) : 0 ≤ o.getD x 0 ∧ o.getD x 0 ≤ 1099511627776 := by
  rw [h.2 x hx]
  have h1 := chs_40 (n := k + 1) x (by omega)
  have h2 := chs_40 (n := k) x (by omega)
  split
  · omega
  · split <;> omega
theorem chR_rl {n : Nat} (hn : n ≤ 40) : ∀ x ∈ chR n, rl x ≤ 2 := by
  intro x hx
  simp only [chR, List.mem_map] at hx
  obtain ⟨k, _, rfl⟩ := hx
  have h := chs_40 k hn
  rw [← qv_int]
  have := rl_qv (k := 2) (decide ((chs n k : Int) < 0)) (n := (chs n k : Int).natAbs) (d := 1) (by omega) (by decide)
  omega
theorem set_takeR {o p : List Rat} {k : Nat} {v : Rat} (hk : k < p.length) (hol : o.length = p.length) (ht : o.take k = p.take k) (hv : v = p.getD k 0) : (o.set k v).take (k + 1) = p.take (k + 1) := by subst hv; exact cp_take hk hol ht
theorem rtake (n : Nat) (f : Int → LV) : ((rowI n).map f).take (n + 1) = (rowI n).map f := by rw [List.take_of_length_le (by simp [rowI_len])]
theorem ge_zero {p : List Rat} {k : Nat} (h : p.length ≤ k) : p.getD k 0 = 0 := by
  rw [List.getD_eq_getElem?_getD, List.getElem?_eq_none h]; rfl
theorem ext0 {a b : List Rat} (h : a.length = b.length) (h2 : ∀ k, k < a.length → a.getD k 0 = b.getD k 0) : a = b := by
  refine List.ext_getElem h fun k h1 h3 => ?_
  have := h2 k h1
  rw [List.getD_eq_getElem?_getD, List.getD_eq_getElem?_getD, List.getElem?_eq_getElem h1, List.getElem?_eq_getElem h3] at this
  exact this
theorem set_get0 (o : List Rat) (i : Nat) (v : Rat) (k : Nat) (h : i < o.length) : (o.set i v).getD k 0 = if i = k then v else o.getD k 0 := by
  rw [List.getD_eq_getElem?_getD, List.getD_eq_getElem?_getD, List.getElem?_set]
  split
  · rename_i e; subst e; first | rw [if_pos h]; rfl | rfl
  · rfl
theorem getD_rl {o : List Rat} {S : Nat} (h1 : 1 ≤ S) (h : ∀ x ∈ o, rl x ≤ S) (k : Nat) : rl (o.getD k 0) ≤ S := by
  rcases Nat.lt_or_ge k o.length with hk | hk
  · exact h _ (getD_mem hk)
  · rw [List.getD_eq_getElem?_getD, List.getElem?_eq_none hk]; show rl 0 ≤ S; rw [show rl 0 = 1 from rfl]; exact h1
theorem set_rl {o : List Rat} {S : Nat} {i : Nat} {v : Rat} (h : ∀ x ∈ o, rl x ≤ S) (hv : rl v ≤ S) : ∀ x ∈ o.set i v, rl x ≤ S := fun x hx => by
  rcases List.mem_or_eq_of_mem_set hx with h1 | h1
  · exact h x h1
  · rw [h1]; exact hv
end Go.Proofs.YthhdcfhaldcheaaGreat
end
section
set_option linter.unusedVariables false
set_option linter.unusedSimpArgs false
set_option maxHeartbeats 8000000
set_option maxRecDepth 100000
attribute [local irreducible] Go.Lg.opsL Go.Lg.wpL Go.Lg.thenL Go.Lg.blockL
namespace Go.Proofs.YthhdcfhaldcheaaGreat
open Go.Lg
theorem add64N {a b : Nat} (h : a + b ≤ 9223372036854775807) : binI .add .i64 (a : Nat) (b : Nat) = some (.int .i64 ((a + b : Nat) : Int)) := by
  rw [add64 (by omega) (by omega)]; congr 2
theorem add1N {a : Nat} (h : a + 1 ≤ 9223372036854775807) : binI .add .i64 (a : Nat) 1 = some (.int .i64 ((a + 1 : Nat) : Int)) := by
  rw [add64 (by omega) (by omega)]; congr 2
theorem set_get_self {o : List Rat} {i : Nat} {v : Rat} (h : i < o.length) : (o.set i v).getD i 0 = v := by rw [set_getD _ _ _ _ h, if_pos rfl]
def rowM (x : Rat) (i : Nat) (y : List Rat) (q : List Rat) (o : List Rat) : Nat → List Rat
  | 0 => o
  | j + 1 => (rowM x i y q o j).set (i + j) ((rowM x i y q o j).getD (i + j) 0 + x * (y.getD j 0 * q.getD j 0))
def allM (p q : List Rat) : Nat → List Rat
  | 0 => List.replicate (p.length - 1 + (q.length - 1) + 1) 0
  | i + 1 => rowM ((chR (p.length - 1)).getD i 0 * p.getD i 0) i (chR (q.length - 1)) q (allM p q i) q.length
def mulP (p q : List Rat) : List Rat := (List.range (p.length - 1 + (q.length - 1) + 1)).map fun k => (allM p q p.length).getD k 0 / (chR (p.length - 1 + (q.length - 1))).getD k 0
theorem rowM_len (x : Rat) (i : Nat) (y q o : List Rat) : ∀ j, (rowM x i y q o j).length = o.length
  | 0 => rfl
  | j + 1 => by simp [rowM, rowM_len x i y q o j]
theorem allM_len (p q : List Rat) : ∀ i, (allM p q i).length = p.length - 1 + (q.length - 1) + 1
  | 0 => by simp [allM]
  | i + 1 => by rw [allM, rowM_len, allM_len p q i]
theorem mulP_len (p q : List Rat) : (mulP p q).length = p.length - 1 + (q.length - 1) + 1 := by simp [mulP]
theorem mulP_get {p q : List Rat} {k : Nat} (h : k < p.length - 1 + (q.length - 1) + 1) : (mulP p q).getD k 0 = (allM p q p.length).getD k 0 / (chR (p.length - 1 + (q.length - 1))).getD k 0 := by
  rw [List.getD_eq_getElem?_getD, List.getElem?_eq_getElem (by rw [mulP_len]; exact h)]; simp [mulP]
theorem rowM_rl {x : Rat} {i R S : Nat} {y q o : List Rat} (hS : 1 ≤ S) (ho : ∀ v ∈ o, rl v ≤ S) (hx : rl x ≤ R + 2) (hy : ∀ v ∈ y, rl v ≤ 2) (hq : ∀ v ∈ q, rl v ≤ R) (hR : 1 ≤ R) : ∀ j, ∀ v ∈ rowM x i y q o j, rl v ≤ S + j * (2 * R + 5)
  | 0, v, hv => by have := ho v hv; omega
  | j + 1, v, hv => by
      have ih := rowM_rl (i := i) hS ho hx hy hq hR j
      refine set_rl (S := S + (j + 1) * (2 * R + 5)) (fun w hw => ?_) ?_ v hv
      · have := ih w hw; rw [Nat.succ_mul]; omega
      · have h1 := getD_rl (by omega) ih (i + j)
        have h2 := getD_rl (by omega) hy j
        have h3 := getD_rl (by omega) hq j
        have e1 := rl_mul (y.getD j 0) (q.getD j 0)
        have e2 := rl_mul x (y.getD j 0 * q.getD j 0)
        have e3 := rl_add ((rowM x i y q o j).getD (i + j) 0) (x * (y.getD j 0 * q.getD j 0))
        rw [Nat.succ_mul]; omega
theorem allM_rl {p q : List Rat} {R : Nat} (hpl : p.length ≤ 41) (hql : q.length ≤ 41) (hR : 1 ≤ R) (hp' : ∀ v ∈ p, rl v ≤ R) (hq' : ∀ v ∈ q, rl v ≤ R) : ∀ i, ∀ v ∈ allM p q i, rl v ≤ 1 + i * (q.length * (2 * R + 5))
  | 0, v, hv => by
      simp only [allM, List.mem_replicate] at hv
      rw [hv.2]; show rl 0 ≤ _; rw [show rl 0 = 1 from rfl]; omega
  | i + 1, v, hv => by
      have ih := allM_rl hpl hql hR hp' hq' i
      have hx : rl ((chR (p.length - 1)).getD i 0 * p.getD i 0) ≤ R + 2 := by
        have h1 := getD_rl (by omega) (chR_rl (n := p.length - 1) (by omega)) i
        have h2 := getD_rl hR hp' i
        have := rl_mul ((chR (p.length - 1)).getD i 0) (p.getD i 0)
        omega
      have := rowM_rl (by omega) ih hx (chR_rl (n := q.length - 1) (by omega)) hq' hR q.length v hv
      rw [Nat.succ_mul]; omega
theorem repl_get (n x : Nat) : (List.replicate n (0 : Rat)).getD x 0 = 0 := by
  rw [List.getD_eq_getElem?_getD, List.getElem?_replicate]; split <;> rfl
end Go.Proofs.YthhdcfhaldcheaaGreat
end
section
set_option linter.unusedVariables false
set_option linter.unusedSimpArgs false
set_option maxHeartbeats 8000000
set_option maxRecDepth 100000
attribute [local irreducible] Go.Lg.opsL Go.Lg.wpL Go.Lg.thenL Go.Lg.blockL
namespace Go.Proofs.YthhdcfhaldcheaaGreat
open Go.Lg
def difP (p : List Rat) : List Rat := if p.length < 2 then [0] else (List.range (p.length - 1)).map fun i => (((p.length - 1 : Nat) : Int) : Rat) * (p.getD (i + 1) 0 - p.getD i 0)
theorem difP_len {p : List Rat} : (difP p).length = if p.length < 2 then 1 else p.length - 1 := by unfold difP; split <;> simp
theorem difP_get {p : List Rat} {i : Nat} (h : i + 1 < p.length) : (difP p).getD i 0 = (((p.length - 1 : Nat) : Int) : Rat) * (p.getD (i + 1) 0 - p.getD i 0) := by
  unfold difP
  rw [if_neg (by omega), List.getD_eq_getElem?_getD, List.getElem?_eq_getElem (by simp; omega)]; simp
theorem difP_rl {p : List Rat} {R : Nat} (hR : 1 ≤ R) (hl : p.length ≤ 1000) (h : ∀ x ∈ p, rl x ≤ R) : ∀ x ∈ difP p, rl x ≤ 2 * R + 4 := by
  intro x hx
  obtain ⟨k, hk, rfl⟩ := mem_getD hx
  rw [difP_len] at hk
  by_cases h2 : p.length < 2
  · rw [if_pos h2] at hk
    have : difP p = [0] := by unfold difP; rw [if_pos h2]
    rw [this]
    obtain rfl : k = 0 := by omega
    show rl 0 ≤ _
    rw [show rl 0 = 1 from rfl]; omega
  · rw [if_neg h2] at hk
    rw [difP_get (by omega)]
    have h3 := rl_int (n := ((p.length - 1 : Nat) : Int)) (by omega)
    have h4 := h _ (getD_mem (i := k) (by omega))
    have h5 := h _ (getD_mem (i := k + 1) (by omega))
    have h6 := rl_sub (p.getD (k + 1) 0) (p.getD k 0)
    have h7 := rl_mul (((p.length - 1 : Nat) : Int) : Rat) (p.getD (k + 1) 0 - p.getD k 0)
    omega
namespace H_c_Diff
theorem zSm {p q : Prop} (k : q) (e : p = q := by simp only [e1, e2, e3, e4, p1, p2, p3, q1, q2, q3, l1, t0, t1, r1, r2, r3, r4, Nat.zero_add, Nat.reduceMul, Nat.reduceAdd, b1, b2, b3, b4, b5, b6, i1, i2, i3, i4, i5, i6, Nat.reduceBEq, dfq, List.length_set, kills_map ratE, ratL_kill, spL_kill, LV.kill, kills]; exact rfl) : p := e.mpr k
end H_c_Diff
open H_c_Diff in
theorem c_Diff (p : List Rat) (hl : p.length ≤ 1000) (hpr : ∀ x ∈ p, rl x ≤ 1073741824) : CallP Tryz.prog 40 [.list 3 (p.map ratL)] (.list 3 ((difP p).map ratL)) := by
  refine fnP Tryz.func40 ?_
  refine zg13 ?_
  refine wl_if rfl (fun h8r h8 => ?_) (fun h8r h8 => ?_)
  · have hE : difP p = [0] := by unfold difP; rw [if_pos (by omega)]
    refine zg2 ?_
    refine st_pure rfl (.build0 SL33 Z33a) ?_
    refine zg6 ?_
    rw [hE]
    exact ret1f [10] rfl rfl (imm_refm ratE rfl rfl rfl)
  · have hdl : (difP p).length = p.length - 1 := by rw [difP_len, if_neg (by omega)]
    refine zg6 ?_
    refine st_pure rfl (.bin rfl rfl (sub1N (by omega) (by omega))) ?_
    refine cp am1 (c_RInt ((p.length - 1 : Nat) : Int) (by omega) (by omega)) ?_
    refine zg8 ?_
    refine st_pure rfl (.bin rfl rfl (sub1N (by omega) (by omega))) ?_
    refine st_alloc rfl rfl (.mkE (n := (p.length - 1)) (m := (p.length - 1)) ml ml om om om) ?_
    refine zg12 ?_
    refine lp2 (fun (i : Nat) (w : List Rat) L => (((((((St.mk L.slot (hp [(3, ⟨3, [ratL (((p.length - 1 : Nat) : Int) : Rat)], true⟩), (18, ⟨3, w.map ratL, true⟩)])).put (some 0) (.list 3 (p.map ratL))).put (some 3) (.eptr 3 3 0 0)).put (some 4) (.ref 18 3 0 (p.length - 1))).put (some 19) (.ref 18 3 0 (p.length - 1))).put (some 20) (nI64 (p.length - 1))).put (some 21) (nI64 i))) (fun i w => i ≤ p.length - 1 ∧ w.length = p.length - 1 ∧ w.take i = (difP p).take i) (fun i w => p.length - 1 - i) 0 (List.replicate (p.length - 1) 0) ⟨Nat.zero_le _, by simp, rfl⟩ ?_
    rintro i w L1 ⟨hi, hwl, hwt⟩
    refine zg6 ?_
    refine wl_if rfl (fun h22r h22 => ?_) (fun h22r h22 => ?_)
    · have hi2 : i < p.length - 1 := by omega
      have hr1 := hpr _ (getD_mem (i := i) (by omega))
      have hr2 := hpr _ (getD_mem (i := i + 1) (by omega))
      have hr3 := rl_sub (p.getD (i + 1) 0) (p.getD i 0)
      have hr4 := rl_int (n := ((p.length - 1 : Nat) : Int)) (by omega)
      refine zg10 ?_
      refine wl_regD 15 (by decide +kernel) ?_
      refine zg5 ?_
      refine st_pure rfl (.bin rfl rfl (add1N (by omega))) ?_
      refine zg6 ?_
      refine cp am2 (c_RSub (p.getD (i + 1) 0) (p.getD i 0) (by omega)) ?_
      refine cp am2 (c_RMul (((p.length - 1 : Nat) : Int) : Rat) (p.getD (i + 1) 0 - p.getD i 0) (by omega)) ?_
      refine zg10 ?_
      exact nx2 (i + 1) (w.set i ((((p.length - 1 : Nat) : Int) : Rat) * (p.getD (i + 1) 0 - p.getD i 0))) ⟨by omega, by simp [hwl], set_takeR (by omega) (by omega) hwt (difP_get (by omega)).symm⟩
    · obtain rfl : i = p.length - 1 := by omega
      have hE : w = difP p := by
        rw [List.take_of_length_le (by omega), List.take_of_length_le (by omega)] at hwt
        exact hwt
      subst hE
      refine zg12 ?_
      exact ret1f [18] rfl rfl (imm_refm ratE rfl rfl hdl.symm)
end Go.Proofs.YthhdcfhaldcheaaGreat
end
section
set_option linter.unusedVariables false
set_option linter.unusedSimpArgs false
set_option maxHeartbeats 8000000
set_option maxRecDepth 100000
attribute [local irreducible] Go.Lg.opsL Go.Lg.wpL Go.Lg.thenL Go.Lg.blockL
namespace Go.Proofs.YthhdcfhaldcheaaGreat
open Go.Lg
end Go.Proofs.YthhdcfhaldcheaaGreat
namespace Go.Lg
/-- a block of one value, told in another way -/
theorem Weak.cell {L : St} (b : Nat) {sz : Nat} {x y : LV} {mt : Bool} (hb : L.heap b = some ⟨sz, [x], mt⟩) (h : ∀ Z μ w cs, Rep Z μ w x cs → Rep Z μ w y cs) : Weak L (L.setB b (some ⟨sz, [y], mt⟩)) := by
  rintro n W X Z0 a w ⟨hdf, hsz, μ, Z, hc, hr⟩
  refine ⟨hdf, hsz, μ, Z, ?_, hr⟩
  have hs : ∀ c, (L.setB b (some ⟨sz, [y], mt⟩)).heap c = if c = b then some ⟨sz, [y], mt⟩ else L.heap c := fun c => rfl
  refine ⟨hc.keep, hc.zone, hc.zsup, hc.zsub, hc.inj, hc.own, hc.x0, hc.xlt, hc.x1, fun c id blk g1 g2 => ?_, fun c id blk g1 g2 => ?_, fun c id g1 => ?_⟩
  · rw [hs] at g2
    split at g2
    · rename_i e; subst e; cases g2; exact hc.mutz c id ⟨sz, [x], mt⟩ g1 hb
    · exact hc.mutz c id blk g1 g2
  · rw [hs] at g2
    split at g2
    · rename_i e; subst e; cases g2; exact hc.frz c id ⟨sz, [x], mt⟩ g1 hb
    · exact hc.frz c id blk g1 g2
  · obtain ⟨blk, k1, k2⟩ := hc.heap c id g1
    rw [hs]
    by_cases e : c = b
    · subst e
      rw [if_pos rfl]
      rw [hb] at k1
      cases k1
      refine ⟨_, rfl, ?_⟩
      obtain ⟨cs, T, part, rest, e1, e2, e3⟩ := k2
      refine ⟨cs, T, part, rest, e1, e2, ?_⟩
      simp only [RepAll] at e3 ⊢
      obtain ⟨c1, c2, q1, q2, q3, q4⟩ := e3
      exact ⟨c1, c2, q1, q2, h _ _ _ _ q3, q4⟩
    · rw [if_neg e]; exact ⟨blk, k1, k2⟩
/-- an empty block that nothing stands for -/
theorem Weak.newB (L : St) (d sz : Nat) (hd : L.heap d = none) : Weak L (L.setB d (some ⟨sz, [], true⟩)) := by
  rintro n W X Z0 a w ⟨hdf, hsz, μ, Z, hc, hr⟩
  refine ⟨hdf, hsz, μ, Z, ?_, hr⟩
  refine hc.reheap fun c id hcd => ?_
  have : c ≠ d := by rintro rfl; rw [mu_none hc hd] at hcd; cases hcd
  simp [St.setB, this]
theorem rep_net (d sz : Nat) (x y : LV) (Z : Nat → Prop) (μ : Nat → Option Nat) (w : World) (cs : List Value) (h : Rep Z μ w (.agg [x, y, .v (.slice none 0 0)]) cs) : Rep Z μ w (.agg [x, y, .ref d sz 0 0]) cs := by
  simp only [Rep, RepFs] at h ⊢
  obtain ⟨c1, c2, e1, e2, e3, c3, c4, e4, e5, e6, c5, c6, e7, e8, e9, e10⟩ := h
  exact ⟨c1, c2, e1, e2, e3, c3, c4, e4, e5, e6, c5, c6, e7, e8, .inl ⟨e9.1, trivial⟩, e10⟩
end Go.Lg
namespace Go.Proofs.YthhdcfhaldcheaaGreat
open Go.Lg
theorem net_pure (u v : Int) (c : List Rat) : LV.pure (.agg [iL u, iL v, .list 3 (c.map ratL)]) = true := by simp [LV.pure, pures, pures_map ratE]
theorem net_pureN (u v : Nat) (c : List Rat) : LV.pure (.agg [nI64 u, nI64 v, .list 3 (c.map ratL)]) = true := net_pure u v c
theorem mulE {a b n : Nat} (h : a * b = n) (hn : n ≤ 9223372036854775807) : binI .mul .i64 (a : Nat) (b : Nat) = some (.int .i64 (n : Nat)) := by
  rw [mul64 (by rw [← Int.natCast_mul, h]; omega) (by rw [← Int.natCast_mul, h]; omega), ← Int.natCast_mul, h]
def gL (n : Nat) (W : Nat → Rat) : List Rat := (List.range n).map W
theorem gL_len (n : Nat) (W : Nat → Rat) : (gL n W).length = n := by simp [gL]
theorem gL_succ (n : Nat) (W : Nat → Rat) : gL (n + 1) W = gL n W ++ [W n] := by simp [gL, List.range_succ]
theorem gL_get {n : Nat} {W : Nat → Rat} {x : Nat} (h : x < n) : (gL n W).getD x 0 = W x := by
  rw [List.getD_eq_getElem?_getD, List.getElem?_eq_getElem (by rw [gL_len]; exact h)]; simp [gL]
theorem take_gL (n : Nat) (W : Nat → Rat) (f : Rat → LV) : ((gL n W).map f).take n = (gL n W).map f := by rw [List.take_of_length_le (by simp [gL_len])]
theorem ix_div {V i j : Nat} (h : j ≤ V) : (i * (V + 1) + j) / (V + 1) = i := by
  rw [Nat.add_comm, Nat.add_mul_div_right _ _ (Nat.succ_pos V), Nat.div_eq_of_lt (by omega), Nat.zero_add]
theorem ix_mod {V i j : Nat} (h : j ≤ V) : (i * (V + 1) + j) % (V + 1) = j := by
  rw [Nat.add_comm, Nat.add_mul_mod_self_right, Nat.mod_eq_of_lt (by omega)]
theorem ix_lt {U V i j : Nat} (hi : i ≤ U) (hj : j ≤ V) : i * (V + 1) + j < (U + 1) * (V + 1) := by
  have := Nat.mul_le_mul_right (V + 1) (show i + 1 ≤ U + 1 by omega)
  rw [Nat.succ_mul] at this
  omega
theorem chsR_rl {n : Nat} (k : Nat) (hn : n ≤ 40) : rl (((chs n k : Nat) : Int) : Rat) ≤ 2 := by
  rcases Nat.lt_or_ge n k with h | h
  · rw [chs_gt h]; decide
  · have h1 := chR_rl hn _ (getD_mem (i := k) (by rw [chR_len]; omega))
    rw [chR_get h] at h1; exact h1
def wtV (U V : Nat) (c : List Rat) (x : Nat) : Rat := ((chs U (x / (V + 1)) : Nat) : Int) * ((chs V (x % (V + 1)) : Nat) : Int) * c.getD x 0
def swV (U V : Nat) (c : List Rat) (x : Nat) : Rat := c.getD (x % (U + 1) * (V + 1) + x / (U + 1)) 0
def wtL (U V : Nat) (c : List Rat) : List Rat := gL ((U + 1) * (V + 1)) (wtV U V c)
def swL (U V : Nat) (c : List Rat) : List Rat := gL ((V + 1) * (U + 1)) (swV U V c)
theorem wt_rl {U V : Nat} {c : List Rat} {R : Nat} (hU : U ≤ 40) (hV : V ≤ 40) (hR : 1 ≤ R) (h : ∀ x ∈ c, rl x ≤ R) : ∀ x ∈ wtL U V c, rl x ≤ R + 6 := by
  intro x hx
  obtain ⟨i, _, rfl⟩ := List.mem_map.1 hx
  have h1 := chsR_rl (n := U) (i / (V + 1)) hU
  have h2 := chsR_rl (n := V) (i % (V + 1)) hV
  have h3 := getD_rl hR h i
  have h4 := rl_mul (((chs U (i / (V + 1)) : Nat) : Int) : Rat) (((chs V (i % (V + 1)) : Nat) : Int) : Rat)
  have h5 := rl_mul ((((chs U (i / (V + 1)) : Nat) : Int) : Rat) * (((chs V (i % (V + 1)) : Nat) : Int) : Rat)) (c.getD i 0)
  show rl (wtV U V c i) ≤ _
  unfold wtV
  omega
theorem set_gd {W : Nat → Rat} {o : List Rat} {m : Nat} {v : Rat} (h : m < o.length) (hv : v = W m) : (gL m W ++ o.drop m).set m v = gL (m + 1) W ++ o.drop (m + 1) := by
  subst hv
  rw [List.drop_eq_getElem_cons h, set_mid _ _ _ _ (gL_len m W).symm, gL_succ, List.append_assoc]; rfl
theorem get_gd {W : Nat → Rat} {o : List Rat} {m : Nat} : (gL m W ++ o.drop m).getD m 0 = o.getD m 0 := by
  rw [getD_app2 _ _ _ (by rw [gL_len]; exact Nat.le_refl _), gL_len, Nat.sub_self, getD_dropR, Nat.add_zero]
section
variable (V1 V2 W U2 : Nat) (x y : List Rat) (i j k : Nat)
def mL : Nat → List Rat → List Rat
  | 0, o => o
  | l + 1, o => (mL l o).set ((i + k) * (W + 1) + j + l) ((mL l o).getD ((i + k) * (W + 1) + j + l) 0 + x.getD (i * (V1 + 1) + j) 0 * y.getD (k * (V2 + 1) + l) 0)
def mK : Nat → List Rat → List Rat
  | 0, o => o
  | k + 1, o => mL V1 V2 W x y i j k (V2 + 1) (mK k o)
def mJ : Nat → List Rat → List Rat
  | 0, o => o
  | j + 1, o => mK V1 V2 W x y i j (U2 + 1) (mJ j o)
def mI : Nat → List Rat → List Rat
  | 0, o => o
  | i + 1, o => mJ V1 V2 W U2 x y i (V1 + 1) (mI i o)
end
def mTop (U1 V1 U2 V2 : Nat) (a b : List Rat) : List Rat := mI V1 V2 (V1 + V2) U2 (wtL U1 V1 a) (wtL U2 V2 b) (U1 + 1) (List.replicate ((U1 + U2 + 1) * (V1 + V2 + 1)) 0)
def dvV (U V : Nat) (o : List Rat) (x : Nat) : Rat := o.getD x 0 / ((((chs U (x / (V + 1)) : Nat) : Int) : Rat) * (((chs V (x % (V + 1)) : Nat) : Int) : Rat))
def tmL (U1 V1 U2 V2 : Nat) (a b : List Rat) : List Rat := gL ((U1 + U2 + 1) * (V1 + V2 + 1)) (dvV (U1 + U2) (V1 + V2) (mTop U1 V1 U2 V2 a b))
namespace H_c_choose7
theorem zSm {p q : Prop} (k : q) (e : p = q := by simp only [e1, e2, e3, e4, p1, p2, p3, q1, q2, q3, l1, t0, t1, r1, r2, r3, r4, Nat.zero_add, Nat.reduceMul, Nat.reduceAdd, b1, b2, b3, b4, b5, b6, i1, i2, i3, i4, i5, i6, Nat.reduceBEq, dfi, rtake, List.append_nil, rowI_len, ek1, ek2, egr, take_map_len, map_snoc, len_snoc, List.length_cons, List.length_nil, kills_map i64E, kills_map ratE, LV.kill, kills]; exact rfl) : p := e.mpr k
end H_c_choose7
open H_c_choose7 in
theorem c_choose7 (n : Nat) (hn : n ≤ 40) : CallP Tryz.prog 123 [nI64 n] (.list 1 ((rowI n).map i64L)) := by
  refine fnP Tryz.func123 (ht := (fun g => LV.ren_pure g _ (pure_lst i64E _ _))) ?_
  have ek1 : True := trivial
  have ek2 : True := trivial
  have egr : True := trivial
  refine zg19 ?_
  refine wl_weak (Weak.mv (t := 3) (b := 5) 11 (by decide) (by decide) (by decide) rfl rfl rfl) ?_
  refine lp1 (fun (k : Nat) L => ((((St.mk L.slot (hp [(11, ⟨1, (rowI k).map i64L, true⟩)])).put (some 3) (.ref 11 1 0 (k + 1))).put (some 6) (nI64 n)).put (some 7) (nI64 k))) (fun k => k ≤ n) (fun k => n - k) 0 (Nat.zero_le _) ?_
  rintro k L1 hk
  refine zg6 ?_
  refine wl_if rfl (fun h8r h8 => ?_) (fun h8r h8 => ?_)
  · have hkn : k < n := by omega
    have ek2 : ((((k + 1 + 1 : Nat)) : Int) - 2) = (k : Int) := by omega
    refine zg8 ?_
    refine st_store rfl (.app (news := [i64L 1]) rfl rfl rfl rfl rfl (by simp [rowI_len]) (.inl rfl) (by decide) Tryz.underlying99 Tryz.underlying99 Z2 T2 rfl B2 (.inl ⟨10, 0, _, rfl, by decide, rfl, rfl, by simp, rfl, rfl⟩) (by simp; omega) (by simp; omega) (by decide)) ?_
    refine zg4 ?_
    refine wl_regW (Weak.kill _ 10) ?_
    refine zg7 ?_
    refine lp2 (fun (i : Nat) (o : List Int) L => (((((St.mk L.slot (hp [(11, ⟨1, o.map i64L, true⟩)])).put (some 3) (.ref 11 1 0 (k + 1 + 1))).put (some 4) (nI64 i)).put (some 6) (nI64 n)).put (some 7) (nI64 k))) (fun i o => i ≤ k ∧ PasC k i o) (fun i o => i) k (rowI k ++ [1]) ⟨Nat.le_refl _, pas_init k⟩ ?_
    rintro i o L2 ⟨hi, hP⟩
    refine zg7 ?_
    refine wl_if rfl (fun h16r h16 => ?_) (fun h16r h16 => ?_)
    · obtain ⟨j, rfl⟩ : ∃ j, i = j + 1 := ⟨i - 1, by omega⟩
      have ek1 : (((j + 1 : Nat) : Int) - 1) = (j : Int) := by omega
      have hol := hP.1
      have hb1 := pas_bd hP (by omega) (x := j + 1) (by omega)
      have hb2 := pas_bd hP (by omega) (x := j) (by omega)
      refine zg4 ?_
      refine wl_regD 11 (by decide +kernel) ?_
      refine zg21 ?_
      exact nx2 j (o.set (j + 1) (o.getD (j + 1) 0 + o.getD j 0)) ⟨by omega, pas_step hP hi⟩
    · obtain rfl : i = 0 := by omega
      have hE := pas_end hP
      subst hE
      refine zg11 ?_
      exact nx1 (k + 1) (by omega)
  · obtain rfl : n = k := by omega
    refine zg12 ?_
    exact ret1f [11] rfl rfl (imm_refm i64E rfl rfl (by rw [rowI_len]))
open H0 in
theorem c_shaped (U V : Nat) (c : List Rat) (hc : c.length = (U + 1) * (V + 1)) (hl : c.length ≤ 1048576) : CallP Tryz.prog 121 [.agg [nI64 U, nI64 V, .list 3 (c.map ratL)]] (bL true) := by
  have hU : U + 1 ≤ c.length := by rw [hc]; exact Nat.le_mul_of_pos_right _ (Nat.succ_pos V)
  have hV : V + 1 ≤ c.length := by rw [hc]; exact Nat.le_mul_of_pos_left _ (Nat.succ_pos U)
  have hnp := net_pureN U V c
  refine fnP Tryz.func121 ?_
  refine zg12 ?_
  refine st_pure (guardX (v := true) rfl rfl ((decide_eq_true (by omega))) rfl) fa27 ?_
  refine st_pure (guardX (v := true) rfl rfl ((decide_eq_true (by omega))) rfl) ld3 ?_
  refine st_pure (guardX (v := true) rfl rfl ((decide_eq_true (by omega))) rfl) (.bin rfl rfl rfl) ?_
  refine st_pure rfl (.pickT rfl ((decide_eq_true (by omega)))) ?_
  refine zg1 ?_
  refine st_pure (guardX (v := true) rfl rfl ((decide_eq_true (by omega))) rfl) fa27 ?_
  refine st_pure (guardX (v := true) rfl rfl ((decide_eq_true (by omega))) rfl) ld3 ?_
  refine st_pure (guardX (v := true) rfl rfl ((decide_eq_true (by omega))) rfl) fa27 ?_
  refine st_pure (guardX (v := true) rfl rfl ((decide_eq_true (by omega))) rfl) ld25 ?_
  refine st_pure (guardX (v := true) rfl rfl ((decide_eq_true (by omega))) rfl) ln25 ?_
  refine st_pure (guardX (v := true) rfl rfl ((decide_eq_true (by omega))) rfl) (.bin rfl rfl rfl) ?_
  refine st_pure rfl (.pickT rfl ((decide_eq_true (by omega)))) ?_
  refine zg1 ?_
  refine st_pure (guardX (v := true) rfl rfl ((decide_eq_true (by omega))) rfl) fa27 ?_
  refine st_pure (guardX (v := true) rfl rfl ((decide_eq_true (by omega))) rfl) ld3 ?_
  refine st_pure (guardX (v := true) rfl rfl ((decide_eq_true (by omega))) rfl) fa27 ?_
  refine st_pure (guardX (v := true) rfl rfl ((decide_eq_true (by omega))) rfl) ld25 ?_
  refine st_pure (guardX (v := true) rfl rfl ((decide_eq_true (by omega))) rfl) ln25 ?_
  refine st_pure (guardX (v := true) rfl rfl ((decide_eq_true (by omega))) rfl) (.bin rfl rfl rfl) ?_
  refine st_pure rfl (.pickT rfl ((decide_eq_true (by omega)))) ?_
  refine zg1 ?_
  refine st_pure (guardX (v := true) rfl rfl ((decide_eq_true (by omega))) rfl) fa27 ?_
  refine st_pure (guardX (v := true) rfl rfl ((decide_eq_true (by omega))) rfl) ld25 ?_
  refine st_pure (guardX (v := true) rfl rfl ((decide_eq_true (by omega))) rfl) ln25 ?_
  refine st_pure (guardX (v := true) rfl rfl ((decide_eq_true (by omega))) rfl) fa27 ?_
  refine st_pure (guardX (v := true) rfl rfl ((decide_eq_true (by omega))) rfl) ld3 ?_
  refine st_pure (guardX (v := true) rfl rfl ((decide_eq_true (by omega))) rfl) (.bin rfl rfl (add1N (by omega))) ?_
  refine st_pure (guardX (v := true) rfl rfl ((decide_eq_true (by omega))) rfl) fa27 ?_
  refine st_pure (guardX (v := true) rfl rfl ((decide_eq_true (by omega))) rfl) ld3 ?_
  refine st_pure (guardX (v := true) rfl rfl ((decide_eq_true (by omega))) rfl) (.bin rfl rfl (add1N (by omega))) ?_
  refine st_pure (guardX (v := true) rfl rfl ((decide_eq_true (by omega))) rfl) (.bin rfl rfl (mulE hc.symm (by omega))) ?_
  refine st_pure (guardX (v := true) rfl rfl ((decide_eq_true (by omega))) rfl) (.bin rfl rfl rfl) ?_
  refine st_pure rfl (.pickT rfl ((decide_eq_true (by omega)))) ?_
  refine zg4 ?_
  refine ret1 (x := .v (.bool (((c.length : Nat) : Int) == ((c.length : Nat) : Int)))) rfl ?_
  rw [beq_self_eq_true]
  exact .pure rfl
namespace H_c_weighted
theorem zSm {p q : Prop} (k : q) (e : p = q := by simp only [e1, e2, e3, e4, p1, p2, p3, q1, q2, q3, l1, t0, t1, r1, r2, r3, r4, Nat.zero_add, Nat.reduceMul, Nat.reduceAdd, b1, b2, b3, b4, b5, b6, i1, i2, i3, i4, i5, i6, Nat.reduceBEq, dfq, dfi, rowI_len, egu, egv, ewn, Nat.add_zero, take_gL, take_map_len, map_snoc, len_snoc, List.length_cons, List.length_nil, kills_map i64E, kills_map ratE, ratL_kill, spL_kill, LV.kill, kills]; exact rfl) : p := e.mpr k
end H_c_weighted
open H_c_weighted in
theorem c_weighted (U V : Nat) (c : List Rat) (hc : c.length = (U + 1) * (V + 1)) (hl : c.length ≤ 1048576) (hU4 : U ≤ 40) (hV4 : V ≤ 40) (R : Nat) (hR1 : 1 ≤ R) (hR : R ≤ 1073741824) (hcR : ∀ x ∈ c, rl x ≤ R) : CallP Tryz.prog 122 [.agg [nI64 U, nI64 V, .list 3 (c.map ratL)]] (.list 3 ((wtL U V c).map ratL)) := by
  have hU : U + 1 ≤ c.length := by rw [hc]; exact Nat.le_mul_of_pos_right _ (Nat.succ_pos V)
  have hV : V + 1 ≤ c.length := by rw [hc]; exact Nat.le_mul_of_pos_left _ (Nat.succ_pos U)
  have hnp := net_pureN U V c
  refine fnP Tryz.func122 ?_
  have egu : True := trivial
  have egv : True := trivial
  have ewn : True := trivial
  refine zg15 ?_
  refine cp am1 (c_choose7 V hV4) ?_
  refine zg8 ?_
  refine cp am1 (c_choose7 U hU4) ?_
  refine zg5 ?_
  refine wl_weak (Weak.own (t := 3) 47 3 rfl rfl) ?_
  refine lp2 (fun (i m : Nat) L => (((((((St.mk L.slot (hp [(1, ⟨3, [.agg [nI64 U, nI64 V, .list 3 (c.map ratL)]], true⟩), (47, ⟨3, (gL m (wtV U V c)).map ratL, true⟩)])).put (some 1) (.eptr 1 3 0 0)).put (some 4) (.list 1 ((rowI V).map i64L))).put (some 14) (.list 1 ((rowI U).map i64L))).put (some 15) (nI64 (U + 1))).put (some 16) (nI64 i)).put (some 3) (.ref 47 3 0 m))) (fun i m => i ≤ U + 1 ∧ i * (V + 1) = m) (fun i m => U + 1 - i) 0 0 ⟨Nat.zero_le _, Nat.zero_mul _⟩ ?_
  rintro i m L1 ⟨hi, hm⟩
  refine zg6 ?_
  refine wl_if rfl (fun h17r h17 => ?_) (fun h17r h17 => ?_)
  · have hi2 : i ≤ U := by omega
    have egu := rowI_get hi2
    have hcu := chs_40 i hU4
    refine zg21 ?_
    refine lp1 (fun (j : Nat) L => ((((((((((((St.mk L.slot (hp [(1, ⟨3, [.agg [nI64 U, nI64 V, .list 3 (c.map ratL)]], true⟩), (47, ⟨3, (gL (m + j) (wtV U V c)).map ratL, true⟩)])).put (some 1) (.eptr 1 3 0 0)).put (some 4) (.list 1 ((rowI V).map i64L))).put (some 14) (.list 1 ((rowI U).map i64L))).put (some 15) (nI64 (U + 1))).put (some 16) (nI64 i)).put (some 3) (.ref 47 3 0 (m + j))).put (some 5) (nI64 i)).put (some 6) (nI64 (chs U i))).put (some 21) (.list 1 ((rowI V).map i64L))).put (some 22) (nI64 (V + 1))).put (some 23) (nI64 j))) (fun j => j ≤ V + 1) (fun j => V + 1 - j) 0 (Nat.zero_le _) ?_
    rintro j L2 hj
    refine zg6 ?_
    refine wl_if rfl (fun h24r h24 => ?_) (fun h24r h24 => ?_)
    · have hj2 : j ≤ V := by omega
      have egv := rowI_get hj2
      have hcv := chs_40 j hV4
      have hix := ix_lt hi2 hj2
      rw [hm, ← hc] at hix
      have hgl := gL_len (m + j) (wtV U V c)
      have ewn : gL (m + (j + 1)) (wtV U V c) = gL (m + j) (wtV U V c) ++ [(((chs U i : Nat) : Int) : Rat) * (((chs V j : Nat) : Int) : Rat) * c.getD (m + j) 0] := by rw [← Nat.add_assoc, gL_succ, wtV, ← hm, ix_div hj2, ix_mod hj2]
      have hr1 := chsR_rl i hU4
      have hr2 := chsR_rl j hV4
      have hr3 := getD_rl hR1 hcR (m + j)
      have hr4 := rl_mul (((chs U i : Nat) : Int) : Rat) (((chs V j : Nat) : Int) : Rat)
      refine zg13 ?_
      refine wl_regD 19 (by decide +kernel) ?_
      refine zg2 ?_
      refine cp am1 (c_RInt ((chs U i : Nat) : Int) (by omega) (by omega)) ?_
      refine zg1 ?_
      refine cp am1 (c_RInt ((chs V j : Nat) : Int) (by omega) (by omega)) ?_
      refine cp am2 (c_RMul (((chs U i : Nat) : Int) : Rat) (((chs V j : Nat) : Int) : Rat) (by omega)) ?_
      refine zg5 ?_
      refine st_pure rfl (.bin rfl rfl (add1N (by omega))) ?_
      refine st_pure rfl (.bin rfl rfl (mulE hm (by omega))) ?_
      refine zg1 ?_
      refine st_pure rfl (.bin rfl rfl (add64N (by omega))) ?_
      refine zg2 ?_
      refine cp am2 (c_RMul ((((chs U i : Nat) : Int) : Rat) * (((chs V j : Nat) : Int) : Rat)) (c.getD (m + j) 0) (by omega)) ?_
      refine zg1 ?_
      refine st_store rfl (.app (news := [ratL ((((chs U i : Nat) : Int) : Rat) * (((chs V j : Nat) : Int) : Rat) * c.getD (m + j) 0)]) rfl rfl rfl rfl rfl (by simp [gL_len]) (.inl rfl) (by decide) Tryz.underlying25 Tryz.underlying25 Z33a T33 rfl B33 (.inl ⟨46, 0, _, rfl, by decide, rfl, rfl, by simp, rfl, by simp [pures, ratE.pure]⟩) (by simp; omega) (by simp; omega) (by decide)) ?_
      refine zg4 ?_
      refine wl_regW (Weak.kill _ 46) ?_
      refine zg4 ?_
      exact nx1 (j + 1) (by omega)
    · obtain rfl : j = V + 1 := by omega
      refine zg11 ?_
      exact nx2 (i + 1) (m + (V + 1)) ⟨by omega, by rw [Nat.succ_mul]; omega⟩
  · obtain rfl : i = U + 1 := by omega
    have hE : gL m (wtV U V c) = wtL U V c := by rw [← hm]; rfl
    refine zg12 ?_
    rw [← hE]
    exact ret1f [47] rfl rfl (imm_refm ratE rfl rfl (by rw [gL_len]))
namespace H_c_Swap
theorem zSm {p q : Prop} (k : q) (e : p = q := by simp only [e1, e2, e3, e4, p1, p2, p3, q1, q2, q3, l1, t0, t1, r1, r2, r3, r4, Nat.zero_add, Nat.reduceMul, Nat.reduceAdd, b1, b2, b3, b4, b5, b6, i1, i2, i3, i4, i5, i6, Nat.reduceBEq, dfq, esw, Rat.add_zero, Nat.add_zero, take_gL, take_map_len, map_snoc, len_snoc, List.length_cons, List.length_nil, kills_map i64E, kills_map ratE, ratL_kill, spL_kill, LV.kill, kills]; exact rfl) : p := e.mpr k
end H_c_Swap
open H_c_Swap in
theorem c_Swap (U V : Nat) (c : List Rat) (hc : c.length = (U + 1) * (V + 1)) (hl : c.length ≤ 1048576) (hcR : ∀ x ∈ c, rl x ≤ 274877906944) : CallP Tryz.prog 81 [.agg [nI64 U, nI64 V, .list 3 (c.map ratL)]] (.agg [nI64 V, nI64 U, .list 3 ((swL U V c).map ratL)]) := by
  have hU : U + 1 ≤ c.length := by rw [hc]; exact Nat.le_mul_of_pos_right _ (Nat.succ_pos V)
  have hV : V + 1 ≤ c.length := by rw [hc]; exact Nat.le_mul_of_pos_left _ (Nat.succ_pos U)
  have hnp := net_pureN U V c
  refine fnP Tryz.func81 (ht := (fun g => LV.ren_pure g _ (net_pureN _ _ _))) ?_
  have esw : True := trivial
  refine zg21 ?_
  refine cp am1 (c_shaped U V c hc hl) ?_
  refine zg11 ?_
  refine st_pure rfl (.bin rfl rfl (add1N (by omega))) ?_
  refine zg4 ?_
  refine wl_weak ((Weak.cell 3 rfl (fun Z μ w cs h => rep_net 43 3 _ _ Z μ w cs h)).trans (Weak.newB _ 43 3 rfl)) ?_
  refine lp2 (fun (j m : Nat) L => ((((((St.mk L.slot (hp [(1, ⟨3, [.agg [nI64 U, nI64 V, .list 3 (c.map ratL)]], true⟩), (2, ⟨3, [.agg [.v (.int .i64 0), .v (.int .i64 0), .v (.slice none 0 0)]], true⟩), (3, ⟨3, [.agg [nI64 V, nI64 U, .ref 43 3 0 m]], true⟩), (43, ⟨3, (gL m (swV U V c)).map ratL, true⟩)])).put (some 1) (.eptr 1 3 0 0)).put (some 2) (.eptr 2 3 0 0)).put (some 3) (.eptr 3 3 0 0)).put (some 17) (nI64 (V + 1))).put (some 18) (nI64 j))) (fun j m => j ≤ V + 1 ∧ j * (U + 1) = m) (fun j m => V + 1 - j) 0 0 ⟨Nat.zero_le _, Nat.zero_mul _⟩ ?_
  rintro j m L1 ⟨hj, hm⟩
  refine zg6 ?_
  refine wl_if rfl (fun h19r h19 => ?_) (fun h19r h19 => ?_)
  · have hj2 : j ≤ V := by omega
    refine zg14 ?_
    refine st_pure rfl (.bin rfl rfl (add1N (by omega))) ?_
    refine zg4 ?_
    refine lp1 (fun (i : Nat) L => (((((((((St.mk L.slot (hp [(1, ⟨3, [.agg [nI64 U, nI64 V, .list 3 (c.map ratL)]], true⟩), (2, ⟨3, [.agg [.v (.int .i64 0), .v (.int .i64 0), .v (.slice none 0 0)]], true⟩), (3, ⟨3, [.agg [nI64 V, nI64 U, .ref 43 3 0 (m + i)]], true⟩), (43, ⟨3, (gL (m + i) (swV U V c)).map ratL, true⟩)])).put (some 1) (.eptr 1 3 0 0)).put (some 2) (.eptr 2 3 0 0)).put (some 3) (.eptr 3 3 0 0)).put (some 17) (nI64 (V + 1))).put (some 18) (nI64 j)).put (some 4) (nI64 j)).put (some 23) (nI64 (U + 1))).put (some 24) (nI64 i))) (fun i => i ≤ U + 1) (fun i => U + 1 - i) 0 (Nat.zero_le _) ?_
    rintro i L2 hi
    refine zg6 ?_
    refine wl_if rfl (fun h25r h25 => ?_) (fun h25r h25 => ?_)
    · have hi2 : i ≤ U := by omega
      have hmi := ix_lt (U := V) (V := U) hj2 hi2
      rw [hm, Nat.mul_comm, ← hc] at hmi
      have hix := ix_lt hi2 hj2
      rw [← hc] at hix
      have hgl := gL_len (m + i) (swV U V c)
      have esw : gL (m + (i + 1)) (swV U V c) = gL (m + i) (swV U V c) ++ [c.getD (i * (V + 1) + j) 0] := by rw [← Nat.add_assoc, gL_succ, swV, ← hm, ix_div hi2, ix_mod hi2]
      have hr1 := hcR _ (getD_mem (i := i * (V + 1) + j) hix)
      refine zg10 ?_
      refine wl_regD 16 (by decide +kernel) ?_
      refine zg7 ?_
      refine st_pure rfl (.bin rfl rfl (add1N (by omega))) ?_
      refine st_pure rfl (.bin rfl rfl (mulE rfl (by omega))) ?_
      refine zg1 ?_
      refine st_pure rfl (.bin rfl rfl (add64N (by omega))) ?_
      refine zg2 ?_
      refine st_pure rfl (.build0 SL33 Z33a) ?_
      refine cp am2 (c_RAdd (c.getD (i * (V + 1) + j) 0) 0 (by rw [show rl 0 = 1 from rfl]; omega)) ?_
      refine zg1 ?_
      refine st_store rfl (.app (news := [ratL (c.getD (i * (V + 1) + j) 0 + 0)]) rfl rfl rfl rfl rfl (by simp [gL_len]) (.inl rfl) (by decide) Tryz.underlying25 Tryz.underlying25 Z33a T33 rfl B33 (.inl ⟨42, 0, _, rfl, by decide, rfl, rfl, by simp, rfl, by simp [pures, ratE.pure]⟩) (by simp; omega) (by simp; omega) (by decide)) ?_
      refine zg5 ?_
      refine wl_regW (Weak.kill _ 42) ?_
      refine zg4 ?_
      exact nx1 (i + 1) (by omega)
    · obtain rfl : i = U + 1 := by omega
      refine zg11 ?_
      exact nx2 (j + 1) (m + (U + 1)) ⟨by omega, by rw [Nat.succ_mul]; omega⟩
  · obtain rfl : j = V + 1 := by omega
    have hE : gL m (swV U V c) = swL U V c := by rw [← hm]; rfl
    refine zg12 ?_
    rw [← hE]
    exact retC [43] rfl rfl rfl rfl rfl T27 (.agg (.cons (.pure rfl) (.cons (.pure rfl) (.cons (imm_refm ratE rfl rfl (by rw [gL_len])) .nil))))
end Go.Proofs.YthhdcfhaldcheaaGreat
end
section
set_option linter.unusedVariables false
set_option linter.unusedSimpArgs false
set_option maxHeartbeats 8000000
set_option maxRecDepth 100000
attribute [local irreducible] Go.Lg.opsL Go.Lg.wpL Go.Lg.thenL Go.Lg.blockL
namespace Go.Proofs.YthhdcfhaldcheaaGreat
open Go.Lg
theorem gL_zero (W : Nat → Rat) : gL 0 W = [] := rfl
namespace H_c_TMul
theorem zSm {p q : Prop} (k : q) (e : p = q := by simp only [e1, e2, e3, e4, p1, p2, p3, q1, q2, q3, l1, t0, t1, r1, r2, r3, r4, Nat.zero_add, Nat.reduceMul, Nat.reduceAdd, b1, b2, b3, b4, b5, b6, i1, i2, i3, i4, i5, i6, Nat.reduceBEq, frz_nil, dfq, dfi, rowI_len, egu, egv, Nat.add_zero, egd, esd, List.length_set, kills_map i64E, kills_map ratE, ratL_kill, spL_kill, LV.kill, kills]; exact rfl) : p := e.mpr k
theorem zSm1 {p q : Prop} (k : q) (e : p = q := by simp only [e1, e2, e3, e4, p1, p2, p3, q1, q2, q3, l1, t0, t1, r1, r2, r3, r4, Nat.zero_add, Nat.reduceMul, Nat.reduceAdd, b1, b2, b3, b4, b5, b6, i1, i2, i3, i4, i5, i6, Nat.reduceBEq, frz_nil, dfq, dfi, rowI_len, egu, egv, Nat.add_zero, egd, esd, List.length_set, kills_map i64E, kills_map ratE, ratL_kill, spL_kill, LV.kill, kills, gL_zero, List.nil_append, List.drop_zero]; exact rfl) : p := e.mpr k
theorem cl1 {p : Prop} (h : p := by first | rfl | (refine zSm1 ?_; first | exact trivial | rfl | (congr 3 <;> omega) | (congr 2 <;> omega))) : p := h
end H_c_TMul
open H_c_TMul in
theorem c_TMul (U1 V1 U2 V2 : Nat) (a b : List Rat) (ha : a.length = (U1 + 1) * (V1 + 1)) (hb : b.length = (U2 + 1) * (V2 + 1)) (hal : a.length ≤ 1048576) (hbl : b.length ≤ 1048576) (hu : U1 + U2 ≤ 40) (hv : V1 + V2 ≤ 40) (R : Nat) (hR1 : 1 ≤ R) (hR : R ≤ 1000) (haR : ∀ x ∈ a, rl x ≤ R) (hbR : ∀ x ∈ b, rl x ≤ R) : CallP Tryz.prog 49 [.agg [nI64 U1, nI64 V1, .list 3 (a.map ratL)], .agg [nI64 U2, nI64 V2, .list 3 (b.map ratL)]] (.tup [.agg [nI64 (U1 + U2), nI64 (V1 + V2), .list 3 ((tmL U1 V1 U2 V2 a b).map ratL)], iL 0]) := by
  have hA1 : U1 + 1 ≤ a.length := by rw [ha]; exact Nat.le_mul_of_pos_right _ (Nat.succ_pos V1)
  have hA2 : V1 + 1 ≤ a.length := by rw [ha]; exact Nat.le_mul_of_pos_left _ (Nat.succ_pos U1)
  have hB1 : U2 + 1 ≤ b.length := by rw [hb]; exact Nat.le_mul_of_pos_right _ (Nat.succ_pos V2)
  have hB2 : V2 + 1 ≤ b.length := by rw [hb]; exact Nat.le_mul_of_pos_left _ (Nat.succ_pos U2)
  have hnp1 := net_pureN U1 V1 a
  have hnp2 := net_pureN U2 V2 b
  have hT : ((U1 + U2 + 1) * (V1 + V2 + 1)) ≤ 1681 := Nat.le_trans (Nat.mul_le_mul (show U1 + U2 + 1 ≤ 41 by omega) (show V1 + V2 + 1 ≤ 41 by omega)) (by decide)
  have hwa := wt_rl (U := U1) (V := V1) (c := a) (by omega) (by omega) hR1 haR
  have hwb := wt_rl (U := U2) (V := V2) (c := b) (by omega) (by omega) hR1 hbR
  have hwal : (wtL U1 V1 a).length = a.length := by rw [wtL, gL_len, ha]
  have hwbl : (wtL U2 V2 b).length = b.length := by rw [wtL, gL_len, hb]
  obtain ⟨z1, hz1⟩ : ∃ z1, (V2 + 1) * (2 * R + 14) = z1 := ⟨_, rfl⟩
  obtain ⟨z2, hz2⟩ : ∃ z2, (U2 + 1) * z1 = z2 := ⟨_, rfl⟩
  obtain ⟨z3, hz3⟩ : ∃ z3, (V1 + 1) * z2 = z3 := ⟨_, rfl⟩
  have hq1 : z1 ≤ 41 * (2 * R + 14) := by rw [← hz1]; exact Nat.mul_le_mul_right _ (by omega)
  have hq2 : z2 ≤ 41 * z1 := by rw [← hz2]; exact Nat.mul_le_mul_right _ (by omega)
  have hq3 : z3 ≤ 41 * z2 := by rw [← hz3]; exact Nat.mul_le_mul_right _ (by omega)
  have hq4 : (U1 + 1) * z3 ≤ 41 * z3 := Nat.mul_le_mul_right _ (by omega)
  have hq5 : (U1 + 1) * z3 ≤ 2825761 * (2 * R + 14) := by omega
  refine fnP Tryz.func49 (ht := (tame2 (net_pureN _ _ _) rfl)) ?_
  have egu : True := trivial
  have egv : True := trivial
  have egd : True := trivial
  have esd : True := trivial
  refine zg14 ?_
  refine st_pure rfl (.bin rfl rfl (add64N (by omega))) ?_
  refine zg4 ?_
  refine st_pure rfl (.bin rfl rfl (add64N (by omega))) ?_
  refine zg12 ?_
  refine st_pure (guardX (v := false) rfl rfl ((decide_eq_false (by omega))) rfl) fa27 ?_
  refine st_pure (guardX (v := false) rfl rfl ((decide_eq_false (by omega))) rfl) ld3 ?_
  refine st_pure (guardX (v := false) rfl rfl ((decide_eq_false (by omega))) rfl) (.bin rfl rfl rfl) ?_
  refine st_pure rfl (.pickF rfl ((decide_eq_false (by omega)))) ?_
  refine zg2 ?_
  refine wl_condY (b := _) rfl (decide_eq_false (by omega)) ?_
  refine zg6 ?_
  refine cp am1 (c_shaped U1 V1 a ha hal) ?_
  refine zg3 ?_
  refine cp am1 (c_shaped U2 V2 b hb hbl) ?_
  refine zg11 ?_
  refine st_pure rfl (.bin rfl rfl (add1N (by omega))) ?_
  refine zg2 ?_
  refine st_pure rfl (.bin rfl rfl (add1N (by omega))) ?_
  refine st_pure rfl (.bin rfl rfl (mulE rfl (by omega))) ?_
  refine st_alloc rfl rfl (.mkE (n := ((U1 + U2 + 1) * (V1 + V2 + 1))) (m := ((U1 + U2 + 1) * (V1 + V2 + 1))) ml ml om om om) ?_
  refine zg5 ?_
  refine wl_regD 6 (by decide +kernel) ?_
  refine zg1 ?_
  refine cp am1 (c_weighted U1 V1 a ha hal (by omega) (by omega) R hR1 (by omega) haR) ?_
  refine zg1 ?_
  refine cp am1 (c_weighted U2 V2 b hb hbl (by omega) (by omega) R hR1 (by omega) hbR) ?_
  refine zg9 ?_
  refine st_pure rfl (.bin rfl rfl (add1N (by omega))) ?_
  refine zg4 ?_
  refine lp2 (fun (i : Nat) (oI : List Rat) L => (((((((((St.mk L.slot (hp [(2, ⟨3, [.agg [nI64 U1, nI64 V1, .list 3 (a.map ratL)]], true⟩), (3, ⟨3, [.agg [nI64 U2, nI64 V2, .list 3 (b.map ratL)]], true⟩), (4, ⟨3, [.agg [.v (.int .i64 0), .v (.int .i64 0), .v (.slice none 0 0)]], true⟩), (6, ⟨3, [.agg [nI64 (U1 + U2), nI64 (V1 + V2), .ref 55 3 0 ((U1 + U2 + 1) * (V1 + V2 + 1))]], true⟩), (55, ⟨3, oI.map ratL, true⟩)])).put (some 2) (.eptr 2 3 0 0)).put (some 3) (.eptr 3 3 0 0)).put (some 4) (.eptr 4 3 0 0)).put (some 6) (.eptr 6 3 0 0)).put (some 7) (.list 3 ((wtL U1 V1 a).map ratL))).put (some 8) (.list 3 ((wtL U2 V2 b).map ratL))).put (some 63) (nI64 (U1 + 1))).put (some 64) (nI64 i))) (fun i oI => i ≤ U1 + 1 ∧ oI = mI V1 V2 (V1 + V2) U2 (wtL U1 V1 a) (wtL U2 V2 b) i (List.replicate ((U1 + U2 + 1) * (V1 + V2 + 1)) 0) ∧ oI.length = ((U1 + U2 + 1) * (V1 + V2 + 1)) ∧ ∀ x ∈ oI, rl x ≤ 1 + i * z3) (fun i oI => U1 + 1 - i) 0 (List.replicate ((U1 + U2 + 1) * (V1 + V2 + 1)) 0) ⟨Nat.zero_le _, rfl, by simp, fun x hx => by rw [(List.mem_replicate.1 hx).2]; exact Nat.le_add_right 1 _⟩ ?_
  rintro i oI L1 ⟨hi, hoI, hlI, hrI⟩
  refine zg6 ?_
  refine wl_if rfl (fun h65r h65 => ?_) (fun h65r h65 => ?_)
  · have hi2 : i ≤ U1 := by omega
    have hi3 : i * z3 + z3 ≤ (U1 + 1) * z3 := by rw [← Nat.succ_mul]; exact Nat.mul_le_mul_right _ (by omega)
    refine zg14 ?_
    refine st_pure rfl (.bin rfl rfl (add1N (by omega))) ?_
    refine zg4 ?_
    refine lp2 (fun (j : Nat) (oJ : List Rat) L => ((((((((((((St.mk L.slot (hp [(2, ⟨3, [.agg [nI64 U1, nI64 V1, .list 3 (a.map ratL)]], true⟩), (3, ⟨3, [.agg [nI64 U2, nI64 V2, .list 3 (b.map ratL)]], true⟩), (4, ⟨3, [.agg [.v (.int .i64 0), .v (.int .i64 0), .v (.slice none 0 0)]], true⟩), (6, ⟨3, [.agg [nI64 (U1 + U2), nI64 (V1 + V2), .ref 55 3 0 ((U1 + U2 + 1) * (V1 + V2 + 1))]], true⟩), (55, ⟨3, oJ.map ratL, true⟩)])).put (some 2) (.eptr 2 3 0 0)).put (some 3) (.eptr 3 3 0 0)).put (some 4) (.eptr 4 3 0 0)).put (some 6) (.eptr 6 3 0 0)).put (some 7) (.list 3 ((wtL U1 V1 a).map ratL))).put (some 8) (.list 3 ((wtL U2 V2 b).map ratL))).put (some 63) (nI64 (U1 + 1))).put (some 64) (nI64 i)).put (some 9) (nI64 i)).put (some 69) (nI64 (V1 + 1))).put (some 70) (nI64 j))) (fun j oJ => j ≤ V1 + 1 ∧ oJ = mJ V1 V2 (V1 + V2) U2 (wtL U1 V1 a) (wtL U2 V2 b) i j oI ∧ oJ.length = ((U1 + U2 + 1) * (V1 + V2 + 1)) ∧ ∀ x ∈ oJ, rl x ≤ 1 + i * z3 + j * z2) (fun j oJ => V1 + 1 - j) 0 oI ⟨Nat.zero_le _, rfl, hlI, fun x hx => by rw [Nat.zero_mul]; exact hrI x hx⟩ ?_
    rintro j oJ L2 ⟨hj, hoJ, hlJ, hrJ⟩
    refine zg6 ?_
    refine wl_if rfl (fun h71r h71 => ?_) (fun h71r h71 => ?_)
    · have hj2 : j ≤ V1 := by omega
      have hj3 : j * z2 + z2 ≤ z3 := by rw [← Nat.succ_mul, ← hz3]; exact Nat.mul_le_mul_right _ (by omega)
      refine zg14 ?_
      refine st_pure rfl (.bin rfl rfl (add1N (by omega))) ?_
      refine zg4 ?_
      refine lp2 (fun (k : Nat) (oK : List Rat) L => (((((((((((((((St.mk L.slot (hp [(2, ⟨3, [.agg [nI64 U1, nI64 V1, .list 3 (a.map ratL)]], true⟩), (3, ⟨3, [.agg [nI64 U2, nI64 V2, .list 3 (b.map ratL)]], true⟩), (4, ⟨3, [.agg [.v (.int .i64 0), .v (.int .i64 0), .v (.slice none 0 0)]], true⟩), (6, ⟨3, [.agg [nI64 (U1 + U2), nI64 (V1 + V2), .ref 55 3 0 ((U1 + U2 + 1) * (V1 + V2 + 1))]], true⟩), (55, ⟨3, oK.map ratL, true⟩)])).put (some 2) (.eptr 2 3 0 0)).put (some 3) (.eptr 3 3 0 0)).put (some 4) (.eptr 4 3 0 0)).put (some 6) (.eptr 6 3 0 0)).put (some 7) (.list 3 ((wtL U1 V1 a).map ratL))).put (some 8) (.list 3 ((wtL U2 V2 b).map ratL))).put (some 63) (nI64 (U1 + 1))).put (some 64) (nI64 i)).put (some 9) (nI64 i)).put (some 69) (nI64 (V1 + 1))).put (some 70) (nI64 j)).put (some 10) (nI64 j)).put (some 75) (nI64 (U2 + 1))).put (some 76) (nI64 k))) (fun k oK => k ≤ U2 + 1 ∧ oK = mK V1 V2 (V1 + V2) (wtL U1 V1 a) (wtL U2 V2 b) i j k oJ ∧ oK.length = ((U1 + U2 + 1) * (V1 + V2 + 1)) ∧ ∀ x ∈ oK, rl x ≤ 1 + i * z3 + j * z2 + k * z1) (fun k oK => U2 + 1 - k) 0 oJ ⟨Nat.zero_le _, rfl, hlJ, fun x hx => by rw [Nat.zero_mul]; exact hrJ x hx⟩ ?_
      rintro k oK L3 ⟨hk, hoK, hlK, hrK⟩
      refine zg6 ?_
      refine wl_if rfl (fun h77r h77 => ?_) (fun h77r h77 => ?_)
      · have hk2 : k ≤ U2 := by omega
        have hk3 : k * z1 + z1 ≤ z2 := by rw [← Nat.succ_mul, ← hz2]; exact Nat.mul_le_mul_right _ (by omega)
        refine zg14 ?_
        refine st_pure rfl (.bin rfl rfl (add1N (by omega))) ?_
        refine zg4 ?_
        refine lp2 (fun (l : Nat) (o : List Rat) L => ((((((((((((((((((St.mk L.slot (hp [(2, ⟨3, [.agg [nI64 U1, nI64 V1, .list 3 (a.map ratL)]], true⟩), (3, ⟨3, [.agg [nI64 U2, nI64 V2, .list 3 (b.map ratL)]], true⟩), (4, ⟨3, [.agg [.v (.int .i64 0), .v (.int .i64 0), .v (.slice none 0 0)]], true⟩), (6, ⟨3, [.agg [nI64 (U1 + U2), nI64 (V1 + V2), .ref 55 3 0 ((U1 + U2 + 1) * (V1 + V2 + 1))]], true⟩), (55, ⟨3, o.map ratL, true⟩)])).put (some 2) (.eptr 2 3 0 0)).put (some 3) (.eptr 3 3 0 0)).put (some 4) (.eptr 4 3 0 0)).put (some 6) (.eptr 6 3 0 0)).put (some 7) (.list 3 ((wtL U1 V1 a).map ratL))).put (some 8) (.list 3 ((wtL U2 V2 b).map ratL))).put (some 63) (nI64 (U1 + 1))).put (some 64) (nI64 i)).put (some 9) (nI64 i)).put (some 69) (nI64 (V1 + 1))).put (some 70) (nI64 j)).put (some 10) (nI64 j)).put (some 75) (nI64 (U2 + 1))).put (some 76) (nI64 k)).put (some 11) (nI64 k)).put (some 81) (nI64 (V2 + 1))).put (some 82) (nI64 l))) (fun l o => l ≤ V2 + 1 ∧ o = mL V1 V2 (V1 + V2) (wtL U1 V1 a) (wtL U2 V2 b) i j k l oK ∧ o.length = ((U1 + U2 + 1) * (V1 + V2 + 1)) ∧ ∀ x ∈ o, rl x ≤ 1 + i * z3 + j * z2 + k * z1 + l * (2 * R + 14)) (fun l o => V2 + 1 - l) 0 oK ⟨Nat.zero_le _, rfl, hlK, fun x hx => by rw [Nat.zero_mul]; exact hrK x hx⟩ ?_
        rintro l o L4 ⟨hl, ho, hlL, hrL⟩
        refine zg6 ?_
        refine wl_if rfl (fun h83r h83 => ?_) (fun h83r h83 => ?_)
        · have hl2 : l ≤ V2 := by omega
          have hl3 : l * (2 * R + 14) + (2 * R + 14) ≤ z1 := by rw [← Nat.succ_mul, ← hz1]; exact Nat.mul_le_mul_right _ (by omega)
          have hx1 := ix_lt (U := U1 + U2) (V := V1 + V2) (i := i + k) (j := j + l) (by omega) (by omega)
          have hx2 := ix_lt hi2 hj2
          have hx3 := ix_lt hk2 hl2
          rw [← ha] at hx2
          rw [← hb] at hx3
          have hr1 := getD_rl (S := R + 6) (by omega) hwa (i * (V1 + 1) + j)
          have hr2 := getD_rl (S := R + 6) (by omega) hwb (k * (V2 + 1) + l)
          have hr3 := getD_rl (by omega) hrL ((i + k) * (V1 + V2 + 1) + j + l)
          have hr4 := rl_mul ((wtL U1 V1 a).getD (i * (V1 + 1) + j) 0) ((wtL U2 V2 b).getD (k * (V2 + 1) + l) 0)
          have hr5 := rl_add (o.getD ((i + k) * (V1 + V2 + 1) + j + l) 0) ((wtL U1 V1 a).getD (i * (V1 + 1) + j) 0 * (wtL U2 V2 b).getD (k * (V2 + 1) + l) 0)
          refine zg14 ?_
          refine st_pure rfl (.bin rfl rfl (add64N (by omega))) ?_
          refine zg2 ?_
          refine st_pure rfl (.bin rfl rfl (add1N (by omega))) ?_
          refine st_pure rfl (.bin rfl rfl (mulE rfl (by omega))) ?_
          refine zg1 ?_
          refine st_pure rfl (.bin rfl rfl (add64N (by omega))) ?_
          refine zg1 ?_
          refine st_pure rfl (.bin rfl rfl (add64N (by omega))) ?_
          refine zg3 ?_
          refine wl_regD 31 (by decide +kernel) ?_
          refine zg8 ?_
          try simp only [t1, dfq, Nat.zero_add]
          refine zg4 ?_
          refine st_pure rfl (.bin rfl rfl (add1N (by omega))) ?_
          refine st_pure rfl (.bin rfl rfl (mulE rfl (by omega))) ?_
          refine zg1 ?_
          refine st_pure rfl (.bin rfl rfl (add64N (by omega))) ?_
          refine zg6 ?_
          refine st_pure rfl (.bin rfl rfl (add1N (by omega))) ?_
          refine st_pure rfl (.bin rfl rfl (mulE rfl (by omega))) ?_
          refine zg1 ?_
          refine st_pure rfl (.bin rfl rfl (add64N (by omega))) ?_
          refine zg2 ?_
          refine cp am2 (c_RMul ((wtL U1 V1 a).getD (i * (V1 + 1) + j) 0) ((wtL U2 V2 b).getD (k * (V2 + 1) + l) 0) (by omega)) ?_
          refine cp am2 (c_RAdd (o.getD ((i + k) * (V1 + V2 + 1) + j + l) 0) ((wtL U1 V1 a).getD (i * (V1 + 1) + j) 0 * (wtL U2 V2 b).getD (k * (V2 + 1) + l) 0) (by omega)) ?_
          refine zg10 ?_
          exact nx2 (l + 1) (o.set ((i + k) * (V1 + V2 + 1) + j + l) (o.getD ((i + k) * (V1 + V2 + 1) + j + l) 0 + (wtL U1 V1 a).getD (i * (V1 + 1) + j) 0 * (wtL U2 V2 b).getD (k * (V2 + 1) + l) 0)) ⟨by omega, by rw [ho]; rfl, by rw [List.length_set]; exact hlL, set_rl (fun x hx => by have := hrL x hx; rw [Nat.succ_mul]; omega) (by rw [Nat.succ_mul]; omega)⟩
        · obtain rfl : l = V2 + 1 := by omega
          refine zg11 ?_
          exact nx2 (k + 1) o ⟨by omega, by rw [ho, hoK]; rfl, hlL, fun x hx => by have := hrL x hx; rw [hz1] at this; rw [Nat.succ_mul]; omega⟩
      · obtain rfl : k = U2 + 1 := by omega
        rw [hz2] at hrK
        refine zg11 ?_
        exact nx2 (j + 1) oK ⟨by omega, by rw [hoK, hoJ]; rfl, hlK, fun x hx => by have := hrK x hx; rw [Nat.succ_mul]; omega⟩
    · obtain rfl : j = V1 + 1 := by omega
      rw [hz3] at hrJ
      refine zg11 ?_
      exact nx2 (i + 1) oJ ⟨by omega, by rw [hoJ, hoI]; rfl, hlJ, fun x hx => by have := hrJ x hx; rw [Nat.succ_mul]; omega⟩
  · obtain rfl : i = U1 + 1 := by omega
    have hOF : oI = (mTop U1 V1 U2 V2 a b) := hoI
    clear hoI
    subst hOF
    refine zg6 ?_
    refine wl_regD 8 (by decide +kernel) ?_
    refine zg2 ?_
    refine cp am1 (c_choose7 (U1 + U2) hu) ?_
    refine zg2 ?_
    refine cp am1 (c_choose7 (V1 + V2) hv) ?_
    refine zg13 ?_
    refine lp2 (fun (i m : Nat) L => (((((((((St.mk L.slot (hp [(2, ⟨3, [.agg [nI64 U1, nI64 V1, .list 3 (a.map ratL)]], true⟩), (3, ⟨3, [.agg [nI64 U2, nI64 V2, .list 3 (b.map ratL)]], true⟩), (4, ⟨3, [.agg [.v (.int .i64 0), .v (.int .i64 0), .v (.slice none 0 0)]], true⟩), (6, ⟨3, [.agg [nI64 (U1 + U2), nI64 (V1 + V2), .ref 55 3 0 ((U1 + U2 + 1) * (V1 + V2 + 1))]], true⟩), (55, ⟨3, (gL m (dvV (U1 + U2) (V1 + V2) (mTop U1 V1 U2 V2 a b)) ++ (mTop U1 V1 U2 V2 a b).drop m).map ratL, true⟩)])).put (some 2) (.eptr 2 3 0 0)).put (some 3) (.eptr 3 3 0 0)).put (some 4) (.eptr 4 3 0 0)).put (some 6) (.eptr 6 3 0 0)).put (some 14) (.list 1 ((rowI (U1 + U2)).map i64L))).put (some 15) (.list 1 ((rowI (V1 + V2)).map i64L))).put (some 138) (nI64 (U1 + U2 + 1))).put (some 139) (nI64 i))) (fun i m => i ≤ U1 + U2 + 1 ∧ i * (V1 + V2 + 1) = m) (fun i m => U1 + U2 + 1 - i) 0 0 ⟨Nat.zero_le _, Nat.zero_mul _⟩ (h0 := ⟨_, Weak.of_eq (put_id' (put_id' (put_id' (put_id' (put_id' (put_id' (put_id' (put_id' (mk_id' cl1) cl1) cl1) cl1) cl1) cl1) cl1) cl1) cl1)⟩) ?_
    rintro i m L5 ⟨hi, hm⟩
    refine zg6 ?_
    refine wl_if rfl (fun h140r h140 => ?_) (fun h140r h140 => ?_)
    · have hi2 : i ≤ U1 + U2 := by omega
      have egu := rowI_get hi2
      have hcu := chs_40 i hu
      refine zg18 ?_
      refine lp1 (fun (j : Nat) L => ((((((((((((St.mk L.slot (hp [(2, ⟨3, [.agg [nI64 U1, nI64 V1, .list 3 (a.map ratL)]], true⟩), (3, ⟨3, [.agg [nI64 U2, nI64 V2, .list 3 (b.map ratL)]], true⟩), (4, ⟨3, [.agg [.v (.int .i64 0), .v (.int .i64 0), .v (.slice none 0 0)]], true⟩), (6, ⟨3, [.agg [nI64 (U1 + U2), nI64 (V1 + V2), .ref 55 3 0 ((U1 + U2 + 1) * (V1 + V2 + 1))]], true⟩), (55, ⟨3, (gL (m + j) (dvV (U1 + U2) (V1 + V2) (mTop U1 V1 U2 V2 a b)) ++ (mTop U1 V1 U2 V2 a b).drop (m + j)).map ratL, true⟩)])).put (some 2) (.eptr 2 3 0 0)).put (some 3) (.eptr 3 3 0 0)).put (some 4) (.eptr 4 3 0 0)).put (some 6) (.eptr 6 3 0 0)).put (some 14) (.list 1 ((rowI (U1 + U2)).map i64L))).put (some 15) (.list 1 ((rowI (V1 + V2)).map i64L))).put (some 138) (nI64 (U1 + U2 + 1))).put (some 139) (nI64 i)).put (some 16) (nI64 i)).put (some 143) (nI64 (V1 + V2 + 1))).put (some 144) (nI64 j))) (fun j => j ≤ V1 + V2 + 1) (fun j => V1 + V2 + 1 - j) 0 (Nat.zero_le _) ?_
      rintro j L6 hj
      refine zg6 ?_
      refine wl_if rfl (fun h145r h145 => ?_) (fun h145r h145 => ?_)
      · have hj2 : j ≤ V1 + V2 := by omega
        have egv := rowI_get hj2
        have hcv := chs_40 j hv
        have hix := ix_lt hi2 hj2
        rw [hm] at hix
        have egd := get_gd (W := (dvV (U1 + U2) (V1 + V2) (mTop U1 V1 U2 V2 a b))) (o := (mTop U1 V1 U2 V2 a b)) (m := m + j)
        have hdv : (dvV (U1 + U2) (V1 + V2) (mTop U1 V1 U2 V2 a b)) (m + j) = (mTop U1 V1 U2 V2 a b).getD (m + j) 0 / ((((chs (U1 + U2) i : Nat) : Int) : Rat) * (((chs (V1 + V2) j : Nat) : Int) : Rat)) := by rw [dvV, ← hm, ix_div hj2, ix_mod hj2]
        have esd := set_gd (W := (dvV (U1 + U2) (V1 + V2) (mTop U1 V1 U2 V2 a b))) (o := (mTop U1 V1 U2 V2 a b)) (m := m + j) (by omega) hdv.symm
        have hgl : (gL (m + j) (dvV (U1 + U2) (V1 + V2) (mTop U1 V1 U2 V2 a b)) ++ (mTop U1 V1 U2 V2 a b).drop (m + j)).length = ((U1 + U2 + 1) * (V1 + V2 + 1)) := by rw [List.length_append, gL_len, List.length_drop]; omega
        have hr1 := chsR_rl i hu
        have hr2 := chsR_rl j hv
        have hr3 := getD_rl (by omega) hrI (m + j)
        have hr4 := rl_mul ((((chs (U1 + U2) i : Nat) : Int) : Rat)) ((((chs (V1 + V2) j : Nat) : Int) : Rat))
        refine zg15 ?_
        refine st_pure rfl (.bin rfl rfl (add1N (by omega))) ?_
        refine st_pure rfl (.bin rfl rfl (mulE hm (by omega))) ?_
        refine zg1 ?_
        refine st_pure rfl (.bin rfl rfl (add64N (by omega))) ?_
        refine zg3 ?_
        refine wl_regF 24 [22] (by decide +kernel) ?_
        refine zg8 ?_
        try simp only [t1, dfq, Nat.zero_add, egd]
        refine zg4 ?_
        try simp only [t1, dfi, Nat.zero_add, egu]
        refine cp am1 (c_RInt ((chs (U1 + U2) i : Nat) : Int) (by omega) (by omega)) ?_
        refine zg4 ?_
        try simp only [t1, dfi, Nat.zero_add, egv]
        refine cp am1 (c_RInt ((chs (V1 + V2) j : Nat) : Int) (by omega) (by omega)) ?_
        refine cp am2 (c_RMul ((((chs (U1 + U2) i : Nat) : Int) : Rat)) ((((chs (V1 + V2) j : Nat) : Int) : Rat)) (by omega)) ?_
        refine cp am2 (c_RQuo ((mTop U1 V1 U2 V2 a b).getD (m + j) 0) ((((chs (U1 + U2) i : Nat) : Int) : Rat) * (((chs (V1 + V2) j : Nat) : Int) : Rat)) (by omega)) ?_
        refine zg13 ?_
        exact nx1 (j + 1) (by omega)
      · obtain rfl : j = V1 + V2 + 1 := by omega
        refine zg11 ?_
        exact nx2 (i + 1) (m + (V1 + V2 + 1)) ⟨by omega, by rw [Nat.succ_mul]; omega⟩ (he := Weak.of_eq (put_id' (put_id' (put_id' (put_id' (put_id' (put_id' (put_id' (put_id' (mk_id' cl1) cl1) cl1) cl1) cl1) cl1) cl1) cl1) cl1))
    · obtain rfl : i = U1 + U2 + 1 := by omega
      have hE : (gL m (dvV (U1 + U2) (V1 + V2) (mTop U1 V1 U2 V2 a b)) ++ (mTop U1 V1 U2 V2 a b).drop m) = tmL U1 V1 U2 V2 a b := by rw [← hm, List.drop_of_length_le (by omega), List.append_nil]; rfl
      refine zg13 ?_
      rw [← hE]
      exact retCT [55] rfl rfl rfl rfl rfl T27 (.agg (.cons (.pure rfl) (.cons (.pure rfl) (.cons (imm_refm ratE rfl rfl (by rw [List.length_append, gL_len, List.length_drop]; omega)) .nil)))) rfl (.pure rfl)
end Go.Proofs.YthhdcfhaldcheaaGreat
end
section
set_option linter.unusedVariables false
set_option linter.unusedSimpArgs false
set_option maxHeartbeats 8000000
set_option maxRecDepth 100000
attribute [local irreducible] Go.Lg.opsL Go.Lg.wpL Go.Lg.thenL Go.Lg.blockL
namespace Go.Proofs.YthhdcfhaldcheaaGreat
open Go.Lg
end Go.Proofs.YthhdcfhaldcheaaGreat
namespace Go.Lg
theorem clo_kill (b : Nat) (f : FuncId) (caps : List LV) (h : pures caps = true) : (LV.clo f caps).kill b = .clo f caps := LV.kill_pure b _ (by simpa [LV.pure] using h)
end Go.Lg
namespace Go.Proofs.YthhdcfhaldcheaaGreat
open Go.Lg
def rwL (V : Nat) (c : List Rat) (i : Nat) : List Rat := (c.take ((i + 1) * (V + 1))).drop (i * (V + 1))
theorem rw_le {U V i : Nat} {c : List Rat} (hc : c.length = (U + 1) * (V + 1)) (hi : i ≤ U) : i * (V + 1) + (V + 1) ≤ c.length := by
  rw [hc, ← Nat.succ_mul]; exact Nat.mul_le_mul_right _ (by omega)
theorem rwL_len {U V i : Nat} {c : List Rat} (hc : c.length = (U + 1) * (V + 1)) (hi : i ≤ U) : (rwL V c i).length = V + 1 := by
  have := rw_le hc hi
  unfold rwL
  rw [List.length_drop, List.length_take, Nat.succ_mul]; omega
theorem rwL_mem {V i : Nat} {c : List Rat} {x : Rat} (h : x ∈ rwL V c i) : x ∈ c := List.mem_of_mem_take (List.mem_of_mem_drop h)
theorem rwL_get {U V i j : Nat} {c : List Rat} (hc : c.length = (U + 1) * (V + 1)) (hi : i ≤ U) (hj : j ≤ V) : (rwL V c i).getD j 0 = c.getD (i * (V + 1) + j) 0 := by
  have := rw_le hc hi
  unfold rwL
  rw [getD_dropR, List.getD_eq_getElem?_getD, List.getElem?_take_of_lt (by rw [Nat.succ_mul]; omega), ← List.getD_eq_getElem?_getD]
def rsL (g : List Rat → List Rat) (V : Nat) (c : List Rat) : Nat → List Rat
  | 0 => []
  | i + 1 => rsL g V c i ++ g (rwL V c i)
theorem rsL_len {g : List Rat → List Rat} {V W U : Nat} {c : List Rat} (hg : ∀ i, i ≤ U → (g (rwL V c i)).length = W + 1) : ∀ n, n ≤ U + 1 → (rsL g V c n).length = n * (W + 1)
  | 0, _ => by rw [Nat.zero_mul]; rfl
  | n + 1, h => by rw [rsL, List.length_append, rsL_len hg n (by omega), hg n (by omega), Nat.succ_mul]
theorem swL_len (U V : Nat) (c : List Rat) : (swL U V c).length = (V + 1) * (U + 1) := gL_len _ _
theorem sw_rl {U V R : Nat} {c : List Rat} (hR : 1 ≤ R) (h : ∀ x ∈ c, rl x ≤ R) : ∀ x ∈ swL U V c, rl x ≤ R := by
  intro x hx
  obtain ⟨i, _, rfl⟩ := List.mem_map.1 hx
  exact getD_rl hR h _
def colT (U V : Nat) (c : List Rat) (v : Rat) : List Rat := rsL (fun p => [evP p v]) V c (U + 1)
def rowT (U V : Nat) (c : List Rat) (u : Rat) : List Rat := rsL (fun p => [evP p u]) U (swL U V c) (V + 1)
theorem rowT_len (U V : Nat) (c : List Rat) (u : Rat) : (rowT U V c u).length = V + 1 := by
  have := rsL_len (g := fun p => [evP p u]) (V := U) (W := 0) (U := V) (c := swL U V c) (fun i _ => rfl) (V + 1) (Nat.le_refl _)
  rw [rowT, this]; omega
def evT (U V : Nat) (c : List Rat) (u v : Rat) : Rat := evP (rowT U V c u) v
def dfU (U V : Nat) (c : List Rat) : List Rat := swL V (U - 1) (rsL difP U (swL U V c) (V + 1))
def dfV (U V : Nat) (c : List Rat) : List Rat := rsL difP V c (U + 1)
theorem dif_W {p : List Rat} {U : Nat} (h : p.length = U + 1) : (difP p).length = U - 1 + 1 := by rw [difP_len]; split <;> omega
def vaT (u v : Int) (c : List Rat) : Bool := decide (0 ≤ u ∧ 0 ≤ v ∧ u ≤ 40 ∧ v ≤ 40 ∧ (c.length : Int) = (u + 1) * (v + 1))
theorem mulI {a b : Int} (ha : 0 ≤ a) (hb : 0 ≤ b) (ha2 : a ≤ 41) (hb2 : b ≤ 41) : binI .mul .i64 a b = some (.int .i64 (a * b)) := by
  have h1 := Int.mul_nonneg ha hb
  have h2 := Int.mul_le_mul ha2 hb2 hb (by decide)
  exact mul64 (by omega) (by omega)
theorem a7_ev : evT 1 1 [0, 0, 0, 1] (1 / 2) (1 / 2) = 1 / 4 := by decide +kernel
theorem a7_df : dfU 1 1 [0, 0, 0, 1] = [0, 1] := by decide +kernel
theorem c_tx1 : CallP Tryz.prog 87 [ratL 1] (.v (.string ⟨#[49]⟩)) := by
  have := c_FText 1 (by decide +kernel) (by decide +kernel) (by decide +kernel)
  rw [show (1 : Rat).den = 1 by decide +kernel, show (1 : Rat).num.natAbs = 1 by decide +kernel] at this
  exact this
theorem hs_7 (p : List Rat) (h : ∀ x ∈ p, rl x ≤ 1) (hl : p.length ≤ 4) : HS p (1 / 2) := by
  refine ⟨6, by decide +kernel, by decide, fun x hx => ?_⟩
  have h5 := h x hx
  have h6 : 2 ^ p.length ≤ 2 ^ 4 := Nat.pow_le_pow_right (by decide) hl
  exact Nat.le_trans (Nat.mul_le_mul (show rl x + 6 ≤ 7 by omega) h6) (by decide)
theorem rs_rl {g : List Rat → List Rat} {V U R : Nat} {c : List Rat} (h : ∀ i, i ≤ U → ∀ x ∈ g (rwL V c i), rl x ≤ R) : ∀ {n : Nat}, n ≤ U + 1 → ∀ x ∈ rsL g V c n, rl x ≤ R
  | 0, _, x, hx => by cases hx
  | n + 1, hn, x, hx => by
    rcases List.mem_append.1 (show x ∈ rsL g V c n ++ g (rwL V c n) from hx) with h1 | h1
    · exact rs_rl h (by omega) x h1
    · exact h n (by omega) x h1
open H0 in
theorem c_row7 (U V : Nat) (c : List Rat) (hc : c.length = (U + 1) * (V + 1)) (hl : c.length ≤ 1048576) (i : Nat) (hi : i ≤ U) : CallP Tryz.prog 145 [.agg [nI64 U, nI64 V, .list 3 (c.map ratL)], nI64 i] (.list 3 ((rwL V c i).map ratL)) := by
  have hU : U + 1 ≤ c.length := by rw [hc]; exact Nat.le_mul_of_pos_right _ (Nat.succ_pos V)
  have hV : V + 1 ≤ c.length := by rw [hc]; exact Nat.le_mul_of_pos_left _ (Nat.succ_pos U)
  have hnp := net_pureN U V c
  have hri := rw_le hc hi
  have hrs : (i + 1) * (V + 1) = i * (V + 1) + (V + 1) := Nat.succ_mul i (V + 1)
  refine fnP Tryz.func145 ?_
  refine zg13 ?_
  refine st_pure rfl (.bin rfl rfl (add1N (by omega))) ?_
  refine st_pure rfl (.bin rfl rfl (mulE rfl (by omega))) ?_
  refine zg1 ?_
  refine st_pure rfl (.bin rfl rfl (add1N (by omega))) ?_
  refine zg2 ?_
  refine st_pure rfl (.bin rfl rfl (add1N (by omega))) ?_
  refine st_pure rfl (.bin rfl rfl (mulE rfl (by omega))) ?_
  refine st_pure rfl (.sliceLb (a := _) (h := _) ratE rfl Tryz.underlying25 T33 rfl rfl (by omega) (by omega)) ?_
  refine zg4 ?_
  exact ret1 rfl (by first | exact .pure rfl | exact .pure (limL_pure _) | exact .pure (magL_pure _) | exact .pure (ratE.pure _) | exact .pure (pure_lst u32E _ _) | exact .pure (pure_lst ratE _ _))
namespace H_c_rows
theorem zSm {p q : Prop} (k : q) (e : p = q := by simp only [e1, e2, e3, e4, p1, p2, p3, q1, q2, q3, l1, t0, t1, r1, r2, r3, r4, Nat.zero_add, Nat.reduceMul, Nat.reduceAdd, b1, b2, b3, b4, b5, b6, i1, i2, i3, i4, i5, i6, Nat.reduceBEq, frz_nil, dfq, clo_kill _ _ _ hcp, ers, etk, elen, Nat.add_sub_cancel, List.length_map, kills_map ratE, ratL_kill, spL_kill, LV.kill, kills]; exact rfl) : p := e.mpr k
theorem zSm1 {p q : Prop} (k : q) (e : p = q := by simp only [e1, e2, e3, e4, p1, p2, p3, q1, q2, q3, l1, t0, t1, r1, r2, r3, r4, Nat.zero_add, Nat.reduceMul, Nat.reduceAdd, b1, b2, b3, b4, b5, b6, i1, i2, i3, i4, i5, i6, Nat.reduceBEq, frz_nil, dfq, clo_kill _ _ _ hcp, ers, etk, elen, Nat.add_sub_cancel, List.length_map, kills_map ratE, ratL_kill, spL_kill, LV.kill, kills, elen]; exact rfl) : p := e.mpr k
theorem nf1 {p : Prop} (h : p := by first | (refine zSm1 ?_; exact rfl) | exact rfl) : p := h
end H_c_rows
open H_c_rows in
theorem c_rows (U V : Nat) (c : List Rat) (hc : c.length = (U + 1) * (V + 1)) (hl : c.length ≤ 1048576) (f : Nat) (caps : List LV) (hcp : pures caps = true) (hcs : ∀ x ∈ caps, x.csize = 1 ∧ x.isAgg = false) (g : List Rat → List Rat) (W : Nat) (hf : ∀ i, i ≤ U → CallP Tryz.prog f ([.list 3 ((rwL V c i).map ratL)] ++ caps) (.list 3 ((g (rwL V c i)).map ratL))) (hg : ∀ i, i ≤ U → (g (rwL V c i)).length = W + 1) (hW : (U + 1) * (W + 1) ≤ 1048576) : CallP Tryz.prog 93 [.agg [nI64 U, nI64 V, .list 3 (c.map ratL)], .clo f caps] (.agg [nI64 U, nI64 W, .list 3 ((rsL g V c (U + 1)).map ratL)]) := by
  have hU : U + 1 ≤ c.length := by rw [hc]; exact Nat.le_mul_of_pos_right _ (Nat.succ_pos V)
  have hV : V + 1 ≤ c.length := by rw [hc]; exact Nat.le_mul_of_pos_left _ (Nat.succ_pos U)
  have hnp := net_pureN U V c
  have hW2 : W + 1 ≤ (U + 1) * (W + 1) := Nat.le_mul_of_pos_left _ (Nat.succ_pos U)
  refine fnP Tryz.func93 (ht := (fun g => LV.ren_pure g _ (net_pureN _ _ _))) ?_
  have ers : True := trivial
  have etk : True := trivial
  have elen : True := trivial
  refine zg19 ?_
  refine cp am1 (c_shaped U V c hc hl) ?_
  refine zg11 ?_
  refine st_pure rfl (.bin rfl rfl (add1N (by omega))) ?_
  refine zg4 ?_
  refine wl_weak ((Weak.cell 5 rfl (fun Z μ w cs h => rep_net 35 3 _ _ Z μ w cs h)).trans (Weak.newB _ 35 3 rfl)) ?_
  refine lp3 (fun (i m v : Nat) L => (((((((St.mk L.slot (hp [(2, ⟨3, [.agg [nI64 U, nI64 V, .list 3 (c.map ratL)]], true⟩), (4, ⟨3, [.agg [.v (.int .i64 0), .v (.int .i64 0), .v (.slice none 0 0)]], true⟩), (5, ⟨3, [.agg [nI64 U, nI64 v, .ref 35 3 0 m]], true⟩), (35, ⟨3, (rsL g V c i).map ratL, true⟩)])).put (some 1) (.clo f caps)).put (some 2) (.eptr 2 3 0 0)).put (some 4) (.eptr 4 3 0 0)).put (some 5) (.eptr 5 3 0 0)).put (some 19) (nI64 (U + 1))).put (some 20) (nI64 i))) (fun i m v => i ≤ U + 1 ∧ i * (W + 1) = m ∧ (i = 0 ∨ v = W)) (fun i m v => U + 1 - i) 0 0 0 ⟨Nat.zero_le _, Nat.zero_mul _, .inl rfl⟩ ?_
  rintro i m v L1 ⟨hi, hm, hv⟩
  refine zg6 ?_
  refine wl_if rfl (fun h21r h21 => ?_) (fun h21r h21 => ?_)
  · have hi2 : i ≤ U := by omega
    have hfi := hf i hi2
    have elen := hg i hi2
    have hrl := rsL_len hg i hi
    rw [hm] at hrl
    have hmu : m + (W + 1) ≤ (U + 1) * (W + 1) := by rw [← hm, ← Nat.succ_mul]; exact Nat.mul_le_mul_right _ (by omega)
    have ers : (rsL g V c i).map ratL ++ (g (rwL V c i)).map ratL = (rsL g V c (i + 1)).map ratL := by rw [rsL, List.map_append]
    have etk : ((rsL g V c i).map ratL).take m = (rsL g V c i).map ratL := List.take_of_length_le (by rw [List.length_map]; omega)
    refine zg15 ?_
    refine cp am2 (c_row7 U V c hc hl i hi2) ?_
    refine st_opc [] rfl rfl (.clo (f := f) (cap := caps) (args := [.list 3 ((rwL V c i).map ratL)]) rfl (.cons im0 .nil) ⟨hcp, hcs⟩ hfi.1 (by decide) (fun _ h => by cases h)) (hfi.2 _) ?_
    refine zg7 ?_
    refine st_pure rfl (.bin rfl rfl (sub1N (by omega) (by omega))) ?_
    refine zg1 ?_
    refine st_store rfl (.store rfl rfl rfl rfl rfl rfl rfl T3 ne0) ?_
    refine st_end nf1 ?_
    refine zg5 ?_
    refine st_store rfl (.app (news := (g (rwL V c i)).map ratL) rfl rfl rfl rfl rfl (by rw [List.length_map]; omega) (.inl rfl) (by decide) Tryz.underlying25 Tryz.underlying38 Z33a T33 rfl B33 (.inr (.inl rfl)) (by rw [List.length_map, elen]; omega) (by rw [List.length_map, elen]; omega) (by decide)) ?_
    refine zg10 ?_
    exact nx3 (i + 1) (m + (W + 1)) W ⟨by omega, by rw [Nat.succ_mul]; omega, .inr rfl⟩
  · obtain rfl : i = U + 1 := by omega
    obtain rfl : v = W := by omega
    have hrl := rsL_len hg (U + 1) (Nat.le_refl _)
    refine zg12 ?_
    exact retC [35] rfl rfl rfl rfl rfl T27 (.agg (.cons (.pure rfl) (.cons (.pure rfl) (.cons (imm_refm ratE rfl rfl (by omega)) .nil))))
open H0 in
theorem c_Col1 (p : List Rat) (v : Rat) (h : HS p v) (hp0 : 0 < p.length) : CallP Tryz.prog 94 [.list 3 (p.map ratL), .boxp (ratL v)] (.list 3 ([evP p v].map ratL)) := by
  refine fnP Tryz.func94 ?_
  refine zg9 ?_
  refine cp am2 (c_BEval p v h hp0) ?_
  refine zg5 ?_
  exact ret1f [7] rfl rfl (imm_refm ratE rfl rfl rfl)
open H0 in
theorem c_Column (U V : Nat) (c : List Rat) (hc : c.length = (U + 1) * (V + 1)) (hl : c.length ≤ 1048576) (v : Rat) (hS : ∀ i, i ≤ U → HS (rwL V c i) v) : CallP Tryz.prog 20 [.agg [nI64 U, nI64 V, .list 3 (c.map ratL)], ratL v] (.list 3 ((colT U V c v).map ratL)) := by
  have hU : U + 1 ≤ c.length := by rw [hc]; exact Nat.le_mul_of_pos_right _ (Nat.succ_pos V)
  have hV : V + 1 ≤ c.length := by rw [hc]; exact Nat.le_mul_of_pos_left _ (Nat.succ_pos U)
  have hnp := net_pureN U V c
  have hbp : pures [LV.boxp (ratL v)] = true := by simp [pures, LV.pure, ratE.pure]
  refine fnP Tryz.func20 ?_
  refine zg10 ?_
  refine st_opc [3] rfl rfl (.mk (caps := [.boxp (ratL v)]) (.cons (.eptr rfl rfl rfl (ratE.csize _) (ratL_all _) (ratE.pure _) rfl) .nil) (fun x hx => by rw [List.mem_singleton.1 hx]; exact ⟨rfl, rfl⟩)) rfl ?_
  refine st_callP rfl (.cons (.pure hnp) (.cons (.pure (show LV.pure (.clo 94 [.boxp (ratL v)]) = true by simpa [LV.pure] using hbp)) .nil)) (c_rows U V c hc hl 94 [.boxp (ratL v)] hbp (fun x hx => by rw [List.mem_singleton.1 hx]; exact ⟨rfl, rfl⟩) (fun p => [evP p v]) 0 (fun i hi => c_Col1 _ v (hS i hi) (by rw [rwL_len hc hi]; exact Nat.succ_pos V)) (fun i hi => rfl) (by omega)) ?_
  refine st_pure rfl (.field rfl SL27 rfl (pure_lst ratE _ _)) ?_
  refine zg4 ?_
  exact ret1 rfl (by first | exact .pure rfl | exact .pure (limL_pure _) | exact .pure (magL_pure _) | exact .pure (ratE.pure _) | exact .pure (pure_lst u32E _ _) | exact .pure (pure_lst ratE _ _))
open H0 in
theorem c_TRow (U V : Nat) (c : List Rat) (hc : c.length = (U + 1) * (V + 1)) (hl : c.length ≤ 1048576) (hcR : ∀ x ∈ c, rl x ≤ 274877906944) (u : Rat) (hS : ∀ j, j ≤ V → HS (rwL U (swL U V c) j) u) : CallP Tryz.prog 18 [.agg [nI64 U, nI64 V, .list 3 (c.map ratL)], ratL u] (.list 3 ((rowT U V c u).map ratL)) := by
  have hU : U + 1 ≤ c.length := by rw [hc]; exact Nat.le_mul_of_pos_right _ (Nat.succ_pos V)
  have hV : V + 1 ≤ c.length := by rw [hc]; exact Nat.le_mul_of_pos_left _ (Nat.succ_pos U)
  have hnp := net_pureN U V c
  have hsl := swL_len U V c
  have hsw : (swL U V c).length ≤ 1048576 := by rw [hsl, Nat.mul_comm, ← hc]; exact hl
  have hnp2 := net_pureN V U (swL U V c)
  refine fnP Tryz.func18 ?_
  refine zg8 ?_
  refine wl_regD 5 (by decide +kernel) ?_
  refine zg1 ?_
  refine cp am1 (c_Swap U V c hc hl hcR) ?_
  refine zg1 ?_
  refine cp am2 (c_Column V U (swL U V c) hsl hsw u hS) ?_
  refine zg4 ?_
  exact ret1 rfl (by first | exact .pure rfl | exact .pure (limL_pure _) | exact .pure (magL_pure _) | exact .pure (ratE.pure _) | exact .pure (pure_lst u32E _ _) | exact .pure (pure_lst ratE _ _))
open H0 in
theorem c_TEval (U V : Nat) (c : List Rat) (hc : c.length = (U + 1) * (V + 1)) (hl : c.length ≤ 1048576) (hcR : ∀ x ∈ c, rl x ≤ 274877906944) (u v : Rat) (hS : ∀ j, j ≤ V → HS (rwL U (swL U V c) j) u) (hS2 : HS (rowT U V c u) v) : CallP Tryz.prog 15 [.agg [nI64 U, nI64 V, .list 3 (c.map ratL)], ratL u, ratL v] (ratL (evT U V c u v)) := by
  have hU : U + 1 ≤ c.length := by rw [hc]; exact Nat.le_mul_of_pos_right _ (Nat.succ_pos V)
  have hV : V + 1 ≤ c.length := by rw [hc]; exact Nat.le_mul_of_pos_left _ (Nat.succ_pos U)
  have hnp := net_pureN U V c
  refine fnP Tryz.func15 ?_
  refine zg9 ?_
  refine wl_regD 5 (by decide +kernel) ?_
  refine zg2 ?_
  refine cp am2 (c_TRow U V c hc hl hcR u hS) ?_
  refine zg1 ?_
  refine cp am2 (c_BEval (rowT U V c u) v hS2 (by rw [rowT_len]; exact Nat.succ_pos V)) ?_
  refine zg4 ?_
  exact retC [] rfl rfl rfl (ratE.csize _) (ratL_all _) T33 (.pure (ratE.pure _))
open H0 in
theorem c_columns (U V : Nat) (c : List Rat) (hc : c.length = (U + 1) * (V + 1)) (hl : c.length ≤ 1048576) (hcR : ∀ x ∈ c, rl x ≤ 274877906944) (f : Nat) (caps : List LV) (hcp : pures caps = true) (hcs : ∀ x ∈ caps, x.csize = 1 ∧ x.isAgg = false) (g : List Rat → List Rat) (W : Nat) (hf : ∀ j, j ≤ V → CallP Tryz.prog f ([.list 3 ((rwL U (swL U V c) j).map ratL)] ++ caps) (.list 3 ((g (rwL U (swL U V c) j)).map ratL))) (hg : ∀ j, j ≤ V → (g (rwL U (swL U V c) j)).length = W + 1) (hW : (V + 1) * (W + 1) ≤ 1048576) (hgR : ∀ x ∈ (rsL g U (swL U V c) (V + 1)), rl x ≤ 274877906944) : CallP Tryz.prog 96 [.agg [nI64 U, nI64 V, .list 3 (c.map ratL)], .clo f caps] (.agg [nI64 W, nI64 V, .list 3 ((swL V W (rsL g U (swL U V c) (V + 1))).map ratL)]) := by
  have hU : U + 1 ≤ c.length := by rw [hc]; exact Nat.le_mul_of_pos_right _ (Nat.succ_pos V)
  have hV : V + 1 ≤ c.length := by rw [hc]; exact Nat.le_mul_of_pos_left _ (Nat.succ_pos U)
  have hnp := net_pureN U V c
  have hsl := swL_len U V c
  have hsw : (swL U V c).length ≤ 1048576 := by rw [hsl, Nat.mul_comm, ← hc]; exact hl
  have hnp2 := net_pureN V U (swL U V c)
  have hrl := rsL_len hg (V + 1) (Nat.le_refl _)
  have hnp3 := net_pureN V W (rsL g U (swL U V c) (V + 1))
  have hcl : LV.pure (.clo f caps) = true := by simpa [LV.pure] using hcp
  refine fnP Tryz.func96 (ht := (fun g => LV.ren_pure g _ (net_pureN _ _ _))) ?_
  refine zg9 ?_
  refine cp am1 (c_Swap U V c hc hl hcR) ?_
  refine zg1 ?_
  refine cp am2 (c_rows V U (swL U V c) hsl hsw f caps hcp hcs g W hf hg hW) ?_
  refine cp am1 (c_Swap V W (rsL g U (swL U V c) (V + 1)) hrl (by omega) hgR) ?_
  refine zg4 ?_
  exact retC [] rfl rfl rfl rfl rfl T27 (.pure (net_pureN _ _ _))
open H0 in
theorem c_DiffU (U V : Nat) (c : List Rat) (hc : c.length = (U + 1) * (V + 1)) (hl : c.length ≤ 1048576) (hcR : ∀ x ∈ c, rl x ≤ 1073741824) (hU1 : U ≤ 900) : CallP Tryz.prog 53 [.agg [nI64 U, nI64 V, .list 3 (c.map ratL)]] (.agg [nI64 (U - 1), nI64 V, .list 3 ((dfU U V c).map ratL)]) := by
  have hU : U + 1 ≤ c.length := by rw [hc]; exact Nat.le_mul_of_pos_right _ (Nat.succ_pos V)
  have hV : V + 1 ≤ c.length := by rw [hc]; exact Nat.le_mul_of_pos_left _ (Nat.succ_pos U)
  have hnp := net_pureN U V c
  have hsl := swL_len U V c
  have hsw : (swL U V c).length ≤ 1048576 := by rw [hsl, Nat.mul_comm, ← hc]; exact hl
  have hnp2 := net_pureN (U - 1) V (dfU U V c)
  have hsR := sw_rl (U := U) (V := V) (R := 1073741824) (by decide) hcR
  refine fnP Tryz.func53 (ht := (fun g => LV.ren_pure g _ (net_pureN _ _ _))) ?_
  refine zg9 ?_
  refine cp am2 (c_columns U V c hc hl (fun x hx => Nat.le_trans (hcR x hx) (by decide)) 40 [] rfl (fun x hx => by cases hx) difP (U - 1) (fun j hj => c_Diff _ (by rw [rwL_len hsl hj]; omega) (fun x hx => hsR x (rwL_mem hx))) (fun j hj => dif_W (rwL_len hsl hj)) (by have := Nat.mul_le_mul_left (V + 1) (show U - 1 + 1 ≤ U + 1 by omega); omega) (rs_rl (U := V) (fun j hj x hx => Nat.le_trans (difP_rl (R := 1073741824) (by decide) (by rw [rwL_len hsl hj]; omega) (fun x hx => hsR x (rwL_mem hx)) x hx) (by decide)) (Nat.le_refl _))) ?_
  refine zg4 ?_
  exact retC [] rfl rfl rfl rfl rfl T27 (.pure (net_pureN _ _ _))
end Go.Proofs.YthhdcfhaldcheaaGreat
end
section
set_option linter.unusedVariables false
set_option linter.unusedSimpArgs false
set_option maxHeartbeats 8000000
set_option maxRecDepth 100000
attribute [local irreducible] Go.Lg.opsL Go.Lg.wpL Go.Lg.thenL Go.Lg.blockL
namespace Go.Proofs.YthhdcfhaldcheaaGreat
open Go.Lg
theorem a7_val : vaT 1 1 [0, 0, 0, 1] = true := by decide +kernel
namespace H_c_TValid
theorem zSm {p q : Prop} (k : q) (e : p = q := by simp only [e1, e2, e3, e4, p1, p2, p3, q1, q2, q3, l1, t0, t1, r1, r2, r3, r4, Nat.zero_add, Nat.reduceMul, Nat.reduceAdd, b1, b2, b3, b4, b5, b6, i1, i2, i3, i4, i5, i6, Nat.reduceBEq, dfq, kills_map ratE, ratL_kill, spL_kill, LV.kill, kills]; exact rfl) : p := e.mpr k
end H_c_TValid
open H_c_TValid in
theorem c_TValid (u v : Int) (c : List Rat) (hu : -9223372036854775808 ≤ u ∧ u ≤ 9223372036854775807) (hv : -9223372036854775808 ≤ v ∧ v ≤ 9223372036854775807) (hl : c.length ≤ 1048576) (hcR : ∀ x ∈ c, rl x ≤ 1099511627776) : CallP Tryz.prog 86 [.agg [iL u, iL v, .list 3 (c.map ratL)]] (bL (vaT u v c)) := by
  refine fnP Tryz.func86 ?_
  refine zg13 ?_
  refine op_if 8 rfl (fun h8r h8 => ?_) (fun h8r h8 => ?_)
  · refine zg37 ?_
    rw [show vaT u v c = false from decide_eq_false (by omega)]
    exact ret1 rfl (by first | exact .pure rfl | exact .pure (limL_pure _) | exact .pure (magL_pure _) | exact .pure (ratE.pure _) | exact .pure (pure_lst u32E _ _) | exact .pure (pure_lst ratE _ _))
  · refine zg5 ?_
    refine op_if 13 rfl (fun h13r h13 => ?_) (fun h13r h13 => ?_)
    · refine zg32 ?_
      rw [show vaT u v c = false from decide_eq_false (by omega)]
      exact ret1 rfl (by first | exact .pure rfl | exact .pure (limL_pure _) | exact .pure (magL_pure _) | exact .pure (ratE.pure _) | exact .pure (pure_lst u32E _ _) | exact .pure (pure_lst ratE _ _))
    · refine zg5 ?_
      refine op_if 18 rfl (fun h18r h18 => ?_) (fun h18r h18 => ?_)
      · refine zg27 ?_
        rw [show vaT u v c = false from decide_eq_false (by omega)]
        exact ret1 rfl (by first | exact .pure rfl | exact .pure (limL_pure _) | exact .pure (magL_pure _) | exact .pure (ratE.pure _) | exact .pure (pure_lst u32E _ _) | exact .pure (pure_lst ratE _ _))
      · refine zg5 ?_
        refine op_if 23 rfl (fun h23r h23 => ?_) (fun h23r h23 => ?_)
        · refine zg22 ?_
          rw [show vaT u v c = false from decide_eq_false (by omega)]
          exact ret1 rfl (by first | exact .pure rfl | exact .pure (limL_pure _) | exact .pure (magL_pure _) | exact .pure (ratE.pure _) | exact .pure (pure_lst u32E _ _) | exact .pure (pure_lst ratE _ _))
        · refine zg5 ?_
          refine st_pure (guardX (v := false) rfl rfl (h23r) rfl) (.bin rfl rfl (add64 (by omega) (by omega))) ?_
          refine zg2 ?_
          refine st_pure (guardX (v := false) rfl rfl (h23r) rfl) (.bin rfl rfl (add64 (by omega) (by omega))) ?_
          refine st_pure (guardX (v := false) rfl rfl (h23r) rfl) (.bin rfl rfl (mulI (by omega) (by omega) (by omega) (by omega))) ?_
          refine zg4 ?_
          refine wl_if rfl (fun h35r h35 => ?_) (fun h35r h35 => ?_)
          · refine zg7 ?_
            rw [show vaT u v c = false from decide_eq_false (by omega)]
            exact ret1 rfl (by first | exact .pure rfl | exact .pure (limL_pure _) | exact .pure (magL_pure _) | exact .pure (ratE.pure _) | exact .pure (pure_lst u32E _ _) | exact .pure (pure_lst ratE _ _))
          · refine zg12 ?_
            refine wl_weak (Weak.kill _ 1) ?_
            refine lp1 (fun (k : Nat) L => ((((St.mk L.slot (hp [])).put (some 37) (.list 3 (c.map ratL))).put (some 38) (nI64 c.length)).put (some 39) (nI64 k))) (fun k => k ≤ c.length) (fun k => c.length - k) 0 (Nat.zero_le _) ?_
            rintro k L1 hk
            refine zg6 ?_
            refine wl_if rfl (fun h40r h40 => ?_) (fun h40r h40 => ?_)
            · have hk2 : k < c.length := by omega
              have hr1 := hcR _ (getD_mem (i := k) hk2)
              refine zg15 ?_
              refine cp am1 (c_RValid (c.getD k 0) (by omega)) ?_
              refine zg7 ?_
              refine wl_regW (Weak.kill _ 4) ?_
              refine zg4 ?_
              exact nx1 (k + 1) (by omega)
            · refine zg11 ?_
              rw [show vaT u v c = true from decide_eq_true ⟨by omega, by omega, by omega, by omega, by omega⟩]
              exact ret1 rfl (by first | exact .pure rfl | exact .pure (limL_pure _) | exact .pure (magL_pure _) | exact .pure (ratE.pure _) | exact .pure (pure_lst u32E _ _) | exact .pure (pure_lst ratE _ _))
namespace H_c_awake7
theorem zSm {p q : Prop} (k : q) (e : p = q := by simp only [e1, e2, e3, e4, p1, p2, p3, q1, q2, q3, l1, t0, t1, r1, r2, r3, r4, Nat.zero_add, Nat.reduceMul, Nat.reduceAdd, b1, b2, b3, b4, b5, b6, i1, i2, i3, i4, i5, i6, Nat.reduceBEq, List.length_cons, List.length_nil, half_eq, r1r, tz2, tz1, dfq]; exact rfl) : p := e.mpr k
end H_c_awake7
open H_c_awake7 in
theorem c_awake7  : CallP Tryz.prog 10 [] (bL true) := by
  have hR1 : ∀ x ∈ ([0, 0, 0, 1] : List Rat), rl x ≤ 1 := by decide +kernel
  have hDU : CallP Tryz.prog 53 [.agg [nI64 1, nI64 1, .list 3 ([0, 0, 0, 1].map ratL)]] (.agg [nI64 0, nI64 1, .list 3 ([0, 1].map ratL)]) := by
    have := c_DiffU 1 1 [0, 0, 0, 1] rfl (by decide) (fun x hx => Nat.le_trans (hR1 x hx) (by decide)) (by decide)
    rw [a7_df] at this
    exact this
  have hEV := c_TEval 1 1 [0, 0, 0, 1] rfl (by decide) (fun x hx => Nat.le_trans (hR1 x hx) (by decide)) (1 / 2) (1 / 2) (fun j hj => hs_7 _ (fun x hx => sw_rl (by decide) hR1 x (rwL_mem hx)) (by rw [rwL_len (U := 1) (V := 1) (swL_len 1 1 _) hj]; decide)) ⟨5, by decide +kernel, by decide, by decide +kernel⟩
  rw [a7_ev] at hEV
  refine fnP Tryz.func10 ?_
  refine zg7 ?_
  refine st_pure rfl (.build0 SL33 Z33a) ?_
  refine st_pure rfl (.build0 SL33 Z33a) ?_
  refine st_pure rfl (.build0 SL33 Z33a) ?_
  refine cp am1 (c_FInt 1 (by decide) (by decide)) ?_
  refine zg8 ?_
  refine cp am2 (c_FFrac 1 2 (by decide) (by decide) (by decide) (by decide) (by decide)) ?_
  refine zg7 ?_
  refine st_callPf [8] rfl rfl (.cons (.agg (.cons (.pure rfl) (.cons (.pure rfl) (.cons (imm_refm ratE rfl rfl rfl) .nil)))) .nil) hDU ?_
  refine zg7 ?_
  refine st_callPf [8] rfl rfl (.cons (.agg (.cons (.pure rfl) (.cons (.pure rfl) (.cons (imm_refm ratE rfl rfl rfl) .nil)))) .nil) (c_TValid 1 1 [0, 0, 0, 1] (by decide) (by decide) (by decide) (fun x hx => Nat.le_trans (hR1 x hx) (by decide))) ?_
  refine zg1 ?_
  refine st_pure (guardX (v := true) rfl rfl (a7_val) rfl) ld27 ?_
  refine st_pure (guardX (v := true) rfl rfl (a7_val) rfl) ld33 ?_
  refine st_pure (guardX (v := true) rfl rfl (a7_val) rfl) ld33 ?_
  refine st_callPf [8] (guardX (v := true) rfl rfl (a7_val) rfl) rfl (.cons (.agg (.cons (.pure rfl) (.cons (.pure rfl) (.cons (imm_refm ratE rfl rfl rfl) .nil)))) (.cons im0 (.cons im0 .nil))) hEV ?_
  refine st_callP (guardX (v := true) rfl rfl (a7_val) rfl) (.cons im0 .nil) (c_tx14) ?_
  refine st_pure (guardX (v := true) rfl rfl (a7_val) rfl) (.eqS rfl rfl) ?_
  refine st_pure rfl (.pickT rfl (a7_val)) ?_
  refine zg1 ?_
  refine st_pure (guardX (v := true) rfl rfl ((by decide +kernel)) rfl) fa27 ?_
  refine st_pure (guardX (v := true) rfl rfl ((by decide +kernel)) rfl) ld3 ?_
  refine st_pure (guardX (v := true) rfl rfl ((by decide +kernel)) rfl) (.bin rfl rfl rfl) ?_
  refine st_pure rfl (.pickT rfl ((by decide +kernel))) ?_
  refine zg1 ?_
  refine st_pure (guardX (v := true) rfl rfl ((by decide)) rfl) fa27 ?_
  refine st_pure (guardX (v := true) rfl rfl ((by decide)) rfl) ld3 ?_
  refine st_pure (guardX (v := true) rfl rfl ((by decide)) rfl) (.bin rfl rfl rfl) ?_
  refine st_pure rfl (.pickT rfl ((by decide))) ?_
  refine zg1 ?_
  refine st_pure (guardX (v := true) rfl rfl ((by decide)) rfl) fa27 ?_
  refine st_pure (guardX (v := true) rfl rfl ((by decide)) rfl) ld25 ?_
  refine st_pure (guardX (v := true) rfl rfl ((by decide)) rfl) ln25 ?_
  refine st_pure (guardX (v := true) rfl rfl ((by decide)) rfl) (.bin rfl rfl rfl) ?_
  refine st_pure rfl (.pickT rfl ((by decide))) ?_
  refine zg1 ?_
  refine st_pure (guardX (v := true) rfl rfl ((by decide)) rfl) fa27 ?_
  refine st_pure (guardX (v := true) rfl rfl ((by decide)) rfl) ld25 ?_
  refine st_pure (guardX (v := true) rfl rfl ((by decide)) rfl) ix25 ?_
  refine st_pure (guardX (v := true) rfl rfl ((by decide)) rfl) ld33 ?_
  refine st_callP (guardX (v := true) rfl rfl ((by decide)) rfl) (.cons im0 .nil) (c_tx1) ?_
  refine st_pure (guardX (v := true) rfl rfl ((by decide)) rfl) (.eqS rfl rfl) ?_
  refine st_pure rfl (.pickT rfl ((by decide))) ?_
  refine zg4 ?_
  exact ret1 (x := .v (.bool true)) (congrArg (fun b => LV.v (.bool b)) (show ((⟨#[49]⟩ : ByteArray).toList == (⟨#[49]⟩ : ByteArray).toList) = true by decide +kernel)) (.pure rfl)
end Go.Proofs.YthhdcfhaldcheaaGreat
end
section
set_option linter.unusedVariables false
set_option linter.unusedSimpArgs false
set_option maxHeartbeats 8000000
set_option maxRecDepth 100000
attribute [local irreducible] Go.Lg.opsL Go.Lg.wpL Go.Lg.thenL Go.Lg.blockL
namespace Go.Proofs.YthhdcfhaldcheaaGreat
open Go.Lg
end Go.Proofs.YthhdcfhaldcheaaGreat
namespace Go.Lg
theorem retMCf {P : Program} {L : St} {a : Nat} {T : TypeId} {b sz : Nat} {x y : LV} {m : Bool} {n : Nat} {ag : Bool} {blk : Blk} (bs : List Nat) (hbs : bs.contains 0 = false) (h : L.slot a = .eptr b sz 0 0) (hb : L.heap b = some ⟨sz, [x], m⟩)
    (hx : x.csize = sz) (hat : x.at 0 n ag = some x) (hT : TyIs P T n ag) (hi : Imm (L.frz bs).heap x y) (h0 : (L.frz bs).heap 0 = some blk) (hm : blk.mt = true) (hp : pures blk.vals = true) : RetM P [.cell a T] L y blk :=
  ⟨[x], [y], (L.frz bs).heap, .cons ⟨b, sz, 0, 0, _, x, n, ag, h, hb, rfl, rfl, hx, hat, hT⟩ .nil, frz_le bs hbs, .cons (.imm hi) .nil, h0, hm, hp, rfl⟩
end Go.Lg
namespace Go.Proofs.YthhdcfhaldcheaaGreat
open Go.Lg
def nU (l : List Int) (k : Nat) (n : Nat) : Nat := (nxV l k ((n : Int) + 1)).toNat
theorem nU_le (l : List Int) (k n : Nat) : nU l k n ≤ n := by
  have := nxV_lt (l := l) (k := k) (n := (n : Int) + 1) (by omega)
  unfold nU; omega
def ntC (l : List Int) (k u v : Nat) : List Rat := plV l (nxK l (nxK l k)) ((nU l k u + 1) * (nU l (nxK l k) v + 1))
def ntK (l : List Int) (k u v : Nat) : Nat := plK l (nxK l (nxK l k)) ((nU l k u + 1) * (nU l (nxK l k) v + 1))
theorem ntC_len (l : List Int) (k u v : Nat) : (ntC l k u v).length = (nU l k u + 1) * (nU l (nxK l k) v + 1) := plV_len l _ _
theorem ntC_rl (l : List Int) (k u v : Nat) : ∀ x ∈ ntC l k u v, rl x ≤ 1 := plV_rl l _ _
theorem ntK_le {l : List Int} (hl : l.length ≤ 500) {k : Nat} (hk : k ≤ 500) (u v : Nat) : ntK l k u v ≤ 500 := plK_le hl _ _ (nxK_le hl (nxK_le hl hk))
namespace H_c_Net
theorem zSm {p q : Prop} (k : q) (e : p = q := by simp only [e1, e2, e3, e4, p1, p2, p3, q1, q2, q3, l1, t0, t1, r1, r2, r3, r4, Nat.zero_add, Nat.reduceMul, Nat.reduceAdd, b1, b2, b3, b4, b5, b6, i1, i2, i3, i4, i5, i6, Nat.reduceBEq, l1, frz_nil, ratL_ren, hU, hV, take_map_len, map_snoc, len_snoc, List.length_cons, List.length_nil, kills_map ratE, LV.kill, kills, dice_kill, ek]; exact rfl) : p := e.mpr k
end H_c_Net
open H_c_Net in
theorem c_Net (l : List Int) (k0 u v : Nat) (hl : l.length ≤ 500) (hk : k0 ≤ 500) (hu : u ≤ 20) (hv : v ≤ 20) : CallOKM Tryz.prog 12 ⟨2, [diceL l k0], true⟩ [.eptr 0 2 0 0, nI64 u, nI64 v] (.agg [nI64 (nU l k0 u), nI64 (nU l (nxK l k0) v), .list 3 ((ntC l k0 u v).map ratL)]) ⟨2, [diceL l (ntK l k0 u v)], true⟩ := by
  have k1 := nxK_le (l := l) hl hk
  have k2 := nxK_le (l := l) hl k1
  have hb1 := nxV_lt (l := l) (k := k0) (n := (u : Int) + 1) (by omega)
  have hb2 := nxV_lt (l := l) (k := nxK l k0) (n := (v : Int) + 1) (by omega)
  have hU : nxV l k0 ((u : Int) + 1) = ((nU l k0 u) : Int) := by unfold nU; omega
  have hV : nxV l (nxK l k0) ((v : Int) + 1) = ((nU l (nxK l k0) v) : Int) := by unfold nU; omega
  have hU2 := nU_le l k0 u
  have hV2 := nU_le l (nxK l k0) v
  have hN : (((nU l k0 u) + 1) * ((nU l (nxK l k0) v) + 1)) ≤ 441 := Nat.le_trans (Nat.mul_le_mul (show (nU l k0 u) + 1 ≤ 21 by omega) (show (nU l (nxK l k0) v) + 1 ≤ 21 by omega)) (by decide)
  refine fnM Tryz.func12 ?_
  have ek : True := trivial
  refine zg9 ?_
  refine st_pure rfl (.bin rfl rfl (add64 (by omega) (by omega))) ?_
  refine st_callMp 0 rfl rfl rfl (dice_pure l _) (.cons .ptr (.cons (.imm (.pure rfl)) .nil)) .ptr (c_Next l k0 ((u : Int) + 1) (by omega) (by omega) (by omega) (by omega)) rfl (dice_pure l _) rfl ?_
  refine zg2 ?_
  refine st_pure rfl (.bin rfl rfl (add64 (by omega) (by omega))) ?_
  refine st_callMp 0 rfl rfl rfl (dice_pure l _) (.cons .ptr (.cons (.imm (.pure rfl)) .nil)) .ptr (c_Next l (nxK l k0) ((v : Int) + 1) (by omega) (by omega) (by omega) (by omega)) rfl (dice_pure l _) rfl ?_
  refine zg12 ?_
  refine wl_weak ((Weak.cell 7 rfl (fun Z μ w cs h => rep_net 34 3 _ _ Z μ w cs h)).trans (Weak.newB _ 34 3 rfl)) ?_
  refine lp3 (fun (c k : Nat) (o : List Rat) L => (((((St.mk L.slot (hp [(0, ⟨2, [diceL l k], true⟩), (6, ⟨3, [.agg [.v (.int .i64 0), .v (.int .i64 0), .v (.slice none 0 0)]], true⟩), (7, ⟨3, [.agg [nI64 (nU l k0 u), nI64 (nU l (nxK l k0) v), .ref 34 3 0 o.length]], true⟩), (34, ⟨3, o.map ratL, true⟩)])).put (some 0) (.eptr 0 2 0 0)).put (some 6) (.eptr 6 3 0 0)).put (some 7) (.eptr 7 3 0 0)).put (some 8) (nI64 o.length))) (fun c k o => k ≤ 500 ∧ o.length + c = (((nU l k0 u) + 1) * ((nU l (nxK l k0) v) + 1)) ∧ o ++ plV l k c = ntC l k0 u v ∧ plK l k c = ntK l k0 u v) (fun c k o => c) (((nU l k0 u) + 1) * ((nU l (nxK l k0) v) + 1)) (nxK l (nxK l k0)) ([]) ⟨k2, by simp, rfl, rfl⟩ ?_
  rintro c k o L1 ⟨hk1, ho, hVl, hK⟩
  refine zg6 ?_
  refine st_pure rfl (.bin rfl rfl (add1N (by omega))) ?_
  refine zg2 ?_
  refine st_pure rfl (.bin rfl rfl (add1N (by omega))) ?_
  refine st_pure rfl (.bin rfl rfl (mulE rfl (by omega))) ?_
  refine zg3 ?_
  refine wl_if rfl (fun h26r h26 => ?_) (fun h26r h26 => ?_)
  · obtain ⟨j, rfl⟩ : ∃ j, c = j + 1 := ⟨c - 1, by omega⟩
    refine zg4 ?_
    refine wl_cut (fun L => ∃  (L1 : St), (True) ∧ L = (((((St.mk L1.slot (hp [(0, ⟨2, [diceL l (nbV l k).2], true⟩), (6, ⟨3, [.agg [.v (.int .i64 0), .v (.int .i64 0), .v (.slice none 0 0)]], true⟩), (7, ⟨3, [.agg [nI64 (nU l k0 u), nI64 (nU l (nxK l k0) v), .ref 34 3 0 (o.length + 1)]], true⟩), (33, ⟨3, [(nbV l k).1].map ratL, true⟩), (34, ⟨3, (o ++ [(nbV l k).1]).map ratL, true⟩)])).put (some 0) (.eptr 0 2 0 0)).put (some 6) (.eptr 6 3 0 0)).put (some 7) (.eptr 7 3 0 0)).put (some 8) (nI64 o.length))) ?_ ?_
    · refine wl_regA ?_
      refine any_2 0 2 _ _ (by decide +kernel) rfl rfl ?_ ?_
      · refine zg1 ?_
        refine st_nil ?_
        refine any_2 1 2 _ _ (by decide +kernel) rfl rfl ?_ ?_
        · refine zg1 ?_
          refine st_nil ?_
          refine any_1 2 _ (by decide +kernel) rfl ?_
          refine zg1 ?_
          refine st_nil ?_
          refine any_1 3 _ (by decide +kernel) rfl ?_
          refine st_callMp 0 rfl rfl rfl (dice_pure l _) (.cons .ptr .nil) .ptr (c_number l k (by omega) (by omega)) rfl (dice_pure l _) (ratE.pure _) ?_
          refine st_nil ?_
          refine any_1 4 _ (by decide +kernel) rfl ?_
          refine zg1 ?_
          refine st_nil ?_
          refine any_1 5 _ (by decide +kernel) rfl ?_
          refine st_store rfl (.app (news := [ratL (nbV l k).1]) rfl rfl rfl rfl rfl (by simp) (.inl rfl) (by decide) Tryz.underlying25 Tryz.underlying25 Z33a T33 rfl B33 (.inl ⟨33, 0, _, rfl, by decide, rfl, rfl, by simp, rfl, by simp [pures, ratE.pure]⟩) (by simp; omega) (by simp; omega) (by decide)) ?_
          refine st_nil ?_
          refine any_1 6 _ (by decide +kernel) rfl ?_
          refine zg1 ?_
          refine st_nil ?_
          refine any_1 7 _ (by decide +kernel) rfl ?_
          refine zg1 ?_
          refine st_nil ?_
          refine any_0 (by decide +kernel) ?_
          refine zg1 ?_
          exact ⟨_, trivial, ((put_id' (put_id' (put_id' (put_id' (mk_id' cl) cl) cl) cl) cl)).symm⟩
        · refine zg1 ?_
          refine st_nil ?_
          refine any_2 1 3 _ _ (by decide +kernel) rfl rfl ?_ ?_
          · refine zg1 ?_
            refine st_nil ?_
            refine any_1 3 _ (by decide +kernel) rfl ?_
            refine st_callMp 0 rfl rfl rfl (dice_pure l _) (.cons .ptr .nil) .ptr (c_number l k (by omega) (by omega)) rfl (dice_pure l _) (ratE.pure _) ?_
            refine st_nil ?_
            refine any_1 4 _ (by decide +kernel) rfl ?_
            refine zg1 ?_
            refine st_nil ?_
            refine any_1 5 _ (by decide +kernel) rfl ?_
            refine st_store rfl (.app (news := [ratL (nbV l k).1]) rfl rfl rfl rfl rfl (by simp) (.inl rfl) (by decide) Tryz.underlying25 Tryz.underlying25 Z33a T33 rfl B33 (.inl ⟨33, 0, _, rfl, by decide, rfl, rfl, by simp, rfl, by simp [pures, ratE.pure]⟩) (by simp; omega) (by simp; omega) (by decide)) ?_
            refine st_nil ?_
            refine any_1 6 _ (by decide +kernel) rfl ?_
            refine zg1 ?_
            refine st_nil ?_
            refine any_1 7 _ (by decide +kernel) rfl ?_
            refine zg1 ?_
            refine st_nil ?_
            refine any_0 (by decide +kernel) ?_
            refine zg1 ?_
            exact ⟨_, trivial, ((put_id' (put_id' (put_id' (put_id' (mk_id' cl) cl) cl) cl) cl)).symm⟩
          · refine st_callMp 0 rfl rfl rfl (dice_pure l _) (.cons .ptr .nil) .ptr (c_number l k (by omega) (by omega)) rfl (dice_pure l _) (ratE.pure _) ?_
            refine st_nil ?_
            refine any_2 1 4 _ _ (by decide +kernel) rfl rfl ?_ ?_
            · refine zg1 ?_
              refine st_nil ?_
              refine any_1 4 _ (by decide +kernel) rfl ?_
              refine zg1 ?_
              refine st_nil ?_
              refine any_1 5 _ (by decide +kernel) rfl ?_
              refine st_store rfl (.app (news := [ratL (nbV l k).1]) rfl rfl rfl rfl rfl (by simp) (.inl rfl) (by decide) Tryz.underlying25 Tryz.underlying25 Z33a T33 rfl B33 (.inl ⟨33, 0, _, rfl, by decide, rfl, rfl, by simp, rfl, by simp [pures, ratE.pure]⟩) (by simp; omega) (by simp; omega) (by decide)) ?_
              refine st_nil ?_
              refine any_1 6 _ (by decide +kernel) rfl ?_
              refine zg1 ?_
              refine st_nil ?_
              refine any_1 7 _ (by decide +kernel) rfl ?_
              refine zg1 ?_
              refine st_nil ?_
              refine any_0 (by decide +kernel) ?_
              refine zg1 ?_
              exact ⟨_, trivial, ((put_id' (put_id' (put_id' (put_id' (mk_id' cl) cl) cl) cl) cl)).symm⟩
            · refine zg1 ?_
              refine st_nil ?_
              refine any_1 1 _ (by decide +kernel) rfl ?_
              refine zg1 ?_
              refine st_nil ?_
              refine any_1 5 _ (by decide +kernel) rfl ?_
              refine st_store rfl (.app (news := [ratL (nbV l k).1]) rfl rfl rfl rfl rfl (by simp) (.inl rfl) (by decide) Tryz.underlying25 Tryz.underlying25 Z33a T33 rfl B33 (.inl ⟨33, 0, _, rfl, by decide, rfl, rfl, by simp, rfl, by simp [pures, ratE.pure]⟩) (by simp; omega) (by simp; omega) (by decide)) ?_
              refine st_nil ?_
              refine any_1 6 _ (by decide +kernel) rfl ?_
              refine zg1 ?_
              refine st_nil ?_
              refine any_1 7 _ (by decide +kernel) rfl ?_
              refine zg1 ?_
              refine st_nil ?_
              refine any_0 (by decide +kernel) ?_
              refine zg1 ?_
              exact ⟨_, trivial, ((put_id' (put_id' (put_id' (put_id' (mk_id' cl) cl) cl) cl) cl)).symm⟩
      · refine zg1 ?_
        refine st_nil ?_
        refine any_2 0 3 _ _ (by decide +kernel) rfl rfl ?_ ?_
        · refine zg1 ?_
          refine st_nil ?_
          refine any_2 1 3 _ _ (by decide +kernel) rfl rfl ?_ ?_
          · refine zg1 ?_
            refine st_nil ?_
            refine any_1 3 _ (by decide +kernel) rfl ?_
            refine st_callMp 0 rfl rfl rfl (dice_pure l _) (.cons .ptr .nil) .ptr (c_number l k (by omega) (by omega)) rfl (dice_pure l _) (ratE.pure _) ?_
            refine st_nil ?_
            refine any_1 4 _ (by decide +kernel) rfl ?_
            refine zg1 ?_
            refine st_nil ?_
            refine any_1 5 _ (by decide +kernel) rfl ?_
            refine st_store rfl (.app (news := [ratL (nbV l k).1]) rfl rfl rfl rfl rfl (by simp) (.inl rfl) (by decide) Tryz.underlying25 Tryz.underlying25 Z33a T33 rfl B33 (.inl ⟨33, 0, _, rfl, by decide, rfl, rfl, by simp, rfl, by simp [pures, ratE.pure]⟩) (by simp; omega) (by simp; omega) (by decide)) ?_
            refine st_nil ?_
            refine any_1 6 _ (by decide +kernel) rfl ?_
            refine zg1 ?_
            refine st_nil ?_
            refine any_1 7 _ (by decide +kernel) rfl ?_
            refine zg1 ?_
            refine st_nil ?_
            refine any_0 (by decide +kernel) ?_
            refine zg1 ?_
            exact ⟨_, trivial, ((put_id' (put_id' (put_id' (put_id' (mk_id' cl) cl) cl) cl) cl)).symm⟩
          · refine st_callMp 0 rfl rfl rfl (dice_pure l _) (.cons .ptr .nil) .ptr (c_number l k (by omega) (by omega)) rfl (dice_pure l _) (ratE.pure _) ?_
            refine st_nil ?_
            refine any_2 1 4 _ _ (by decide +kernel) rfl rfl ?_ ?_
            · refine zg1 ?_
              refine st_nil ?_
              refine any_1 4 _ (by decide +kernel) rfl ?_
              refine zg1 ?_
              refine st_nil ?_
              refine any_1 5 _ (by decide +kernel) rfl ?_
              refine st_store rfl (.app (news := [ratL (nbV l k).1]) rfl rfl rfl rfl rfl (by simp) (.inl rfl) (by decide) Tryz.underlying25 Tryz.underlying25 Z33a T33 rfl B33 (.inl ⟨33, 0, _, rfl, by decide, rfl, rfl, by simp, rfl, by simp [pures, ratE.pure]⟩) (by simp; omega) (by simp; omega) (by decide)) ?_
              refine st_nil ?_
              refine any_1 6 _ (by decide +kernel) rfl ?_
              refine zg1 ?_
              refine st_nil ?_
              refine any_1 7 _ (by decide +kernel) rfl ?_
              refine zg1 ?_
              refine st_nil ?_
              refine any_0 (by decide +kernel) ?_
              refine zg1 ?_
              exact ⟨_, trivial, ((put_id' (put_id' (put_id' (put_id' (mk_id' cl) cl) cl) cl) cl)).symm⟩
            · refine zg1 ?_
              refine st_nil ?_
              refine any_1 1 _ (by decide +kernel) rfl ?_
              refine zg1 ?_
              refine st_nil ?_
              refine any_1 5 _ (by decide +kernel) rfl ?_
              refine st_store rfl (.app (news := [ratL (nbV l k).1]) rfl rfl rfl rfl rfl (by simp) (.inl rfl) (by decide) Tryz.underlying25 Tryz.underlying25 Z33a T33 rfl B33 (.inl ⟨33, 0, _, rfl, by decide, rfl, rfl, by simp, rfl, by simp [pures, ratE.pure]⟩) (by simp; omega) (by simp; omega) (by decide)) ?_
              refine st_nil ?_
              refine any_1 6 _ (by decide +kernel) rfl ?_
              refine zg1 ?_
              refine st_nil ?_
              refine any_1 7 _ (by decide +kernel) rfl ?_
              refine zg1 ?_
              refine st_nil ?_
              refine any_0 (by decide +kernel) ?_
              refine zg1 ?_
              exact ⟨_, trivial, ((put_id' (put_id' (put_id' (put_id' (mk_id' cl) cl) cl) cl) cl)).symm⟩
        · refine st_callMp 0 rfl rfl rfl (dice_pure l _) (.cons .ptr .nil) .ptr (c_number l k (by omega) (by omega)) rfl (dice_pure l _) (ratE.pure _) ?_
          refine st_nil ?_
          refine any_2 0 4 _ _ (by decide +kernel) rfl rfl ?_ ?_
          · refine zg1 ?_
            refine st_nil ?_
            refine any_2 1 4 _ _ (by decide +kernel) rfl rfl ?_ ?_
            · refine zg1 ?_
              refine st_nil ?_
              refine any_1 4 _ (by decide +kernel) rfl ?_
              refine zg1 ?_
              refine st_nil ?_
              refine any_1 5 _ (by decide +kernel) rfl ?_
              refine st_store rfl (.app (news := [ratL (nbV l k).1]) rfl rfl rfl rfl rfl (by simp) (.inl rfl) (by decide) Tryz.underlying25 Tryz.underlying25 Z33a T33 rfl B33 (.inl ⟨33, 0, _, rfl, by decide, rfl, rfl, by simp, rfl, by simp [pures, ratE.pure]⟩) (by simp; omega) (by simp; omega) (by decide)) ?_
              refine st_nil ?_
              refine any_1 6 _ (by decide +kernel) rfl ?_
              refine zg1 ?_
              refine st_nil ?_
              refine any_1 7 _ (by decide +kernel) rfl ?_
              refine zg1 ?_
              refine st_nil ?_
              refine any_0 (by decide +kernel) ?_
              refine zg1 ?_
              exact ⟨_, trivial, ((put_id' (put_id' (put_id' (put_id' (mk_id' cl) cl) cl) cl) cl)).symm⟩
            · refine zg1 ?_
              refine st_nil ?_
              refine any_1 1 _ (by decide +kernel) rfl ?_
              refine zg1 ?_
              refine st_nil ?_
              refine any_1 5 _ (by decide +kernel) rfl ?_
              refine st_store rfl (.app (news := [ratL (nbV l k).1]) rfl rfl rfl rfl rfl (by simp) (.inl rfl) (by decide) Tryz.underlying25 Tryz.underlying25 Z33a T33 rfl B33 (.inl ⟨33, 0, _, rfl, by decide, rfl, rfl, by simp, rfl, by simp [pures, ratE.pure]⟩) (by simp; omega) (by simp; omega) (by decide)) ?_
              refine st_nil ?_
              refine any_1 6 _ (by decide +kernel) rfl ?_
              refine zg1 ?_
              refine st_nil ?_
              refine any_1 7 _ (by decide +kernel) rfl ?_
              refine zg1 ?_
              refine st_nil ?_
              refine any_0 (by decide +kernel) ?_
              refine zg1 ?_
              exact ⟨_, trivial, ((put_id' (put_id' (put_id' (put_id' (mk_id' cl) cl) cl) cl) cl)).symm⟩
          · refine zg1 ?_
            refine st_nil ?_
            refine any_1 0 _ (by decide +kernel) rfl ?_
            refine zg1 ?_
            refine st_nil ?_
            refine any_1 1 _ (by decide +kernel) rfl ?_
            refine zg1 ?_
            refine st_nil ?_
            refine any_1 5 _ (by decide +kernel) rfl ?_
            refine st_store rfl (.app (news := [ratL (nbV l k).1]) rfl rfl rfl rfl rfl (by simp) (.inl rfl) (by decide) Tryz.underlying25 Tryz.underlying25 Z33a T33 rfl B33 (.inl ⟨33, 0, _, rfl, by decide, rfl, rfl, by simp, rfl, by simp [pures, ratE.pure]⟩) (by simp; omega) (by simp; omega) (by decide)) ?_
            refine st_nil ?_
            refine any_1 6 _ (by decide +kernel) rfl ?_
            refine zg1 ?_
            refine st_nil ?_
            refine any_1 7 _ (by decide +kernel) rfl ?_
            refine zg1 ?_
            refine st_nil ?_
            refine any_0 (by decide +kernel) ?_
            refine zg1 ?_
            exact ⟨_, trivial, ((put_id' (put_id' (put_id' (put_id' (mk_id' cl) cl) cl) cl) cl)).symm⟩
    · rintro _ ⟨LR5, -, rfl⟩
      refine zg2 ?_
      refine wl_regW (Weak.kill _ 33) ?_
      refine zg5 ?_
      exact nx3 j ((nbV l k).2) (o ++ [(nbV l k).1]) ⟨nbK_le hl hk1, by simp; omega, by rw [List.append_assoc]; exact hVl, hK⟩
  · obtain rfl : c = 0 := by omega
    rw [plV, List.append_nil] at hVl
    rw [plK] at hK
    refine zg12 ?_
    rw [← hVl, ← hK]
    exact retMCf [34] rfl rfl rfl rfl rfl T27 (.agg (.cons (.pure rfl) (.cons (.pure rfl) (.cons (imm_refm ratE rfl rfl rfl) .nil)))) rfl rfl (dice_pure l _)
end Go.Proofs.YthhdcfhaldcheaaGreat
end
section
set_option linter.unusedVariables false
set_option linter.unusedSimpArgs false
set_option maxHeartbeats 8000000
set_option maxRecDepth 100000
attribute [local irreducible] Go.Lg.opsL Go.Lg.wpL Go.Lg.thenL Go.Lg.blockL
namespace Go.Proofs.YthhdcfhaldcheaaGreat
open Go.Lg
end Go.Proofs.YthhdcfhaldcheaaGreat
namespace Go.Lg
/-- a block of the call's own that is not written any more is a list -/
theorem Weak.imm {L : St} {t : Nat} {x y : LV} (bs : List Nat) (h0 : bs.contains 0 = false) (h : L.slot t = x) (hi : Imm (L.frz bs).heap x y) : Weak L ((L.frz bs).put (some t) y) := by
  rintro n W X Z0 a w ⟨hdf, hsz, μ, Z, hc, hr⟩
  obtain ⟨Z1, k1, k2⟩ := hc.widen (frz_le bs h0)
  refine ⟨hdf, hsz, μ, Z1, by rw [put_heap]; exact k1, fun s => ?_⟩
  have hfr : Frame Z μ w w := ⟨fun _ _ => rfl, fun _ id _ c _ _ hh => ⟨c, hh, rfl⟩⟩
  have hs := (hr s).mono k2 (fun _ _ h => h) hfr
  rw [put_slot]
  split
  · rename_i hst
    subst hst
    rw [h] at hs
    exact RepV.of1 (LV.pure_ne_tup hi.lay.2.2) (hi.soundV k1 hs)
  · exact hs
end Go.Lg
namespace Go.Proofs.YthhdcfhaldcheaaGreat
open Go.Lg
def rtV (n d : Int) : Rat := ((n % 41 - 20 : Int) : Rat) / ((d % 8 + 1 : Int) : Rat)
theorem rtV_rl (n d : Int) : rl (rtV n d) ≤ 1 := by
  unfold rtV
  have h1 := Int.emod_nonneg n (show (41 : Int) ≠ 0 by decide)
  have h2 := Int.emod_lt_of_pos n (show (0 : Int) < 41 by decide)
  have h3 := Int.emod_nonneg d (show (8 : Int) ≠ 0 by decide)
  have h4 := Int.emod_lt_of_pos d (show (0 : Int) < 8 by decide)
  exact rl_ints (by omega) (by omega)
theorem lo_sz {t : Rat} {C M : Nat} (hC : rl (1 - t) + rl t + 1 ≤ C) : ∀ (k : Nat) (q : List Rat), q.length = k → (∀ x ∈ q, (rl x + C) * 2 ^ k ≤ M) → ∀ x ∈ loF t k q, rl x + C ≤ M
  | 0, q, _, _, x, hx => by cases hx
  | k + 1, q, hq, h, x, hx => by
    rw [loF, List.mem_cons] at hx
    rcases hx with rfl | hx
    · exact sz_rl (h _ (getD_mem (by omega)))
    · exact lo_sz hC k (stp t q) (by rw [stp_len]; omega) (stp_sz hC h) x hx
theorem hi_sz {t : Rat} {C M : Nat} (hC : rl (1 - t) + rl t + 1 ≤ C) : ∀ (k : Nat) (q tl : List Rat), q.length = k → (∀ x ∈ q, (rl x + C) * 2 ^ k ≤ M) → (∀ x ∈ tl, rl x + C ≤ M) → ∀ x ∈ hiF t k q tl, rl x + C ≤ M
  | 0, q, tl, hq, _, h2, x, hx => by
    obtain rfl : q = [] := List.eq_nil_of_length_eq_zero hq
    exact h2 x hx
  | k + 1, q, tl, hq, h, h2, x, hx => by
    refine hi_sz hC k (stp t q) _ (by rw [stp_len]; omega) (stp_sz hC h) (fun y hy => ?_) x hx
    rcases List.mem_cons.1 hy with rfl | hy
    · exact sz_rl (h _ (getD_mem (by omega)))
    · exact h2 y hy
theorem HS.lo {p : List Rat} {t : Rat} (h : HS p t) : ∀ x ∈ loP p t, Go.Lg.rl x ≤ 1073741824 := fun x hx => by
  obtain ⟨cc, h1, h2, h3⟩ := h
  have := lo_sz h1 p.length p rfl h3 x hx
  omega
theorem HS.hi {p : List Rat} {t : Rat} (h : HS p t) : ∀ x ∈ hiP p t, Go.Lg.rl x ≤ 1073741824 := fun x hx => by
  obtain ⟨cc, h1, h2, h3⟩ := h
  have := hi_sz h1 p.length p [] rfl h3 (fun y hy => by cases hy) x hx
  omega
theorem HS.ev {p : List Rat} {t : Rat} (h : HS p t) : Go.Lg.rl (evP p t) ≤ 1073741824 := getD_rl (by decide) h.lo _
end Go.Proofs.YthhdcfhaldcheaaGreat
end
section
set_option linter.unusedVariables false
set_option linter.unusedSimpArgs false
set_option maxHeartbeats 8000000
set_option maxRecDepth 100000
attribute [local irreducible] Go.Lg.opsL Go.Lg.wpL Go.Lg.thenL Go.Lg.blockL
namespace Go.Proofs.YthhdcfhaldcheaaGreat
open Go.Lg
namespace H_c_FSameL
theorem zSm {p q : Prop} (k : q) (e : p = q := by simp only [e1, e2, e3, e4, p1, p2, p3, q1, q2, q3, l1, t0, t1, r1, r2, r3, r4, Nat.zero_add, Nat.reduceMul, Nat.reduceAdd, b1, b2, b3, b4, b5, b6, i1, i2, i3, i4, i5, i6, Nat.reduceBEq, dfq, kills_map ratE, ratL_kill, spL_kill, LV.kill, kills]; exact rfl) : p := e.mpr k
end H_c_FSameL
open H_c_FSameL in
theorem c_FSameL (p q : List Rat) (hl : p.length ≤ 1048576) (hl2 : q.length ≤ 1048576) (hpr : ∀ x ∈ p, rl x ≤ 137438953472) (hqr : ∀ x ∈ q, rl x ≤ 137438953472) : CallP Tryz.prog 17 [.list 3 (p.map ratL), .list 3 (q.map ratL)] (bL (decide (p = q))) := by
  refine fnP Tryz.func17 ?_
  refine zg15 ?_
  refine wl_if rfl (fun h10r h10 => ?_) (fun h10r h10 => ?_)
  · have hne : p ≠ q := fun e => by rw [e] at h10; exact h10 rfl
    refine zg7 ?_
    rw [decide_eq_false hne]
    exact ret1 rfl (by first | exact .pure rfl | exact .pure (limL_pure _) | exact .pure (magL_pure _) | exact .pure (ratE.pure _) | exact .pure (pure_lst u32E _ _) | exact .pure (pure_lst ratE _ _))
  · have hle : p.length = q.length := by omega
    refine zg9 ?_
    refine lp1 (fun (k : Nat) L => ((((St.mk L.slot (hp [])).put (some 0) (.list 3 (p.map ratL))).put (some 1) (.list 3 (q.map ratL))).put (some 5) (nI64 k))) (fun k => k ≤ p.length ∧ ∀ i, i < k → p.getD i 0 = q.getD i 0) (fun k => p.length - k) 0 ⟨Nat.zero_le _, fun i h => absurd h (Nat.not_lt_zero i)⟩ ?_
    rintro k L1 ⟨hk, hg⟩
    refine zg9 ?_
    refine wl_if rfl (fun h14r h14 => ?_) (fun h14r h14 => ?_)
    · have hk2 : k < p.length := by omega
      have hr1 := hpr _ (getD_mem (i := k) hk2)
      have hr2 := hqr _ (getD_mem (i := k) (by omega))
      refine zg5 ?_
      refine wl_regD 10 (by decide +kernel) ?_
      refine zg8 ?_
      refine cp am2 (c_FSame (p.getD k 0) (q.getD k 0) (by omega)) ?_
      refine zg3 ?_
      refine wl_if rfl (fun h26r h26 => ?_) (fun h26r h26 => ?_)
      · have hne : p ≠ q := fun e => by rw [e] at h26; exact h26 rfl
        refine zg11 ?_
        rw [decide_eq_false hne]
        exact ret1 rfl (by first | exact .pure rfl | exact .pure (limL_pure _) | exact .pure (magL_pure _) | exact .pure (ratE.pure _) | exact .pure (pure_lst u32E _ _) | exact .pure (pure_lst ratE _ _))
      · have heq : p.getD k 0 = q.getD k 0 := h26
        refine zg9 ?_
        exact nx1 (k + 1) ⟨by omega, fun i hi => by rcases Nat.lt_or_ge i k with h | h; exact hg i h; rw [show i = k by omega]; exact heq⟩
    · obtain rfl : k = p.length := by omega
      have hE : p = q := ext0 hle hg
      refine zg11 ?_
      rw [decide_eq_true hE]
      exact ret1 rfl (by first | exact .pure rfl | exact .pure (limL_pure _) | exact .pure (magL_pure _) | exact .pure (ratE.pure _) | exact .pure (pure_lst u32E _ _) | exact .pure (pure_lst ratE _ _))
open H0 in
theorem c_FBetw (a b t : Rat) (h : rl a + rl b + rl t ≤ 8589934592) : CallP Tryz.prog 150 [ratL a, ratL b, ratL t] (ratL ((1 - t) * a + t * b)) := by
  have h1 := rl_sub b a
  have h2 := rl_mul (b - a) t
  have hE : (1 - t) * a + t * b = a + (b - a) * t := by grind
  refine fnP Tryz.func150 ?_
  refine zg9 ?_
  refine wl_regD 7 (by decide +kernel) ?_
  refine zg3 ?_
  refine cp am2 (c_FRSub b a (by omega)) ?_
  refine zg1 ?_
  refine cp am2 (c_FRMul (b - a) t (by omega)) ?_
  refine cp am2 (c_FRAdd a ((b - a) * t) (by omega)) ?_
  refine zg4 ?_
  rw [hE]
  exact retC [] rfl rfl rfl (ratE.csize _) (ratL_all _) T33 (.pure (ratE.pure _))
end Go.Proofs.YthhdcfhaldcheaaGreat
end
section
set_option linter.unusedVariables false
set_option linter.unusedSimpArgs false
set_option maxHeartbeats 8000000
set_option maxRecDepth 100000
attribute [local irreducible] Go.Lg.opsL Go.Lg.wpL Go.Lg.thenL Go.Lg.blockL
namespace Go.Proofs.YthhdcfhaldcheaaGreat
open Go.Lg
def mnR (a b : Rat) : Rat := if b < a then b else a
def mxR (a b : Rat) : Rat := if a < b then b else a
def hulP (s : Rat × Rat) (t : Rat × Rat) : Rat × Rat := (mnR s.1 t.1, mxR s.2 t.2)
def bkP (p : List Rat) : Nat → Rat × Rat
  | 0 => (0, 0)
  | k + 1 => hulP (if k = 0 then (p.getD k 0, p.getD k 0) else bkP p k) (p.getD k 0, p.getD k 0)
def bndP (p : List Rat) : Rat × Rat := bkP p p.length
theorem mn_self (a : Rat) : mnR a a = a := by unfold mnR; split <;> rfl
theorem mx_self (a : Rat) : mxR a a = a := by unfold mxR; split <;> rfl
theorem mn_le (a b : Rat) : mnR a b ≤ a ∧ mnR a b ≤ b ∧ (mnR a b = a ∨ mnR a b = b) := by unfold mnR; split <;> grind
theorem mx_ge (a b : Rat) : a ≤ mxR a b ∧ b ≤ mxR a b ∧ (mxR a b = a ∨ mxR a b = b) := by unfold mxR; split <;> grind
theorem bk_spec (p : List Rat) : ∀ k, (∀ i, i < k → (bkP p k).1 ≤ p.getD i 0 ∧ p.getD i 0 ≤ (bkP p k).2) ∧ (0 < k → (∃ i, i < k ∧ (bkP p k).1 = p.getD i 0) ∧ ∃ i, i < k ∧ (bkP p k).2 = p.getD i 0)
  | 0 => ⟨fun i h => by omega, fun h => by omega⟩
  | k + 1 => by
    obtain ⟨h1, h2⟩ := bk_spec p k
    rw [bkP]
    by_cases hk : k = 0
    · subst hk
      rw [if_pos rfl]
      simp only [hulP, mn_self, mx_self]
      refine ⟨fun i hi => ?_, fun _ => ⟨⟨0, by omega, rfl⟩, ⟨0, by omega, rfl⟩⟩⟩
      obtain rfl : i = 0 := by omega
      exact ⟨Rat.le_refl, Rat.le_refl⟩
    · rw [if_neg hk]
      obtain ⟨⟨i, hi, ei⟩, ⟨j, hj, ej⟩⟩ := h2 (by omega)
      have a := mn_le (bkP p k).1 (p.getD k 0)
      have b := mx_ge (bkP p k).2 (p.getD k 0)
      simp only [hulP]
      refine ⟨fun x hx => ?_, fun _ => ⟨?_, ?_⟩⟩
      · by_cases hxk : x = k
        · subst hxk; exact ⟨a.2.1, b.2.1⟩
        · have := h1 x (by omega)
          exact ⟨Rat.le_trans a.1 this.1, Rat.le_trans this.2 b.1⟩
      · rcases a.2.2 with e | e
        · exact ⟨i, by omega, by rw [e, ei]⟩
        · exact ⟨k, by omega, e⟩
      · rcases b.2.2 with e | e
        · exact ⟨j, by omega, by rw [e, ej]⟩
        · exact ⟨k, by omega, e⟩
theorem bk_rl {p : List Rat} {R : Nat} (hR : 1 ≤ R) (h : ∀ k, rl (p.getD k 0) ≤ R) : ∀ k, rl (bkP p k).1 ≤ R ∧ rl (bkP p k).2 ≤ R
  | 0 => ⟨hR, hR⟩
  | k + 1 => by
    obtain ⟨⟨i, _, ei⟩, ⟨j, _, ej⟩⟩ := (bk_spec p (k + 1)).2 (by omega)
    rw [ei, ej]
    exact ⟨h i, h j⟩
theorem getD_rl' {p : List Rat} {R : Nat} (hR : 1 ≤ R) (h : ∀ x ∈ p, rl x ≤ R) (k : Nat) : rl (p.getD k 0) ≤ R := getD_rl hR h k
theorem bnd_rl {p : List Rat} {R : Nat} (hR : 1 ≤ R) (h : ∀ x ∈ p, rl x ≤ R) : rl (bndP p).1 ≤ R ∧ rl (bndP p).2 ≤ R := bk_rl hR (getD_rl' hR h) p.length
open H0 in
theorem c_SOf (a b : Rat) (h : rl a + rl b ≤ 549755813888) : CallP Tryz.prog 163 [ratL a, ratL b] (spL (mnR a b, mxR a b)) := by
  refine fnP Tryz.func163 ?_
  refine zg8 ?_
  refine wl_regD 7 (by decide +kernel) ?_
  refine zg2 ?_
  refine cp am2 (c_RMin _ _ (by omega)) ?_
  refine zg2 ?_
  refine cp am2 (c_RMax _ _ (by omega)) ?_
  refine zg5 ?_
  exact retC [] rfl rfl rfl (spE.csize _) (spL_all _) T55 (.pure (spE.pure _))
namespace H_c_SPoint
theorem zSm {p q : Prop} (k : q) (e : p = q := by simp only [e1, e2, e3, e4, p1, p2, p3, q1, q2, q3, l1, t0, t1, r1, r2, r3, r4, Nat.zero_add, Nat.reduceMul, Nat.reduceAdd, b1, b2, b3, b4, b5, b6, i1, i2, i3, i4, i5, i6, Nat.reduceBEq, mn_self, mx_self]; exact rfl) : p := e.mpr k
end H_c_SPoint
open H_c_SPoint in
theorem c_SPoint (a : Rat) (h : rl a + rl a ≤ 549755813888) : CallP Tryz.prog 117 [ratL a] (spL (a, a)) := by
  refine fnP Tryz.func117 ?_
  refine zg10 ?_
  refine cp am2 (c_SOf _ _ (by omega)) ?_
  refine zg4 ?_
  exact retC [] rfl rfl rfl (spE.csize _) (spL_all _) T55 (.pure (spE.pure _))
open H0 in
theorem c_SHull (s t : Rat × Rat) (h1 : rl s.1 + rl t.1 ≤ 549755813888) (h2 : rl s.2 + rl t.2 ≤ 549755813888) : CallP Tryz.prog 118 [spL s, spL t] (spL (hulP s t)) := by
  refine fnP Tryz.func118 ?_
  refine zg8 ?_
  refine wl_regD 11 (by decide +kernel) ?_
  refine zg4 ?_
  refine cp am2 (c_RMin _ _ (by omega)) ?_
  refine zg4 ?_
  refine cp am2 (c_RMax _ _ (by omega)) ?_
  refine zg5 ?_
  exact retC [] rfl rfl rfl (spE.csize _) (spL_all _) T55 (.pure (spE.pure _))
open H0 in
theorem c_MRat (n d : Int) (hn : -9223372036854775808 ≤ n ∧ n ≤ 9223372036854775807) (hd : -9223372036854775808 ≤ d ∧ d ≤ 9223372036854775807) : CallP Tryz.prog 13 [iL n, iL d] (ratL (rtV n d)) := by
  have h1 := Int.emod_nonneg n (show (41 : Int) ≠ 0 by decide)
  have h2 := Int.emod_lt_of_pos n (show (0 : Int) < 41 by decide)
  have h3 := Int.emod_nonneg d (show (8 : Int) ≠ 0 by decide)
  have h4 := Int.emod_lt_of_pos d (show (0 : Int) < 8 by decide)
  refine fnP Tryz.func13 ?_
  refine zg8 ?_
  refine cp am2 (c_Mod n 41 (by decide) (by decide)) ?_
  refine st_pure rfl (.bin rfl rfl (sub64 (by omega) (by omega))) ?_
  refine zg1 ?_
  refine cp am2 (c_Mod d 8 (by decide) (by decide)) ?_
  refine st_pure rfl (.bin rfl rfl (add64 (by omega) (by omega))) ?_
  refine cp am2 (c_FFrac (n % 41 - 20) (d % 8 + 1) (by omega) (by omega) (by omega) (by omega) (by omega)) ?_
  refine zg4 ?_
  exact retC [] rfl rfl rfl (ratE.csize _) (ratL_all _) T33 (.pure (ratE.pure _))
end Go.Proofs.YthhdcfhaldcheaaGreat
end
section
set_option linter.unusedVariables false
set_option linter.unusedSimpArgs false
set_option maxHeartbeats 8000000
set_option maxRecDepth 100000
attribute [local irreducible] Go.Lg.opsL Go.Lg.wpL Go.Lg.thenL Go.Lg.blockL
namespace Go.Proofs.YthhdcfhaldcheaaGreat
open Go.Lg
theorem sw_mem {U V : Nat} {c : List Rat} (hc : c.length = (U + 1) * (V + 1)) {x : Rat} (hx : x ∈ swL U V c) : x ∈ c := by
  obtain ⟨i, hi, rfl⟩ := List.mem_map.1 hx
  have hi := List.mem_range.1 hi
  have h1 : i / (U + 1) < V + 1 := Nat.div_lt_of_lt_mul (by rw [Nat.mul_comm]; exact hi)
  have h2 := Nat.mod_lt i (show U + 1 > 0 by omega)
  exact getD_mem (by rw [hc]; exact ix_lt (by omega) (by omega))
theorem rs_mem {g : List Rat → List Rat} {V U : Nat} {c : List Rat} {Q : Rat → Prop} (h : ∀ i, i ≤ U → ∀ x ∈ g (rwL V c i), Q x) : ∀ {n : Nat}, n ≤ U + 1 → ∀ x ∈ rsL g V c n, Q x
  | 0, _, x, hx => by cases hx
  | n + 1, hn, x, hx => by
    rcases List.mem_append.1 (show x ∈ rsL g V c n ++ g (rwL V c n) from hx) with h1 | h1
    · exact rs_mem h (by omega) x h1
    · exact h n (by omega) x h1
section
variable {m M a b : Rat} {U V : Nat} {c : List Rat} (hc : c.length = (U + 1) * (V + 1)) (h0 : 0 ≤ a) (hab : a ≤ b) (hb : b ≤ 1) (h : ∀ x ∈ c, m ≤ x ∧ x ≤ M)
end
open H0 in
theorem c_FMin (a b : Rat) (h : rl a + rl b ≤ 34359738368) : CallP Tryz.prog 44 [ratL a, ratL b] (ratL (mnR a b)) := by
  refine fnP Tryz.func44 ?_
  refine zg12 ?_
  refine cp am2 (c_FRCmp _ _ (by omega)) ?_
  refine zg3 ?_
  refine wl_if rfl (fun h8r h8 => ?_) (fun h8r h8 => ?_)
  · have hE : mnR a b = b := if_pos (cmpR_neg.1 h8)
    refine zg8 ?_
    rw [hE]
    exact retC [] rfl rfl rfl (ratE.csize _) (ratL_all _) T33 (.pure (ratE.pure _))
  · have hE : mnR a b = a := if_neg (fun e => h8 (cmpR_neg.2 e))
    refine zg9 ?_
    rw [hE]
    exact retC [] rfl rfl rfl (ratE.csize _) (ratL_all _) T33 (.pure (ratE.pure _))
open H0 in
theorem c_FMax (a b : Rat) (h : rl a + rl b ≤ 34359738368) : CallP Tryz.prog 45 [ratL a, ratL b] (ratL (mxR a b)) := by
  refine fnP Tryz.func45 ?_
  refine zg12 ?_
  refine cp am2 (c_FRCmp _ _ (by omega)) ?_
  refine zg3 ?_
  refine wl_if rfl (fun h8r h8 => ?_) (fun h8r h8 => ?_)
  · have hE : mxR a b = b := if_pos (cmpR_pos.1 h8)
    refine zg8 ?_
    rw [hE]
    exact retC [] rfl rfl rfl (ratE.csize _) (ratL_all _) T33 (.pure (ratE.pure _))
  · have hE : mxR a b = a := if_neg (fun e => h8 (cmpR_pos.2 e))
    refine zg9 ?_
    rw [hE]
    exact retC [] rfl rfl rfl (ratE.csize _) (ratL_all _) T33 (.pure (ratE.pure _))
namespace H_c_TBnd
theorem zSm {p q : Prop} (k : q) (e : p = q := by simp only [e1, e2, e3, e4, p1, p2, p3, q1, q2, q3, l1, t0, t1, r1, r2, r3, r4, Nat.zero_add, Nat.reduceMul, Nat.reduceAdd, b1, b2, b3, b4, b5, b6, i1, i2, i3, i4, i5, i6, Nat.reduceBEq, dfq, ebk, kills_map ratE, ratL_kill, spL_kill, LV.kill, kills]; exact rfl) : p := e.mpr k
end H_c_TBnd
open H_c_TBnd in
theorem c_TBnd (u v : Int) (c : List Rat) (hl : c.length ≤ 1048576) (hpr : ∀ x ∈ c, rl x ≤ 137438953472) : CallP Tryz.prog 43 [.agg [iL u, iL v, .list 3 (c.map ratL)]] (spL (bndP c)) := by
  refine fnP Tryz.func43 ?_
  have ebk : True := trivial
  refine zg21 ?_
  refine wl_weak (Weak.kill _ 1) ?_
  refine lp1 (fun (k : Nat) L => ((((((St.mk L.slot (hp [(2, ⟨6, [spL (0, 0)], true⟩), (3, ⟨6, [spL (bkP c k)], true⟩)])).put (some 2) (.eptr 2 6 0 0)).put (some 3) (.eptr 3 6 0 0)).put (some 7) (.list 3 (c.map ratL))).put (some 8) (nI64 c.length)).put (some 9) (nI64 k))) (fun k => k ≤ c.length) (fun k => c.length - k) 0 (Nat.zero_le _) ?_
  rintro k L1 hk
  refine zg6 ?_
  refine wl_if rfl (fun h10r h10 => ?_) (fun h10r h10 => ?_)
  · have hk2 : k < c.length := by omega
    have hr1 := getD_rl' (R := 137438953472) (by decide) hpr
    have hr2 := hr1 k
    have hr3 := bk_rl (by decide) hr1 k
    have hr4 : rl ((c.getD k 0, c.getD k 0) : Rat × Rat).1 ≤ 137438953472 := hr2
    have hr5 : rl ((c.getD k 0, c.getD k 0) : Rat × Rat).2 ≤ 137438953472 := hr2
    have ebk : bkP c (k + 1) = hulP (if k = 0 then (c.getD k 0, c.getD k 0) else bkP c k) (c.getD k 0, c.getD k 0) := rfl
    refine zg21 ?_
    refine wl_if rfl (fun h15r h15 => ?_) (fun h15r h15 => ?_)
    · have hk0 : k = 0 := by omega
      rw [if_pos hk0] at ebk
      refine zg2 ?_
      refine cp am1 (c_SPoint _ (by omega)) ?_
      refine zg3 ?_
      refine wl_regD 4 (by decide +kernel) ?_
      refine zg2 ?_
      refine cp am1 (c_SPoint _ (by omega)) ?_
      refine cp am2 (c_SHull _ _ (by omega) (by omega)) ?_
      refine zg4 ?_
      refine wl_regW (Weak.kill _ 5) ?_
      refine zg4 ?_
      exact nx1 (k + 1) (by omega)
    · have hk0 : ¬ k = 0 := by omega
      rw [if_neg hk0] at ebk
      refine zg2 ?_
      refine wl_regD 4 (by decide +kernel) ?_
      refine zg2 ?_
      refine cp am1 (c_SPoint _ (by omega)) ?_
      refine cp am2 (c_SHull _ _ (by omega) (by omega)) ?_
      refine zg4 ?_
      refine wl_regW (Weak.kill _ 5) ?_
      refine zg4 ?_
      exact nx1 (k + 1) (by omega)
  · obtain rfl : k = c.length := by omega
    refine zg12 ?_
    exact retC [] rfl rfl rfl (spE.csize _) (spL_all _) T55 (.pure (spE.pure _))
end Go.Proofs.YthhdcfhaldcheaaGreat
end
section
set_option linter.unusedVariables false
set_option linter.unusedSimpArgs false
set_option maxHeartbeats 8000000
set_option maxRecDepth 100000
attribute [local irreducible] Go.Lg.opsL Go.Lg.wpL Go.Lg.thenL Go.Lg.blockL
namespace Go.Proofs.YthhdcfhaldcheaaGreat
open Go.Lg
def plL (p : List Rat) : LV := .list 3 (p.map ratL)
theorem plE : EncOK plL 1 false := ⟨fun _ => rfl, fun _ => rfl, fun p => pure_lst ratE 3 p⟩
theorem dfp : (default : List Rat) = [] := rfl
theorem plZ : ZeroOK Tryz.prog 38 (plL []) := ⟨Tryz.t38, _, by kernel_rfl, rfl, rfl, fun _ _ _ => repNil0 3⟩
instance : EC Tryz.prog 38 plL 1 false [] := ⟨plE, plZ, T38⟩
theorem pl_len (p : List Rat) (T d : TypeId) {P : Program} {H : Heap} {ρ : Operand → LV} {x : Operand} (hx : ρ x = plL p) (hT : P.underlying T = some (.slice d)) : OpP P H ρ (.call ⟨.builtin .len, #[x], #[T]⟩) (nI64 p.length) := .lenLm (e := ratL) (l := p) hx rfl hT
def pvL (V : Nat) (c : List Rat) (g : List Rat → List Rat) (n : Nat) : List (List Rat) := (List.range n).map fun i => g (rwL V c i)
theorem pvL_len (V : Nat) (c : List Rat) (g : List Rat → List Rat) (n : Nat) : (pvL V c g n).length = n := by simp [pvL]
theorem pvL_succ (V : Nat) (c : List Rat) (g : List Rat → List Rat) (n : Nat) : pvL V c g (n + 1) = pvL V c g n ++ [g (rwL V c n)] := by simp [pvL, List.range_succ]
theorem pvL_flat (V : Nat) (c : List Rat) (g : List Rat → List Rat) : ∀ n, (pvL V c g n).flatten = rsL g V c n
  | 0 => rfl
  | n + 1 => by rw [pvL_succ, List.flatten_append, pvL_flat V c g n, rsL]; simp
theorem fl_len {W : Nat} : ∀ {ls : List (List Rat)}, (∀ p ∈ ls, p.length = W + 1) → ls.flatten.length = ls.length * (W + 1)
  | [], _ => by simp
  | p :: ls, h => by rw [List.flatten_cons, List.length_append, fl_len (fun q hq => h q (List.mem_cons_of_mem _ hq)), h p (List.mem_cons_self ..), List.length_cons, Nat.succ_mul, Nat.add_comm]
theorem fl_succ {ls : List (List Rat)} {k : Nat} (h : k < ls.length) : (ls.take (k + 1)).flatten = (ls.take k).flatten ++ ls.getD k [] := by
  rw [List.take_add_one, List.flatten_append, List.getD_eq_getElem?_getD, List.getElem?_eq_getElem h]; simp
theorem getD_memL {ls : List (List Rat)} {k : Nat} (h : k < ls.length) : ls.getD k [] ∈ ls := by
  rw [List.getD_eq_getElem?_getD, List.getElem?_eq_getElem h]; exact List.getElem_mem h
namespace H_c_frow7
theorem zSm {p q : Prop} (k : q) (e : p = q := by simp only [e1, e2, e3, e4, p1, p2, p3, q1, q2, q3, l1, t0, t1, r1, r2, r3, r4, Nat.zero_add, Nat.reduceMul, Nat.reduceAdd, b1, b2, b3, b4, b5, b6, i1, i2, i3, i4, i5, i6, Nat.reduceBEq, take_map_len, map_snoc, len_snoc, List.length_cons, List.length_nil, List.nil_append, List.map_nil, List.take_nil, List.append_nil, kills_map ratE, ratL_kill, spL_kill, LV.kill, kills]; exact rfl) : p := e.mpr k
end H_c_frow7
open H_c_frow7 in
theorem c_frow7 (U V : Nat) (c : List Rat) (hc : c.length = (U + 1) * (V + 1)) (hl : c.length ≤ 1048576) (i : Nat) (hi : i ≤ U) : CallP Tryz.prog 95 [.agg [nI64 U, nI64 V, .list 3 (c.map ratL)], nI64 i] (.list 3 ((rwL V c i).map ratL)) := by
  have hU : U + 1 ≤ c.length := by rw [hc]; exact Nat.le_mul_of_pos_right _ (Nat.succ_pos V)
  have hV : V + 1 ≤ c.length := by rw [hc]; exact Nat.le_mul_of_pos_left _ (Nat.succ_pos U)
  have hnp := net_pureN U V c
  have hri := rw_le hc hi
  have hrs : (i + 1) * (V + 1) = i * (V + 1) + (V + 1) := Nat.succ_mul i (V + 1)
  have hrl := rwL_len hc hi
  refine fnP Tryz.func95 ?_
  refine zg14 ?_
  refine st_pure rfl (.bin rfl rfl (add1N (by omega))) ?_
  refine st_pure rfl (.bin rfl rfl (mulE rfl (by omega))) ?_
  refine zg1 ?_
  refine st_pure rfl (.bin rfl rfl (add1N (by omega))) ?_
  refine zg2 ?_
  refine st_pure rfl (.bin rfl rfl (add1N (by omega))) ?_
  refine st_pure rfl (.bin rfl rfl (mulE rfl (by omega))) ?_
  refine st_pure rfl (.sliceLb (a := _) (h := _) ratE rfl Tryz.underlying25 T33 rfl rfl (by omega) (by omega)) ?_
  refine st_store rfl (.app (news := (rwL V c i).map ratL) rfl rfl rfl rfl rfl (Nat.zero_le _) (.inr rfl) (by decide) Tryz.underlying38 Tryz.underlying25 Z33a T33 rfl B33 (.inr (.inl rfl)) (by simp; omega) (by simp; omega) (by decide)) ?_
  refine zg4 ?_
  exact ret1f [20] rfl rfl (imm_refm ratE rfl rfl (by simp))
namespace H_c_fSwap
theorem zSm {p q : Prop} (k : q) (e : p = q := by simp only [e1, e2, e3, e4, p1, p2, p3, q1, q2, q3, l1, t0, t1, r1, r2, r3, r4, Nat.zero_add, Nat.reduceMul, Nat.reduceAdd, b1, b2, b3, b4, b5, b6, i1, i2, i3, i4, i5, i6, Nat.reduceBEq, dfq, esw, Nat.add_zero, take_gL, take_map_len, map_snoc, len_snoc, List.length_cons, List.length_nil, List.nil_append, List.map_nil, List.take_nil, List.append_nil, kills_map ratE, ratL_kill, spL_kill, LV.kill, kills]; exact rfl) : p := e.mpr k
end H_c_fSwap
open H_c_fSwap in
theorem c_fSwap (U V : Nat) (c : List Rat) (hc : c.length = (U + 1) * (V + 1)) (hl : c.length ≤ 1048576) : CallP Tryz.prog 82 [.agg [nI64 U, nI64 V, .list 3 (c.map ratL)]] (.agg [nI64 V, nI64 U, .list 3 ((swL U V c).map ratL)]) := by
  have hU : U + 1 ≤ c.length := by rw [hc]; exact Nat.le_mul_of_pos_right _ (Nat.succ_pos V)
  have hV : V + 1 ≤ c.length := by rw [hc]; exact Nat.le_mul_of_pos_left _ (Nat.succ_pos U)
  have hnp := net_pureN U V c
  refine fnP Tryz.func82 (ht := (fun g => LV.ren_pure g _ (net_pureN _ _ _))) ?_
  have esw : True := trivial
  refine zg24 ?_
  refine wl_weak ((Weak.cell 3 rfl (fun Z μ w cs h => rep_net 37 3 _ _ Z μ w cs h)).trans (Weak.newB _ 37 3 rfl)) ?_
  refine lp2 (fun (j m : Nat) L => (((((St.mk L.slot (hp [(1, ⟨3, [.agg [nI64 U, nI64 V, .list 3 (c.map ratL)]], true⟩), (2, ⟨3, [.agg [.v (.int .i64 0), .v (.int .i64 0), .v (.slice none 0 0)]], true⟩), (3, ⟨3, [.agg [nI64 V, nI64 U, .ref 37 3 0 m]], true⟩), (37, ⟨3, (gL m (swV U V c)).map ratL, true⟩)])).put (some 1) (.eptr 1 3 0 0)).put (some 2) (.eptr 2 3 0 0)).put (some 3) (.eptr 3 3 0 0)).put (some 4) (nI64 j))) (fun j m => j ≤ V + 1 ∧ j * (U + 1) = m) (fun j m => V + 1 - j) 0 0 ⟨Nat.zero_le _, Nat.zero_mul _⟩ ?_
  rintro j m L1 ⟨hj, hm⟩
  refine zg9 ?_
  refine wl_if rfl (fun h14r h14 => ?_) (fun h14r h14 => ?_)
  · have hj2 : j ≤ V := by omega
    refine zg10 ?_
    refine lp1 (fun (i : Nat) L => ((((((St.mk L.slot (hp [(1, ⟨3, [.agg [nI64 U, nI64 V, .list 3 (c.map ratL)]], true⟩), (2, ⟨3, [.agg [.v (.int .i64 0), .v (.int .i64 0), .v (.slice none 0 0)]], true⟩), (3, ⟨3, [.agg [nI64 V, nI64 U, .ref 37 3 0 (m + i)]], true⟩), (37, ⟨3, (gL (m + i) (swV U V c)).map ratL, true⟩)])).put (some 1) (.eptr 1 3 0 0)).put (some 2) (.eptr 2 3 0 0)).put (some 3) (.eptr 3 3 0 0)).put (some 4) (nI64 j)).put (some 5) (nI64 i))) (fun i => i ≤ U + 1) (fun i => U + 1 - i) 0 (Nat.zero_le _) ?_
    rintro i L2 hi
    refine zg9 ?_
    refine wl_if rfl (fun h20r h20 => ?_) (fun h20r h20 => ?_)
    · have hi2 : i ≤ U := by omega
      have hmi := ix_lt (U := V) (V := U) hj2 hi2
      rw [hm, Nat.mul_comm, ← hc] at hmi
      have hix := ix_lt hi2 hj2
      rw [← hc] at hix
      have hgl := gL_len (m + i) (swV U V c)
      have esw : gL (m + (i + 1)) (swV U V c) = gL (m + i) (swV U V c) ++ [c.getD (i * (V + 1) + j) 0] := by rw [← Nat.add_assoc, gL_succ, swV, ← hm, ix_div hi2, ix_mod hi2]
      refine zg4 ?_
      refine wl_regD 14 (by decide +kernel) ?_
      refine zg7 ?_
      refine st_pure rfl (.bin rfl rfl (add1N (by omega))) ?_
      refine st_pure rfl (.bin rfl rfl (mulE rfl (by omega))) ?_
      refine zg1 ?_
      refine st_pure rfl (.bin rfl rfl (add64N (by omega))) ?_
      refine zg3 ?_
      refine st_store rfl (.app (news := [ratL (c.getD (i * (V + 1) + j) 0)]) rfl rfl rfl rfl rfl (by simp [gL_len]) (.inl rfl) (by decide) Tryz.underlying25 Tryz.underlying25 Z33a T33 rfl B33 (.inl ⟨36, 0, _, rfl, by decide, rfl, rfl, by simp, rfl, by simp [pures, ratE.pure]⟩) (by simp; omega) (by simp; omega) (by decide)) ?_
      refine zg5 ?_
      refine wl_regW (Weak.kill _ 36) ?_
      refine zg1 ?_
      refine st_pure rfl (.bin rfl rfl (add1N (by omega))) ?_
      refine zg3 ?_
      exact nx1 (i + 1) (by omega)
    · obtain rfl : i = U + 1 := by omega
      refine zg8 ?_
      refine st_pure rfl (.bin rfl rfl (add1N (by omega))) ?_
      refine zg3 ?_
      exact nx2 (j + 1) (m + (U + 1)) ⟨by omega, by rw [Nat.succ_mul]; omega⟩
  · obtain rfl : j = V + 1 := by omega
    have hE : gL m (swV U V c) = swL U V c := by rw [← hm]; rfl
    refine zg12 ?_
    rw [← hE]
    exact retC [37] rfl rfl rfl rfl rfl T27 (.agg (.cons (.pure rfl) (.cons (.pure rfl) (.cons (imm_refm ratE rfl rfl (by rw [gL_len])) .nil))))
open H0 in
theorem c_fSame7 (u v : Nat) (c d : List Rat) (hl : c.length ≤ 1048576) (hl2 : d.length ≤ 1048576) (hcR : ∀ x ∈ c, rl x ≤ 137438953472) (hdR : ∀ x ∈ d, rl x ≤ 137438953472) : CallP Tryz.prog 22 [.agg [nI64 u, nI64 v, .list 3 (c.map ratL)], .agg [nI64 u, nI64 v, .list 3 (d.map ratL)]] (bL (decide (c = d))) := by
  have hn1 := net_pureN u v c
  have hn2 := net_pureN u v d
  refine fnP Tryz.func22 ?_
  refine zg15 ?_
  refine st_pure (guardX (v := true) rfl rfl ((beq_self_eq_true _)) rfl) fa27 ?_
  refine st_pure (guardX (v := true) rfl rfl ((beq_self_eq_true _)) rfl) ld3 ?_
  refine st_pure (guardX (v := true) rfl rfl ((beq_self_eq_true _)) rfl) fa27 ?_
  refine st_pure (guardX (v := true) rfl rfl ((beq_self_eq_true _)) rfl) ld3 ?_
  refine st_pure (guardX (v := true) rfl rfl ((beq_self_eq_true _)) rfl) (.bin rfl rfl rfl) ?_
  refine st_pure rfl (.pickT rfl ((beq_self_eq_true _))) ?_
  refine zg1 ?_
  refine st_pure (guardX (v := true) rfl rfl ((beq_self_eq_true _)) rfl) fa27 ?_
  refine st_pure (guardX (v := true) rfl rfl ((beq_self_eq_true _)) rfl) ld25 ?_
  refine st_pure (guardX (v := true) rfl rfl ((beq_self_eq_true _)) rfl) fa27 ?_
  refine st_pure (guardX (v := true) rfl rfl ((beq_self_eq_true _)) rfl) ld25 ?_
  refine st_callP (guardX (v := true) rfl rfl ((beq_self_eq_true _)) rfl) (.cons im0 (.cons im0 .nil)) (c_FSameL c d hl hl2 hcR hdR) ?_
  refine st_pure rfl (.pickT rfl ((beq_self_eq_true _))) ?_
  refine zg4 ?_
  exact ret1 rfl (by first | exact .pure rfl | exact .pure (limL_pure _) | exact .pure (magL_pure _) | exact .pure (ratE.pure _) | exact .pure (pure_lst u32E _ _) | exact .pure (pure_lst ratE _ _))
namespace H_c_frows7
theorem zSm {p q : Prop} (k : q) (e : p = q := by simp only [e1, e2, e3, e4, p1, p2, p3, q1, q2, q3, l1, t0, t1, r1, r2, r3, r4, Nat.zero_add, Nat.reduceMul, Nat.reduceAdd, b1, b2, b3, b4, b5, b6, i1, i2, i3, i4, i5, i6, Nat.reduceBEq, dfp, hw0, etk, ers, ewk, Nat.add_sub_cancel, List.length_map, take_map_len, map_snoc, len_snoc, List.length_cons, List.length_nil, List.nil_append, List.map_nil, List.take_nil, List.append_nil, kills_map ratE, ratL_kill, spL_kill, LV.kill, kills]; exact rfl) : p := e.mpr k
end H_c_frows7
open H_c_frows7 in
theorem c_frows7 (ls : List (List Rat)) (W : Nat) (h0 : 0 < ls.length) (hl : ls.length * (W + 1) ≤ 1048576) (hW : ∀ p ∈ ls, p.length = W + 1) : CallP Tryz.prog 101 [.list 1 (ls.map plL)] (.agg [nI64 (ls.length - 1), nI64 W, .list 3 (ls.flatten.map ratL)]) := by
  have hw0 : (ls.getD 0 []).length = W + 1 := hW _ (getD_memL h0)
  have hl2 : ls.length ≤ ls.length * (W + 1) := Nat.le_mul_of_pos_right _ (Nat.succ_pos W)
  have hl3 : W + 1 ≤ ls.length * (W + 1) := Nat.le_mul_of_pos_left _ h0
  refine fnP Tryz.func101 (ht := (fun g => LV.ren_pure g _ (net_pureN _ _ _))) ?_
  have etk : True := trivial
  have ers : True := trivial
  have ewk : True := trivial
  refine zg9 ?_
  refine st_pure rfl (.bin rfl rfl (sub1N (by omega) (by omega))) ?_
  refine zg3 ?_
  refine st_pure rfl (pl_len (ls.getD 0 []) _ _ rfl Tryz.underlying38) ?_
  simp only [hw0, dfp, tz0]
  refine st_pure rfl (.bin rfl rfl (sub1N (by omega) (by omega))) ?_
  refine zg12 ?_
  refine wl_weak ((Weak.cell 3 rfl (fun Z μ w cs h => rep_net 26 3 _ _ Z μ w cs h)).trans (Weak.newB _ 26 3 rfl)) ?_
  refine lp2 (fun (k m : Nat) L => (((((St.mk L.slot (hp [(2, ⟨3, [.agg [.v (.int .i64 0), .v (.int .i64 0), .v (.slice none 0 0)]], true⟩), (3, ⟨3, [.agg [nI64 (ls.length - 1), nI64 W, .ref 26 3 0 m]], true⟩), (26, ⟨3, (ls.take k).flatten.map ratL, true⟩)])).put (some 0) (.list 1 (ls.map plL))).put (some 2) (.eptr 2 3 0 0)).put (some 3) (.eptr 3 3 0 0)).put (some 4) (nI64 k))) (fun k m => k ≤ ls.length ∧ k * (W + 1) = m) (fun k m => ls.length - k) 0 0 ⟨Nat.zero_le _, Nat.zero_mul _⟩ ?_
  rintro k m L1 ⟨hk, hm⟩
  refine zg9 ?_
  refine wl_if rfl (fun h17r h17 => ?_) (fun h17r h17 => ?_)
  · have hk2 : k < ls.length := by omega
    have ewk := hW _ (getD_memL hk2)
    have hwk := ewk
    have hfl := fl_len (W := W) (ls := ls.take k) (fun p hp => hW p (List.mem_of_mem_take hp))
    rw [List.length_take, Nat.min_eq_left hk, hm] at hfl
    have hmu : m + (W + 1) ≤ ls.length * (W + 1) := by rw [← hm, ← Nat.succ_mul]; exact Nat.mul_le_mul_right _ hk2
    have etk : ((ls.take k).flatten.map ratL).take m = (ls.take k).flatten.map ratL := List.take_of_length_le (by rw [List.length_map]; omega)
    have ers : (ls.take k).flatten.map ratL ++ (ls.getD k []).map ratL = (ls.take (k + 1)).flatten.map ratL := by rw [fl_succ hk2, List.map_append]
    refine zg4 ?_
    refine wl_regD 6 (by decide +kernel) ?_
    refine zg6 ?_
    refine st_store rfl (.app (news := (ls.getD k []).map ratL) rfl rfl rfl rfl rfl (by rw [List.length_map]; omega) (.inl rfl) (by decide) Tryz.underlying25 Tryz.underlying38 Z33a T33 rfl B33 (.inr (.inl rfl)) (by rw [List.length_map, hwk]; omega) (by rw [List.length_map, hwk]; omega) (by decide)) ?_
    refine zg7 ?_
    refine st_pure rfl (.bin rfl rfl (add1N (by omega))) ?_
    refine zg3 ?_
    exact nx2 (k + 1) (m + (W + 1)) ⟨by omega, by rw [Nat.succ_mul]; omega⟩
  · obtain rfl : k = ls.length := by omega
    have hfl := fl_len hW
    have hE : (ls.take ls.length).flatten = ls.flatten := by rw [List.take_length]
    refine zg12 ?_
    rw [← hE]
    exact retC [26] rfl rfl rfl rfl rfl T27 (.agg (.cons (.pure rfl) (.cons (.pure rfl) (.cons (imm_refm ratE rfl rfl (by rw [hE]; omega)) .nil))))
end Go.Proofs.YthhdcfhaldcheaaGreat
end
section
set_option linter.unusedVariables false
set_option linter.unusedSimpArgs false
set_option maxHeartbeats 8000000
set_option maxRecDepth 100000
attribute [local irreducible] Go.Lg.opsL Go.Lg.wpL Go.Lg.thenL Go.Lg.blockL
namespace Go.Proofs.YthhdcfhaldcheaaGreat
open Go.Lg
end Go.Proofs.YthhdcfhaldcheaaGreat
namespace Go.Lg
/-- a list that a call hands out as a block of its own, told as a list -/
theorem callP_own {P : Program} {f : FuncId} {args : List LV} {sz n : Nat} {vals : List LV} {mt : Bool} (h : CallOK P f args (.ref 1 sz 0 n) [⟨sz, vals, mt⟩]) (hp : pures vals = true) (hn : vals.length = n) : CallP P f args (.list sz vals) := by
  refine ⟨⟨h.1, fun W Z0 vs hz hr => Calls.mono (h.2 W Z0 vs hz hr) (fun e w' => ?_)⟩, fun g => LV.ren_pure g _ (by simp [LV.pure, hp])⟩
  rintro ⟨v, μ, Z, he, hc, hv⟩
  have hle : Heap.le (outHeap [⟨sz, vals, mt⟩]) (outHeap [⟨sz, vals, false⟩]) := fun b blk hb => by
    unfold outHeap at hb ⊢
    by_cases h0 : b = 0
    · rw [if_pos h0] at hb; cases hb
    · rw [if_neg h0] at hb
      rcases Nat.lt_or_ge (b - 1) 1 with h1 | h1
      · have e : b - 1 = 0 := by omega
        rw [e] at hb
        simp only [List.getElem?_cons_zero, Option.some.injEq] at hb
        subst hb
        exact ⟨false, by rw [if_neg h0, e]; rfl, fun _ => rfl, fun _ _ => h0⟩
      · rw [List.getElem?_eq_none (by simpa using h1)] at hb; cases hb
  obtain ⟨Z1, k1, k2⟩ := hc.widen hle
  have hfr : Frame Z μ w' w' := ⟨fun _ _ => rfl, fun _ id _ c _ _ hh => ⟨c, hh, rfl⟩⟩
  have hv1 := hv.mono k2 (fun _ _ h => h) hfr
  have hi : Imm (outHeap [⟨sz, vals, false⟩]) (.ref 1 sz 0 n) (.list sz vals) := by
    have := Imm.ref (H := outHeap [⟨sz, vals, false⟩]) (b := 1) (off := 0) (len := n) (blk := ⟨sz, vals, false⟩) rfl rfl hp (by simp [hn]) rfl
    simpa [← hn] using this
  refine ⟨v, drop1 μ 1, Z1, he, ?_, RepV.of1 (fun l h => by cases h) (hi.soundV k1 hv1)⟩
  have kk := Core.kill (L := ⟨fun _ => .any, outHeap [⟨sz, vals, false⟩]⟩) 1 (by decide) k1
  refine kk.reheap fun b id hb => ?_
  have hb1 : b ≠ 1 := fun e => by rw [e] at hb; simp [drop1] at hb
  have hb2 : μ b = some id := by unfold drop1 at hb; split at hb <;> first | exact hb | cases hb
  obtain ⟨blk, g1, _⟩ := k1.heap b id hb2
  unfold outHeap at g1
  split at g1
  · cases g1
  · rw [List.getElem?_eq_none (by simp; omega)] at g1; cases g1
end Go.Lg
namespace Go.Proofs.YthhdcfhaldcheaaGreat
open Go.Lg
theorem c_copiedP (p : List Rat) (hl : p.length ≤ 1048576) (hpr : ∀ x ∈ p, rl x ≤ 274877906944) : CallP Tryz.prog 134 [.list 3 (p.map ratL)] (.list 3 (p.map ratL)) :=
  callP_own (c_copiedO p hl hpr) (pures_map ratE _) (by simp)
def lifV (p : List Rat) (i : Nat) : Rat := (if 0 < i then ((i : Int) : Rat) / ((p.length : Int) : Rat) * p.getD (i - 1) 0 else 0) + (if i < p.length then (((p.length : Int) - (i : Int) : Int) : Rat) / ((p.length : Int) : Rat) * p.getD i 0 else 0)
def lifP (p : List Rat) : List Rat := (List.range (p.length + 1)).map (lifV p)
def itL : Nat → List Rat → List Rat
  | 0, p => p
  | k + 1, p => itL k (lifP p)
def upP (p : List Rat) (n : Nat) : List Rat := itL (n + 1 - p.length) p
theorem lifP_len (p : List Rat) : (lifP p).length = p.length + 1 := by simp [lifP]
theorem lifP_get {p : List Rat} {i : Nat} (h : i < p.length + 1) : (lifP p).getD i 0 = lifV p i := by
  rw [List.getD_eq_getElem?_getD, List.getElem?_eq_getElem (by rw [lifP_len]; exact h)]; simp [lifP]
theorem itL_len : ∀ (k : Nat) (p : List Rat), (itL k p).length = p.length + k
  | 0, p => rfl
  | k + 1, p => by rw [itL, itL_len k, lifP_len]; omega
theorem upP_len {p : List Rat} {n : Nat} (h : p.length ≤ n + 1) : (upP p n).length = n + 1 := by rw [upP, itL_len]; omega
theorem lifV_tt {p : List Rat} {i : Nat} (h0 : 0 < i) (h1 : i < p.length) : lifV p i = ((i : Int) : Rat) / ((p.length : Int) : Rat) * p.getD (i - 1) 0 + (((p.length : Int) - (i : Int) : Int) : Rat) / ((p.length : Int) : Rat) * p.getD i 0 := by
  rw [lifV, if_pos h0, if_pos h1]
theorem lifV_tf {p : List Rat} {i : Nat} (h0 : 0 < i) (h1 : ¬ i < p.length) : lifV p i = ((i : Int) : Rat) / ((p.length : Int) : Rat) * p.getD (i - 1) 0 := by
  rw [lifV, if_pos h0, if_neg h1, Rat.add_zero]
theorem lifV_ft {p : List Rat} {i : Nat} (h0 : ¬ 0 < i) (h1 : i < p.length) : lifV p i = (((p.length : Int) - (i : Int) : Int) : Rat) / ((p.length : Int) : Rat) * p.getD i 0 := by
  rw [lifV, if_neg h0, if_pos h1, Rat.zero_add]
/-- every elevation up to the degree n has numbers that are short enough -/
def upS (p : List Rat) (n : Nat) : Prop := (∀ x ∈ p, rl x ≤ 1073741824) ∧ ∀ k, p.length + k ≤ n + 1 → ∀ x ∈ itL k p, rl x ≤ 1073741824
theorem upS_rl {p : List Rat} {n : Nat} (h : upS p n) (k : Nat) : rl (p.getD k 0) ≤ 1073741824 := getD_rl (by decide) h.1 k
theorem upS_step {p : List Rat} {n : Nat} (hl : p.length ≤ n) (h : upS p n) : upS (lifP p) n := ⟨h.2 1 (by omega), fun k hk => h.2 (k + 1) (by rw [lifP_len] at hk; omega)⟩
def cmB (p : List Rat) (A B : Nat) : Prop := ∃ D : Nat, 0 < D ∧ D ≤ B ∧ ∀ x ∈ p, ∃ a : Int, a.natAbs ≤ A ∧ x = (a : Rat) / ((D : Int) : Rat)
theorem cm_get {p : List Rat} {A D : Nat} (hD : 0 < D) (h : ∀ x ∈ p, ∃ a : Int, a.natAbs ≤ A ∧ x = (a : Rat) / ((D : Int) : Rat)) (i : Nat) : ∃ a : Int, a.natAbs ≤ A ∧ p.getD i 0 = (a : Rat) / ((D : Int) : Rat) := by
  rcases Nat.lt_or_ge i p.length with hi | hi
  · exact h _ (getD_mem hi)
  · refine ⟨0, Nat.zero_le _, ?_⟩
    rw [List.getD_eq_getElem?_getD, List.getElem?_eq_none hi, Rat.div_def]
    exact (Rat.zero_mul _).symm
theorem cm_lift {p : List Rat} {A B N : Nat} (h0 : 0 < p.length) (hN : p.length ≤ N) (h : cmB p A B) : cmB (lifP p) (A * N) (B * N) := by
  obtain ⟨D, hD, hDB, hx⟩ := h
  refine ⟨D * p.length, Nat.mul_pos hD h0, Nat.mul_le_mul hDB hN, fun x hxm => ?_⟩
  obtain ⟨i, hi, rfl⟩ := List.mem_map.1 hxm
  rw [List.mem_range] at hi
  obtain ⟨a, ha, ea⟩ := cm_get hD hx (i - 1)
  obtain ⟨b, hb, eb⟩ := cm_get hD hx i
  have hd : ((D : Int) : Rat) ≠ 0 := fun e => by have := Rat.intCast_eq_zero_iff.1 e; omega
  have hn : ((p.length : Int) : Rat) ≠ 0 := fun e => by have := Rat.intCast_eq_zero_iff.1 e; omega
  have e1 := Rat.mul_inv_cancel _ hd
  have e2 := Rat.mul_inv_cancel _ hn
  have hA : ∀ (u v : Nat) (a b : Int), a.natAbs ≤ A → b.natAbs ≤ A → u + v = p.length → ((u : Int) * a + (v : Int) * b).natAbs ≤ A * N := fun u v a b ha hb huv => by
    refine Nat.le_trans (Int.natAbs_add_le _ _) ?_
    rw [Int.natAbs_mul, Int.natAbs_mul, Int.natAbs_natCast, Int.natAbs_natCast]
    have g1 := Nat.mul_le_mul_left u ha
    have g2 := Nat.mul_le_mul_left v hb
    have g3 := Nat.mul_le_mul_left A hN
    rw [← huv, Nat.mul_add, Nat.mul_comm A u, Nat.mul_comm A v] at g3
    omega
  have hV : ∀ (u v : Nat) (a b : Int), u + v = p.length → ((u : Int) : Rat) / ((p.length : Int) : Rat) * ((a : Rat) / ((D : Int) : Rat)) + (((v : Nat) : Int) : Rat) / ((p.length : Int) : Rat) * ((b : Rat) / ((D : Int) : Rat)) = (((u : Int) * a + (v : Int) * b : Int) : Rat) / (((D * p.length : Nat) : Int) : Rat) := fun u v a b _ => by
    rw [show (((D * p.length : Nat) : Int) : Rat) = ((D : Int) : Rat) * ((p.length : Int) : Rat) by rw [← Rat.intCast_mul]; simp, Rat.intCast_add, Rat.intCast_mul, Rat.intCast_mul]
    simp only [Rat.div_def, Rat.inv_mul_rev]
    grind
  show ∃ c : Int, c.natAbs ≤ A * N ∧ lifV p i = _
  by_cases h1 : 0 < i <;> by_cases h2 : i < p.length
  · refine ⟨(i : Int) * a + ((p.length - i : Nat) : Int) * b, hA i (p.length - i) a b ha hb (by omega), ?_⟩
    rw [lifV_tt h1 h2, ea, eb, ← hV i (p.length - i) a b (by omega), show (((p.length - i : Nat) : Int)) = (p.length : Int) - (i : Int) by omega]
  · refine ⟨(i : Int) * a + ((p.length - i : Nat) : Int) * 0, hA i (p.length - i) a 0 ha (Nat.zero_le _) (by omega), ?_⟩
    rw [lifV_tf h1 h2, ea, ← hV i (p.length - i) a 0 (by omega), show (((p.length - i : Nat) : Int)) = 0 by omega, show (((0 : Int) : Rat) / ((p.length : Int) : Rat)) = 0 by rw [Rat.div_def]; exact Rat.zero_mul _, Rat.zero_mul, Rat.add_zero]
  · refine ⟨((0 : Nat) : Int) * 0 + ((p.length : Nat) : Int) * b, hA 0 p.length 0 b (Nat.zero_le _) hb (by omega), ?_⟩
    rw [lifV_ft h1 h2, eb, ← hV 0 p.length 0 b (by omega), show (p.length : Int) - (i : Int) = (p.length : Int) by omega, show ((((0 : Nat) : Int) : Rat) / ((p.length : Int) : Rat)) = 0 by rw [Rat.div_def]; exact Rat.zero_mul _, Rat.zero_mul, Rat.zero_add]
  · omega
theorem cm_it {N : Nat} : ∀ (k : Nat) (p : List Rat) (A B : Nat), 0 < p.length → p.length + k ≤ N + 1 → cmB p A B → cmB (itL k p) (A * N ^ k) (B * N ^ k)
  | 0, p, A, B, _, _, h => by simpa [itL] using h
  | k + 1, p, A, B, h0, hk, h => by
    have := cm_it (N := N) k (lifP p) (A * N) (B * N) (by rw [lifP_len]; omega) (by rw [lifP_len]; omega) (cm_lift h0 (by omega) h)
    rw [itL, Nat.pow_succ, Nat.mul_comm (N ^ k) N, ← Nat.mul_assoc, ← Nat.mul_assoc]; exact this
theorem cm_rl {p : List Rat} {A B R : Nat} (hA : A < 4294967296 ^ R) (hB : B < 4294967296 ^ R) (hR : 1 ≤ R) (h : cmB p A B) : ∀ x ∈ p, rl x ≤ R := fun x hx => by
  obtain ⟨D, hD, hDB, hx2⟩ := h
  obtain ⟨a, ha, rfl⟩ := hx2 x hx
  rw [← qv_ints]
  have := rl_qv (k := R) (decide (a < 0) != decide ((D : Int) < 0)) (Nat.lt_of_le_of_lt ha hA) (show (D : Int).natAbs < 4294967296 ^ R by rw [Int.natAbs_natCast]; omega)
  omega
theorem upP_self {p : List Rat} {n : Nat} (h : n + 1 ≤ p.length) : upP p n = p := by rw [upP, show n + 1 - p.length = 0 by omega]; rfl
theorem itL_step {p : List Rat} {n : Nat} (h : p.length ≤ n) : itL (n + 1 - (lifP p).length) (lifP p) = itL (n + 1 - p.length) p := by
  rw [show n + 1 - p.length = (n + 1 - (lifP p).length) + 1 by rw [lifP_len]; omega]; rfl
def zipG (g : Rat → Rat → Rat) (a b : List Rat) : List Rat := (List.range a.length).map fun i => g (a.getD i 0) (b.getD i 0)
theorem zipG_len (g : Rat → Rat → Rat) (a b : List Rat) : (zipG g a b).length = a.length := by simp [zipG]
theorem zipG_get {g : Rat → Rat → Rat} {a b : List Rat} {i : Nat} (h : i < a.length) : (zipG g a b).getD i 0 = g (a.getD i 0) (b.getD i 0) := by
  rw [List.getD_eq_getElem?_getD, List.getElem?_eq_getElem (by rw [zipG_len]; exact h)]; simp [zipG]
namespace H_c_up
theorem zSm {p q : Prop} (k : q) (e : p = q := by simp only [e1, e2, e3, e4, p1, p2, p3, q1, q2, q3, l1, t0, t1, r1, r2, r3, r4, Nat.zero_add, Nat.reduceMul, Nat.reduceAdd, b1, b2, b3, b4, b5, b6, i1, i2, i3, i4, i5, i6, Nat.reduceBEq, dfq, List.length_set, List.set_set, egs, egz, eim, Rat.zero_add, kills_map ratE, ratL_kill, LV.kill, kills]; exact rfl) : p := e.mpr k
end H_c_up
open H_c_up in
theorem c_up (p : List Rat) (n : Nat) (hp0 : 0 < p.length) (hn : n ≤ 1000) (hl : p.length ≤ 1001) (hs : upS p n) : CallP Tryz.prog 104 [.list 3 (p.map ratL), nI64 n] (.list 3 ((upP p n).map ratL)) := by
  refine fnP Tryz.func104 ?_
  have egs : True := trivial
  have egz : True := trivial
  have eim : True := trivial
  refine zg8 ?_
  refine cp am1 (c_copiedP p (by omega) (fun x hx => by have := upS_rl hs; have h9 := List.getElem_of_mem hx; obtain ⟨k, hk, rfl⟩ := h9; have h8 := this k; rw [List.getD_eq_getElem?_getD, List.getElem?_eq_getElem hk] at h8; exact Nat.le_trans h8 (by decide))) ?_
  refine zg5 ?_
  refine lp1 (fun (o : List Rat) L => (((St.mk L.slot (hp [])).put (some 1) (nI64 n)).put (some 5) (.list 3 (o.map ratL)))) (fun o => 0 < o.length ∧ o.length ≤ 1001 ∧ upS o n ∧ itL (n + 1 - o.length) o = upP p n) (fun o => n + 1 - o.length) p ⟨hp0, hl, hs, rfl⟩ ?_
  rintro o L1 ⟨ho0, hol, hos, hit⟩
  refine zg7 ?_
  refine op_if 18 rfl (fun h18r h18 => ?_) (fun h18r h18 => ?_)
  · refine zg7 ?_
    refine wl_if rfl (fun h23r h23 => ?_) (fun h23r h23 => ?_)
    · have hon : o.length ≤ n := by omega
      refine zg13 ?_
      refine st_pure rfl (.bin rfl rfl (add1N (by omega))) ?_
      refine st_alloc rfl rfl (.mkE (n := (o.length + 1)) (m := (o.length + 1)) ml ml om om om) ?_
      refine zg12 ?_
      refine lp2 (fun (i : Nat) (w : List Rat) L => ((((((((St.mk L.slot (hp [(28, ⟨3, w.map ratL, true⟩)])).put (some 1) (nI64 n)).put (some 5) (.list 3 (o.map ratL))).put (some 6) (nI64 o.length)).put (some 7) (.ref 28 3 0 (o.length + 1))).put (some 29) (.ref 28 3 0 (o.length + 1))).put (some 30) (nI64 (o.length + 1))).put (some 31) (nI64 i))) (fun i w => i ≤ o.length + 1 ∧ w.length = o.length + 1 ∧ w.take i = (lifP o).take i ∧ ∀ x, i ≤ x → w.getD x 0 = 0) (fun i w => o.length + 1 - i) 0 (List.replicate (o.length + 1) 0) ⟨Nat.zero_le _, by simp, rfl, fun x _ => by simp [List.getD_eq_getElem?_getD, List.getElem?_replicate]; split <;> rfl⟩ ?_
      rintro i w L2 ⟨hi, hwl, hwt, hz⟩
      refine zg6 ?_
      refine wl_if rfl (fun h32r h32 => ?_) (fun h32r h32 => ?_)
      · have hi2 : i < o.length + 1 := by omega
        have hf1 := rl_ints (n := (i : Int)) (d := (o.length : Int)) (by omega) (by omega)
        have hf2 := rl_ints (n := (o.length : Int) - (i : Int)) (d := (o.length : Int)) (by omega) (by omega)
        have hr1 := upS_rl hos (i - 1)
        have hr2 := upS_rl hos i
        have hm1 := rl_mul (((i : Int) : Rat) / ((o.length : Int) : Rat)) (o.getD (i - 1) 0)
        have hm2 := rl_mul ((((o.length : Int) - (i : Int) : Int) : Rat) / ((o.length : Int) : Rat)) (o.getD i 0)
        have egs := fun v => set_get_self (o := w) (i := i) (v := v) (by omega)
        have egz := hz i (Nat.le_refl _)
        have eim : ((i : Int) - 1).toNat = i - 1 := by omega
        have hr0 : rl 0 = 1 := rfl
        refine zg17 ?_
        refine wl_if rfl (fun h35r h35 => ?_) (fun h35r h35 => ?_)
        · have hi0 : 0 < i := by omega
          refine zg4 ?_
          refine cp am2 (c_RMake (i : Int) (o.length : Int) (by omega) (by omega) (by omega) (by omega) (by omega)) ?_
          refine zg8 ?_
          refine wl_regD 10 (by decide +kernel) ?_
          refine zg8 ?_
          try simp only [t1, dfq, eim]
          refine cp am2 (c_RMul _ _ (by omega)) ?_
          refine zg12 ?_
          refine wl_if rfl (fun h55r h55 => ?_) (fun h55r h55 => ?_)
          · have hi1 : i < o.length := by omega
            refine zg4 ?_
            refine st_pure rfl (.bin rfl rfl (sub64 (by omega) (by omega))) ?_
            refine zg1 ?_
            refine cp am2 (c_RMake ((o.length : Int) - (i : Int)) (o.length : Int) (by omega) (by omega) (by omega) (by omega) (by omega)) ?_
            refine zg8 ?_
            refine wl_regD 14 (by decide +kernel) ?_
            refine zg11 ?_
            try simp only [t1, dfq]
            refine cp am2 (c_RMul _ _ (by omega)) ?_
            try simp only [t1, dfq, Nat.zero_add, egs, egz]
            refine cp am2 (c_RAdd _ _ (by omega)) ?_
            refine zg5 ?_
            refine wl_regW ((Weak.kill _ 9).trans (Weak.kill _ 11)) ?_
            refine zg4 ?_
            exact nx2 (i + 1) (w.set i (((i : Int) : Rat) / ((o.length : Int) : Rat) * o.getD (i - 1) 0 + (((o.length : Int) - (i : Int) : Int) : Rat) / ((o.length : Int) : Rat) * o.getD i 0)) ⟨by omega, by simp [hwl], set_takeR (by rw [lifP_len]; omega) (by rw [lifP_len]; omega) hwt (by rw [lifP_get (by omega), lifV_tt hi0 hi1]), fun x hx => by rw [set_getD _ _ _ _ (by omega), if_neg (by omega)]; exact hz x (by omega)⟩
          · have hi1 : ¬ i < o.length := by omega
            refine zg3 ?_
            refine wl_regW ((Weak.kill _ 9).trans (Weak.kill _ 11)) ?_
            refine zg4 ?_
            exact nx2 (i + 1) (w.set i (((i : Int) : Rat) / ((o.length : Int) : Rat) * o.getD (i - 1) 0)) ⟨by omega, by simp [hwl], set_takeR (by rw [lifP_len]; omega) (by rw [lifP_len]; omega) hwt (by rw [lifP_get (by omega), lifV_tf hi0 hi1]), fun x hx => by rw [set_getD _ _ _ _ (by omega), if_neg (by omega)]; exact hz x (by omega)⟩
        · have hi0 : ¬ 0 < i := by omega
          refine zg10 ?_
          refine wl_if rfl (fun h55r h55 => ?_) (fun h55r h55 => ?_)
          · have hi1 : i < o.length := by omega
            refine zg4 ?_
            refine st_pure rfl (.bin rfl rfl (sub64 (by omega) (by omega))) ?_
            refine zg1 ?_
            refine cp am2 (c_RMake ((o.length : Int) - (i : Int)) (o.length : Int) (by omega) (by omega) (by omega) (by omega) (by omega)) ?_
            refine zg8 ?_
            refine wl_regD 14 (by decide +kernel) ?_
            refine zg11 ?_
            try simp only [t1, dfq]
            refine cp am2 (c_RMul _ _ (by omega)) ?_
            try simp only [t1, dfq, Nat.zero_add, egs, egz]
            refine cp am2 (c_RAdd _ _ (by omega)) ?_
            refine zg5 ?_
            refine wl_regW ((Weak.kill _ 9).trans (Weak.kill _ 11)) ?_
            refine zg4 ?_
            exact nx2 (i + 1) (w.set i ((((o.length : Int) - (i : Int) : Int) : Rat) / ((o.length : Int) : Rat) * o.getD i 0)) ⟨by omega, by simp [hwl], set_takeR (by rw [lifP_len]; omega) (by rw [lifP_len]; omega) hwt (by rw [lifP_get (by omega), lifV_ft hi0 hi1]), fun x hx => by rw [set_getD _ _ _ _ (by omega), if_neg (by omega)]; exact hz x (by omega)⟩
          · have hi1 : ¬ i < o.length := by omega
            refine zg3 ?_
            refine wl_regW ((Weak.kill _ 9).trans (Weak.kill _ 11)) ?_
            refine zg4 ?_
            exact nx2 (i + 1) w (False.elim (by omega))
      · obtain rfl : i = o.length + 1 := by omega
        have hE : w = lifP o := by
          rw [List.take_of_length_le (by omega), List.take_of_length_le (by rw [lifP_len]; omega)] at hwt
          exact hwt
        subst hE
        refine zg5 ?_
        refine wl_regW ((Weak.imm (t := 7) [28] rfl rfl (imm_refm ratE rfl rfl (by rw [lifP_len]))).trans (Weak.kill _ 28)) ?_
        refine zg5 ?_
        exact nx1 (lifP o) ⟨by rw [lifP_len]; omega, by rw [lifP_len]; omega, upS_step (by omega) hos, by rw [itL_step (by omega)]; exact hit⟩ (hm := by rw [lifP_len]; omega)
    · refine zg12 ?_
      have hE : upP p n = o := by rw [← hit, show n + 1 - o.length = 0 by omega]; rfl
      rw [hE]
      exact ret1 rfl (by first | exact .pure rfl | exact .pure (limL_pure _) | exact .pure (magL_pure _) | exact .pure (ratE.pure _) | exact .pure (pure_lst u32E _ _) | exact .pure (pure_lst ratE _ _))
  · refine zg20 ?_
    have hE : upP p n = o := by rw [← hit, show n + 1 - o.length = 0 by omega]; rfl
    rw [hE]
    exact ret1 rfl (by first | exact .pure rfl | exact .pure (limL_pure _) | exact .pure (magL_pure _) | exact .pure (ratE.pure _) | exact .pure (pure_lst u32E _ _) | exact .pure (pure_lst ratE _ _))
end Go.Proofs.YthhdcfhaldcheaaGreat
end
section
set_option linter.unusedVariables false
set_option linter.unusedSimpArgs false
set_option maxHeartbeats 8000000
set_option maxRecDepth 100000
attribute [local irreducible] Go.Lg.opsL Go.Lg.wpL Go.Lg.thenL Go.Lg.blockL
namespace Go.Proofs.YthhdcfhaldcheaaGreat
open Go.Lg
theorem upS_it {n : Nat} (hn : n ≤ 1000) : ∀ (k : Nat) (p : List Rat), 0 < p.length → p.length + k ≤ n + 1 → upS p n → upS (itL k p) n
  | 0, _, _, _, h => h
  | k + 1, p, h0, hk, h => upS_it hn k (lifP p) (by rw [lifP_len]; omega) (by rw [lifP_len]; omega) (upS_step (by omega) h)
theorem upP_rl {p : List Rat} {n : Nat} (hn : n ≤ 1000) (h0 : 0 < p.length) (hl : p.length ≤ n + 1) (h : upS p n) (k : Nat) : rl ((upP p n).getD k 0) ≤ 1073741824 :=
  upS_rl (upS_it hn _ p h0 (by omega) h) k
theorem emx {a b n : Nat} (h : 0 < a) (h1 : a ≤ n + 1) (h2 : b ≤ n + 1) (h3 : a = n + 1 ∨ b = n + 1) : (if ((b : Nat) : Int) > ((a : Nat) : Int) then ((b : Nat) : Int) else ((a : Nat) : Int)) - 1 = (n : Int) := by
  split <;> omega
theorem subMx {a b n : Nat} (h : 0 < a) (h1 : a ≤ n + 1) (h2 : b ≤ n + 1) (h3 : a = n + 1 ∨ b = n + 1) (hn : n ≤ 1000) : binI .sub .i64 (if ((b : Nat) : Int) > ((a : Nat) : Int) then ((b : Nat) : Int) else ((a : Nat) : Int)) 1 = some (.int .i64 ((n : Nat) : Int)) := by
  have e := emx h h1 h2 h3
  rw [sub64 (by omega) (by omega), e]
theorem zip_self (a : List Rat) : ((zipG (· - ·) a a).any fun x => sgnR x != 0) = false := by
  rw [List.any_eq_false]
  intro x hx
  obtain ⟨i, _, rfl⟩ := List.mem_map.1 hx
  show ¬ (sgnR (a.getD i 0 - a.getD i 0) != 0) = true
  rw [Rat.sub_self]
  decide
open H0 in
theorem c_BZero1 (q : Rat) (h : rl q ≤ 1099511627776) : CallP Tryz.prog 137 [ratL q] (bL (sgnR q != 0)) := by
  refine fnP Tryz.func137 ?_
  refine zg9 ?_
  refine cp am1 (c_RSign _ (by omega)) ?_
  refine zg5 ?_
  exact ret1 rfl (by first | exact .pure rfl | exact .pure (limL_pure _) | exact .pure (magL_pure _) | exact .pure (ratE.pure _) | exact .pure (pure_lst u32E _ _) | exact .pure (pure_lst ratE _ _))
open H0 in
theorem c_BZero (p : List Rat) (hl : p.length ≤ 1048576) (hpr : ∀ x ∈ p, rl x ≤ 1099511627776) : CallP Tryz.prog 69 [.list 3 (p.map ratL)] (bL (!(p.any fun x => sgnR x != 0))) := by
  refine fnP Tryz.func69 ?_
  refine zg8 ?_
  refine cp am2 (c_ContainsFunc p 137 (fun x => sgnR x != 0) hl (fun x hx => c_BZero1 x (hpr x hx))) ?_
  refine zg5 ?_
  exact ret1 rfl (by first | exact .pure rfl | exact .pure (limL_pure _) | exact .pure (magL_pure _) | exact .pure (ratE.pure _) | exact .pure (pure_lst u32E _ _) | exact .pure (pure_lst ratE _ _))
open H0 in
theorem c_Elev (p : List Rat) (n : Nat) (hp0 : 0 < p.length) (hn : n ≤ 40) (hpn : p.length ≤ n + 1) (hps : upS p n) : CallP Tryz.prog 29 [.list 3 (p.map ratL), nI64 n] (.tup [.list 3 ((upP p n).map ratL), iL 0]) := by
  refine fnP Tryz.func29 ?_
  refine zg12 ?_
  refine st_pure rfl (.bin rfl rfl (sub64 (by omega) (by omega))) ?_
  refine zg2 ?_
  refine op_if 11 rfl (fun h11r h11 => ?_) (fun h11r h11 => ?_)
  · refine zg14 ?_
    exfalso
    omega
  · refine zg5 ?_
    refine wl_if rfl (fun h14r h14 => ?_) (fun h14r h14 => ?_)
    · omega
    · refine zg6 ?_
      refine cp am2 (c_up p n hp0 (by omega) (by omega) hps) ?_
      refine zg5 ?_
      exact ret2 rfl (.pure (pure_lst ratE _ _)) rfl (.pure rfl)
end Go.Proofs.YthhdcfhaldcheaaGreat
end
section
set_option linter.unusedVariables false
set_option linter.unusedSimpArgs false
set_option maxHeartbeats 8000000
set_option maxRecDepth 100000
attribute [local irreducible] Go.Lg.opsL Go.Lg.wpL Go.Lg.thenL Go.Lg.blockL
namespace Go.Proofs.YthhdcfhaldcheaaGreat
open Go.Lg
end Go.Proofs.YthhdcfhaldcheaaGreat
namespace Go.Lg
/-- a slice of the call's own and a number, handed back -/
theorem ret2own {P : Program} {L : St} {t u b sz len : Nat} {x y : LV} {blk : Blk} (h : L.slot t = .ref b sz 0 len) (hb : L.heap b = some blk) (hp : pures blk.vals = true) (h2 : L.slot u = x) (hi : Imm L.heap x y) : RetL P [.tmp t, .tmp u] L (.tup [.ref 1 sz 0 len, y]) [blk] :=
  ⟨[.ref b sz 0 len, x], [.ref 1 sz 0 len, y], L.heap, [b], .cons h (.cons h2 .nil), Heap.le_refl _, .cons (.ref (k := 0) rfl) (.cons (.imm hi) .nil), by simp, rfl, fun k c hk => by
    cases k with
    | zero => simp at hk; subst hk; exact ⟨blk, hb, rfl, hp⟩
    | succ k => simp at hk, rfl⟩
end Go.Lg
namespace Go.Proofs.YthhdcfhaldcheaaGreat
open Go.Lg
theorem chs_step : ∀ (n k : Nat), chs n (k + 1) * (k + 1) = chs n k * (n - k)
  | 0, k => by simp [chs]
  | n + 1, 0 => by
    have h := chs_step n 0
    simp only [chs, chs_zero] at *
    omega
  | n + 1, k + 1 => by
    have h1 := chs_step n k
    have h2 := chs_step n (k + 1)
    rcases Nat.lt_or_ge n (k + 1) with h | h
    · rw [chs_gt (show n + 1 < k + 1 + 1 by omega), show n + 1 - (k + 1) = 0 by omega]; simp
    · have e : chs (n + 1) (k + 1) = chs n k + chs n (k + 1) := rfl
      have e2 : chs (n + 1) (k + 1 + 1) = chs n (k + 1) + chs n (k + 1 + 1) := rfl
      rw [e, e2, show n + 1 - (k + 1) = n - k by omega, Nat.add_mul, Nat.add_mul, h2, ← h1, ← Nat.mul_add, ← Nat.mul_add]
      congr 1; omega
theorem chs_frac {n k : Nat} (h : k < n) : (((chs n k : Nat) : Int) : Rat) * ((((n : Int) - (k : Int) : Int) : Rat) / (((k : Int) + 1 : Int) : Rat)) = (((chs n (k + 1) : Nat) : Int) : Rat) := by
  have e := chs_step n k
  have e2 : ((chs n (k + 1) : Nat) : Int) * ((k : Int) + 1) = ((chs n k : Nat) : Int) * ((n : Int) - (k : Int)) := by
    rw [show (n : Int) - (k : Int) = ((n - k : Nat) : Int) by omega, show (k : Int) + 1 = ((k + 1 : Nat) : Int) by omega, ← Int.natCast_mul, ← Int.natCast_mul, e]
  have e3 : (((chs n (k + 1) : Nat) : Int) : Rat) * (((k : Int) + 1 : Int) : Rat) = (((chs n k : Nat) : Int) : Rat) * ((((n : Int) - (k : Int)) : Int) : Rat) := by rw [← Rat.intCast_mul, ← Rat.intCast_mul, e2]
  have h0 : (((k : Int) + 1 : Int) : Rat) ≠ 0 := fun e => by have := Rat.intCast_eq_zero_iff.1 e; omega
  have h1 := Rat.mul_inv_cancel _ h0
  rw [Rat.div_def, ← Rat.mul_assoc, ← e3, Rat.mul_assoc, h1, Rat.mul_one]
theorem chsQ_rl {n : Nat} (k : Nat) (hn : n ≤ 40) : rl (((chs n k : Nat) : Int) : Rat) ≤ 2 := by
  rcases Nat.lt_or_ge n k with h | h
  · rw [chs_gt h]; decide
  · have h1 := chR_rl hn _ (getD_mem (i := k) (by rw [chR_len]; omega))
    rw [chR_get h] at h1; exact h1
def scP (r : Rat) (p : List Rat) : List Rat := p.map (r * ·)
theorem scP_len (r : Rat) (p : List Rat) : (scP r p).length = p.length := by simp [scP]
theorem scP_get {r : Rat} {p : List Rat} {i : Nat} (h : i < p.length) : (scP r p).getD i 0 = r * p.getD i 0 := by
  rw [List.getD_eq_getElem?_getD, List.getElem?_eq_getElem (by rw [scP_len]; exact h), List.getD_eq_getElem?_getD, List.getElem?_eq_getElem h]; simp [scP]
theorem scP_rl {r : Rat} {p : List Rat} {R S : Nat} (hr : rl r ≤ R) (h : ∀ x ∈ p, rl x ≤ S) : ∀ x ∈ scP r p, rl x ≤ R + S := fun x hx => by
  obtain ⟨y, hy, rfl⟩ := List.mem_map.1 hx
  have h1 := rl_mul r y
  have h2 := h y hy
  show rl (r * y) ≤ _
  omega
theorem getD0 (p : List Rat) (i : Nat) (h : p.length ≤ i) : p.getD i 0 = 0 := ge_zero h
theorem scP_get' (r : Rat) (p : List Rat) (i : Nat) : (scP r p).getD i 0 = r * p.getD i 0 := by
  rcases Nat.lt_or_ge i p.length with h | h
  · exact scP_get h
  · rw [getD0 _ _ h, getD0 _ _ (by rw [scP_len]; exact h), Rat.mul_zero]
theorem lif_sc (r : Rat) (p : List Rat) : lifP (scP r p) = scP r (lifP p) := by
  refine ext0 (by rw [lifP_len, scP_len, scP_len, lifP_len]) fun k hk => ?_
  rw [lifP_len, scP_len] at hk
  rw [lifP_get (by rw [scP_len]; exact hk), scP_get', lifP_get hk]
  unfold lifV
  rw [scP_len, scP_get', scP_get']
  split <;> split <;> grind
theorem it_sc (r : Rat) : ∀ (k : Nat) (p : List Rat), itL k (scP r p) = scP r (itL k p)
  | 0, p => rfl
  | k + 1, p => by rw [itL, itL, lif_sc, it_sc r k]
theorem up_sc (r : Rat) (p : List Rat) (n : Nat) : upP (scP r p) n = scP r (upP p n) := by rw [upP, upP, scP_len, it_sc]
theorem zip_neg (p q : List Rat) : zipG (· + ·) p (scP (-1) q) = zipG (· - ·) p q := by
  refine ext0 (by rw [zipG_len, zipG_len]) fun k hk => ?_
  rw [zipG_len] at hk
  rw [zipG_get hk, zipG_get hk, scP_get']
  grind
theorem lif_mid {p : List Rat} {i : Nat} (h0 : 0 < i) (h1 : i < p.length) : (1 - ((i : Int) : Rat) / ((p.length : Int) : Rat)) * p.getD i 0 + ((i : Int) : Rat) / ((p.length : Int) : Rat) * p.getD (i - 1) 0 = (lifP p).getD i 0 := by
  rw [lifP_get (by omega), lifV_tt h0 h1, Rat.intCast_sub]
  have hn : ((p.length : Int) : Rat) ≠ 0 := fun e => by have := Rat.intCast_eq_zero_iff.1 e; omega
  have e2 := Rat.mul_inv_cancel _ hn
  simp only [Rat.div_def]
  grind
theorem lif_fst {p : List Rat} (h : 0 < p.length) : (lifP p).getD 0 0 = p.getD 0 0 := by
  rw [lifP_get (by omega), lifV_ft (by omega) h, show (p.length : Int) - ((0 : Nat) : Int) = (p.length : Int) by omega]
  have hn : ((p.length : Int) : Rat) ≠ 0 := fun e => by have := Rat.intCast_eq_zero_iff.1 e; omega
  rw [Rat.div_def, Rat.mul_inv_cancel _ hn, Rat.one_mul]
theorem lif_lst {p : List Rat} (h : 0 < p.length) : (lifP p).getD p.length 0 = p.getD (p.length - 1) 0 := by
  rw [lifP_get (by omega), lifV_tf h (by omega)]
  have hn : ((p.length : Int) : Rat) ≠ 0 := fun e => by have := Rat.intCast_eq_zero_iff.1 e; omega
  rw [Rat.div_def, Rat.mul_inv_cancel _ hn, Rat.one_mul]
theorem lif_end {p w : List Rat} (h0 : 0 < p.length) (hl : w.length = p.length + 1) (ht : w.take p.length = (lifP p).take p.length) (hn : w.getD p.length 0 = p.getD (p.length - 1) 0) : w = lifP p := by
  refine ext0 (by rw [hl, lifP_len]) fun k hk => ?_
  rcases Nat.lt_or_ge k p.length with h | h
  · have := congrArg (fun l => l.getD k 0) ht
    simpa [List.getD_eq_getElem?_getD, List.getElem?_take_of_lt h] using this
  · obtain rfl : k = p.length := by omega
    rw [hn, lif_lst h0]
theorem take_one {w q : List Rat} (h1 : 0 < w.length) (h2 : 0 < q.length) (h : w.getD 0 0 = q.getD 0 0) : w.take 1 = q.take 1 := by
  match w, q, h1, h2 with
  | a :: w, b :: q, _, _ => simp at h; simp [h]
theorem mul_same (a b p q : Rat) : a * b * (p * q) = a * p * (b * q) := by grind
namespace H_c_FChoose
theorem zSm {p q : Prop} (k : q) (e : p = q := by simp only [e1, e2, e3, e4, p1, p2, p3, q1, q2, q3, l1, t0, t1, r1, r2, r3, r4, Nat.zero_add, Nat.reduceMul, Nat.reduceAdd, b1, b2, b3, b4, b5, b6, i1, i2, i3, i4, i5, i6, Nat.reduceBEq, ech, dfq, kills_map ratE, ratL_kill, spL_kill, LV.kill, kills]; exact rfl) : p := e.mpr k
end H_c_FChoose
open H_c_FChoose in
theorem c_FChoose (n k : Nat) (hn : n ≤ 40) (hk : k ≤ n) : CallP Tryz.prog 110 [nI64 n, nI64 k] (ratL (((chs n k : Nat) : Int) : Rat)) := by
  refine fnP Tryz.func110 ?_
  have ech : True := trivial
  refine zg7 ?_
  refine cp am1 (c_FInt 1 (by decide) (by decide)) ?_
  refine zg11 ?_
  refine lp1 (fun (i : Nat) L => ((((((St.mk L.slot (hp [(4, ⟨3, [.agg [.v (.bool false), .list 1 [], .list 1 []]], true⟩), (5, ⟨3, [ratL (((chs n i : Nat) : Int) : Rat)], true⟩)])).put (some 0) (nI64 n)).put (some 1) (nI64 k)).put (some 4) (.eptr 4 3 0 0)).put (some 5) (.eptr 5 3 0 0)).put (some 6) (nI64 i))) (fun i => i ≤ k) (fun i => k - i) 0 (Nat.zero_le _) (h0 := ⟨_, Weak.of_eq (put_id' (put_id' (put_id' (put_id' (put_id' (mk_id' (by rw [chs_zero]; exact cl)) cl) cl) cl) cl) cl)⟩) ?_
  rintro i L1 hi
  refine zg8 ?_
  refine wl_if rfl (fun h10r h10 => ?_) (fun h10r h10 => ?_)
  · have hi2 : i < n := by omega
    have ech := chs_frac hi2
    have hcr := chsQ_rl (n := n) i hn
    have hfr := rl_ints (n := (n : Int) - (i : Int)) (d := (i : Int) + 1) (by omega) (by omega)
    refine zg4 ?_
    refine wl_regD 8 (by decide +kernel) ?_
    refine zg6 ?_
    refine cp am2 (c_FFrac ((n : Int) - (i : Int)) ((i : Int) + 1) (by omega) (by omega) (by omega) (by omega) (by omega)) ?_
    refine cp am2 (c_FRMul (((chs n i : Nat) : Int) : Rat) ((((n : Int) - (i : Int) : Int) : Rat) / (((i : Int) + 1 : Int) : Rat)) (by omega)) ?_
    refine zg10 ?_
    exact nx1 (i + 1) (by omega)
  · obtain rfl : i = k := by omega
    refine zg12 ?_
    exact retC [] rfl rfl rfl (ratE.csize _) (ratL_all _) T33 (.pure (ratE.pure _))
namespace H_c_FScale
theorem zSm {p q : Prop} (k : q) (e : p = q := by simp only [e1, e2, e3, e4, p1, p2, p3, q1, q2, q3, l1, t0, t1, r1, r2, r3, r4, Nat.zero_add, Nat.reduceMul, Nat.reduceAdd, b1, b2, b3, b4, b5, b6, i1, i2, i3, i4, i5, i6, Nat.reduceBEq, dfq, List.length_set, kills_map ratE, ratL_kill, spL_kill, LV.kill, kills]; exact rfl) : p := e.mpr k
end H_c_FScale
open H_c_FScale in
theorem c_FScale (r : Rat) (p : List Rat) (hl : p.length ≤ 1048576) (h : ∀ x ∈ p, rl r + rl x ≤ 34359738368) : CallP Tryz.prog 39 [ratL r, .list 3 (p.map ratL)] (.list 3 ((scP r p).map ratL)) := by
  refine fnP Tryz.func39 ?_
  refine zg10 ?_
  refine st_alloc rfl rfl (.mkE (n := p.length) (m := p.length) ml ml om om om) ?_
  refine zg10 ?_
  refine lp2 (fun (i : Nat) (w : List Rat) L => (((((St.mk L.slot (hp [(2, ⟨3, [ratL r], true⟩), (9, ⟨3, w.map ratL, true⟩)])).put (some 1) (.list 3 (p.map ratL))).put (some 2) (.eptr 2 3 0 0)).put (some 5) (.ref 9 3 0 p.length)).put (some 6) (nI64 i))) (fun i w => i ≤ p.length ∧ w.length = p.length ∧ w.take i = (scP r p).take i) (fun i w => p.length - i) 0 (List.replicate p.length 0) ⟨Nat.zero_le _, by simp, rfl⟩ ?_
  rintro i w L1 ⟨hi, hwl, hwt⟩
  refine zg9 ?_
  refine wl_if rfl (fun h13r h13 => ?_) (fun h13r h13 => ?_)
  · have hi2 : i < p.length := by omega
    have hri := h _ (getD_mem hi2)
    refine zg4 ?_
    refine wl_regD 9 (by decide +kernel) ?_
    refine zg7 ?_
    refine cp am2 (c_FRMul r (p.getD i 0) (by omega)) ?_
    try simp only [t1, dfq]
    refine zg11 ?_
    exact nx2 (i + 1) (w.set i (r * p.getD i 0)) ⟨by omega, by simp [hwl], set_takeR (by rw [scP_len]; omega) (by rw [scP_len]; omega) hwt (by rw [scP_get (by omega)])⟩
  · obtain rfl : i = p.length := by omega
    have hE : w = (scP r p) := by
      rw [List.take_of_length_le (by omega), List.take_of_length_le (by rw [scP_len]; omega)] at hwt
      exact hwt
    subst hE
    refine zg12 ?_
    exact ret1f [9] rfl rfl (imm_refm ratE rfl rfl (scP_len r p).symm)
namespace H_c_BScale
theorem zSm {p q : Prop} (k : q) (e : p = q := by simp only [e1, e2, e3, e4, p1, p2, p3, q1, q2, q3, l1, t0, t1, r1, r2, r3, r4, Nat.zero_add, Nat.reduceMul, Nat.reduceAdd, b1, b2, b3, b4, b5, b6, i1, i2, i3, i4, i5, i6, Nat.reduceBEq, dfq, List.length_set, kills_map ratE, ratL_kill, spL_kill, LV.kill, kills]; exact rfl) : p := e.mpr k
end H_c_BScale
open H_c_BScale in
theorem c_BScale (r : Rat) (p : List Rat) (hl : p.length ≤ 1048576) (h : ∀ x ∈ p, rl r + rl x ≤ 34359738368) : CallP Tryz.prog 38 [ratL r, .list 3 (p.map ratL)] (.list 3 ((scP r p).map ratL)) := by
  refine fnP Tryz.func38 ?_
  refine zg10 ?_
  refine st_alloc rfl rfl (.mkE (n := p.length) (m := p.length) ml ml om om om) ?_
  refine zg12 ?_
  refine lp2 (fun (i : Nat) (w : List Rat) L => ((((((St.mk L.slot (hp [(2, ⟨3, [ratL r], true⟩), (10, ⟨3, w.map ratL, true⟩)])).put (some 2) (.eptr 2 3 0 0)).put (some 5) (.ref 10 3 0 p.length)).put (some 11) (.list 3 (p.map ratL))).put (some 12) (nI64 p.length)).put (some 13) (nI64 i))) (fun i w => i ≤ p.length ∧ w.length = p.length ∧ w.take i = (scP r p).take i) (fun i w => p.length - i) 0 (List.replicate p.length 0) ⟨Nat.zero_le _, by simp, rfl⟩ ?_
  rintro i w L1 ⟨hi, hwl, hwt⟩
  refine zg6 ?_
  refine wl_if rfl (fun h14r h14 => ?_) (fun h14r h14 => ?_)
  · have hi2 : i < p.length := by omega
    have hri := h _ (getD_mem hi2)
    refine zg19 ?_
    refine cp am2 (c_RMul r (p.getD i 0) (by omega)) ?_
    try simp only [t1, dfq]
    refine zg5 ?_
    refine wl_regW (Weak.kill _ 7) ?_
    refine zg4 ?_
    exact nx2 (i + 1) (w.set i (r * p.getD i 0)) ⟨by omega, by simp [hwl], set_takeR (by rw [scP_len]; omega) (by rw [scP_len]; omega) hwt (by rw [scP_get (by omega)])⟩
  · obtain rfl : i = p.length := by omega
    have hE : w = (scP r p) := by
      rw [List.take_of_length_le (by omega), List.take_of_length_le (by rw [scP_len]; omega)] at hwt
      exact hwt
    subst hE
    refine zg12 ?_
    exact ret1f [10] rfl rfl (imm_refm ratE rfl rfl (scP_len r p).symm)
namespace H_c_Flift
theorem zSm {p q : Prop} (k : q) (e : p = q := by simp only [e1, e2, e3, e4, p1, p2, p3, q1, q2, q3, l1, t0, t1, r1, r2, r3, r4, Nat.zero_add, Nat.reduceMul, Nat.reduceAdd, b1, b2, b3, b4, b5, b6, i1, i2, i3, i4, i5, i6, Nat.reduceBEq, dfq, tz0, hkn, eim, List.length_set, kills_map ratE, ratL_kill, spL_kill, LV.kill, kills]; exact rfl) : p := e.mpr k
end H_c_Flift
open H_c_Flift in
theorem c_Flift (p : List Rat) (hp0 : 0 < p.length) (hl : p.length ≤ 1000) (hpr : ∀ x ∈ p, rl x ≤ 1073741824) : CallP Tryz.prog 105 [.list 3 (p.map ratL)] (.list 3 ((lifP p).map ratL)) := by
  have hkn : ((p.length : Int) - 1).toNat = p.length - 1 := by omega
  have hrl : (List.replicate (p.length + 1) (0 : Rat)).length = p.length + 1 := List.length_replicate
  refine fnP Tryz.func105 ?_
  have eim : True := trivial
  refine zg15 ?_
  refine st_pure rfl (.bin rfl rfl (add1N (by omega))) ?_
  refine st_alloc rfl rfl (.mkE (n := (p.length + 1)) (m := (p.length + 1)) ml ml om om om) ?_
  refine zg4 ?_
  refine wl_regF 12 [1, 2] (by decide +kernel) ?_
  refine zg24 ?_
  refine lp2 (fun (i : Nat) (w : List Rat) L => (((((St.mk L.slot (hp [(10, ⟨3, w.map ratL, true⟩)])).put (some 0) (.list 3 (p.map ratL))).put (some 3) (nI64 p.length)).put (some 4) (.ref 10 3 0 (p.length + 1))).put (some 5) (nI64 i))) (fun i w => 1 ≤ i ∧ i ≤ p.length ∧ w.length = p.length + 1 ∧ w.take i = (lifP p).take i ∧ w.getD p.length 0 = p.getD (p.length - 1) 0) (fun i w => p.length - i) 1 (((List.replicate (p.length + 1) 0).set 0 (p.getD 0 0)).set p.length (p.getD (p.length - 1) 0)) ⟨Nat.le_refl _, hp0, by simp, take_one (by simp) (by rw [lifP_len]; omega) (by rw [set_getD _ _ _ _ (by simp), if_neg (by omega), set_getD _ _ _ _ (by simp), if_pos rfl, lif_fst hp0]), by rw [set_getD _ _ _ _ (by simp), if_pos rfl]⟩ ?_
  rintro i w L1 ⟨hi1, hi, hwl, hwt, hwe⟩
  refine zg8 ?_
  refine wl_if rfl (fun h26r h26 => ?_) (fun h26r h26 => ?_)
  · have hi2 : i < p.length := by omega
    have eim : ((i : Int) - 1).toNat = i - 1 := by omega
    have hfr := rl_ints (n := (i : Int)) (d := (p.length : Int)) (by omega) (by omega)
    have hr1 := hpr _ (getD_mem hi2)
    have hr2 := hpr _ (getD_mem (i := i - 1) (by omega))
    have hB := c_FBetw (p.getD i 0) (p.getD (i - 1) 0) (((i : Int) : Rat) / ((p.length : Int) : Rat)) (by omega)
    rw [lif_mid (by omega) hi2] at hB
    refine zg4 ?_
    refine wl_regD 16 (by decide +kernel) ?_
    refine zg13 ?_
    refine cp am2 (c_FFrac (i : Int) (p.length : Int) (by omega) (by omega) (by omega) (by omega) (by omega)) ?_
    try simp only [t1, dfq, eim]
    refine cp am3 (hB) ?_
    refine zg7 ?_
    refine st_pure rfl (.bin rfl rfl (add1N (by omega))) ?_
    refine zg3 ?_
    exact nx2 (i + 1) (w.set i ((lifP p).getD i 0)) ⟨by omega, by omega, by simp [hwl], set_takeR (by rw [lifP_len]; omega) (by rw [lifP_len]; omega) hwt rfl, by rw [set_getD _ _ _ _ (by omega), if_neg (by omega)]; exact hwe⟩
  · obtain rfl : i = p.length := by omega
    have hE := lif_end hp0 hwl hwt hwe
    subst hE
    refine zg12 ?_
    exact ret1f [10] rfl rfl (imm_refm ratE rfl rfl (lifP_len p).symm)
namespace H_c_FElev
theorem zSm {p q : Prop} (k : q) (e : p = q := by simp only [e1, e2, e3, e4, p1, p2, p3, q1, q2, q3, l1, t0, t1, r1, r2, r3, r4, Nat.zero_add, Nat.reduceMul, Nat.reduceAdd, b1, b2, b3, b4, b5, b6, i1, i2, i3, i4, i5, i6, Nat.reduceBEq, dfq, elen, take_map_len, map_snoc, len_snoc, List.length_cons, List.length_nil, List.nil_append, List.map_nil, List.take_nil, List.append_nil, kills_map ratE, ratL_kill, spL_kill, LV.kill, kills]; exact rfl) : p := e.mpr k
end H_c_FElev
open H_c_FElev in
theorem c_FElev (p : List Rat) (n : Nat) (hp0 : 0 < p.length) (hn : n ≤ 40) (hpn : p.length ≤ n + 1) (hps : upS p n) : CallOK Tryz.prog 30 [.list 3 (p.map ratL), nI64 n] (.tup [.ref 1 3 0 (n + 1), iL 0]) [⟨3, (upP p n).map ratL, true⟩] := by
  refine fnO Tryz.func30 ?_
  have elen : True := trivial
  refine zg12 ?_
  refine st_pure rfl (.bin rfl rfl (sub64 (by omega) (by omega))) ?_
  refine zg2 ?_
  refine op_if 11 rfl (fun h11r h11 => ?_) (fun h11r h11 => ?_)
  · refine zg14 ?_
    exfalso
    omega
  · refine zg5 ?_
    refine wl_if rfl (fun h14r h14 => ?_) (fun h14r h14 => ?_)
    · omega
    · refine zg4 ?_
      refine lp1 (fun (o : List Rat) L => (((St.mk L.slot (hp [])).put (some 0) (.list 3 (o.map ratL))).put (some 1) (nI64 n))) (fun o => 0 < o.length ∧ o.length ≤ n + 1 ∧ upS o n ∧ itL (n + 1 - o.length) o = (upP p n)) (fun o => n + 1 - o.length) p ⟨hp0, hpn, hps, rfl⟩ ?_
      rintro o L1 ⟨ho0, hol, hos, hit⟩
      refine zg9 ?_
      refine wl_if rfl (fun h18r h18 => ?_) (fun h18r h18 => ?_)
      · have ho2 : o.length ≤ n := by omega
        refine zg5 ?_
        refine cp am1 (c_Flift o ho0 (by omega) hos.1) ?_
        refine zg4 ?_
        exact nx1 (lifP o) ⟨by rw [lifP_len]; omega, by rw [lifP_len]; omega, upS_step (by omega) hos, by rw [itL_step (by omega)]; exact hit⟩ (hm := by rw [lifP_len]; omega)
      · have ho2 : o.length = n + 1 := by omega
        have hE : (upP p n) = o := by rw [← hit, show n + 1 - o.length = 0 by omega]; rfl
        have elen := ho2
        refine zg9 ?_
        refine st_store rfl (.app (news := o.map ratL) rfl rfl rfl rfl rfl (Nat.zero_le _) (.inr rfl) (by decide) Tryz.underlying38 Tryz.underlying38 Z33a T33 rfl B33 (.inr (.inl rfl)) (by simp; omega) (by simp; omega) (by decide)) ?_
        refine zg5 ?_
        rw [hE]
        exact ret2own rfl rfl (pures_map ratE _) rfl (.pure rfl)
end Go.Proofs.YthhdcfhaldcheaaGreat
end
section
set_option linter.unusedVariables false
set_option linter.unusedSimpArgs false
set_option maxHeartbeats 8000000
set_option maxRecDepth 100000
attribute [local irreducible] Go.Lg.opsL Go.Lg.wpL Go.Lg.thenL Go.Lg.blockL
namespace Go.Proofs.YthhdcfhaldcheaaGreat
open Go.Lg
def upR (V : Nat) (c : List Rat) (v U : Nat) : List Rat := rsL (fun p => upP p v) V c (U + 1)
def upN (U V : Nat) (c : List Rat) (u v : Nat) : List Rat := swL v u (rsL (fun p => upP p u) U (swL U v (upR V c v U)) (v + 1))
theorem upR_len {U V v : Nat} {c : List Rat} (hc : c.length = (U + 1) * (V + 1)) (hV : V ≤ v) : (upR V c v U).length = (U + 1) * (v + 1) :=
  rsL_len (W := v) (U := U) (fun i hi => upP_len (by rw [rwL_len hc hi]; omega)) _ (Nat.le_refl _)
theorem upN_len (U V : Nat) (c : List Rat) (u v : Nat) : (upN U V c u v).length = (u + 1) * (v + 1) := swL_len v u _
theorem upP_mem {p : List Rat} {n : Nat} (hl : p.length ≤ n + 1) (h : upS p n) : ∀ x ∈ upP p n, rl x ≤ 1073741824 := h.2 _ (by omega)
theorem rs_one (V : Nat) (c : List Rat) : ∀ n, rsL (fun p => p) V c n = c.take (n * (V + 1))
  | 0 => by simp [rsL]
  | n + 1 => by
    rw [rsL, rs_one V c n, rwL, Nat.succ_mul]
    have h := List.take_append_drop (n * (V + 1)) (c.take (n * (V + 1) + (V + 1)))
    rw [List.take_take, Nat.min_eq_left (by omega)] at h
    exact h
theorem rs_map (f : Rat → Rat) (V : Nat) (c : List Rat) : ∀ n, rsL (fun p => p.map f) V c n = (c.take (n * (V + 1))).map f := fun n => by
  rw [← rs_one V c n]
  induction n with
  | zero => rfl
  | succ n ih => rw [rsL, rsL, ih, List.map_append]
theorem rs_sc {U V : Nat} {c : List Rat} (hc : c.length = (U + 1) * (V + 1)) (r : Rat) : rsL (scP r) V c (U + 1) = scP r c := by
  have := rs_map (r * ·) V c (U + 1)
  rw [List.take_of_length_le (by omega)] at this
  exact this
theorem rs_congr {g h : List Rat → List Rat} {V U : Nat} {c : List Rat} (e : ∀ i, i ≤ U → g (rwL V c i) = h (rwL V c i)) : ∀ {n}, n ≤ U + 1 → rsL g V c n = rsL h V c n
  | 0, _ => rfl
  | n + 1, hn => by rw [rsL, rsL, rs_congr e (by omega), e n (by omega)]
open H0 in
theorem c_DiffV (U V : Nat) (c : List Rat) (hc : c.length = (U + 1) * (V + 1)) (hl : c.length ≤ 1048576) (hcR : ∀ x ∈ c, rl x ≤ 1073741824) (hV1 : V ≤ 900) : CallP Tryz.prog 52 [.agg [nI64 U, nI64 V, .list 3 (c.map ratL)]] (.agg [nI64 U, nI64 (V - 1), .list 3 ((dfV U V c).map ratL)]) := by
  have hU : U + 1 ≤ c.length := by rw [hc]; exact Nat.le_mul_of_pos_right _ (Nat.succ_pos V)
  have hV : V + 1 ≤ c.length := by rw [hc]; exact Nat.le_mul_of_pos_left _ (Nat.succ_pos U)
  have hnp := net_pureN U V c
  have hnp2 := net_pureN U (V - 1) (dfV U V c)
  refine fnP Tryz.func52 (ht := (fun g => LV.ren_pure g _ (net_pureN _ _ _))) ?_
  refine zg9 ?_
  refine cp am2 (c_rows U V c hc hl 40 [] rfl (fun x hx => by cases hx) difP (V - 1) (fun i hi => c_Diff _ (by rw [rwL_len hc hi]; omega) (fun x hx => hcR x (rwL_mem hx))) (fun i hi => dif_W (rwL_len hc hi)) (by have := Nat.mul_le_mul_left (U + 1) (show V - 1 + 1 ≤ V + 1 by omega); omega)) ?_
  refine zg4 ?_
  exact retC [] rfl rfl rfl rfl rfl T27 (.pure (net_pureN _ _ _))
open H0 in
theorem c_TZero (u v : Int) (c : List Rat) (hl : c.length ≤ 1048576) (hpr : ∀ x ∈ c, rl x ≤ 1099511627776) : CallP Tryz.prog 54 [.agg [iL u, iL v, .list 3 (c.map ratL)]] (bL (!(c.any fun x => sgnR x != 0))) := by
  refine fnP Tryz.func54 ?_
  refine zg10 ?_
  refine cp am1 (c_BZero c hl hpr) ?_
  refine zg4 ?_
  exact ret1 rfl (by first | exact .pure rfl | exact .pure (limL_pure _) | exact .pure (magL_pure _) | exact .pure (ratE.pure _) | exact .pure (pure_lst u32E _ _) | exact .pure (pure_lst ratE _ _))
open H0 in
theorem c_TSc1 (p : List Rat) (r : Rat) (hl : p.length ≤ 1048576) (h : ∀ x ∈ p, rl r + rl x ≤ 34359738368) : CallP Tryz.prog 140 [.list 3 (p.map ratL), .boxp (ratL r)] (.list 3 ((scP r p).map ratL)) := by
  refine fnP Tryz.func140 ?_
  refine zg9 ?_
  refine cp am2 (c_BScale r p hl h) ?_
  refine zg4 ?_
  exact ret1 rfl (by first | exact .pure rfl | exact .pure (limL_pure _) | exact .pure (magL_pure _) | exact .pure (ratE.pure _) | exact .pure (pure_lst u32E _ _) | exact .pure (pure_lst ratE _ _))
open H0 in
theorem c_TScale (r : Rat) (U V : Nat) (c : List Rat) (hc : c.length = (U + 1) * (V + 1)) (hl : c.length ≤ 1048576) (h : ∀ x ∈ c, rl r + rl x ≤ 34359738368) : CallP Tryz.prog 79 [ratL r, .agg [nI64 U, nI64 V, .list 3 (c.map ratL)]] (.agg [nI64 U, nI64 V, .list 3 ((scP r c).map ratL)]) := by
  have hU : U + 1 ≤ c.length := by rw [hc]; exact Nat.le_mul_of_pos_right _ (Nat.succ_pos V)
  have hV : V + 1 ≤ c.length := by rw [hc]; exact Nat.le_mul_of_pos_left _ (Nat.succ_pos U)
  have hnp := net_pureN U V c
  have hbp : pures [LV.boxp (ratL r)] = true := by simp [pures, LV.pure, ratE.pure]
  have hR := c_rows U V c hc hl 140 [.boxp (ratL r)] hbp (fun x hx => by rw [List.mem_singleton.1 hx]; exact ⟨rfl, rfl⟩) (scP r) V (fun i hi => c_TSc1 _ r (by rw [rwL_len hc hi]; omega) (fun x hx => h x (rwL_mem hx))) (fun i hi => by rw [scP_len, rwL_len hc hi]) (by rw [← hc]; exact hl)
  rw [rs_sc hc] at hR
  refine fnP Tryz.func79 (ht := (fun g => LV.ren_pure g _ (net_pureN _ _ _))) ?_
  refine zg10 ?_
  refine st_opc [2] rfl rfl (.mk (caps := [.boxp (ratL r)]) (.cons (.eptr rfl rfl rfl (ratE.csize _) (ratL_all _) (ratE.pure _) rfl) .nil) (fun x hx => by rw [List.mem_singleton.1 hx]; exact ⟨rfl, rfl⟩)) rfl ?_
  refine st_callP rfl (.cons (.pure hnp) (.cons (.pure (show LV.pure (.clo 140 [.boxp (ratL r)]) = true by simpa [LV.pure] using hbp)) .nil)) hR ?_
  refine zg4 ?_
  exact retC [] rfl rfl rfl rfl rfl T27 (.pure (net_pureN _ _ _))
open H0 in
theorem c_up11 (p : List Rat) (d : Nat) (hp0 : 0 < p.length) (hd : d ≤ 40) (hpn : p.length ≤ d + 1) (hps : upS p d) : CallP Tryz.prog 173 [.list 3 (p.map ratL), .boxp (nI64 d)] (.list 3 ((upP p d).map ratL)) := by
  refine fnP Tryz.func173 ?_
  refine zg9 ?_
  refine cp am2 (c_Elev p d hp0 hd hpn hps) ?_
  refine zg14 ?_
  exact ret1 rfl (by first | exact .pure rfl | exact .pure (limL_pure _) | exact .pure (magL_pure _) | exact .pure (ratE.pure _) | exact .pure (pure_lst u32E _ _) | exact .pure (pure_lst ratE _ _))
open H0 in
theorem c_up1 (d : Nat) : CallP Tryz.prog 172 [nI64 d] (.clo 173 [.boxp (nI64 d)]) := by
  refine fnP Tryz.func172 (ht := (fun g => by simp [LV.ren, rens])) ?_
  refine zg8 ?_
  refine st_opc [1] rfl rfl (.mk (caps := [.boxp (nI64 d)]) (.cons (.eptr rfl rfl rfl rfl (at_self (nI64 d) rfl) rfl rfl) .nil) (fun x hx => by rw [List.mem_singleton.1 hx]; exact ⟨rfl, rfl⟩)) rfl ?_
  refine zg4 ?_
  exact ret1 rfl (.pure rfl)
namespace H_c_up7
theorem zSm {p q : Prop} (k : q) (e : p = q := by simp only [e1, e2, e3, e4, p1, p2, p3, q1, q2, q3, l1, t0, t1, r1, r2, r3, r4, Nat.zero_add, Nat.reduceMul, Nat.reduceAdd, b1, b2, b3, b4, b5, b6, i1, i2, i3, i4, i5, i6, Nat.reduceBEq, frz_nil, dfq, kills_map ratE, ratL_kill, spL_kill, LV.kill, kills]; exact rfl) : p := e.mpr k
end H_c_up7
open H_c_up7 in
theorem c_up7 (U V : Nat) (c : List Rat) (hc : c.length = (U + 1) * (V + 1)) (hl : c.length ≤ 1048576) (hcR : ∀ x ∈ c, rl x ≤ 274877906944) (u v : Nat) (hUu : U ≤ u) (hVv : V ≤ v) (hu : u ≤ 40) (hv : v ≤ 40) (h1 : ∀ i, i ≤ U → upS (rwL V c i) v) (h2 : ∀ j, j ≤ v → upS (rwL U (swL U v (upR V c v U)) j) u) : CallP Tryz.prog 138 [.agg [nI64 U, nI64 V, .list 3 (c.map ratL)], nI64 u, nI64 v] (.agg [nI64 u, nI64 v, .list 3 ((upN U V c u v).map ratL)]) := by
  have hU : U + 1 ≤ c.length := by rw [hc]; exact Nat.le_mul_of_pos_right _ (Nat.succ_pos V)
  have hV : V + 1 ≤ c.length := by rw [hc]; exact Nat.le_mul_of_pos_left _ (Nat.succ_pos U)
  have hnp := net_pureN U V c
  have hl1 := upR_len hc hVv
  have hl1s : (upR V c v U).length ≤ 1048576 := by rw [hl1]; exact Nat.le_trans (Nat.mul_le_mul (show U + 1 ≤ 41 by omega) (show v + 1 ≤ 41 by omega)) (by decide)
  have hn1 := net_pureN U v (upR V c v U)
  have hR1 := c_rows U V c hc hl 173 [.boxp (nI64 v)] rfl (fun x hx => by rw [List.mem_singleton.1 hx]; exact ⟨rfl, rfl⟩) (fun p => upP p v) v (fun i hi => c_up11 _ v (by rw [rwL_len hc hi]; omega) hv (by rw [rwL_len hc hi]; omega) (h1 i hi)) (fun i hi => upP_len (by rw [rwL_len hc hi]; omega)) (by rw [← hl1]; exact hl1s)
  have hm1 : ∀ x ∈ (upR V c v U), rl x ≤ 1073741824 := rs_mem (U := U) (fun i hi => upP_mem (by rw [rwL_len hc hi]; omega) (h1 i hi)) (Nat.le_refl _)
  have hsl := swL_len U v (upR V c v U)
  have hR2 := c_columns U v (upR V c v U) hl1 hl1s (fun x hx => Nat.le_trans (hm1 x hx) (by decide)) 173 [.boxp (nI64 u)] rfl (fun x hx => by rw [List.mem_singleton.1 hx]; exact ⟨rfl, rfl⟩) (fun p => upP p u) u (fun j hj => c_up11 _ u (by rw [rwL_len hsl hj]; omega) hu (by rw [rwL_len hsl hj]; omega) (h2 j hj)) (fun j hj => upP_len (by rw [rwL_len hsl hj]; omega)) (by exact Nat.le_trans (Nat.mul_le_mul (show v + 1 ≤ 41 by omega) (show u + 1 ≤ 41 by omega)) (by decide)) (rs_mem (U := v) (fun j hj x hx => Nat.le_trans (upP_mem (by rw [rwL_len hsl hj]; omega) (h2 j hj) x hx) (by decide)) (Nat.le_refl _))
  refine fnP Tryz.func138 (ht := (fun g => LV.ren_pure g _ (net_pureN _ _ _))) ?_
  refine zg12 ?_
  refine wl_regD 9 (by decide +kernel) ?_
  refine zg3 ?_
  refine st_opc [] rfl rfl (.clo (f := 172) (cap := []) (args := [nI64 v]) rfl (.cons im0 .nil) ⟨rfl, fun _ h => by cases h⟩ (c_up1 v).1 (by decide) (fun _ h => by cases h)) ((c_up1 v).2 _) ?_
  refine st_callP rfl (.cons (.pure hnp) (.cons (.pure rfl) .nil)) hR1 ?_
  refine zg2 ?_
  refine st_opc [] rfl rfl (.clo (f := 172) (cap := []) (args := [nI64 u]) rfl (.cons im0 .nil) ⟨rfl, fun _ h => by cases h⟩ (c_up1 u).1 (by decide) (fun _ h => by cases h)) ((c_up1 u).2 _) ?_
  refine st_callP rfl (.cons (.pure hn1) (.cons (.pure rfl) .nil)) hR2 ?_
  refine zg4 ?_
  exact retC [] rfl rfl rfl rfl rfl T27 (.pure (net_pureN _ _ _))
end Go.Proofs.YthhdcfhaldcheaaGreat
end
section
set_option linter.unusedVariables false
set_option linter.unusedSimpArgs false
set_option maxHeartbeats 8000000
set_option maxRecDepth 100000
attribute [local irreducible] Go.Lg.opsL Go.Lg.wpL Go.Lg.thenL Go.Lg.blockL
namespace Go.Proofs.YthhdcfhaldcheaaGreat
open Go.Lg
theorem mx_u {a b u : Nat} (h1 : a ≤ u) (h2 : b ≤ u) (h : a = u ∨ b = u) : (if ((b : Nat) : Int) > ((a : Nat) : Int) then ((b : Nat) : Int) else ((a : Nat) : Int)) = ((u : Nat) : Int) := by split <;> omega
theorem mnE (a : Int) : (if a < a then a else a) = a := by split <;> rfl
/-- what `up` asks of a net -/
structure upH (U V : Nat) (c : List Rat) (u v : Nat) : Prop where
  hc : c.length = (U + 1) * (V + 1)
  hl : c.length ≤ 1048576
  hR : ∀ x ∈ c, rl x ≤ 274877906944
  hU : U ≤ u
  hV : V ≤ v
  hu : u ≤ 40
  hv : v ≤ 40
  h1 : ∀ i, i ≤ U → upS (rwL V c i) v
  h2 : ∀ j, j ≤ v → upS (rwL U (swL U v (upR V c v U)) j) u
theorem upH.rl {U V u v : Nat} {c : List Rat} (h : upH U V c u v) : ∀ x ∈ upN U V c u v, Go.Lg.rl x ≤ 1073741824 :=
  sw_rl (by decide) fun x hx => rs_mem (U := v) (V := U) (c := swL U v (upR V c v U)) (n := v + 1) (fun j hj y hy => upP_mem (by rw [rwL_len (swL_len U v _) hj]; have := h.hU; omega) (h.h2 j hj) y hy) (Nat.le_refl _) x hx
theorem upH.g {U V u v : Nat} {c : List Rat} (h : upH U V c u v) (k : Nat) : Go.Lg.rl ((upN U V c u v).getD k 0) ≤ 1073741824 := getD_rl (by decide) h.rl k
theorem upH.n {U V u v : Nat} {c : List Rat} (h : upH U V c u v) : (u + 1) * (v + 1) ≤ 1681 :=
  Nat.le_trans (Nat.mul_le_mul (show u + 1 ≤ 41 by have := h.hu; omega) (show v + 1 ≤ 41 by have := h.hv; omega)) (by decide)
namespace H_c_both7
theorem zSm {p q : Prop} (k : q) (e : p = q := by simp only [e1, e2, e3, e4, p1, p2, p3, q1, q2, q3, l1, t0, t1, r1, r2, r3, r4, Nat.zero_add, Nat.reduceMul, Nat.reduceAdd, b1, b2, b3, b4, b5, b6, i1, i2, i3, i4, i5, i6, Nat.reduceBEq, frz_nil, dfq, hmu, hmv, mnE, eg, take_gL, elp, elq, take_map_len, map_snoc, len_snoc, List.length_cons, List.length_nil, List.nil_append, List.map_nil, List.take_nil, List.append_nil, kills_map ratE, ratL_kill, spL_kill, LV.kill, kills]; exact rfl) : p := e.mpr k
end H_c_both7
open H_c_both7 in
theorem c_both7 (f : Nat) (g : Rat → Rat → Rat) (U1 V1 U2 V2 : Nat) (a b : List Rat) (u v : Nat) (ha : upH U1 V1 a u v) (hb : upH U2 V2 b u v) (hu : U1 = u ∨ U2 = u) (hv : V1 = v ∨ V2 = v) (hf : ∀ i, CallP Tryz.prog f [ratL ((upN U1 V1 a u v).getD i 0), ratL ((upN U2 V2 b u v).getD i 0)] (ratL (g ((upN U1 V1 a u v).getD i 0) ((upN U2 V2 b u v).getD i 0)))) : CallP Tryz.prog 129 [.agg [nI64 U1, nI64 V1, .list 3 (a.map ratL)], .agg [nI64 U2, nI64 V2, .list 3 (b.map ratL)], .clo f []] (.agg [nI64 u, nI64 v, .list 3 ((zipG g (upN U1 V1 a u v) (upN U2 V2 b u v)).map ratL)]) := by
  have hmu := mx_u ha.hU hb.hU hu
  have hmv := mx_u ha.hV hb.hV hv
  have elp : (upN U1 V1 a u v).length = (u + 1) * (v + 1) := upN_len _ _ _ _ _
  have elq : (upN U2 V2 b u v).length = (u + 1) * (v + 1) := upN_len _ _ _ _ _
  have hn := ha.n
  have hn1 := net_pureN U1 V1 a
  have hn2 := net_pureN U2 V2 b
  have hn3 := net_pureN u v (upN U1 V1 a u v)
  have hn4 := net_pureN u v (upN U2 V2 b u v)
  refine fnP Tryz.func129 (ht := (fun g => LV.ren_pure g _ (net_pureN _ _ _))) ?_
  have eg : True := trivial
  have elp : True := trivial
  have elq : True := trivial
  refine zg8 ?_
  refine wl_regD 12 (by decide +kernel) ?_
  refine zg15 ?_
  refine wl_regD 8 (by decide +kernel) ?_
  refine zg3 ?_
  refine cp am3 (c_up7 U1 V1 a ha.hc ha.hl ha.hR u v ha.hU ha.hV ha.hu ha.hv ha.h1 ha.h2) ?_
  refine zg3 ?_
  refine cp am3 (c_up7 U2 V2 b hb.hc hb.hl hb.hR u v hb.hU hb.hV hb.hu hb.hv hb.h1 hb.h2) ?_
  refine zg27 ?_
  refine wl_weak ((Weak.cell 9 rfl (fun Z μ w cs h => rep_net 57 3 _ _ Z μ w cs h)).trans (Weak.newB _ 57 3 rfl)) ?_
  refine lp1 (fun (i : Nat) L => ((((((((St.mk L.slot (hp [(3, ⟨3, [.agg [nI64 u, nI64 v, .list 3 ((upN U1 V1 a u v).map ratL)]], true⟩), (4, ⟨3, [.agg [nI64 u, nI64 v, .list 3 ((upN U2 V2 b u v).map ratL)]], true⟩), (6, ⟨3, [.agg [.v (.int .i64 0), .v (.int .i64 0), .v (.slice none 0 0)]], true⟩), (9, ⟨3, [.agg [nI64 u, nI64 v, .ref 57 3 0 i]], true⟩), (57, ⟨3, (gL i (fun k => g ((upN U1 V1 a u v).getD k 0) ((upN U2 V2 b u v).getD k 0))).map ratL, true⟩)])).put (some 2) (.clo f [])).put (some 3) (.eptr 3 3 0 0)).put (some 4) (.eptr 4 3 0 0)).put (some 6) (.eptr 6 3 0 0)).put (some 9) (.eptr 9 3 0 0)).put (some 38) (nI64 ((u + 1) * (v + 1)))).put (some 39) (nI64 i))) (fun i => i ≤ (u + 1) * (v + 1)) (fun i => (u + 1) * (v + 1) - i) 0 (Nat.zero_le _) ?_
  rintro i L1 hi
  refine zg6 ?_
  refine wl_if rfl (fun h40r h40 => ?_) (fun h40r h40 => ?_)
  · have hi2 : i < (u + 1) * (v + 1) := by omega
    have hfi := hf i
    have hgl := gL_len i (fun k => g ((upN U1 V1 a u v).getD k 0) ((upN U2 V2 b u v).getD k 0))
    have eg : gL (i + 1) (fun k => g ((upN U1 V1 a u v).getD k 0) ((upN U2 V2 b u v).getD k 0)) = gL i (fun k => g ((upN U1 V1 a u v).getD k 0) ((upN U2 V2 b u v).getD k 0)) ++ [g ((upN U1 V1 a u v).getD i 0) ((upN U2 V2 b u v).getD i 0)] := gL_succ _ _
    refine zg10 ?_
    refine wl_regD 15 (by decide +kernel) ?_
    refine zg13 ?_
    refine st_opc [] rfl rfl (.clo (f := f) (cap := []) (args := [ratL ((upN U1 V1 a u v).getD i 0), ratL ((upN U2 V2 b u v).getD i 0)]) rfl (.cons im0 (.cons im0 .nil)) ⟨rfl, fun _ h => by cases h⟩ hfi.1 (by decide) (fun _ h => by cases h)) (hfi.2 _) ?_
    refine zg1 ?_
    refine st_store rfl (.app (news := [ratL (g ((upN U1 V1 a u v).getD i 0) ((upN U2 V2 b u v).getD i 0))]) rfl rfl rfl rfl rfl (by simp [gL_len]) (.inl rfl) (by decide) Tryz.underlying25 Tryz.underlying25 Z33a T33 rfl B33 (.inl ⟨56, 0, _, rfl, by decide, rfl, rfl, by simp, rfl, by simp [pures, ratE.pure]⟩) (by simp; omega) (by simp; omega) (by decide)) ?_
    refine zg5 ?_
    refine wl_regW (Weak.kill _ 56) ?_
    refine st_pure rfl (.bin rfl rfl (add1N (by omega))) ?_
    refine zg3 ?_
    exact nx1 (i + 1) (by omega)
  · obtain rfl : i = (u + 1) * (v + 1) := by omega
    have hE : gL ((u + 1) * (v + 1)) (fun k => g ((upN U1 V1 a u v).getD k 0) ((upN U2 V2 b u v).getD k 0)) = (zipG g (upN U1 V1 a u v) (upN U2 V2 b u v)) := by rw [zipG, upN_len]; rfl
    refine zg12 ?_
    rw [← hE]
    exact retC [57] rfl rfl rfl rfl rfl T27 (.agg (.cons (.pure rfl) (.cons (.pure rfl) (.cons (imm_refm ratE rfl rfl (by rw [gL_len])) .nil))))
open H0 in
theorem c_TAdd (U1 V1 U2 V2 : Nat) (a b : List Rat) (u v : Nat) (ha : upH U1 V1 a u v) (hb : upH U2 V2 b u v) (hu : U1 = u ∨ U2 = u) (hv : V1 = v ∨ V2 = v) : CallP Tryz.prog 74 [.agg [nI64 U1, nI64 V1, .list 3 (a.map ratL)], .agg [nI64 U2, nI64 V2, .list 3 (b.map ratL)]] (.agg [nI64 u, nI64 v, .list 3 ((zipG (· + ·) (upN U1 V1 a u v) (upN U2 V2 b u v)).map ratL)]) := by
  have hn1 := net_pureN U1 V1 a
  have hn2 := net_pureN U2 V2 b
  refine fnP Tryz.func74 (ht := (fun g => LV.ren_pure g _ (net_pureN _ _ _))) ?_
  refine zg11 ?_
  refine cp am3 (c_both7 108 (· + ·) U1 V1 U2 V2 a b u v ha hb hu hv (fun i => c_RAdd _ _ (by have := ha.g i; have := hb.g i; omega))) ?_
  refine zg4 ?_
  exact retC [] rfl rfl rfl rfl rfl T27 (.pure (net_pureN _ _ _))
open H0 in
theorem c_TSub (U1 V1 U2 V2 : Nat) (a b : List Rat) (u v : Nat) (ha : upH U1 V1 a u v) (hb : upH U2 V2 b u v) (hu : U1 = u ∨ U2 = u) (hv : V1 = v ∨ V2 = v) : CallP Tryz.prog 55 [.agg [nI64 U1, nI64 V1, .list 3 (a.map ratL)], .agg [nI64 U2, nI64 V2, .list 3 (b.map ratL)]] (.agg [nI64 u, nI64 v, .list 3 ((zipG (· - ·) (upN U1 V1 a u v) (upN U2 V2 b u v)).map ratL)]) := by
  have hn1 := net_pureN U1 V1 a
  have hn2 := net_pureN U2 V2 b
  refine fnP Tryz.func55 (ht := (fun g => LV.ren_pure g _ (net_pureN _ _ _))) ?_
  refine zg11 ?_
  refine cp am3 (c_both7 114 (· - ·) U1 V1 U2 V2 a b u v ha hb hu hv (fun i => c_RSub _ _ (by have := ha.g i; have := hb.g i; omega))) ?_
  refine zg4 ?_
  exact retC [] rfl rfl rfl rfl rfl T27 (.pure (net_pureN _ _ _))
open H0 in
theorem c_TElev (U V : Nat) (c : List Rat) (u v : Nat) (h : upH U V c u v) : CallP Tryz.prog 71 [.agg [nI64 U, nI64 V, .list 3 (c.map ratL)], nI64 u, nI64 v] (.tup [.agg [nI64 u, nI64 v, .list 3 ((upN U V c u v).map ratL)], iL 0]) := by
  obtain ⟨hc, hl, hR, hU, hV, hu, hv, h1, h2⟩ := h
  have hnp := net_pureN U V c
  refine fnP Tryz.func71 (ht := (tame2 (net_pureN _ _ _) rfl)) ?_
  refine zg15 ?_
  refine op_if 12 rfl (fun h12r h12 => ?_) (fun h12r h12 => ?_)
  · exfalso
    omega
  · refine zg6 ?_
    refine op_if 18 rfl (fun h18r h18 => ?_) (fun h18r h18 => ?_)
    · exfalso
      omega
    · refine zg4 ?_
      refine op_if 22 rfl (fun h22r h22 => ?_) (fun h22r h22 => ?_)
      · exfalso
        omega
      · refine zg5 ?_
        refine wl_if rfl (fun h25r h25 => ?_) (fun h25r h25 => ?_)
        · exfalso
          omega
        · refine zg7 ?_
          refine cp am3 (c_up7 U V c hc hl hR u v hU hV hu hv h1 h2) ?_
          refine zg5 ?_
          exact retCT [] rfl rfl rfl rfl rfl T27 (.pure (net_pureN _ _ _)) rfl (.pure rfl)
open H0 in
theorem c_TElevErr (U V : Nat) (c : List Rat) (u v : Int) (hU : U ≤ 40) (hV : V ≤ 40) (h : u < U ∨ v < V ∨ 40 < u ∨ 40 < v) : CallP Tryz.prog 71 [.agg [nI64 U, nI64 V, .list 3 (c.map ratL)], iL u, iL v] (.tup [.agg [nI64 0, nI64 0, .list 3 (([] : List Rat).map ratL)], iL 7]) := by
  refine fnP Tryz.func71 (ht := (tame2 (net_pureN _ _ _) rfl)) ?_
  refine zg15 ?_
  refine op_if 12 rfl (fun h12r h12 => ?_) (fun h12r h12 => ?_)
  · refine zg25 ?_
    exact retCT [] rfl rfl rfl rfl rfl T27 (.agg (.cons (.pure rfl) (.cons (.pure rfl) (.cons (.nil 3) .nil)))) rfl (.pure rfl)
  · refine zg6 ?_
    refine op_if 18 rfl (fun h18r h18 => ?_) (fun h18r h18 => ?_)
    · refine zg19 ?_
      exact retCT [] rfl rfl rfl rfl rfl T27 (.agg (.cons (.pure rfl) (.cons (.pure rfl) (.cons (.nil 3) .nil)))) rfl (.pure rfl)
    · refine zg4 ?_
      refine op_if 22 rfl (fun h22r h22 => ?_) (fun h22r h22 => ?_)
      · refine zg15 ?_
        exact retCT [] rfl rfl rfl rfl rfl T27 (.agg (.cons (.pure rfl) (.cons (.pure rfl) (.cons (.nil 3) .nil)))) rfl (.pure rfl)
      · refine zg5 ?_
        refine wl_if rfl (fun h25r h25 => ?_) (fun h25r h25 => ?_)
        · refine zg9 ?_
          exact retCT [] rfl rfl rfl rfl rfl T27 (.agg (.cons (.pure rfl) (.cons (.pure rfl) (.cons (.nil 3) .nil)))) rfl (.pure rfl)
        · exfalso
          omega
end Go.Proofs.YthhdcfhaldcheaaGreat
end
