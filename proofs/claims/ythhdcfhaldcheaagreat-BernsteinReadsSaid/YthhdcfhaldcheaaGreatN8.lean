/- Rational numbers: parts, short numbers, greatest common divisors. -/
import Derived.Test.YthhdcfhaldcheaaGreatN7
set_option linter.unusedVariables false
set_option linter.unusedSimpArgs false
set_option maxHeartbeats 8000000
set_option maxRecDepth 100000
attribute [local irreducible] Go.Lg.opsL Go.Lg.wpL Go.Lg.thenL Go.Lg.blockL
namespace Go.Proofs.YthhdcfhaldcheaaGreat
open Go.Lg
namespace H_c_NGcd
theorem zSm {p q : Prop} (k : q) (e : p = q := by simp only [e1, e2, e3, e4, p1, p2, p3, q1, q2, q3, l1, t0, t1, r1, r2, r3, r4, Nat.zero_add, Nat.reduceMul, Nat.reduceAdd, b1, b2, b3, b4, b5, b6, i1, i2, i3, i4, i5, i6, Nat.reduceBEq, dflt, val_dig]; exact rfl) : p := e.mpr k
end H_c_NGcd
open H_c_NGcd in
theorem c_NGcd (a b : List Nat) (ha : Lim a) (hb : Lim b) (hla : a.length ≤ 1099511627776) (hlb : b.length ≤ 1099511627776) : CallP Tryz.prog 175 [limL a, limL b] (magL (Nat.gcd (val a) (val b))) := by
  have hla2 := c_trimC a ha hla
  have hlb2 := c_trimC b hb hlb
  refine fnP Tryz.func175 ?_
  refine zg8 ?_
  refine cp am1 (c_trimD _ (by first | assumption | exact lim_dig _) (by first | omega | (simp; done) | (simp; omega))) ?_
  refine cp am1 (c_Clone _ (by omega)) ?_
  refine zg1 ?_
  refine cp am1 (c_trimD _ (by first | assumption | exact lim_dig _) (by first | omega | (simp; done) | (simp; omega))) ?_
  refine cp am1 (c_Clone _ (by omega)) ?_
  refine zg6 ?_
  refine lp2 (fun (x y : Nat) L => (((St.mk L.slot (hp [])).put (some 5) (magL x)).put (some 6) (magL y))) (fun x y => Nat.gcd x y = Nat.gcd (val a) (val b) ∧ (dig x).length ≤ 1099511627776 ∧ (dig y).length ≤ 1099511627776) (fun x y => y) (val a) (val b) ⟨rfl, hla2, hlb2⟩ ?_
  rintro x y L1 ⟨hg, hx, hy⟩
  refine zg8 ?_
  refine wl_if rfl (fun h23r h23 => ?_) (fun h23r h23 => ?_)
  · have hy0 : 0 < y := Nat.pos_of_ne_zero (fun h => by rw [h, dig_zero] at h23; simp at h23)
    refine zg7 ?_
    refine cp am2 (c_NDiv _ _ (lim_dig _) (lim_dig _) (by omega) (by omega) (by rw [val_dig]; exact hy0)) ?_
    refine zg17 ?_
    exact nx2 y (x % y) ⟨by rw [Nat.gcd_comm, ← Nat.gcd_rec, Nat.gcd_comm]; exact hg, hy, Nat.le_trans (len_dig_mono (Nat.le_of_lt (Nat.mod_lt x hy0))) hy⟩ (hm := Nat.mod_lt _ hy0)
  · refine zg13 ?_
    refine wl_if rfl (fun h35r h35 => ?_) (fun h35r h35 => ?_)
    · have hy0 : y = 0 := dig_eq_nil.1 (List.eq_nil_of_length_eq_zero (by omega))
      refine zg8 ?_
      subst hy0
      rw [← hg, Nat.gcd_zero_right]
      exact ret1 rfl (by first | exact .pure rfl | exact .pure (limL_pure _) | exact .pure (magL_pure _) | exact .pure (ratE.pure _) | exact .pure (pure_lst u32E _ _) | exact .pure (pure_lst ratE _ _))
    · have hy0 : 0 < y := Nat.pos_of_ne_zero (fun h => by rw [h, dig_zero] at h35; simp at h35)
      refine zg10 ?_
      refine wl_cut (fun L => ∃ (x2 : Nat) (y2 : Nat) (L1 : St), (Nat.gcd x2 y2 = Nat.gcd (val a) (val b) ∧ (dig x2).length ≤ 2 ∧ (dig y2).length ≤ 2) ∧ L = (((St.mk L1.slot (hp [])).put (some 5) (magL x2)).put (some 6) (magL y2))) ?_ ?_
      · refine wl_if rfl (fun h39r h39 => ?_) (fun h39r h39 => ?_)
        · refine zg4 ?_
          refine cp am2 (c_NDiv _ _ (lim_dig _) (lim_dig _) (by omega) (by omega) (by rw [val_dig]; exact hy0)) ?_
          refine zg16 ?_
          exact ⟨y, x % y, _, ⟨by rw [Nat.gcd_comm, ← Nat.gcd_rec, Nat.gcd_comm]; exact hg, by omega, Nat.le_trans (len_dig_mono (Nat.le_of_lt (Nat.mod_lt x hy0))) (by omega)⟩, ((put_id' (put_id' (mk_id' cl) cl) cl)).symm⟩
        · refine zg2 ?_
          exact ⟨x, y, _, ⟨hg, by omega, by omega⟩, ((put_id' (put_id' (mk_id' cl) cl) cl)).symm⟩
      · rintro _ ⟨x2, y2, LC39, ⟨hg2, hx2, hy2⟩, rfl⟩
        refine zg4 ?_
        refine cp am1 (c_word _ (lim_dig _) (by omega)) ?_
        refine zg1 ?_
        refine cp am1 (c_word _ (lim_dig _) (by omega)) ?_
        refine zg6 ?_
        refine lp2 (fun (m n : Nat) L => (((St.mk L.slot (hp [])).put (some 13) (nU64 m)).put (some 14) (nU64 n))) (fun m n => Nat.gcd m n = Nat.gcd (val a) (val b) ∧ m < 18446744073709551616 ∧ n < 18446744073709551616) (fun m n => n) x2 y2 ⟨hg2, dig_len_le2.1 hx2, dig_len_le2.1 hy2⟩ ?_
        rintro m n L2 ⟨hg3, hm, hn⟩
        refine zg7 ?_
        refine wl_if rfl (fun h54r h54 => ?_) (fun h54r h54 => ?_)
        · refine zg3 ?_
          refine wl_regD 6 (by decide +kernel) ?_
          refine zg9 ?_
          exact nx2 n (m % n) ⟨by rw [Nat.gcd_comm, ← Nat.gcd_rec, Nat.gcd_comm]; exact hg3, hn, by have := Nat.mod_lt m (show n > 0 by omega); omega⟩ (hm := Nat.mod_lt _ (by omega))
        · obtain rfl : n = 0 := by omega
          refine zg8 ?_
          refine cp am1 (c_NOf _ (by omega)) ?_
          refine zg4 ?_
          rw [← hg3, Nat.gcd_zero_right]
          exact ret1 rfl (by first | exact .pure rfl | exact .pure (limL_pure _) | exact .pure (magL_pure _) | exact .pure (ratE.pure _) | exact .pure (pure_lst u32E _ _) | exact .pure (pure_lst ratE _ _))
open H0 in
theorem c_one  : CallP Tryz.prog 161 [] (magL 1) := by
  refine fnP Tryz.func161 ?_
  refine zg12 ?_
  rw [show magL 1 = .list 1 ([1].map u32L) from rfl]
  exact ret1f [1] rfl rfl (imm_refm u32E rfl rfl rfl)
namespace H_c_den
theorem zSm {p q : Prop} (k : q) (e : p = q := by simp only [e1, e2, e3, e4, p1, p2, p3, q1, q2, q3, l1, t0, t1, r1, r2, r3, r4, Nat.zero_add, Nat.reduceMul, Nat.reduceAdd, b1, b2, b3, b4, b5, b6, i1, i2, i3, i4, i5, i6, Nat.reduceBEq, kills_map ratE, ratL_kill]; exact rfl) : p := e.mpr k
end H_c_den
open H_c_den in
theorem c_den (q : Rat) : CallP Tryz.prog 155 [ratL q] (magL q.den) := by
  refine fnP Tryz.func155 ?_
  refine zg15 ?_
  refine wl_if rfl (fun h6r h6 => ?_) (fun h6r h6 => ?_)
  · have hd1 := denN_zero (show (dig (denN q)).length = 0 by omega)
    refine zg2 ?_
    refine cp am0 (c_one) ?_
    refine zg5 ?_
    rw [hd1]
    exact ret1 rfl (by first | exact .pure rfl | exact .pure (limL_pure _) | exact .pure (magL_pure _) | exact .pure (ratE.pure _) | exact .pure (pure_lst u32E _ _) | exact .pure (pure_lst ratE _ _))
  · have hd1 := denN_pos (q := q) (by omega)
    refine zg10 ?_
    rw [← hd1]
    exact ret1 rfl (by first | exact .pure rfl | exact .pure (limL_pure _) | exact .pure (magL_pure _) | exact .pure (ratE.pure _) | exact .pure (pure_lst u32E _ _) | exact .pure (pure_lst ratE _ _))
namespace H_c_Rword
theorem zSm {p q : Prop} (k : q) (e : p = q := by simp only [e1, e2, e3, e4, p1, p2, p3, q1, q2, q3, l1, t0, t1, r1, r2, r3, r4, Nat.zero_add, Nat.reduceMul, Nat.reduceAdd, b1, b2, b3, b4, b5, b6, i1, i2, i3, i4, i5, i6, Nat.reduceBEq, dflt, ej]; exact rfl) : p := e.mpr k
end H_c_Rword
open H_c_Rword in
theorem c_Rword (a : List Nat) (h : Lim a) (hl : a.length ≤ 2) : CallP Tryz.prog 177 [limL a] (nU64 (val a)) := by
  unfold limL
  refine fnP Tryz.func177 ?_
  have ej : True := trivial
  refine zg20 ?_
  refine lp2 (fun (k n : Nat) L => ((((St.mk L.slot (hp [])).put (some 0) (.list 1 (a.map u32L))).put (some 3) (nU64 n)).put (some 4) (iL ((k : Int) - 1)))) (fun k n => k ≤ a.length ∧ n = val (a.drop k)) (fun k n => k) a.length 0 ⟨Nat.le_refl _, by simp [val]⟩ ?_
  rintro k n L1 ⟨hk, hn⟩
  refine zg7 ?_
  refine wl_if rfl (fun h9r h9 => ?_) (fun h9r h9 => ?_)
  · obtain ⟨j, rfl⟩ : ∃ j, k = j + 1 := ⟨k - 1, by omega⟩
    have ej : (((j + 1 : Nat) : Int) - 1).toNat = j := by omega
    have ek : (((j + 1 : Nat) : Int) - 1) = j := by omega
    have hj := getD_lim h j
    have hnB := val_drop_lt h (k := j + 1) (j := 1) (by omega)
    rw [← hn] at hnB
    refine zg23 ?_
    exact nx2 j (n * 4294967296 + a.getD j 0) ⟨by omega, by rw [val_drop (by omega), hn]; omega⟩
  · obtain rfl : k = 0 := by omega
    rw [List.drop_zero] at hn
    refine zg12 ?_
    rw [← hn]
    exact ret1 rfl (by first | exact .pure rfl | exact .pure (limL_pure _) | exact .pure (magL_pure _) | exact .pure (ratE.pure _) | exact .pure (pure_lst u32E _ _) | exact .pure (pure_lst ratE _ _))
open H0 in
theorem c_divisor (a b : Nat) (ha : a < 18446744073709551616) (hb : b < 18446744073709551616) : CallP Tryz.prog 178 [nU64 a, nU64 b] (nU64 (Nat.gcd a b)) := by
  refine fnP Tryz.func178 ?_
  refine zg7 ?_
  refine lp2 (fun (m n : Nat) L => (((St.mk L.slot (hp [])).put (some 0) (nU64 m)).put (some 1) (nU64 n))) (fun m n => Nat.gcd m n = Nat.gcd a b ∧ m < 18446744073709551616 ∧ n < 18446744073709551616) (fun m n => n) a b ⟨rfl, ha, hb⟩ ?_
  rintro m n L1 ⟨hg3, hm, hn⟩
  refine zg7 ?_
  refine wl_if rfl (fun h6r h6 => ?_) (fun h6r h6 => ?_)
  · refine zg3 ?_
    refine wl_regD 6 (by decide +kernel) ?_
    refine zg9 ?_
    exact nx2 n (m % n) ⟨by rw [Nat.gcd_comm, ← Nat.gcd_rec, Nat.gcd_comm]; exact hg3, hn, by have := Nat.mod_lt m (show n > 0 by omega); omega⟩ (hm := Nat.mod_lt _ (by omega))
  · obtain rfl : n = 0 := by omega
    refine zg12 ?_
    rw [← hg3, Nat.gcd_zero_right]
    exact ret1 rfl (by first | exact .pure rfl | exact .pure (limL_pure _) | exact .pure (magL_pure _) | exact .pure (ratE.pure _) | exact .pure (pure_lst u32E _ _) | exact .pure (pure_lst ratE _ _))
namespace H_c_limbs
theorem zSm {p q : Prop} (k : q) (e : p = q := by simp only [e1, e2, e3, e4, p1, p2, p3, q1, q2, q3, l1, t0, t1, r1, r2, r3, r4, Nat.zero_add, Nat.reduceMul, Nat.reduceAdd, b1, b2, b3, b4, b5, b6, i1, i2, i3, i4, i5, i6, Nat.reduceBEq, dflt, List.length_set, Nat.add_zero, eqm, eqz]; exact rfl) : p := e.mpr k
end H_c_limbs
open H_c_limbs in
theorem c_limbs (l : List Nat) (off len n : Nat) (hn : n < 18446744073709551616) (h1 : 1 ≤ len) (h2 : 4294967296 ≤ n → 2 ≤ len) (hl : off + len ≤ l.length) : CallOKM Tryz.prog 179 ⟨1, l.map u32L, true⟩ [.ref 0 1 off len, nU64 n] (nI64 (dlen n)) ⟨1, (putd l off n).map u32L, true⟩ := by
  refine fnM Tryz.func179 ?_
  have eqm : True := trivial
  have eqz : True := trivial
  refine zg22 ?_
  refine wl_if rfl (fun h11r h11 => ?_) (fun h11r h11 => ?_)
  · have hn1 : n < 4294967296 := by omega
    have eqz : n % 4294967296 = n := Nat.mod_eq_of_lt hn1
    refine zg7 ?_
    simp only [putd, dlen, if_pos hn1, eqz]
    exact retM1 rfl (.imm (.pure rfl)) rfl rfl (pures_map u32E _)
  · have hn1 : ¬ n < 4294967296 := by omega
    have eqm : n / 4294967296 % 4294967296 = n / 4294967296 := Nat.mod_eq_of_lt (by omega)
    refine zg18 ?_
    simp only [putd, dlen, if_neg hn1]
    exact retM1 rfl (.imm (.pure rfl)) rfl rfl (pures_map u32E _)
end Go.Proofs.YthhdcfhaldcheaaGreat
