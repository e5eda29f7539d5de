/- The reference magnitudes: products, division by a limb, bits. -/
import Derived.Test.YthhdcfhaldcheaaGreatR1
set_option linter.unusedVariables false
set_option linter.unusedSimpArgs false
set_option maxHeartbeats 8000000
set_option maxRecDepth 100000
attribute [local irreducible] Go.Lg.opsL Go.Lg.wpL Go.Lg.thenL Go.Lg.blockL
namespace Go.Proofs.YthhdcfhaldcheaaGreat
open Go.Lg
theorem blen_half {x : Nat} (h : 0 < x) : blen x = blen (x / 2 ^ 1) + 1 := by
  have := blen_div (n := x) (k := 1)
  rcases Nat.lt_or_ge x 2 with h1 | h1
  · obtain rfl : x = 1 := by omega
    rfl
  · rw [this (by omega)]; omega
namespace H_c_FMul
theorem zSm {p q : Prop} (k : q) (e : p = q := by simp only [e1, e2, e3, e4, p1, p2, p3, q1, q2, q3, l1, t0, t1, r1, r2, r3, r4, Nat.zero_add, Nat.reduceMul, Nat.reduceAdd, b1, b2, b3, b4, b5, b6, i1, i2, i3, i4, i5, i6, Nat.reduceBEq, dflt, eij]; exact rfl) : p := e.mpr k
end H_c_FMul
open H_c_FMul in
theorem c_FMul (m n : Nat) (hla : (dig m).length ≤ 1099511627776) (hlb : (dig n).length ≤ 1099511627776) : CallP Tryz.prog 127 [magL m, magL n] (magL (m * n)) := by
  refine fnP Tryz.func127 ?_
  have eij : True := trivial
  refine zg12 ?_
  refine st_alloc rfl rfl (.mkE (n := (dig m).length + (dig n).length) (m := (dig m).length + (dig n).length) ml ml om om om) ?_
  refine zg10 ?_
  refine lp2 (fun (i : Nat) (o : List Nat) L => (((((St.mk L.slot (hp [(14, ⟨1, o.map u32L, true⟩)])).put (some 0) (magL m)).put (some 1) (magL n)).put (some 5) (.ref 14 1 0 ((dig m).length + (dig n).length))).put (some 6) (nI64 i))) (fun i o => i ≤ (dig m).length ∧ o.length = (dig m).length + (dig n).length ∧ Lim o ∧ val o = val ((dig m).take i) * val (dig n) ∧ ∀ p, i + (dig n).length ≤ p → o.getD p 0 = 0) (fun i o => (dig m).length - i) 0 (List.replicate ((dig m).length + (dig n).length) 0) ⟨Nat.zero_le _, by simp, lim_zeros _, by simp [val, val_zeros], fun p _ => getD_zeros _ _⟩ ?_
  rintro i o L1 ⟨hi, hol, hlo, hv, hz⟩
  have hxi := getD_dig_lt m i
  refine zg9 ?_
  refine wl_if rfl (fun h18r h18 => ?_) (fun h18r h18 => ?_)
  · refine zg16 ?_
    refine lp3 (fun (j : Nat) (o : List Nat) (c : Nat) L => (((((((St.mk L.slot (hp [(14, ⟨1, o.map u32L, true⟩)])).put (some 0) (magL m)).put (some 1) (magL n)).put (some 5) (.ref 14 1 0 ((dig m).length + (dig n).length))).put (some 6) (nI64 i)).put (some 7) (nU64 c)).put (some 8) (nI64 j))) (fun j o c => j ≤ (dig n).length ∧ o.length = (dig m).length + (dig n).length ∧ Lim o ∧ c < 4294967296 ∧ val o + 4294967296 ^ (i + j) * c = val ((dig m).take i) * val (dig n) + 4294967296 ^ i * ((dig m).getD i 0 * val ((dig n).take j)) ∧ ∀ p, i + (dig n).length ≤ p → o.getD p 0 = 0) (fun j o c => (dig n).length - j) 0 o 0 ⟨Nat.zero_le _, hol, hlo, by omega, by rw [hv]; simp [val], hz⟩ ?_
    rintro j o c L2 ⟨hj, hol, hlo, hc, hv, hz⟩
    have hyj := getD_dig_lt n j
    have hzj := getD_lim hlo (i + j)
    have hs := mul_s_lt hc hxi hyj hzj
    have eij : ((i : Int) + (j : Int)).toNat = i + j := by omega
    refine zg9 ?_
    refine wl_if rfl (fun h24r h24 => ?_) (fun h24r h24 => ?_)
    · refine zg5 ?_
      refine wl_regD 22 (by decide +kernel) ?_
      refine zg49 ?_
      exact nx3 (j + 1) (o.set (i + j) ((c + ((dig m).getD i 0 * (dig n).getD j 0 + o.getD (i + j) 0)) % 4294967296)) ((c + ((dig m).getD i 0 * (dig n).getD j 0 + o.getD (i + j) 0)) / 4294967296) ⟨by omega, by simp [hol], lim_set hlo _ _ (Nat.mod_lt _ (by omega)), by omega, mul_inv (by omega) hv rfl, zeros_set (by omega) hz⟩
    · obtain rfl : j = (dig n).length := by omega
      have eij2 : ((i : Int) + ((dig n).length : Int)).toNat = i + (dig n).length := by omega
      refine zg24 ?_
      exact nx2 (i + 1) (o.set (i + (dig n).length) (c % 4294967296)) ⟨by omega, by simp [hol], lim_set hlo _ _ (Nat.mod_lt _ (by omega)), by rw [Nat.mod_eq_of_lt hc]; exact mul_row (by omega) (by omega) (hz _ (Nat.le_refl _)) rfl rfl hv, zeros_end hz⟩
  · obtain rfl : i = (dig m).length := by omega
    refine zg8 ?_
    refine cpf [14] fm1 (c_FTrim _ (by first | assumption | exact lim_dig _) (by first | omega | (simp; done) | (simp; omega))) ?_
    refine zg4 ?_
    rw [List.take_length, val_dig, val_dig] at hv
    rw [← hv]
    exact ret1 rfl (by first | exact .pure rfl | exact .pure (limL_pure _) | exact .pure (magL_pure _) | exact .pure (ratE.pure _) | exact .pure (pure_lst u32E _ _) | exact .pure (pure_lst ratE _ _))
open H0 in
theorem c_Ftimes (m d : Nat) (hla : (dig m).length ≤ 549755813888) (hd : d < 4294967296) : CallP Tryz.prog 194 [magL m, nU32 d] (magL (m * d)) := by
  have hld : (dig d).length ≤ 1 := dig_len_le1.2 hd
  refine fnP Tryz.func194 ?_
  refine zg10 ?_
  refine cp am1 (c_FOf _ (by omega)) ?_
  refine cp am2 (c_FMul _ _ (by omega) (by omega)) ?_
  refine zg4 ?_
  exact ret1 rfl (by first | exact .pure rfl | exact .pure (limL_pure _) | exact .pure (magL_pure _) | exact .pure (ratE.pure _) | exact .pure (pure_lst u32E _ _) | exact .pure (pure_lst ratE _ _))
namespace H_c_FbyLimb
theorem zSm {p q : Prop} (k : q) (e : p = q := by simp only [e1, e2, e3, e4, p1, p2, p3, q1, q2, q3, l1, t0, t1, r1, r2, r3, r4, Nat.zero_add, Nat.reduceMul, Nat.reduceAdd, b1, b2, b3, b4, b5, b6, i1, i2, i3, i4, i5, i6, Nat.reduceBEq, dflt, ej, ek]; exact rfl) : p := e.mpr k
end H_c_FbyLimb
open H_c_FbyLimb in
theorem c_FbyLimb (m d : Nat) (hla : (dig m).length ≤ 1099511627776) (hd0 : 0 < d) (hd : d < 4294967296) : CallP Tryz.prog 176 [magL m, nU32 d] (.tup [magL (m / d), nU32 (m % d)]) := by
  refine fnP Tryz.func176 ?_
  have ej : True := trivial
  have ek : True := trivial
  refine zg10 ?_
  refine st_alloc rfl rfl (.mkE (n := (dig m).length) (m := (dig m).length) ml ml om om om) ?_
  refine zg18 ?_
  refine lp3 (fun (k : Nat) (q : List Nat) (r : Nat) L => ((((((St.mk L.slot (hp [(11, ⟨1, q.map u32L, true⟩)])).put (some 0) (magL m)).put (some 1) (nU32 d)).put (some 6) (.ref 11 1 0 (dig m).length)).put (some 7) (nU64 r)).put (some 8) (iL ((k : Int) - 1)))) (fun k q r => k ≤ (dig m).length ∧ q.length = (dig m).length ∧ Lim q ∧ r < d ∧ val (q.drop k) * d + r = val ((dig m).drop k)) (fun k q r => k) ((dig m).length) (List.replicate (dig m).length 0) 0 ⟨Nat.le_refl _, by simp, lim_zeros _, hd0, by simp [val]⟩ ?_
  rintro k q r L1 ⟨hk, hql, hlq, hr, hv⟩
  refine zg7 ?_
  refine wl_if rfl (fun h16r h16 => ?_) (fun h16r h16 => ?_)
  · obtain ⟨j, rfl⟩ : ∃ j, k = j + 1 := ⟨k - 1, by omega⟩
    have ej : (((j + 1 : Nat) : Int) - 1).toNat = j := by omega
    have ek : (((j + 1 : Nat) : Int) - 1) = j := by omega
    have hxj := getD_dig_lt m j
    refine zg24 ?_
    refine st_pure rfl (.bin rfl rfl (quoU (by omega) (by omega))) ?_
    refine zg20 ?_
    exact nx3 j (q.set j ((r * 4294967296 + (dig m).getD j 0) / d % 4294967296)) ((r * 4294967296 + (dig m).getD j 0) % d) ⟨by omega, by simp [hql], lim_set hlq _ _ (Nat.mod_lt _ (by omega)), Nat.mod_lt _ hd0, by rw [Nat.mod_eq_of_lt (small_lt hr hxj)]; exact small_inv (by omega) hql hv rfl⟩
  · obtain rfl : k = 0 := by omega
    refine zg8 ?_
    refine cpf [11] fm1 (c_FTrim _ (by first | assumption | exact lim_dig _) (by first | omega | (simp; done) | (simp; omega))) ?_
    refine zg7 ?_
    obtain ⟨E1, E2⟩ := small_end hd0 hr hlq hv
    rw [trimL_dig hlq] at E1
    have E3 := congrArg val E1
    rw [val_dig, val_dig, val_dig] at E3
    rw [val_dig] at E2
    rw [← E3, ← E2]
    have E4 : r % 4294967296 = r := Nat.mod_eq_of_lt (by omega)
    refine ret2 rfl (.pure (magL_pure _)) rfl ?_
    show Imm _ (nU32 (r % 4294967296)) (nU32 r)
    rw [E4]
    exact .pure rfl
namespace H_c_FBits
theorem zSm {p q : Prop} (k : q) (e : p = q := by simp only [e1, e2, e3, e4, p1, p2, p3, q1, q2, q3, l1, t0, t1, r1, r2, r3, r4, Nat.zero_add, Nat.reduceMul, Nat.reduceAdd, b1, b2, b3, b4, b5, b6, i1, i2, i3, i4, i5, i6, Nat.reduceBEq, dflt, ej]; exact rfl) : p := e.mpr k
end H_c_FBits
open H_c_FBits in
theorem c_FBits (m : Nat) (hla : (dig m).length ≤ 1099511627776) : CallP Tryz.prog 191 [magL m] (iL (blen m)) := by
  refine fnP Tryz.func191 ?_
  have ej : True := trivial
  refine zg13 ?_
  refine wl_if rfl (fun h7r h7 => ?_) (fun h7r h7 => ?_)
  · have hz : m = 0 := dig_eq_nil.1 (List.eq_nil_of_length_eq_zero (by omega))
    subst hz
    refine zg7 ?_
    exact ret1 rfl (by first | exact .pure rfl | exact .pure (limL_pure _) | exact .pure (magL_pure _) | exact .pure (ratE.pure _) | exact .pure (pure_lst u32E _ _) | exact .pure (pure_lst ratE _ _))
  · have hpos : 0 < (dig m).length := by omega
    have ej : (((dig m).length : Int) - 1).toNat = (dig m).length - 1 := by omega
    have hz := blen_dig hpos
    have hlim := getD_dig_lt m ((dig m).length - 1)
    have hb32 : blen ((dig m).getD ((dig m).length - 1) 0) ≤ 32 := blen_le.2 hlim
    refine zg24 ?_
    refine lp2 (fun (x q : Nat) L => (((St.mk L.slot (hp [])).put (some 3) (nI64 q)).put (some 4) (nU32 x))) (fun x q => q + blen x = blen m ∧ x < 4294967296 ∧ blen m ≤ 35184372088832) (fun x q => x) ((dig m).getD ((dig m).length - 1) 0) (32 * ((dig m).length - 1)) ⟨hz, hlim, by omega⟩ ?_
    rintro x q L1 ⟨hq, hx, hbm⟩
    refine zg7 ?_
    refine wl_if rfl (fun h19r h19 => ?_) (fun h19r h19 => ?_)
    · have hx0 : 0 < x := by omega
      refine zg13 ?_
      refine st_pure rfl (.sh rfl rfl (shrC (m := 1) (by decide))) ?_
      refine zg3 ?_
      exact nx2 (x / 2 ^ 1) (q + 1) ⟨by have := blen_half hx0; omega, by omega, hbm⟩
    · obtain rfl : x = 0 := by omega
      have hb0 : blen 0 = 0 := rfl
      obtain rfl : q = blen m := by omega
      refine zg12 ?_
      exact ret1 rfl (by first | exact .pure rfl | exact .pure (limL_pure _) | exact .pure (magL_pure _) | exact .pure (ratE.pure _) | exact .pure (pure_lst u32E _ _) | exact .pure (pure_lst ratE _ _))

end Go.Proofs.YthhdcfhaldcheaaGreat
