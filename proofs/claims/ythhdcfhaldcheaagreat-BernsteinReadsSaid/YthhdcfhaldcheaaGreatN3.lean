/- Magnitudes: contracts of comparisons, differences, products. -/
import Derived.Test.YthhdcfhaldcheaaGreatN2
set_option linter.unusedVariables false
set_option linter.unusedSimpArgs false
set_option maxHeartbeats 8000000
set_option maxRecDepth 100000
attribute [local irreducible] Go.Lg.opsL Go.Lg.wpL Go.Lg.thenL Go.Lg.blockL
namespace Go.Proofs.YthhdcfhaldcheaaGreat
open Go.Lg
namespace H_c_NCmp
theorem zSm {p q : Prop} (k : q) (e : p = q := by simp only [e1, e2, e3, e4, p1, p2, p3, q1, q2, q3, l1, t0, t1, r1, r2, r3, r4, Nat.zero_add, Nat.reduceMul, Nat.reduceAdd, b1, b2, b3, b4, b5, b6, i1, i2, i3, i4, i5, i6, Nat.reduceBEq, dflt, ej, ek]; exact rfl) : p := e.mpr k
end H_c_NCmp
open H_c_NCmp in
theorem c_NCmp (a b : List Nat) (ha : Lim a) (hb : Lim b) (hla : a.length ≤ 1099511627776) (hlb : b.length ≤ 1099511627776) : CallP Tryz.prog 199 [limL a, limL b] (iL (cmpN (val a) (val b))) := by
  refine fnP Tryz.func199 ?_
  have ej : True := trivial
  have ek : True := trivial
  refine zg8 ?_
  refine cp am1 (c_trimD _ (by first | assumption | exact lim_dig _) (by omega)) ?_
  refine zg1 ?_
  refine cp am1 (c_trimD _ (by first | assumption | exact lim_dig _) (by omega)) ?_
  refine zg14 ?_
  refine wl_if rfl (fun h14r h14 => ?_) (fun h14r h14 => ?_)
  · have hla2 : (dig (val a)).length ≤ 1099511627776 := by rw [← trimL_dig ha]; unfold trimL; simp; omega
    refine zg10 ?_
    refine wl_if rfl (fun h19r h19 => ?_) (fun h19r h19 => ?_)
    · have hE := lt_of_len (m := val a) (n := val b) (by omega)
      refine zg8 ?_
      first | (rw [cmpN_lt hE]; exact ret1 rfl (.pure rfl)) | (rw [cmpN_gt hE]; exact ret1 rfl (.pure rfl)) | (rw [cmpN_eq hE]; exact ret1 rfl (.pure rfl))
    · have hE := lt_of_len (m := val b) (n := val a) (by omega)
      refine zg9 ?_
      first | (rw [cmpN_lt hE]; exact ret1 rfl (.pure rfl)) | (rw [cmpN_gt hE]; exact ret1 rfl (.pure rfl)) | (rw [cmpN_eq hE]; exact ret1 rfl (.pure rfl))
  · have hlen : (dig (val a)).length = (dig (val b)).length := by omega
    have hla2 : (dig (val a)).length ≤ 1099511627776 := by rw [← trimL_dig ha]; unfold trimL; simp; omega
    clear h14 h14r
    refine zg12 ?_
    refine lp1 (fun (k : Nat) L => ((((St.mk L.slot (hp [])).put (some 0) (magL (val a))).put (some 1) (magL (val b))).put (some 5) (iL ((k : Int) - 1)))) (fun k => k ≤ (dig (val a)).length ∧ (dig (val a)).drop k = (dig (val b)).drop k) (fun k => k) ((dig (val a)).length) ⟨Nat.le_refl _, by rw [List.drop_length, List.drop_of_length_le (by omega)]⟩ ?_
    rintro k L1 ⟨hk, hd⟩
    refine zg7 ?_
    refine wl_if rfl (fun h24r h24 => ?_) (fun h24r h24 => ?_)
    · obtain ⟨j, rfl⟩ : ∃ j, k = j + 1 := ⟨k - 1, by omega⟩
      have ej : (((j + 1 : Nat) : Int) - 1).toNat = j := by omega
      have ek : (((j + 1 : Nat) : Int) - 1) = j := by omega
      refine zg5 ?_
      refine wl_regD 9 (by decide +kernel) ?_
      refine zg11 ?_
      refine wl_if rfl (fun h35r h35 => ?_) (fun h35r h35 => ?_)
      · refine zg2 ?_
        refine wl_regD 9 (by decide +kernel) ?_
        refine zg11 ?_
        refine wl_if rfl (fun h44r h44 => ?_) (fun h44r h44 => ?_)
        · have hE := val_lt_of_limb (lim_dig (val a)) (k := j) (by omega) (by omega) hd (by omega)
          rw [val_dig, val_dig] at hE
          refine zg12 ?_
          first | (rw [cmpN_lt hE]; exact ret1 rfl (.pure rfl)) | (rw [cmpN_gt hE]; exact ret1 rfl (.pure rfl)) | (rw [cmpN_eq hE]; exact ret1 rfl (.pure rfl))
        · have hE := val_lt_of_limb (lim_dig (val b)) (k := j) (by omega) (by omega) hd.symm (by omega)
          rw [val_dig, val_dig] at hE
          refine zg13 ?_
          first | (rw [cmpN_lt hE]; exact ret1 rfl (.pure rfl)) | (rw [cmpN_gt hE]; exact ret1 rfl (.pure rfl)) | (rw [cmpN_eq hE]; exact ret1 rfl (.pure rfl))
      · refine zg9 ?_
        exact nx1 j ⟨by omega, drop_eq_of (by omega) (by omega) hd (by omega)⟩
    · obtain rfl : k = 0 := by omega
      have ej : True := trivial
      have ek : True := trivial
      rw [List.drop_zero, List.drop_zero] at hd
      have hE : val a = val b := by have := congrArg val hd; rwa [val_dig, val_dig] at this
      refine zg11 ?_
      first | (rw [cmpN_lt hE]; exact ret1 rfl (.pure rfl)) | (rw [cmpN_gt hE]; exact ret1 rfl (.pure rfl)) | (rw [cmpN_eq hE]; exact ret1 rfl (.pure rfl))
theorem sub_hi {x y : Nat} (h : x < y) (hy : y ≤ 4294967296) : (18446744073709551616 + x - y) % 4294967296 = 4294967296 + x - y ∧ (18446744073709551616 + x - y) / 9223372036854775808 = 1 := by omega
theorem len_trim_le {b : List Nat} (h : Lim b) : (dig (val b)).length ≤ b.length := by
  rw [← trimL_dig h]; unfold trimL; simp; exact Nat.min_le_right _ _
open H0 in
theorem c_NSubLt (a b : List Nat) (ha : Lim a) (hb : Lim b) (hla : a.length ≤ 1099511627776) (hlb : b.length ≤ 1099511627776) (hlt : val a < val b) : CallP Tryz.prog 185 [limL a, limL b] (.tup [limL [], iL 7]) := by
  refine fnP Tryz.func185 ?_
  refine zg11 ?_
  refine cp am2 (c_NCmp _ _ (by first | assumption | exact lim_dig _) (by first | assumption | exact lim_dig _) (by omega) (by omega)) ?_
  refine zg3 ?_
  refine wl_if rfl (fun h15r h15 => ?_) (fun h15r h15 => ?_)
  · refine zg8 ?_
    exact ret2 rfl (.nil 1) rfl (.pure rfl)
  · exfalso; rw [cmpN_lt hlt] at h15; omega
theorem sub_invW {k br : Nat} {a b o : List Nat} (hol : k < o.length) (hbr : br ≤ 1) (hx : a.getD k 0 < 4294967296) (hyb : b.getD k 0 < 4294967296) (hlo : Lim o) (hv : val (o.take k) + val (b.take k) = val (a.take k) + 4294967296 ^ k * br) {y d : Nat}
    (hy : y = br + b.getD k 0) (hd : d = (18446744073709551616 + a.getD k 0 - y) % 18446744073709551616) :
    d / 9223372036854775808 ≤ 1 ∧ Lim (o.set k (d % 4294967296)) ∧ val ((o.set k (d % 4294967296)).take (k + 1)) + val (b.take (k + 1)) = val (a.take (k + 1)) + 4294967296 ^ (k + 1) * (d / 9223372036854775808) := by
  refine ⟨by omega, lim_set hlo _ _ (by omega), ?_⟩
  rcases Nat.lt_or_ge (a.getD k 0) y with h | h
  · have h1 : d % 4294967296 = 4294967296 + a.getD k 0 - y := by omega
    have h2 : d / 9223372036854775808 = 1 := by omega
    rw [h1, h2]
    exact sub_inv1 hol hv hy h (by omega)
  · have h1 : d % 4294967296 = a.getD k 0 - y := by omega
    have h2 : d / 9223372036854775808 = 0 := by omega
    rw [h1, h2]
    exact sub_inv0 hol hv hy h
namespace H_c_NSub
theorem zSm {p q : Prop} (k : q) (e : p = q := by simp only [e1, e2, e3, e4, p1, p2, p3, q1, q2, q3, l1, t0, t1, r1, r2, r3, r4, Nat.zero_add, Nat.reduceMul, Nat.reduceAdd, b1, b2, b3, b4, b5, b6, i1, i2, i3, i4, i5, i6, Nat.reduceBEq, dflt]; exact rfl) : p := e.mpr k
end H_c_NSub
open H_c_NSub in
theorem c_NSub (a b : List Nat) (ha : Lim a) (hb : Lim b) (hla : a.length ≤ 1099511627776) (hlb : b.length ≤ 1099511627776) (hle : val b ≤ val a) : CallP Tryz.prog 185 [limL a, limL b] (.tup [magL (val a - val b), iL 0]) := by
  have hbl : (dig (val b)).length ≤ a.length := by
    apply dig_length_le; exact Nat.lt_of_le_of_lt hle (val_lt ha)
  refine fnP Tryz.func185 ?_
  refine zg11 ?_
  refine cp am2 (c_NCmp _ _ (by first | assumption | exact lim_dig _) (by first | assumption | exact lim_dig _) (by omega) (by omega)) ?_
  refine zg3 ?_
  refine wl_if rfl (fun h15r h15 => ?_) (fun h15r h15 => ?_)
  · exfalso
    rcases Nat.lt_or_eq_of_le hle with h | h
    · rw [cmpN_gt h] at h15; omega
    · rw [cmpN_eq h.symm] at h15; omega
  · refine zg5 ?_
    refine cp am1 (c_trimD _ (by first | assumption | exact lim_dig _) (by omega)) ?_
    refine zg7 ?_
    refine st_alloc rfl rfl (.mkE (n := a.length) (m := a.length) ml ml om om om) ?_
    refine zg17 ?_
    refine lp3 (fun (k : Nat) (o : List Nat) (br : Nat) L => ((((((((St.mk L.slot (hp [(20, ⟨1, o.map u32L, true⟩)])).put (some 0) (.list 1 (a.map u32L))).put (some 1) (magL (val b))).put (some 6) (.ref 20 1 0 a.length)).put (some 7) (nU64 br)).put (some 21) (.list 1 (a.map u32L))).put (some 22) (nI64 a.length)).put (some 23) (nI64 k))) (fun k o br => k ≤ a.length ∧ o.length = a.length ∧ br ≤ 1 ∧ Lim o ∧ val (o.take k) + val ((dig (val b)).take k) = val (a.take k) + 4294967296 ^ k * br) (fun k o br => a.length - k) 0 (List.replicate a.length 0) 0 ⟨Nat.zero_le _, by simp, by omega, lim_zeros _, by simp [val]⟩ ?_
    rintro k o br L1 ⟨hk, hol, hbr, hlo, hv⟩
    have hxk := getD_lim ha k
    have hyk := getD_dig_lt (val b) k
    refine zg6 ?_
    refine wl_if rfl (fun h24r h24 => ?_) (fun h24r h24 => ?_)
    · refine zg28 ?_
      refine wl_cut (fun L => ∃ (y : Nat) (L1 : St), (y = br + (dig (val b)).getD k 0) ∧ L = (((((((((((St.mk L1.slot (hp [(20, ⟨1, o.map u32L, true⟩)])).put (some 0) (.list 1 (a.map u32L))).put (some 1) (magL (val b))).put (some 6) (.ref 20 1 0 a.length)).put (some 7) (nU64 br)).put (some 21) (.list 1 (a.map u32L))).put (some 22) (nI64 a.length)).put (some 23) (nI64 k)).put (some 9) (u32L (a.getD k 0))).put (some 8) (nI64 k)).put (some 10) (nU64 y))) ?_ ?_
      · refine wl_if rfl (fun h32r h32 => ?_) (fun h32r h32 => ?_)
        · refine zg11 ?_
          exact ⟨br + (dig (val b)).getD k 0, _, rfl, ((put_id' (put_id' (put_id' (put_id' (put_id' (put_id' (put_id' (put_id' (put_id' (put_id' (mk_id' cl) cl) cl) cl) cl) cl) cl) cl) cl) cl) cl)).symm⟩
        · refine zg2 ?_
          exact ⟨br, _, by rw [getD_ge _ k (by omega)]; rfl, ((put_id' (put_id' (put_id' (put_id' (put_id' (put_id' (put_id' (put_id' (put_id' (put_id' (mk_id' cl) cl) cl) cl) cl) cl) cl) cl) cl) cl) cl)).symm⟩
      · rintro _ ⟨y, LC32, hy, rfl⟩
        refine zg6 ?_
        refine st_pure rfl (.bin rfl rfl (subW (by omega))) ?_
        refine zg25 ?_
        exact nx3 (k + 1) (o.set k ((18446744073709551616 + a.getD k 0 - y) % 18446744073709551616 % 4294967296)) ((18446744073709551616 + a.getD k 0 - y) % 18446744073709551616 / 9223372036854775808) ⟨by omega, by simp [hol], sub_invW (by omega) hbr hxk hyk hlo hv hy rfl⟩
    · obtain rfl : k = a.length := by omega
      refine zg8 ?_
      refine cpf [20] fm1 (c_trimD _ (by first | assumption | exact lim_dig _) (by omega)) ?_
      refine zg5 ?_
      have e := sub_end ha hlo hol hbl (by rw [val_dig]; exact hle) hv
      rw [trimL_dig hlo, val_dig] at e
      have e2 := congrArg val e
      rw [val_dig, val_dig] at e2
      rw [← e2]
      exact ret2 rfl (.pure (magL_pure _)) rfl (.pure rfl)
end Go.Proofs.YthhdcfhaldcheaaGreat
