/- The reference magnitudes: long division, greatest common divisor. -/
import Derived.Test.YthhdcfhaldcheaaGreatR3
set_option linter.unusedVariables false
set_option linter.unusedSimpArgs false
set_option maxHeartbeats 8000000
set_option maxRecDepth 100000
attribute [local irreducible] Go.Lg.opsL Go.Lg.wpL Go.Lg.thenL Go.Lg.blockL
namespace Go.Proofs.YthhdcfhaldcheaaGreat
open Go.Lg
theorem val_split_any (l : List Nat) (k : Nat) : val l = val (l.take k) + 4294967296 ^ k * val (l.drop k) := by
  rcases Nat.le_total k l.length with h | h
  · exact val_split l k h
  · rw [List.take_of_length_le h, List.drop_of_length_le h]; simp [val]
theorem val_drop_any (l : List Nat) (k : Nat) : val (l.drop k) = l.getD k 0 + 4294967296 * val (l.drop (k + 1)) := by
  rcases Nat.lt_or_ge k l.length with h | h
  · exact val_drop h
  · rw [List.drop_of_length_le h, List.drop_of_length_le (by omega), getD_ge _ _ h]; rfl
theorem sub1N {a : Nat} (h : 1 ≤ a) (h2 : a ≤ 9223372036854775807) : binI .sub .i64 (a : Nat) 1 = some (.int .i64 ((a - 1 : Nat) : Int)) := by
  rw [sub64 (by omega) (by omega)]; congr 2; omega
theorem drop_last {n : Nat} (h : 0 < (dig n).length) : (dig n).drop ((dig n).length - 1) = dig ((dig n).getD ((dig n).length - 1) 0) := by
  have h1 := can_getLast (can_dig n) h
  have h2 := getD_dig_lt n ((dig n).length - 1)
  rw [dig_small (by omega) h2]
  rw [List.drop_eq_getElem_cons (by omega), List.drop_of_length_le (by omega), List.getD_eq_getElem?_getD, List.getElem?_eq_getElem (by omega)]
  rfl
/-- the estimate of a digit is not too small -/
theorem fd_top {R V n j : Nat} (hn : (dig V).length = n + 1) (hlt : R < V * 4294967296 ^ (j + 1)) (hv : 0 < (dig V).getD n 0) :
    R / 4294967296 ^ j / V ≤ min (((dig R).getD (j + (n + 1)) 0 * 4294967296 + (dig R).getD (j + n) 0) / (dig V).getD n 0) 4294967295 := by
  have hV0 : 0 < V := Nat.pos_of_ne_zero (fun h => by rw [h, dig_zero] at hn; cases hn)
  have hVn : V < 4294967296 ^ (n + 1) := dig_length_ge (by omega)
  have hz := kn_zero (ul := dig R) (n := n + 1) (j := j) hVn (by rw [val_dig]; exact hlt)
  have hq2 : R / 4294967296 ^ j / V < 4294967296 := by
    rw [Nat.div_lt_iff_lt_mul hV0, Nat.div_lt_iff_lt_mul (powpos j), Nat.mul_comm 4294967296, Nat.mul_assoc, ← Nat.pow_succ']
    exact hlt
  refine Nat.le_min.2 ⟨?_, by omega⟩
  rw [Nat.le_div_iff_mul_le hv]
  have hVs := val_split (dig V) n (by omega)
  have hVd : val ((dig V).drop n) = (dig V).getD n 0 := by
    rw [val_drop (by omega), List.drop_of_length_le (by omega)]; simp [val]
  rw [hVd, val_dig] at hVs
  have hR : R / 4294967296 ^ (j + n) = (dig R).getD (j + (n + 1)) 0 * 4294967296 + (dig R).getD (j + n) 0 := by
    have e := val_split_any (dig R) (j + n)
    rw [val_dig] at e
    have hl : val ((dig R).take (j + n)) < 4294967296 ^ (j + n) := val_lt_len (lim_take (lim_dig R) _) (by simp; omega)
    have hd : val ((dig R).drop (j + n)) = (dig R).getD (j + (n + 1)) 0 * 4294967296 + (dig R).getD (j + n) 0 := by
      have z : val ((dig R).drop (j + n + 2)) = 0 := val_all_zero (fun p => by rw [getD_drop]; exact hz _ (by omega))
      rw [val_drop_any, val_drop_any, z, show j + n + 1 = j + (n + 1) by omega]; omega
    rw [← hd]
    conv => lhs; rw [e]
    rw [Nat.add_mul_div_left _ _ (powpos _), Nat.div_eq_of_lt hl, Nat.zero_add]
  rw [← hR, Nat.pow_add, ← Nat.div_div_eq_div_mul, Nat.le_div_iff_mul_le (powpos n), Nat.mul_assoc]
  refine Nat.le_trans (Nat.mul_le_mul_left _ ?_) (Nat.div_mul_le_self (R / 4294967296 ^ j) V)
  rw [Nat.mul_comm]
  omega
theorem fd_gt {R V j d : Nat} (hV : 0 < V) (h : R < V * d * 4294967296 ^ j) : R / 4294967296 ^ j / V < d := by
  rw [Nat.div_lt_iff_lt_mul hV, Nat.div_lt_iff_lt_mul (powpos j), Nat.mul_comm d V]; exact h
theorem fd_le {R V j d : Nat} (hV : 0 < V) (h : V * d * 4294967296 ^ j ≤ R) : d ≤ R / 4294967296 ^ j / V := by
  rw [Nat.le_div_iff_mul_le hV, Nat.le_div_iff_mul_le (powpos j), Nat.mul_comm d V]; exact h
theorem fd_next {R V j d A : Nat} {ql : List Nat} (hV : 0 < V) (hd : d = R / 4294967296 ^ j / V) (hp : V * d * 4294967296 ^ j ≤ R) (hj : j < ql.length) (hv : R + V * 4294967296 ^ (j + 1) * val (ql.drop (j + 1)) = A) :
    R - V * d * 4294967296 ^ j + V * 4294967296 ^ j * val ((ql.set j d).drop j) = A ∧ R - V * d * 4294967296 ^ j < V * 4294967296 ^ j := by
  have := kn_next (ul := dig (R - V * d * 4294967296 ^ j)) (ul0 := dig R) (ql := ql) (x := d) (j := j) (U0 := A) hV (by rw [val_dig]; exact hd) (by rw [val_dig, val_dig, Nat.mul_comm d V, Nat.mul_comm (4294967296 ^ j)]; omega) hj (by rw [val_dig]; exact hv)
  rw [val_dig] at this
  exact this
theorem fd_start {m n L K s : Nat} (hL : (dig (n * 2 ^ s)).length = L) (h0 : 0 < L) (hK : K + L = (dig (m * 2 ^ s)).length + 1) : m * 2 ^ s < n * 2 ^ s * 4294967296 ^ K := by
  have h1 : m * 2 ^ s < 4294967296 ^ (dig (m * 2 ^ s)).length := dig_length_ge (Nat.le_refl _)
  have h2 := len_pow (m := n * 2 ^ s) (by omega)
  refine Nat.lt_of_lt_of_le h1 ?_
  rw [show (dig (m * 2 ^ s)).length = (L - 1) + K by omega, Nat.pow_add, ← hL]
  exact Nat.mul_le_mul_right _ h2
theorem len_shl {m s k : Nat} (h : (dig m).length ≤ k) (hs : s < 32) : (dig (m * 2 ^ s)).length ≤ k + 1 :=
  len_mul h (dig_len_le1.2 (by have := pow_s hs; omega))
theorem len_pow1 (k : Nat) : (dig (4294967296 ^ k)).length ≤ k + 1 := dig_length_le (Nat.pow_lt_pow_right (by omega) (by omega))
theorem fd_dec {V j d : Nat} (h : 1 ≤ d) : V * d * 4294967296 ^ j - V * 4294967296 ^ j = V * (d - 1) * 4294967296 ^ j := by
  obtain ⟨e, rfl⟩ : ∃ e, d = e + 1 := ⟨d - 1, by omega⟩
  rw [Nat.add_sub_cancel, Nat.mul_add, Nat.mul_one, Nat.add_mul]; omega
theorem fd_le3 {V j d : Nat} (h : 1 ≤ d) : V * 4294967296 ^ j ≤ V * d * 4294967296 ^ j := by
  refine Nat.mul_le_mul_right _ ?_
  have := Nat.mul_le_mul_left V h
  omega
namespace H_c_FDiv
theorem zSm {p q : Prop} (k : q) (e : p = q := by simp only [e1, e2, e3, e4, p1, p2, p3, q1, q2, q3, l1, t0, t1, r1, r2, r3, r4, Nat.zero_add, Nat.reduceMul, Nat.reduceAdd, b1, b2, b3, b4, b5, b6, i1, i2, i3, i4, i5, i6, Nat.reduceBEq, dflt, val_dig, eln, edz, esm, esn, eLn, edm, ek, ej1, ej2, eL1, ed, tz0, edd, es]; exact rfl) : p := e.mpr k
end H_c_FDiv
open H_c_FDiv in
theorem c_FDiv (m n : Nat) (hla : (dig m).length ≤ 68719476736) (hlb : (dig n).length ≤ 68719476736) (hn0 : 0 < n) : CallP Tryz.prog 169 [magL m, magL n] (.tup [magL (m / n), magL (m % n), iL 0]) := by
  refine fnP Tryz.func169 ?_
  have eln : True := trivial
  have edz : True := trivial
  have esm : True := trivial
  have esn : True := trivial
  have eLn : True := trivial
  have edm : True := trivial
  have ek : True := trivial
  have ej1 : True := trivial
  have ej2 : True := trivial
  have eL1 : True := trivial
  have ed : True := trivial
  have edd : True := trivial
  have es : True := trivial
  refine zg15 ?_
  refine wl_if rfl (fun h21r h21 => ?_) (fun h21r h21 => ?_)
  · have hnz := dig_eq_nil.1 (List.eq_nil_of_length_eq_zero (show (dig n).length = 0 by omega))
    omega
  · refine zg7 ?_
    refine cp am2 (c_FCmp _ _ (by omega) (by omega)) ?_
    refine zg3 ?_
    refine wl_if rfl (fun h25r h25 => ?_) (fun h25r h25 => ?_)
    · have hlt : m < n := by unfold cmpN at h25; split at h25; assumption; split at h25 <;> omega
      refine zg3 ?_
      refine cp am1 (c_FTrim _ (by first | assumption | exact lim_dig _) (by omega)) ?_
      refine zg7 ?_
      rw [Nat.div_eq_of_lt hlt, Nat.mod_eq_of_lt hlt]
      exact ret3f [] rfl rfl (.nil 1) rfl (.pure (magL_pure _)) rfl (.pure rfl)
    · have hge : n ≤ m := by
        rcases Nat.lt_or_ge m n with h | h
        · rw [cmpN_lt h] at h25; omega
        · exact h
      have hmono := len_dig_mono hge
      refine zg6 ?_
      refine cp am1 (c_Fsmall _ (by omega)) ?_
      refine zg12 ?_
      refine wl_if rfl (fun h33r h33 => ?_) (fun h33r h33 => ?_)
      · have hm64 : m < 18446744073709551616 := by simpa using h33r
        have esm : (if m < 18446744073709551616 then m else 0) = m := if_pos hm64
        have esn : (if n < 18446744073709551616 then n else 0) = n := if_pos (by omega)
        have hq64 : m / n ≤ m := Nat.div_le_self _ _
        have hr64 := Nat.mod_lt m hn0
        refine zg3 ?_
        refine cp am1 (c_Fsmall _ (by omega)) ?_
        refine zg8 ?_
        refine wl_regD 11 (by decide +kernel) ?_
        refine zg2 ?_
        refine st_pure rfl (.bin rfl rfl (quoU (by omega) (by omega))) ?_
        refine cp am1 (c_FOf _ (by omega)) ?_
        refine zg2 ?_
        refine st_pure rfl (.bin rfl rfl (remU (by omega))) ?_
        refine cp am1 (c_FOf _ (by omega)) ?_
        refine zg7 ?_
        exact ret3f [] rfl rfl (.pure (magL_pure _)) rfl (.pure (magL_pure _)) rfl (.pure rfl)
      · refine zg10 ?_
        refine wl_if rfl (fun h49r h49 => ?_) (fun h49r h49 => ?_)
        · have hn1 := dig_is1 (n := n) (by omega)
          have eLn := hn1.1
          have hn2 := dig_len_le1.1 (show (dig n).length ≤ 1 by omega)
          have hr1 := Nat.mod_lt m hn0
          refine zg6 ?_
          simp only [tz0, dflt, eLn]
          refine cp am2 (c_FbyLimb m n (by omega) hn0 hn2) ?_
          refine zg12 ?_
          refine cp am1 (c_FOf _ (by omega)) ?_
          refine zg7 ?_
          exact ret3f [] rfl rfl (.pure (magL_pure _)) rfl (.pure (magL_pure _)) rfl (.pure rfl)
        · obtain ⟨ln, hL⟩ : ∃ ln, (dig n).length = ln + 1 := ⟨(dig n).length - 1, by omega⟩
          have eL1 : (dig n).length - 1 = ln := by omega
          have hdl := drop_last (n := n) (by omega)
          rw [eL1] at hdl
          have htop := can_getLast (can_dig n) (show 0 < (dig n).length by omega)
          rw [eL1] at htop
          have htl := getD_dig_lt n ln
          have htb : blen ((dig n).getD ln 0) ≤ 32 := blen_le.2 htl
          have htbl : (dig ((dig n).getD ln 0)).length ≤ 1 := dig_len_le1.2 htl
          obtain ⟨s, hs⟩ : ∃ s, s = 32 - blen ((dig n).getD ln 0) := ⟨_, rfl⟩
          have es : (32 : Int) - ((blen ((dig n).getD ln 0) : Nat) : Int) = ((s : Nat) : Int) := by rw [s_eq htb, hs]
          obtain ⟨hs32, enV, hVge, hVlt⟩ := kn_norm (n := ln) hL hs
          have hV0 : 0 < n * 2 ^ s := Nat.mul_pos hn0 (Nat.pow_pos (by omega))
          have hvt : 0 < (dig (n * 2 ^ s)).getD ln 0 := by have := kn_vt enV hVge; omega
          have hUl := len_shl hla hs32
          have hUV : (dig (n * 2 ^ s)).length ≤ (dig (m * 2 ^ s)).length := len_dig_mono (Nat.mul_le_mul_right _ hge)
          obtain ⟨K, hK⟩ : ∃ K, K + ln = (dig (m * 2 ^ s)).length := ⟨(dig (m * 2 ^ s)).length - ln, by omega⟩
          have hst := fd_start (m := m) (n := n) (s := s) (K := K) enV (by omega) (by omega)
          refine zg7 ?_
          refine st_pure rfl (.bin rfl rfl (sub1N (by omega) (by omega))) ?_
          refine st_pure rfl (.sliceLl (a := (dig n).length - 1) u32E rfl Tryz.underlying31 T114 rfl om) ?_
          rw [eL1, hdl]
          refine cp am1 (c_FBits _ (by omega)) ?_
          refine zg8 ?_
          refine cp am2 (c_Fup _ _ (by omega) hs32) ?_
          refine zg2 ?_
          refine cp am2 (c_Fup _ _ (by omega) hs32) ?_
          refine zg18 ?_
          refine st_alloc rfl rfl (.mkE (n := K) (m := K) ml ml om om om) ?_
          refine zg14 ?_
          refine lp3 (fun (k R : Nat) (ql : List Nat) L => (((((((St.mk L.slot (hp [(82, ⟨1, ql.map u32L, true⟩)])).put (some 1) (magL (n * 2 ^ s))).put (some 4) (.ref 82 1 0 K)).put (some 13) (nI64 s)).put (some 14) (nI64 (ln + 1))).put (some 5) (magL R)).put (some 15) (iL ((k : Int) - 1)))) (fun k R ql => k ≤ K ∧ ql.length = K ∧ Lim ql ∧ R ≤ m * 2 ^ s ∧ R + (n * 2 ^ s) * 4294967296 ^ k * val (ql.drop k) = m * 2 ^ s ∧ R < (n * 2 ^ s) * 4294967296 ^ k) (fun k R ql => k) K (m * 2 ^ s) (List.replicate K 0) ⟨Nat.le_refl _, by simp, lim_zeros _, Nat.le_refl _, by rw [List.drop_of_length_le (by simp)]; simp [val], hst⟩ ?_
          rintro k R ql L1 ⟨hk, hql, hlq, hRU, hv, hlt⟩
          refine zg7 ?_
          refine wl_if rfl (fun h88r h88 => ?_) (fun h88r h88 => ?_)
          · obtain ⟨j, rfl⟩ : ∃ j, k = j + 1 := ⟨k - 1, by omega⟩
            have ek : (((j + 1 : Nat) : Int) - 1) = (j : Int) := by omega
            have ej1 : ((j : Int) + ((ln + 1 : Nat) : Int)).toNat = j + (ln + 1) := by omega
            have ej2 : ((j : Int) + ((ln + 1 : Nat) : Int) - 1).toNat = j + ln := by omega
            have hRl := len_dig_mono hRU
            have eln : (((ln + 1 : Nat) : Int) - 1).toNat = ln := by omega
            have hr1 := getD_dig_lt R (j + (ln + 1))
            have hr2 := getD_dig_lt R (j + ln)
            have hest := fd_top (R := R) (n := ln) (j := j) enV hlt hvt
            have hvl := getD_dig_lt (n * 2 ^ s) ln
            refine zg20 ?_
            refine wl_cut (fun L => ∃ (hi : Nat) (L1 : St), (hi = (dig R).getD (j + (ln + 1)) 0) ∧ L = ((((((((St.mk L1.slot (hp [(82, ⟨1, ql.map u32L, true⟩)])).put (some 1) (magL (n * 2 ^ s))).put (some 4) (.ref 82 1 0 K)).put (some 13) (nI64 s)).put (some 14) (nI64 (ln + 1))).put (some 5) (magL R)).put (some 15) (iL (((j + 1 : Nat) : Int) - 1))).put (some 16) (nU64 hi))) ?_ ?_
            · refine wl_if rfl (fun h96r h96 => ?_) (fun h96r h96 => ?_)
              · refine zg11 ?_
                exact ⟨(dig R).getD (j + (ln + 1)) 0, _, rfl, ((put_id' (put_id' (put_id' (put_id' (put_id' (put_id' (put_id' (mk_id' cl) cl) cl) cl) cl) cl) cl) cl)).symm⟩
              · refine zg2 ?_
                exact ⟨0, _, (getD_ge _ _ (by omega)).symm, ((put_id' (put_id' (put_id' (put_id' (put_id' (put_id' (put_id' (mk_id' cl) cl) cl) cl) cl) cl) cl) cl)).symm⟩
            · rintro _ ⟨hi, LC96, hhi, rfl⟩
              refine zg13 ?_
              refine wl_cut (fun L => ∃ (top : Nat) (L1 : St), (top = ((dig R).getD (j + (ln + 1)) 0 * 4294967296 + (dig R).getD (j + ln) 0)) ∧ L = ((((((((St.mk L1.slot (hp [(82, ⟨1, ql.map u32L, true⟩)])).put (some 1) (magL (n * 2 ^ s))).put (some 4) (.ref 82 1 0 K)).put (some 13) (nI64 s)).put (some 14) (nI64 (ln + 1))).put (some 5) (magL R)).put (some 15) (iL (((j + 1 : Nat) : Int) - 1))).put (some 16) (nU64 top))) ?_ ?_
              · refine wl_if rfl (fun h110r h110 => ?_) (fun h110r h110 => ?_)
                · refine zg2 ?_
                  refine st_pure rfl (.sh rfl rfl (shl32 (by omega))) ?_
                  refine zg8 ?_
                  refine st_pure rfl (.bin rfl rfl (orU (by simp only [t1, dflt, ej2]; omega) (by omega))) ?_
                  refine zg3 ?_
                  exact ⟨hi * 4294967296 + (dig R).getD (j + ln) 0, _, by rw [hhi], ((put_id' (put_id' (put_id' (put_id' (put_id' (put_id' (put_id' (mk_id' cl) cl) cl) cl) cl) cl) cl) cl)).symm⟩
                · refine zg2 ?_
                  refine st_pure rfl (.sh rfl rfl (shl32 (by omega))) ?_
                  refine zg3 ?_
                  exact ⟨hi * 4294967296, _, by rw [hhi, getD_ge (dig R) (j + ln) (by omega)]; exact (Nat.add_zero _).symm, ((put_id' (put_id' (put_id' (put_id' (put_id' (put_id' (put_id' (mk_id' cl) cl) cl) cl) cl) cl) cl) cl)).symm⟩
              · rintro _ ⟨top, LC110, htp, rfl⟩
                have hdle : top / (dig (n * 2 ^ s)).getD ln 0 ≤ top := Nat.div_le_self _ _
                have edm : (if (4294967295 : Int) < ((top / (dig (n * 2 ^ s)).getD ln 0 : Nat) : Int) then (4294967295 : Int) else ((top / (dig (n * 2 ^ s)).getD ln 0 : Nat) : Int)) = ((min (top / (dig (n * 2 ^ s)).getD ln 0) 4294967295 : Nat) : Int) := by split <;> omega
                subst htp
                obtain ⟨d0, hd0⟩ : ∃ d0, d0 = min (((dig R).getD (j + (ln + 1)) 0 * 4294967296 + (dig R).getD (j + ln) 0) / (dig (n * 2 ^ s)).getD ln 0) 4294967295 := ⟨_, rfl⟩
                rw [← hd0] at hest edm
                have hdz : d0 < 4294967296 := by rw [hd0]; exact Nat.lt_of_le_of_lt (Nat.min_le_right _ _) (by decide)
                clear hd0
                have edz : d0 % 4294967296 = d0 := Nat.mod_eq_of_lt hdz
                have hlz := len_mul (Nat.le_of_eq enV) (dig_len_le1.2 hdz)
                refine zg10 ?_
                refine st_pure rfl (.bin rfl rfl (quoU (by simp only [t1, dflt, eln]; omega) (by omega))) ?_
                refine zg9 ?_
                refine cp am2 (c_Ftimes _ _ (by omega) (by omega)) ?_
                refine zg1 ?_
                refine cp am2 (c_Fshifted _ _ (by rw [edz]; omega) (by omega)) ?_
                refine zg5 ?_
                refine lp1 (fun (d : Nat) L => (((((((((St.mk L.slot (hp [(82, ⟨1, ql.map u32L, true⟩)])).put (some 1) (magL (n * 2 ^ s))).put (some 4) (.ref 82 1 0 K)).put (some 13) (nI64 s)).put (some 14) (nI64 (ln + 1))).put (some 5) (magL R)).put (some 15) (iL (((j + 1 : Nat) : Int) - 1))).put (some 17) (nU64 d)).put (some 18) (magL ((n * 2 ^ s) * d * 4294967296 ^ j)))) (fun d => R / 4294967296 ^ j / (n * 2 ^ s) ≤ d ∧ d < 4294967296) (fun d => d) d0 ⟨hest, hdz⟩ ?_
                rintro d L2 ⟨hdq, hdB⟩
                have hl1 := len_mul (Nat.le_of_eq enV) (dig_len_le1.2 hdB)
                have hl2 := len_mul hl1 (len_pow1 j)
                have hl3 := len_mul (Nat.le_of_eq enV) (len_pow1 j)
                refine zg5 ?_
                refine cp am2 (c_FCmp _ _ (by omega) (by omega)) ?_
                refine zg3 ?_
                refine wl_if rfl (fun h142r h142 => ?_) (fun h142r h142 => ?_)
                · have hgt : R < n * 2 ^ s * d * 4294967296 ^ j := by unfold cmpN at h142; split at h142; omega; split at h142; assumption; omega
                  have hdq := fd_gt hV0 hgt
                  have hd0 : 1 ≤ d := Nat.lt_of_le_of_lt (Nat.zero_le _) hdq
                  have hle3 := fd_le3 (V := n * 2 ^ s) (j := j) hd0
                  have edd := fd_dec (V := n * 2 ^ s) (j := j) hd0
                  refine zg14 ?_
                  refine cp am2 (c_Fshifted _ _ (by omega) (by omega)) ?_
                  refine cp am2 (c_Fminus _ _ (by omega) (by omega) hle3) ?_
                  refine zg4 ?_
                  exact nx1 (d - 1) ⟨by omega, by omega⟩
                · have hpl : n * 2 ^ s * d * 4294967296 ^ j ≤ R := by
                    rcases Nat.lt_or_ge R (n * 2 ^ s * d * 4294967296 ^ j) with h | h
                    · rw [cmpN_gt h] at h142; omega
                    · exact h
                  have hdE := Nat.le_antisymm (fd_le hV0 hpl) hdq
                  obtain ⟨hn1, hn2⟩ := fd_next hV0 hdE hpl (show j < ql.length by omega) hv
                  have ed : d % 4294967296 = d := Nat.mod_eq_of_lt hdB
                  refine zg18 ?_
                  refine cp am2 (c_Fminus _ _ (by omega) (by omega) hpl) ?_
                  refine zg10 ?_
                  exact nx3 j (R - (n * 2 ^ s) * d * 4294967296 ^ j) (ql.set j d) ⟨by omega, by simp [hql], lim_set hlq _ _ hdB, Nat.le_trans (Nat.sub_le _ _) hRU, hn1, hn2⟩
          · obtain rfl : k = 0 := by omega
            rw [List.drop_zero, Nat.pow_zero, Nat.mul_one] at hv
            rw [Nat.pow_zero, Nat.mul_one] at hlt
            have hRl := len_dig_mono hRU
            obtain ⟨hqf, hRf⟩ := kn_end (ul := dig R) (ql := ql) (A := m) (s := s) hn0 (by rw [val_dig]; exact hv) (by rw [val_dig]; exact hlt)
            rw [val_dig] at hRf
            refine zg8 ?_
            refine cpf [82] fm1 (c_FTrim _ (by first | assumption | exact lim_dig _) (by omega)) ?_
            refine zg2 ?_
            rw [hRf]
            refine cp am2 (c_Fdown (m % n) s (by rw [← hRf]; omega) hs32) ?_
            refine zg6 ?_
            rw [← hqf]
            exact ret3f [] rfl rfl (.pure (magL_pure _)) rfl (.pure (magL_pure _)) rfl (.pure rfl)
namespace H_c_FGcd
theorem zSm {p q : Prop} (k : q) (e : p = q := by simp only [e1, e2, e3, e4, p1, p2, p3, q1, q2, q3, l1, t0, t1, r1, r2, r3, r4, Nat.zero_add, Nat.reduceMul, Nat.reduceAdd, b1, b2, b3, b4, b5, b6, i1, i2, i3, i4, i5, i6, Nat.reduceBEq, dflt, val_dig, esm, esn]; exact rfl) : p := e.mpr k
end H_c_FGcd
open H_c_FGcd in
theorem c_FGcd (m n : Nat) (hla : (dig m).length ≤ 68719476736) (hlb : (dig n).length ≤ 68719476736) : CallP Tryz.prog 168 [magL m, magL n] (magL (Nat.gcd m n)) := by
  refine fnP Tryz.func168 ?_
  have esm : True := trivial
  have esn : True := trivial
  refine zg8 ?_
  refine cp am1 (c_FTrim _ (lim_dig _) (by omega)) ?_
  refine zg1 ?_
  refine cp am1 (c_FTrim _ (lim_dig _) (by omega)) ?_
  refine zg6 ?_
  refine lp2 (fun (x y : Nat) L => (((St.mk L.slot (hp [])).put (some 0) (magL x)).put (some 1) (magL y))) (fun x y => Nat.gcd x y = Nat.gcd m n ∧ (dig x).length ≤ 68719476736 ∧ (dig y).length ≤ 68719476736) (fun x y => y) m n ⟨rfl, hla, hlb⟩ ?_
  rintro x y L1 ⟨hg, hx, hy⟩
  refine zg8 ?_
  refine wl_if rfl (fun h18r h18 => ?_) (fun h18r h18 => ?_)
  · have hy0 : 0 < y := Nat.pos_of_ne_zero (fun h => by rw [h, dig_zero] at h18; simp at h18)
    refine zg6 ?_
    refine cp am1 (c_Fsmall _ (by omega)) ?_
    refine zg10 ?_
    refine cp am1 (c_Fsmall _ (by omega)) ?_
    refine zg9 ?_
    refine wl_cut (fun L => ∃ (t : Bool) (L1 : St), (t = decide (x < 18446744073709551616 ∧ y < 18446744073709551616)) ∧ L = ((((((St.mk L1.slot (hp [])).put (some 0) (magL x)).put (some 1) (magL y)).put (some 5) (nU64 (if x < 18446744073709551616 then x else 0))).put (some 7) (nU64 (if y < 18446744073709551616 then y else 0))).put (some 32) (bL t))) ?_ ?_
    · refine zg3 ?_
      refine op_if 30 rfl (fun h30r h30 => ?_) (fun h30r h30 => ?_)
      · refine zg4 ?_
        exact ⟨decide (y < 18446744073709551616), _, by rw [decide_eq_decide]; omega, ((put_id' (put_id' (put_id' (put_id' (put_id' (mk_id' cl) cl) cl) cl) cl) cl)).symm⟩
      · refine zg4 ?_
        exact ⟨false, _, by symm; rw [decide_eq_false_iff_not]; omega, ((put_id' (put_id' (put_id' (put_id' (put_id' (mk_id' cl) cl) cl) cl) cl) cl)).symm⟩
    · rintro _ ⟨t, LR5, ht, rfl⟩
      refine zg1 ?_
      refine wl_if rfl (fun h32r h32 => ?_) (fun h32r h32 => ?_)
      · rw [ht, decide_eq_true_iff] at h32r
        obtain ⟨hx64, hy64⟩ := h32r
        have esm : (if x < 18446744073709551616 then x else 0) = x := if_pos hx64
        have esn : (if y < 18446744073709551616 then y else 0) = y := if_pos hy64
        refine zg2 ?_
        refine lp2 (fun (p q : Nat) L => (((St.mk L.slot (hp [])).put (some 5) (nU64 p)).put (some 7) (nU64 q))) (fun p q => Nat.gcd p q = Nat.gcd m n ∧ p < 18446744073709551616 ∧ q < 18446744073709551616) (fun p q => q) x y ⟨hg, hx64, hy64⟩ ?_
        rintro p q L2 ⟨hg3, hm, hn⟩
        refine zg7 ?_
        refine wl_if rfl (fun h34r h34 => ?_) (fun h34r h34 => ?_)
        · refine zg3 ?_
          refine wl_regD 6 (by decide +kernel) ?_
          refine zg9 ?_
          exact nx2 q (p % q) ⟨by rw [Nat.gcd_comm, ← Nat.gcd_rec, Nat.gcd_comm]; exact hg3, hn, by have := Nat.mod_lt p (show q > 0 by omega); omega⟩ (hm := Nat.mod_lt _ (by omega))
        · obtain rfl : q = 0 := by omega
          refine zg8 ?_
          refine cp am1 (c_FOf _ (by omega)) ?_
          refine zg9 ?_
          rw [← hg3, Nat.gcd_zero_right]
          exact ret1 rfl (by first | exact .pure rfl | exact .pure (limL_pure _) | exact .pure (magL_pure _) | exact .pure (ratE.pure _) | exact .pure (pure_lst u32E _ _) | exact .pure (pure_lst ratE _ _))
      · refine zg6 ?_
        refine cp am2 (c_FDiv _ _ (by omega) (by omega) (by first | assumption | omega)) ?_
        refine zg17 ?_
        exact nx2 y (x % y) ⟨by rw [Nat.gcd_comm, ← Nat.gcd_rec, Nat.gcd_comm]; exact hg, hy, Nat.le_trans (len_dig_mono (Nat.le_of_lt (Nat.mod_lt x hy0))) hy⟩ (hm := Nat.mod_lt _ hy0)
  · have hy0 : y = 0 := dig_eq_nil.1 (List.eq_nil_of_length_eq_zero (by omega))
    refine zg12 ?_
    subst hy0
    rw [← hg, Nat.gcd_zero_right]
    exact ret1 rfl (by first | exact .pure rfl | exact .pure (limL_pure _) | exact .pure (magL_pure _) | exact .pure (ratE.pure _) | exact .pure (pure_lst u32E _ _) | exact .pure (pure_lst ratE _ _))
end Go.Proofs.YthhdcfhaldcheaaGreat
