/- Magnitudes: contracts of shifts, digits, copies. -/
import Derived.Test.YthhdcfhaldcheaaGreatN4
set_option linter.unusedVariables false
set_option linter.unusedSimpArgs false
set_option maxHeartbeats 8000000
set_option maxRecDepth 100000
attribute [local irreducible] Go.Lg.opsL Go.Lg.wpL Go.Lg.thenL Go.Lg.blockL
namespace Go.Proofs.YthhdcfhaldcheaaGreat
open Go.Lg
theorem pow_s {s : Nat} (hs : s < 32) : 2 ^ s ≤ 2147483648 ∧ 0 < 2 ^ s := ⟨Nat.pow_le_pow_right (n := 2) (by omega) (show s ≤ 31 by omega), Nat.pow_pos (by omega)⟩
theorem wrap8 {m : Nat} (h : m < 256) : (0 : Int) ≤ IntKind.u8.wrap (m : Int) ∧ (IntKind.u8.wrap (m : Int)).toNat = m := by
  rw [IntKind.wrap_u8]; omega
theorem shl_lt {x p : Nat} (hx : x < 4294967296) (hp : p ≤ 2147483648) : x * p ≤ 9223372034707292160 := by
  have := Nat.mul_le_mul (Nat.le_sub_one_of_lt hx) hp; simpa using this
theorem carry_lt {x p c : Nat} (hx : x < 4294967296) (hc : c < p) : (x * p + c) / 4294967296 < p := by
  rw [Nat.div_lt_iff_lt_mul (by omega)]
  have : (x + 1) * p ≤ 4294967296 * p := Nat.mul_le_mul_right _ hx
  rw [Nat.add_mul] at this
  rw [Nat.mul_comm p]; omega
namespace H_c_raise
theorem zSm {p q : Prop} (k : q) (e : p = q := by simp only [e1, e2, e3, e4, p1, p2, p3, q1, q2, q3, l1, t0, t1, r1, r2, r3, r4, Nat.zero_add, Nat.reduceMul, Nat.reduceAdd, b1, b2, b3, b4, b5, b6, i1, i2, i3, i4, i5, i6, Nat.reduceBEq, dflt]; exact rfl) : p := e.mpr k
end H_c_raise
open H_c_raise in
theorem c_raise (a : List Nat) (s : Nat) (ha : Lim a) (hla : a.length ≤ 1099511627776) (hs : s < 32) : CallOK Tryz.prog 202 [limL a, nI64 s] (.ref 1 1 0 (a.length + 1)) [⟨1, (padL (a.length + 1) (val a * 2 ^ s)).map u32L, true⟩] := by
  unfold limL
  refine fnO Tryz.func202 ?_
  refine zg10 ?_
  refine st_alloc rfl rfl (.mkE (n := a.length + 1) (m := a.length + 1) ml ml om om om) ?_
  refine zg17 ?_
  refine lp3 (fun (k : Nat) (o : List Nat) (c : Nat) L => ((((((((St.mk L.slot (hp [(12, ⟨1, o.map u32L, true⟩)])).put (some 0) (.list 1 (a.map u32L))).put (some 1) (nI64 s)).put (some 5) (.ref 12 1 0 (a.length + 1))).put (some 6) (nU64 c)).put (some 13) (.list 1 (a.map u32L))).put (some 14) (nI64 a.length)).put (some 15) (nI64 k))) (fun k o c => k ≤ a.length ∧ o.length = a.length + 1 ∧ c < 2 ^ s ∧ Lim o ∧ val (o.take k) + 4294967296 ^ k * c = val (a.take k) * 2 ^ s) (fun k o c => a.length - k) 0 (List.replicate (a.length + 1) 0) 0 ⟨Nat.zero_le _, by simp, (pow_s hs).2, lim_zeros _, by simp [val]⟩ ?_
  rintro k o c L1 ⟨hk, hol, hc, hlo, hv⟩
  have hxk := getD_lim ha k
  obtain ⟨hp1, hp2⟩ := pow_s hs
  have hsx := shl_lt hxk hp1
  refine zg6 ?_
  refine wl_if rfl (fun h16r h16 => ?_) (fun h16r h16 => ?_)
  · refine zg19 ?_
    refine st_pure rfl (.sh rfl rfl (shlV (by omega) (by omega))) ?_
    refine st_pure rfl (.bin rfl rfl (orV hc (by omega))) ?_
    refine zg25 ?_
    exact nx3 (k + 1) (o.set k ((a.getD k 0 * 2 ^ s + c) % 4294967296)) ((a.getD k 0 * 2 ^ s + c) / 4294967296) ⟨by omega, by simp [hol], carry_lt hxk hc, lim_set hlo _ _ (Nat.mod_lt _ (by omega)), raise_inv (by omega) hv rfl⟩
  · obtain rfl : k = a.length := by omega
    refine zg23 ?_
    have hc2 : c % 4294967296 = c := Nat.mod_eq_of_lt (by omega)
    have E := raise_end hol hv
    have E2 := padL_eq (lim_set hlo a.length c (by omega)) (by simp only [List.length_set]; exact hol)
    rw [E] at E2
    rw [← E2]
    simp only [hc2]
    exact ret1own rfl rfl (pures_map u32E _)
open H0 in
theorem c_NOf (n : Nat) (hn : n < 18446744073709551616) : CallP Tryz.prog 187 [nU64 n] (magL n) := by
  have hL : Lim [n % 4294967296, n / 4294967296 % 4294967296] := by
    intro x hx; simp at hx; omega
  have hV : val [n % 4294967296, n / 4294967296 % 4294967296] = n := by rw [val_two]; omega
  refine fnP Tryz.func187 ?_
  refine zg13 ?_
  refine cpf [8] fm1 (c_trimD _ (by first | assumption | exact lim_dig _) (by first | omega | (simp; done) | (simp; omega))) ?_
  refine zg4 ?_
  skip
  exact ret1 rfl (by rw [hV]; exact .pure (magL_pure _))
namespace H_c_Len32
theorem zSm1 {p q : Prop} (k : q) (e : p = q := by simp only [e1, e2, e3, e4, p1, p2, p3, q1, q2, q3, l1, t0, t1, r1, r2, r3, r4, Nat.zero_add, Nat.reduceMul, Nat.reduceAdd, b1, b2, b3, b4, b5, b6, i1, i2, i3, i4, i5, i6, Nat.reduceBEq, hbn]; exact rfl) : p := e.mpr k
theorem nf1 {p : Prop} (h : p := by first | (refine zSm1 ?_; exact rfl) | exact rfl) : p := h
end H_c_Len32
open H_c_Len32 H0 in
theorem c_Len32 (n : Nat) (hn : n < 4294967296) : CallP Tryz.prog 196 [nU32 n] (iL (blen n)) := by
  refine fnP Tryz.func196 ?_
  refine zg12 ?_
  refine wl_cut (fun L => ∃ (m : Nat) (q : Nat) (L1 : St), (blen n = q + blen m ∧ m < 65536 ∧ q ≤ 16) ∧ L = (((St.mk L1.slot (hp [])).put (some 0) (nU32 m)).put (some 2) (iL q))) ?_ ?_
  · refine wl_if rfl (fun h4r h4 => ?_) (fun h4r h4 => ?_)
    · refine zg3 ?_
      refine st_pure rfl (.sh rfl rfl (shrC (m := 16) (by decide))) ?_
      refine zg7 ?_
      exact ⟨n / 2 ^ 16, 16, _, ⟨blen_div (by omega), by omega, by omega⟩, ((put_id' (put_id' (mk_id' cl) cl) cl)).symm⟩
    · refine zg2 ?_
      exact ⟨n, 0, _, ⟨by omega, by omega, by omega⟩, ((put_id' (put_id' (mk_id' cl) cl) cl)).symm⟩
  · rintro _ ⟨m, q, LC4, ⟨hb1, hm, hq⟩, rfl⟩
    refine zg8 ?_
    refine wl_cut (fun L => ∃ (m2 : Nat) (q2 : Nat) (L1 : St), (blen n = q2 + blen m2 ∧ m2 < 256 ∧ q2 ≤ 24) ∧ L = (((St.mk L1.slot (hp [])).put (some 0) (nU32 m2)).put (some 2) (iL q2))) ?_ ?_
    · refine wl_if rfl (fun h8r h8 => ?_) (fun h8r h8 => ?_)
      · refine zg3 ?_
        refine st_pure rfl (.sh rfl rfl (shrC (m := 8) (by decide))) ?_
        refine zg9 ?_
        exact ⟨m / 2 ^ 8, q + 8, _, ⟨by rw [hb1, blen_div (n := m) (k := 8) (by omega)]; omega, by omega, by omega⟩, ((put_id' (put_id' (mk_id' cl) cl) cl)).symm⟩
      · refine zg2 ?_
        exact ⟨m, q, _, ⟨hb1, by omega, by omega⟩, ((put_id' (put_id' (mk_id' cl) cl) cl)).symm⟩
    · rintro _ ⟨m2, q2, LC8, ⟨hb2, hm2, hq2⟩, rfl⟩
      have hb8 : blen m2 ≤ 8 := blen_le.2 hm2
      have hbn : (UInt8.ofNat (blen m2)).toNat = blen m2 := (by decide : ∀ k, k ≤ 8 → (UInt8.ofNat k).toNat = k) _ hb8
      refine zg6 ?_
      refine st_pure rfl (.indexS (b := UInt8.ofNat (blen m2)) rfl Tryz.underlying9 rfl (wrap8 hm2).1 (by rw [(wrap8 hm2).2]; exact tbl (by decide +kernel) hm2)) ?_
      refine st_pure rfl (.cvI Tryz.underlying5 Tryz.underlying3 rfl (by omega) (by omega)) ?_
      refine st_pure rfl (.bin rfl rfl (add64 (by omega) (by omega))) ?_
      refine zg1 ?_
      refine st_end nf1 ?_
      refine zg2 ?_
      rw [hb2]
      exact ret1 rfl (by first | exact .pure rfl | (rw [hbn]; exact .pure rfl))
open H0 in
theorem c_LZ32 (n : Nat) (hn : n < 4294967296) : CallP Tryz.prog 201 [nU32 n] (iL (32 - blen n)) := by
  have hb : blen n ≤ 32 := blen_le.2 hn
  refine fnP Tryz.func201 ?_
  refine zg8 ?_
  refine cp am1 (c_Len32 _ (by omega)) ?_
  refine zg5 ?_
  exact ret1 rfl (by first | exact .pure rfl | exact .pure (limL_pure _) | exact .pure (magL_pure _) | exact .pure (ratE.pure _) | exact .pure (pure_lst u32E _ _) | exact .pure (pure_lst ratE _ _))
theorem c_trimC (l : List Nat) (h : Lim l) (hl : l.length ≤ 1099511627776) : (dig (val l)).length ≤ 1099511627776 := Nat.le_trans (len_trim_le h) hl
theorem blen_dig {n : Nat} (h : 0 < (dig n).length) : 32 * ((dig n).length - 1) + blen ((dig n).getD ((dig n).length - 1) 0) = blen n := by
  have := blen_val (lim_dig n) (can_dig n) h
  rw [val_dig] at this; omega
namespace H_c_NBits
theorem zSm {p q : Prop} (k : q) (e : p = q := by simp only [e1, e2, e3, e4, p1, p2, p3, q1, q2, q3, l1, t0, t1, r1, r2, r3, r4, Nat.zero_add, Nat.reduceMul, Nat.reduceAdd, b1, b2, b3, b4, b5, b6, i1, i2, i3, i4, i5, i6, Nat.reduceBEq, dflt, ej]; exact rfl) : p := e.mpr k
end H_c_NBits
open H_c_NBits in
theorem c_NBits (a : List Nat) (ha : Lim a) (hla : a.length ≤ 1099511627776) : CallP Tryz.prog 170 [limL a] (iL (blen (val a))) := by
  have hlt := c_trimC a ha hla
  refine fnP Tryz.func170 ?_
  have ej : True := trivial
  refine zg8 ?_
  refine cp am1 (c_trimD _ (by first | assumption | exact lim_dig _) (by first | omega | (simp; done) | (simp; omega))) ?_
  refine zg11 ?_
  refine wl_if rfl (fun h7r h7 => ?_) (fun h7r h7 => ?_)
  · have h0 : val a = 0 := dig_eq_nil.1 (List.eq_nil_of_length_eq_zero (by omega))
    have hz : blen (val a) = 0 := blen_zero.2 h0
    refine zg7 ?_
    rw [hz]
    exact ret1 rfl (by first | exact .pure rfl | exact .pure (limL_pure _) | exact .pure (magL_pure _) | exact .pure (ratE.pure _) | exact .pure (pure_lst u32E _ _) | exact .pure (pure_lst ratE _ _))
  · have hpos : 0 < (dig (val a)).length := by omega
    have ej : (((dig (val a)).length : Int) - 1).toNat = (dig (val a)).length - 1 := by omega
    have hz := blen_dig hpos
    have hlim := getD_dig_lt (val a) ((dig (val a)).length - 1)
    have hb32 : blen ((dig (val a)).getD ((dig (val a)).length - 1) 0) ≤ 32 := blen_le.2 hlim
    refine zg14 ?_
    refine cp am1 (c_Len32 _ (by rw [ej]; exact hlim)) ?_
    refine st_pure rfl (.bin rfl rfl (add64 (by simp only [ej, dflt]; omega) (by simp only [ej, dflt]; omega))) ?_
    refine zg4 ?_
    refine ret1 ?_ (.pure rfl)
    simp only [e1, e2, e3, e4, p1, p2, p3, q1, q2, q3, Nat.reduceBEq]
    congr 2
    omega
namespace H_c_Clone
theorem zSm1 {p q : Prop} (k : q) (e : p = q := by simp only [e1, e2, e3, e4, p1, p2, p3, q1, q2, q3, l1, t0, t1, r1, r2, r3, r4, Nat.zero_add, Nat.reduceMul, Nat.reduceAdd, b1, b2, b3, b4, b5, b6, i1, i2, i3, i4, i5, i6, Nat.reduceBEq, List.take_zero, List.take_nil, List.nil_append, kills_map u32E, LV.kill]; exact rfl) : p := e.mpr k
theorem nf1 {p : Prop} (h : p := by first | (refine zSm1 ?_; exact rfl) | exact rfl) : p := h
end H_c_Clone
open H_c_Clone H0 in
theorem c_Clone (a : List Nat) (hla : a.length ≤ 1099511627776) : CallP Tryz.prog 197 [limL a] (limL a) := by
  unfold limL
  refine fnP Tryz.func197 ?_
  refine zg7 ?_
  refine wl_regE (nil_reg (sz := 1) (l := a.map u32L) rfl Tryz.underlying31 (fun b hb => ?_))
  refine zg1 ?_
  refine wl_if rfl (fun h4r h4 => ?_) (fun h4r h4 => ?_)
  · have hnil : a = [] := by simpa using hb h4r
    subst hnil
    refine zg7 ?_
    exact ret1 rfl (.nil 1)
  · refine zg6 ?_
    refine st_store rfl (.app rfl rfl rfl rfl rfl (Nat.zero_le _) (.inr rfl) (by decide) Tryz.underlying31 Tryz.underlying31 Z114 T114 rfl B114 (.inr (.inl rfl)) (by simp; omega) (by simp; omega) (by decide)) ?_
    refine zg1 ?_
    refine st_end nf1 ?_
    refine zg2 ?_
    exact ret1f [7] rfl rfl (imm_refm u32E rfl rfl (by simp))
namespace H_c_Equal
theorem zSm {p q : Prop} (k : q) (e : p = q := by simp only [e1, e2, e3, e4, p1, p2, p3, q1, q2, q3, l1, t0, t1, r1, r2, r3, r4, Nat.zero_add, Nat.reduceMul, Nat.reduceAdd, b1, b2, b3, b4, b5, b6, i1, i2, i3, i4, i5, i6, Nat.reduceBEq, dflt]; exact rfl) : p := e.mpr k
end H_c_Equal
open H_c_Equal in
theorem c_Equal (a b : List Nat) (hla : a.length ≤ 1099511627776) (hlb : b.length ≤ 1099511627776) : CallP Tryz.prog 184 [limL a, limL b] (bL (decide (a = b))) := by
  unfold limL
  refine fnP Tryz.func184 ?_
  refine zg15 ?_
  refine wl_if rfl (fun h10r h10 => ?_) (fun h10r h10 => ?_)
  · have hE : a ≠ b := by rintro rfl; omega
    refine zg7 ?_
    first | (rw [decide_eq_true hE]; exact ret1 rfl (.pure rfl)) | (rw [decide_eq_false hE]; exact ret1 rfl (.pure rfl))
  · have hl : a.length = b.length := by omega
    clear h10 h10r
    refine zg11 ?_
    refine lp1 (fun (k : Nat) L => ((((((St.mk L.slot (hp [])).put (some 0) (.list 1 (a.map u32L))).put (some 1) (.list 1 (b.map u32L))).put (some 11) (.list 1 (a.map u32L))).put (some 12) (nI64 a.length)).put (some 13) (nI64 k))) (fun k => k ≤ a.length ∧ a.take k = b.take k) (fun k => a.length - k) 0 ⟨Nat.zero_le _, rfl⟩ ?_
    rintro k L1 ⟨hk, ht⟩
    refine zg6 ?_
    refine wl_if rfl (fun h14r h14 => ?_) (fun h14r h14 => ?_)
    · refine zg11 ?_
      refine wl_regD 9 (by decide +kernel) ?_
      refine zg11 ?_
      refine wl_if rfl (fun h24r h24 => ?_) (fun h24r h24 => ?_)
      · have hE : a ≠ b := by rintro rfl; omega
        refine zg11 ?_
        first | (rw [decide_eq_true hE]; exact ret1 rfl (.pure rfl)) | (rw [decide_eq_false hE]; exact ret1 rfl (.pure rfl))
      · refine zg8 ?_
        exact nx1 (k + 1) ⟨by omega, take_eq_of (by omega) (by omega) ht (by omega)⟩
    · obtain rfl : k = a.length := by omega
      have hE : a = b := by rw [List.take_length, hl, List.take_length] at ht; exact ht
      refine zg11 ?_
      first | (rw [decide_eq_true hE]; exact ret1 rfl (.pure rfl)) | (rw [decide_eq_false hE]; exact ret1 rfl (.pure rfl))
end Go.Proofs.YthhdcfhaldcheaaGreat
