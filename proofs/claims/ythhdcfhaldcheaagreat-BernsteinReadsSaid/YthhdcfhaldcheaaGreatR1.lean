/- The reference magnitudes: trimming, comparing, sums, differences, products. -/
import Derived.Test.YthhdcfhaldcheaaGreatN11
set_option linter.unusedVariables false
set_option linter.unusedSimpArgs false
set_option maxHeartbeats 8000000
set_option maxRecDepth 100000
attribute [local irreducible] Go.Lg.opsL Go.Lg.wpL Go.Lg.thenL Go.Lg.blockL
namespace Go.Proofs.YthhdcfhaldcheaaGreat
open Go.Lg
theorem dig_of {o : List Nat} {N : Nat} (hL : Lim o) (hv : val o = N) (h : o.length = 0 ∨ 4294967296 ^ (o.length - 1) ≤ N) : o = dig N := by
  have h1 : (dig N).length ≤ o.length := by rw [← hv]; exact len_trim_le hL
  have h2 : o.length ≤ (dig N).length := by
    rcases h with h | h
    · omega
    · rcases Nat.lt_or_ge (dig N).length o.length with hlt | hge
      · have := dig_length_ge (n := N) (k := o.length - 1) (by omega)
        omega
      · exact hge
  have e1 := padL_eq hL rfl
  have e2 := padL_eq (lim_dig N) rfl
  rw [e1, e2, val_dig, hv]
  congr 1; omega
theorem dig_is2 {m : Nat} (h : (dig m).length = 2) : m = (dig m).getD 1 0 * 4294967296 + (dig m).getD 0 0 := by
  have e := val_dig m
  generalize dig m = l at h e
  match l, h with
  | [x, y], _ => rw [val_two] at e; simp; omega
theorem orC {a b : Nat} (hb : b < 4294967296) (hx : a < 4294967296) : binI .or .u64 (b : Nat) ((a * 4294967296 : Nat) : Int) = some (.int .u64 ((a * 4294967296 + b : Nat) : Int)) := orV (s := 32) hb (by omega)
theorem tz0 : (0 : Int).toNat = 0 := rfl
theorem tz1 : (1 : Int).toNat = 1 := rfl
theorem take_map_len {α β : Type} (f : α → β) (o : List α) : (o.map f).take o.length = o.map f := by rw [List.take_of_length_le (by simp)]
theorem map_snoc {α β : Type} (f : α → β) (o : List α) (x : α) : o.map f ++ [f x] = (o ++ [x]).map f := by simp
theorem len_snoc {α : Type} (o : List α) (x : α) : (o ++ [x]).length = o.length + 1 := by simp
theorem val_snoc (o : List Nat) (x : Nat) : val (o ++ [x]) = val o + 4294967296 ^ o.length * x := by rw [val_append]; simp [val]
theorem lim_snoc {o : List Nat} (h : Lim o) {x : Nat} (hx : x < 4294967296) : Lim (o ++ [x]) := lim_append h (fun y hy => by simp at hy; omega)
section
variable {m n c s : Nat} {o : List Nat}
theorem fadd_inv (hv : val o + 4294967296 ^ o.length * c = val ((dig m).take o.length) + val ((dig n).take o.length)) (hs : s = c + (dig m).getD o.length 0 + (dig n).getD o.length 0) :
    val (o ++ [s % 4294967296]) + 4294967296 ^ (o.length + 1) * (s / 4294967296) = val ((dig m).take (o.length + 1)) + val ((dig n).take (o.length + 1)) := by
  rw [val_snoc, val_take_succ', val_take_succ', Nat.pow_succ]
  have h1 := carry_step (4294967296 ^ o.length) s
  have h2 : 4294967296 ^ o.length * s = 4294967296 ^ o.length * c + 4294967296 ^ o.length * (dig m).getD o.length 0 + 4294967296 ^ o.length * (dig n).getD o.length 0 := by rw [hs, Nat.mul_add, Nat.mul_add]
  omega
theorem take_all {m k : Nat} (h : (dig m).length ≤ k) : val ((dig m).take k) = m := by rw [List.take_of_length_le h, val_dig]
theorem fadd_ge (hv : val o + 4294967296 ^ o.length * c = val ((dig m).take o.length) + val ((dig n).take o.length)) (hol : o.length ≤ max (dig m).length (dig n).length ∨ (o.length = max (dig m).length (dig n).length + 1 ∧ c = 0))
    (hg : o.length < max (dig m).length (dig n).length ∨ c ≠ 0) : o.length + 1 = max (dig m).length (dig n).length + 1 → 4294967296 ^ (o.length + 1 - 1) ≤ m + n := by
  intro h
  rw [take_all (by omega), take_all (by omega)] at hv
  have : 4294967296 ^ o.length * 1 ≤ 4294967296 ^ o.length * c := Nat.mul_le_mul_left _ (by omega)
  rw [Nat.add_sub_cancel]; omega
theorem len_pow {m : Nat} (h : 0 < (dig m).length) : 4294967296 ^ ((dig m).length - 1) ≤ m := by
  rcases Nat.lt_or_ge m (4294967296 ^ ((dig m).length - 1)) with h1 | h1
  · have := dig_length_le h1; omega
  · exact h1
theorem fadd_len (hc : c ≤ 1) (hol : o.length ≤ max (dig m).length (dig n).length ∨ (o.length = max (dig m).length (dig n).length + 1 ∧ c = 0)) (hg : o.length < max (dig m).length (dig n).length ∨ c ≠ 0)
    (hs : s = c + (dig m).getD o.length 0 + (dig n).getD o.length 0) : o.length + 1 ≤ max (dig m).length (dig n).length ∨ (o.length + 1 = max (dig m).length (dig n).length + 1 ∧ s / 4294967296 = 0) := by
  by_cases h : o.length < max (dig m).length (dig n).length
  · exact .inl h
  · rw [getD_ge (dig m) _ (by omega), getD_ge (dig n) _ (by omega)] at hs
    exact .inr ⟨by omega, by omega⟩
theorem fadd_end (hc : c ≤ 1) (hlo : Lim o) (hol : o.length ≤ max (dig m).length (dig n).length ∨ (o.length = max (dig m).length (dig n).length + 1 ∧ c = 0)) (hv : val o + 4294967296 ^ o.length * c = val ((dig m).take o.length) + val ((dig n).take o.length))
    (hge : o.length = max (dig m).length (dig n).length + 1 → 4294967296 ^ (o.length - 1) ≤ m + n) (hg : ¬ (o.length < max (dig m).length (dig n).length ∨ c ≠ 0)) : dig (m + n) = o := by
  rw [take_all (by omega), take_all (by omega), show c = 0 by omega] at hv
  refine (dig_of hlo (by omega) ?_).symm
  by_cases h0 : o.length = 0
  · exact .inl h0
  refine .inr ?_
  rcases hol with h | h
  · rcases Nat.le_total (dig m).length (dig n).length with hh | hh
    · have := len_pow (m := n) (by omega)
      rw [show o.length = (dig n).length by omega]; omega
    · have := len_pow (m := m) (by omega)
      rw [show o.length = (dig m).length by omega]; omega
  · exact hge h.1
end
theorem sub_invF {k br y2 br2 x : Nat} {a b o : List Nat} (hol : k < o.length) (hlo : Lim o) (hbr : br ≤ 1) (hxl : a.getD k 0 < 4294967296) (hyl : b.getD k 0 < 4294967296) (hv : val (o.take k) + val (b.take k) = val (a.take k) + 4294967296 ^ k * br) (hx : x = br + b.getD k 0)
    (h : (a.getD k 0 < x ∧ y2 = a.getD k 0 + 4294967296 ∧ br2 = 1) ∨ (x ≤ a.getD k 0 ∧ y2 = a.getD k 0 ∧ br2 = 0)) :
    x ≤ y2 ∧ br2 ≤ 1 ∧ Lim (o.set k ((y2 - x) % 4294967296)) ∧ val ((o.set k ((y2 - x) % 4294967296)).take (k + 1)) + val (b.take (k + 1)) = val (a.take (k + 1)) + 4294967296 ^ (k + 1) * br2 := by
  rcases h with ⟨h1, rfl, rfl⟩ | ⟨h1, rfl, rfl⟩
  · refine ⟨by omega, by omega, lim_set hlo _ _ (by omega), ?_⟩
    rw [show (a.getD k 0 + 4294967296 - x) % 4294967296 = 4294967296 + a.getD k 0 - x by omega]
    exact sub_inv1 hol hv hx h1 (by omega)
  · refine ⟨by omega, by omega, lim_set hlo _ _ (by omega), ?_⟩
    rw [Nat.mod_eq_of_lt (by omega : a.getD k 0 - x < 4294967296)]
    exact sub_inv0 hol hv hx h1
namespace H_c_FTrim
theorem zSm {p q : Prop} (k : q) (e : p = q := by simp only [e1, e2, e3, e4, p1, p2, p3, q1, q2, q3, l1, t0, t1, r1, r2, r3, r4, Nat.zero_add, Nat.reduceMul, Nat.reduceAdd, b1, b2, b3, b4, b5, b6, i1, i2, i3, i4, i5, i6, Nat.reduceBEq, ej, ek, dflt, List.take_zero, List.take_nil, List.nil_append, kills_map u32E, LV.kill]; exact rfl) : p := e.mpr k
end H_c_FTrim
open H_c_FTrim in
theorem c_FTrim (l : List Nat) (h : Lim l) (hl : l.length ≤ 4398046511104) : CallP Tryz.prog 167 [limL l] (magL (val l)) := by
  unfold limL magL
  rw [← trimL_dig h]
  unfold trimL
  refine fnP Tryz.func167 ?_
  have ej : True := trivial
  have ek : True := trivial
  refine zg14 ?_
  refine lp1 (fun (k : Nat) L => (((St.mk L.slot (hp [])).put (some 0) (.list 1 (l.map u32L))).put (some 3) (nI64 k))) (fun k => k ≤ l.length ∧ trimN l.length l = trimN k l) (fun k => k) l.length ⟨Nat.le_refl _, rfl⟩ ?_
  rintro k L1 ⟨hk, hkt⟩
  refine zg6 ?_
  refine op_if 8 rfl (fun h8r h8 => ?_) (fun h8r h8 => ?_)
  · obtain ⟨j, rfl⟩ : ∃ j, k = j + 1 := ⟨k - 1, by omega⟩
    have ej : (((j + 1 : Nat) : Int) - 1).toNat = j := by omega
    have ek : (((j + 1 : Nat) : Int) - 1) = j := by omega
    refine zg9 ?_
    refine wl_if rfl (fun h15r h15 => ?_) (fun h15r h15 => ?_)
    · refine zg10 ?_
      exact nx1 j ⟨by omega, hkt.trans (by simp only [trimN]; rw [if_pos (by simpa using h15)])⟩
    · refine zg10 ?_
      refine st_pure rfl (by first | exact .sliceLh (h := _) u32E rfl Tryz.underlying31 T114 rfl om | exact .sliceRh rfl Tryz.underlying31 T114 rfl om om) ?_
      refine st_store rfl (.app rfl rfl rfl rfl rfl (Nat.zero_le _) (.inr rfl) (by decide) Tryz.underlying31 Tryz.underlying31 Z114 T114 rfl B114 (.inr (.inl rfl)) (by first | (simp; done) | (simp; omega)) (by first | (simp; done) | (simp; omega)) (by decide)) ?_
      refine zg4 ?_
      rw [hkt, trimN, if_neg (show ¬ l.getD j 0 = 0 by omega)]
      exact ret1f [22] rfl rfl (imm_refm u32E rfl rfl rfl)
  · have hk0 : k = 0 := by omega
    subst hk0
    refine zg20 ?_
    refine st_pure rfl (by first | exact .sliceLh (h := _) u32E rfl Tryz.underlying31 T114 rfl om | exact .sliceRh rfl Tryz.underlying31 T114 rfl om om) ?_
    refine st_store rfl (.app rfl rfl rfl rfl rfl (Nat.zero_le _) (.inr rfl) (by decide) Tryz.underlying31 Tryz.underlying31 Z114 T114 rfl B114 (.inr (.inl rfl)) (by first | (simp; done) | (simp; omega)) (by first | (simp; done) | (simp; omega)) (by decide)) ?_
    refine zg4 ?_
    rw [hkt, show trimN 0 l = 0 from rfl]
    exact ret1f [22] rfl rfl (imm_refm u32E rfl rfl rfl)
open H0 in
theorem c_FOf (n : Nat) (hn : n < 18446744073709551616) : CallP Tryz.prog 166 [nU64 n] (magL n) := by
  have hL : Lim [n % 4294967296, n / 4294967296 % 4294967296] := by
    intro x hx; simp at hx; omega
  have hV : val [n % 4294967296, n / 4294967296 % 4294967296] = n := by rw [val_two]; omega
  refine fnP Tryz.func166 ?_
  refine zg13 ?_
  refine cpf [8] fm1 (c_FTrim _ (by first | assumption | exact lim_dig _) (by first | omega | (simp; done) | (simp; omega))) ?_
  refine zg4 ?_
  exact ret1 rfl (by rw [hV]; exact .pure (magL_pure _))
namespace H_c_Fsmall
theorem zSm {p q : Prop} (k : q) (e : p = q := by simp only [e1, e2, e3, e4, p1, p2, p3, q1, q2, q3, l1, t0, t1, r1, r2, r3, r4, Nat.zero_add, Nat.reduceMul, Nat.reduceAdd, b1, b2, b3, b4, b5, b6, i1, i2, i3, i4, i5, i6, Nat.reduceBEq, dflt, tz0, tz1]; exact rfl) : p := e.mpr k
end H_c_Fsmall
open H_c_Fsmall in
theorem c_Fsmall (m : Nat) (hl : (dig m).length ≤ 1099511627776) : CallP Tryz.prog 190 [magL m] (.tup [nU64 (if m < 18446744073709551616 then m else 0), bL (decide (m < 18446744073709551616))]) := by
  have hd0 := getD_dig_lt m 0
  have hd1 := getD_dig_lt m 1
  refine fnP Tryz.func190 ?_
  refine zg20 ?_
  refine wl_if rfl (fun h6r h6 => ?_) (fun h6r h6 => ?_)
  · have hm : m = 0 := dig_eq_nil.1 (List.eq_nil_of_length_eq_zero (by omega))
    refine zg9 ?_
    subst hm
    exact ret2 rfl (.pure rfl) rfl (.pure rfl)
  · refine zg6 ?_
    refine wl_if rfl (fun h8r h8 => ?_) (fun h8r h8 => ?_)
    · have hm := dig_is1 (n := m) (by omega)
      have hm2 := dig_len_le1.1 (show (dig m).length ≤ 1 by omega)
      refine zg13 ?_
      rw [if_pos (by omega), decide_eq_true (by omega)]
      refine ret2 (x := nU64 ((dig m).getD 0 0)) rfl ?_ rfl (.pure rfl)
      rw [hm.1]
      exact .pure rfl
    · refine zg6 ?_
      refine wl_if rfl (fun h14r h14 => ?_) (fun h14r h14 => ?_)
      · have h2v : m = (dig m).getD 1 0 * 4294967296 + (dig m).getD 0 0 := dig_is2 (by omega)
        have hm2 := dig_len_le2.1 (show (dig m).length ≤ 2 by omega)
        refine zg1 ?_
        refine wl_regD 12 (by decide +kernel) ?_
        refine zg8 ?_
        refine st_pure rfl (.sh rfl rfl (shl32 (by simp only [dflt, tz0, tz1]; omega))) ?_
        refine st_pure rfl (.bin rfl rfl (orC (by simp only [dflt, tz0, tz1]; omega) (by simp only [dflt, tz0, tz1]; omega))) ?_
        refine zg7 ?_
        rw [if_pos hm2, decide_eq_true hm2]
        refine ret2 (x := nU64 ((dig m).getD 1 0 * 4294967296 + (dig m).getD 0 0)) rfl ?_ rfl (.pure rfl)
        rw [← h2v]
        exact .pure rfl
      · have hm2 : ¬ m < 18446744073709551616 := fun h => by have := dig_len_le2.2 h; omega
        refine zg10 ?_
        rw [if_neg hm2, decide_eq_false hm2]
        exact ret2 rfl (.pure rfl) rfl (.pure rfl)
namespace H_c_FCmp
theorem zSm {p q : Prop} (k : q) (e : p = q := by simp only [e1, e2, e3, e4, p1, p2, p3, q1, q2, q3, l1, t0, t1, r1, r2, r3, r4, Nat.zero_add, Nat.reduceMul, Nat.reduceAdd, b1, b2, b3, b4, b5, b6, i1, i2, i3, i4, i5, i6, Nat.reduceBEq, dflt, ej, ek]; exact rfl) : p := e.mpr k
end H_c_FCmp
open H_c_FCmp in
theorem c_FCmp (m n : Nat) (hla : (dig m).length ≤ 1099511627776) (hlb : (dig n).length ≤ 1099511627776) : CallP Tryz.prog 91 [magL m, magL n] (iL (cmpN m n)) := by
  refine fnP Tryz.func91 ?_
  have ej : True := trivial
  have ek : True := trivial
  refine zg15 ?_
  refine wl_if rfl (fun h10r h10 => ?_) (fun h10r h10 => ?_)
  · refine zg10 ?_
    refine wl_if rfl (fun h15r h15 => ?_) (fun h15r h15 => ?_)
    · have hE := lt_of_len (m := m) (n := n) (by omega)
      refine zg8 ?_
      first | (rw [cmpN_lt hE]; exact ret1 rfl (.pure rfl)) | (rw [cmpN_gt hE]; exact ret1 rfl (.pure rfl)) | (rw [cmpN_eq hE]; exact ret1 rfl (.pure rfl))
    · have hE := lt_of_len (m := n) (n := m) (by omega)
      refine zg9 ?_
      first | (rw [cmpN_lt hE]; exact ret1 rfl (.pure rfl)) | (rw [cmpN_gt hE]; exact ret1 rfl (.pure rfl)) | (rw [cmpN_eq hE]; exact ret1 rfl (.pure rfl))
  · have hlen : (dig m).length = (dig n).length := by omega
    clear h10 h10r
    refine zg12 ?_
    refine lp1 (fun (k : Nat) L => ((((St.mk L.slot (hp [])).put (some 0) (magL m)).put (some 1) (magL n)).put (some 5) (iL ((k : Int) - 1)))) (fun k => k ≤ (dig m).length ∧ (dig m).drop k = (dig n).drop k) (fun k => k) ((dig m).length) ⟨Nat.le_refl _, by rw [List.drop_length, List.drop_of_length_le (by omega)]⟩ ?_
    rintro k L1 ⟨hk, hd⟩
    refine zg7 ?_
    refine wl_if rfl (fun h20r h20 => ?_) (fun h20r h20 => ?_)
    · obtain ⟨j, rfl⟩ : ∃ j, k = j + 1 := ⟨k - 1, by omega⟩
      have ej : (((j + 1 : Nat) : Int) - 1).toNat = j := by omega
      have ek : (((j + 1 : Nat) : Int) - 1) = j := by omega
      refine zg6 ?_
      refine wl_regD 9 (by decide +kernel) ?_
      refine zg11 ?_
      refine wl_if rfl (fun h31r h31 => ?_) (fun h31r h31 => ?_)
      · have hE := val_lt_of_limb (lim_dig m) (k := j) (by omega) (by omega) hd (by omega)
        rw [val_dig, val_dig] at hE
        refine zg12 ?_
        first | (rw [cmpN_lt hE]; exact ret1 rfl (.pure rfl)) | (rw [cmpN_gt hE]; exact ret1 rfl (.pure rfl)) | (rw [cmpN_eq hE]; exact ret1 rfl (.pure rfl))
      · refine zg3 ?_
        refine wl_regD 9 (by decide +kernel) ?_
        refine zg11 ?_
        refine wl_if rfl (fun h40r h40 => ?_) (fun h40r h40 => ?_)
        · have hE := val_lt_of_limb (lim_dig n) (k := j) (by omega) (by omega) hd.symm (by omega)
          rw [val_dig, val_dig] at hE
          refine zg11 ?_
          first | (rw [cmpN_lt hE]; exact ret1 rfl (.pure rfl)) | (rw [cmpN_gt hE]; exact ret1 rfl (.pure rfl)) | (rw [cmpN_eq hE]; exact ret1 rfl (.pure rfl))
        · refine zg9 ?_
          exact nx1 j ⟨by omega, drop_eq_of (by omega) (by omega) hd (by omega)⟩
    · obtain rfl : k = 0 := by omega
      rw [List.drop_zero, List.drop_zero] at hd
      have hE : m = n := by have := congrArg val hd; rwa [val_dig, val_dig] at this
      refine zg11 ?_
      first | (rw [cmpN_lt hE]; exact ret1 rfl (.pure rfl)) | (rw [cmpN_gt hE]; exact ret1 rfl (.pure rfl)) | (rw [cmpN_eq hE]; exact ret1 rfl (.pure rfl))
namespace H_c_FAdd
theorem zSm {p q : Prop} (k : q) (e : p = q := by simp only [e1, e2, e3, e4, p1, p2, p3, q1, q2, q3, l1, t0, t1, r1, r2, r3, r4, Nat.zero_add, Nat.reduceMul, Nat.reduceAdd, b1, b2, b3, b4, b5, b6, i1, i2, i3, i4, i5, i6, Nat.reduceBEq, dflt, List.take_zero, List.take_nil, List.nil_append, kills_map u32E, LV.kill, take_map_len, map_snoc, len_snoc, List.length_cons, List.length_nil]; exact rfl) : p := e.mpr k
end H_c_FAdd
open H_c_FAdd in
theorem c_FAdd (m n : Nat) (hla : (dig m).length ≤ 1099511627776) (hlb : (dig n).length ≤ 1099511627776) : CallP Tryz.prog 157 [magL m, magL n] (magL (m + n)) := by
  refine fnP Tryz.func157 ?_
  refine zg22 ?_
  refine wl_weak (Weak.own (t := 5) 50 1 rfl rfl) ?_
  refine lp2 (fun (o : List Nat) (c : Nat) L => ((((((St.mk L.slot (hp [(50, ⟨1, o.map u32L, true⟩)])).put (some 0) (magL m)).put (some 1) (magL n)).put (some 5) (.ref 50 1 0 o.length)).put (some 6) (nU64 c)).put (some 7) (nI64 o.length))) (fun o c => c ≤ 1 ∧ Lim o ∧ (o.length ≤ max (dig m).length (dig n).length ∨ (o.length = max (dig m).length (dig n).length + 1 ∧ c = 0)) ∧ val o + 4294967296 ^ o.length * c = val ((dig m).take o.length) + val ((dig n).take o.length) ∧ (o.length = max (dig m).length (dig n).length + 1 → 4294967296 ^ (o.length - 1) ≤ m + n)) (fun o c => max (dig m).length (dig n).length + 2 - o.length) ([]) 0 ⟨by omega, (by intro x hx; cases hx), .inl (Nat.zero_le _), by simp [val], by simp⟩ ?_
  rintro o c L1 ⟨hc, hlo, hol, hv, hge⟩
  have hxk := getD_dig_lt m o.length
  have hyk := getD_dig_lt n o.length
  refine zg2 ?_
  refine wl_cut (fun L => ∃ (t : Bool) (L1 : St), (t = decide (o.length < max (dig m).length (dig n).length ∨ c ≠ 0)) ∧ L = (((((((St.mk L1.slot (hp [(50, ⟨1, o.map u32L, true⟩)])).put (some 0) (magL m)).put (some 1) (magL n)).put (some 5) (.ref 50 1 0 o.length)).put (some 6) (nU64 c)).put (some 7) (nI64 o.length)).put (some 21) (bL t))) ?_ ?_
  · refine zg6 ?_
    refine op_if 12 rfl (fun h12r h12 => ?_) (fun h12r h12 => ?_)
    · refine zg11 ?_
      exact ⟨true, _, by symm; rw [decide_eq_true_iff]; omega, ((put_id' (put_id' (put_id' (put_id' (put_id' (put_id' (mk_id' cl) cl) cl) cl) cl) cl) cl)).symm⟩
    · refine zg6 ?_
      refine op_if 18 rfl (fun h18r h18 => ?_) (fun h18r h18 => ?_)
      · refine zg5 ?_
        exact ⟨true, _, by symm; rw [decide_eq_true_iff]; omega, ((put_id' (put_id' (put_id' (put_id' (put_id' (put_id' (mk_id' cl) cl) cl) cl) cl) cl) cl)).symm⟩
      · refine zg5 ?_
        exact ⟨((c : Int) != 0), _, by rw [Bool.eq_iff_iff, bne_iff_ne, decide_eq_true_iff]; omega, ((put_id' (put_id' (put_id' (put_id' (put_id' (put_id' (mk_id' cl) cl) cl) cl) cl) cl) cl)).symm⟩
  · rintro _ ⟨t, LR4, ht, rfl⟩
    refine zg1 ?_
    refine wl_if rfl (fun h21r h21 => ?_) (fun h21r h21 => ?_)
    · rw [ht, decide_eq_true_iff] at h21r
      have hg := h21r
      refine zg13 ?_
      refine wl_cut (fun L => ∃ (s1 : Nat) (L1 : St), (s1 = c + (dig m).getD o.length 0) ∧ L = ((((((St.mk L1.slot (hp [(50, ⟨1, o.map u32L, true⟩)])).put (some 0) (magL m)).put (some 1) (magL n)).put (some 5) (.ref 50 1 0 o.length)).put (some 6) (nU64 s1)).put (some 7) (nI64 o.length))) ?_ ?_
      · refine wl_if rfl (fun h27r h27 => ?_) (fun h27r h27 => ?_)
        · refine zg11 ?_
          exact ⟨c + (dig m).getD o.length 0, _, rfl, ((put_id' (put_id' (put_id' (put_id' (put_id' (mk_id' cl) cl) cl) cl) cl) cl)).symm⟩
        · refine zg2 ?_
          exact ⟨c, _, by rw [getD_ge (dig m) o.length (by omega)]; rfl, ((put_id' (put_id' (put_id' (put_id' (put_id' (mk_id' cl) cl) cl) cl) cl) cl)).symm⟩
      · rintro _ ⟨s1, LC27, hs1, rfl⟩
        refine zg10 ?_
        refine wl_cut (fun L => ∃ (s : Nat) (L1 : St), (s = c + (dig m).getD o.length 0 + (dig n).getD o.length 0) ∧ L = ((((((St.mk L1.slot (hp [(50, ⟨1, o.map u32L, true⟩)])).put (some 0) (magL m)).put (some 1) (magL n)).put (some 5) (.ref 50 1 0 o.length)).put (some 6) (nU64 s)).put (some 7) (nI64 o.length))) ?_ ?_
        · refine wl_if rfl (fun h38r h38 => ?_) (fun h38r h38 => ?_)
          · refine zg11 ?_
            exact ⟨s1 + (dig n).getD o.length 0, _, by rw [hs1], ((put_id' (put_id' (put_id' (put_id' (put_id' (mk_id' cl) cl) cl) cl) cl) cl)).symm⟩
          · refine zg2 ?_
            exact ⟨s1, _, by rw [hs1, getD_ge (dig n) o.length (by omega)]; rfl, ((put_id' (put_id' (put_id' (put_id' (put_id' (mk_id' cl) cl) cl) cl) cl) cl)).symm⟩
        · rintro _ ⟨s, LC38, hs, rfl⟩
          refine zg7 ?_
          refine st_store rfl (.app (news := [u32L (s % 4294967296)]) rfl rfl rfl rfl rfl (by simp) (.inl rfl) (by decide) Tryz.underlying31 Tryz.underlying31 Z114 T114 rfl B114 (.inl ⟨49, 0, _, rfl, by decide, rfl, rfl, by simp, rfl, rfl⟩) (by simp; omega) (by simp; omega) (by decide)) ?_
          refine zg3 ?_
          refine wl_regW (Weak.kill _ 49) ?_
          refine zg12 ?_
          exact nx2 (o ++ [s % 4294967296]) (s / 4294967296) ⟨by omega, lim_snoc hlo (by omega), by rw [len_snoc]; exact fadd_len hc hol hg hs, by rw [len_snoc]; exact fadd_inv hv hs, by rw [len_snoc]; exact fadd_ge hv hol hg⟩ (hm := by rw [len_snoc]; omega)
    · rw [ht, decide_eq_false_iff_not] at h21r
      have hN := fadd_end hc hlo hol hv hge h21r
      refine zg12 ?_
      skip
      exact ret1f [50] rfl rfl (by rw [show magL (m + n) = .list 1 (o.map u32L) by rw [← hN]; rfl]; exact imm_refm u32E rfl rfl rfl)
namespace H_c_Fminus
theorem zSm {p q : Prop} (k : q) (e : p = q := by simp only [e1, e2, e3, e4, p1, p2, p3, q1, q2, q3, l1, t0, t1, r1, r2, r3, r4, Nat.zero_add, Nat.reduceMul, Nat.reduceAdd, b1, b2, b3, b4, b5, b6, i1, i2, i3, i4, i5, i6, Nat.reduceBEq, dflt]; exact rfl) : p := e.mpr k
end H_c_Fminus
open H_c_Fminus in
theorem c_Fminus (m n : Nat) (hla : (dig m).length ≤ 1099511627776) (hlb : (dig n).length ≤ 1099511627776) (hle : n ≤ m) : CallP Tryz.prog 186 [magL m, magL n] (magL (m - n)) := by
  have hbl := len_dig_mono hle
  refine fnP Tryz.func186 ?_
  refine zg9 ?_
  refine st_alloc rfl rfl (.mkE (n := (dig m).length) (m := (dig m).length) ml ml om om om) ?_
  refine zg15 ?_
  refine lp3 (fun (k : Nat) (o : List Nat) (br : Nat) L => ((((((St.mk L.slot (hp [(12, ⟨1, o.map u32L, true⟩)])).put (some 0) (magL m)).put (some 1) (magL n)).put (some 5) (.ref 12 1 0 (dig m).length)).put (some 6) (nU64 br)).put (some 7) (nI64 k))) (fun k o br => k ≤ (dig m).length ∧ o.length = (dig m).length ∧ br ≤ 1 ∧ Lim o ∧ val (o.take k) + val ((dig n).take k) = val ((dig m).take k) + 4294967296 ^ k * br) (fun k o br => (dig m).length - k) 0 (List.replicate (dig m).length 0) 0 ⟨Nat.zero_le _, by simp, by omega, lim_zeros _, by simp [val]⟩ ?_
  rintro k o br L1 ⟨hk, hol, hbr, hlo, hv⟩
  have hxk := getD_dig_lt m k
  have hyk := getD_dig_lt n k
  refine zg9 ?_
  refine wl_if rfl (fun h16r h16 => ?_) (fun h16r h16 => ?_)
  · refine zg19 ?_
    refine wl_cut (fun L => ∃ (x : Nat) (L1 : St), (x = br + (dig n).getD k 0) ∧ L = (((((((St.mk L1.slot (hp [(12, ⟨1, o.map u32L, true⟩)])).put (some 0) (magL m)).put (some 1) (magL n)).put (some 5) (.ref 12 1 0 (dig m).length)).put (some 6) (nU64 br)).put (some 7) (nI64 k)).put (some 8) (nU64 x))) ?_ ?_
    · refine wl_if rfl (fun h23r h23 => ?_) (fun h23r h23 => ?_)
      · refine zg11 ?_
        exact ⟨br + (dig n).getD k 0, _, rfl, ((put_id' (put_id' (put_id' (put_id' (put_id' (put_id' (mk_id' cl) cl) cl) cl) cl) cl) cl)).symm⟩
      · refine zg2 ?_
        exact ⟨br, _, by rw [getD_ge _ k (by omega)]; rfl, ((put_id' (put_id' (put_id' (put_id' (put_id' (put_id' (mk_id' cl) cl) cl) cl) cl) cl) cl)).symm⟩
    · rintro _ ⟨x, LC23, hx, rfl⟩
      refine zg24 ?_
      refine wl_cut (fun L => ∃ (y2 : Nat) (br2 : Nat) (L1 : St), (((dig m).getD k 0 < x ∧ y2 = (dig m).getD k 0 + 4294967296 ∧ br2 = 1) ∨ (x ≤ (dig m).getD k 0 ∧ y2 = (dig m).getD k 0 ∧ br2 = 0)) ∧ L = ((((((((St.mk L1.slot (hp [(12, ⟨1, o.map u32L, true⟩)])).put (some 0) (magL m)).put (some 1) (magL n)).put (some 5) (.ref 12 1 0 (dig m).length)).put (some 6) (nU64 br2)).put (some 7) (nI64 k)).put (some 8) (nU64 x)).put (some 9) (nU64 y2))) ?_ ?_
      · refine wl_if rfl (fun h38r h38 => ?_) (fun h38r h38 => ?_)
        · refine zg11 ?_
          exact ⟨(dig m).getD k 0 + 4294967296, 1, _, .inl ⟨by omega, rfl, rfl⟩, ((put_id' (put_id' (put_id' (put_id' (put_id' (put_id' (put_id' (mk_id' cl) cl) cl) cl) cl) cl) cl) cl)).symm⟩
        · refine zg2 ?_
          exact ⟨(dig m).getD k 0, 0, _, .inr ⟨by omega, rfl, rfl⟩, ((put_id' (put_id' (put_id' (put_id' (put_id' (put_id' (put_id' (mk_id' cl) cl) cl) cl) cl) cl) cl) cl)).symm⟩
      · rintro _ ⟨y2, br2, LC38, hf, rfl⟩
        obtain ⟨hf1, hf2, hf3, hf4⟩ := sub_invF (by omega) hlo hbr hxk hyk hv hx hf
        refine zg19 ?_
        exact nx3 (k + 1) (o.set k ((y2 - x) % 4294967296)) br2 ⟨by omega, by simp [hol], hf2, hf3, hf4⟩
  · obtain rfl : k = (dig m).length := by omega
    refine zg8 ?_
    refine cpf [12] fm1 (c_FTrim _ (by first | assumption | exact lim_dig _) (by first | omega | (simp; done) | (simp; omega))) ?_
    refine zg4 ?_
    have e := sub_end (lim_dig m) hlo hol hbl (by rw [val_dig, val_dig]; exact hle) hv
    rw [trimL_dig hlo, val_dig, val_dig] at e
    have e2 := congrArg val e
    rw [val_dig, val_dig] at e2
    rw [← e2]
    exact ret1 rfl (by first | exact .pure rfl | exact .pure (limL_pure _) | exact .pure (magL_pure _) | exact .pure (ratE.pure _) | exact .pure (pure_lst u32E _ _) | exact .pure (pure_lst ratE _ _))
open H0 in
theorem c_FSub (m n : Nat) (hla : (dig m).length ≤ 1099511627776) (hlb : (dig n).length ≤ 1099511627776) : CallP Tryz.prog 158 [magL m, magL n] (.tup [limL (subL m n), iL (subE m n)]) := by
  refine fnP Tryz.func158 ?_
  refine zg11 ?_
  refine cp am2 (c_FCmp _ _ (by omega) (by omega)) ?_
  refine zg3 ?_
  refine wl_if rfl (fun h9r h9 => ?_) (fun h9r h9 => ?_)
  · have hlt : m < n := by unfold cmpN at h9; split at h9; assumption; split at h9 <;> omega
    refine zg8 ?_
    rw [subL, if_pos hlt, subE, if_pos hlt]
    exact ret2 rfl (.nil 1) rfl (.pure rfl)
  · have hle : n ≤ m := by
      rcases Nat.lt_or_ge m n with h | h
      · rw [cmpN_lt h] at h9; omega
      · exact h
    refine zg6 ?_
    refine cp am2 (c_Fminus _ _ (by omega) (by omega) (by omega)) ?_
    refine zg5 ?_
    rw [subL_le hle, subE_0.2 hle]
    exact ret2 rfl (.pure (magL_pure _)) rfl (.pure rfl)
end Go.Proofs.YthhdcfhaldcheaaGreat
