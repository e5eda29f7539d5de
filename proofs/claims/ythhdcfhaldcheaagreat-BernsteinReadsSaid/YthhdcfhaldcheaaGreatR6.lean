/- Valid numbers, texts of small ones. -/
import Derived.Test.YthhdcfhaldcheaaGreatM1
set_option linter.unusedVariables false
set_option linter.unusedSimpArgs false
set_option maxHeartbeats 8000000
set_option maxRecDepth 100000
attribute [local irreducible] Go.Lg.opsL Go.Lg.wpL Go.Lg.thenL Go.Lg.blockL
namespace Go.Proofs.YthhdcfhaldcheaaGreat
open Go.Lg
theorem denN_ne1 (q : Rat) : denN q ≠ 1 := by rw [denN_eq]; split <;> omega
theorem c_NValidD (n : Nat) (h : (dig n).length ≤ 4611686018427387904) : CallP Tryz.prog 174 [magL n] (bL true) := by
  have := c_NValid (dig n) h
  rwa [decide_eq_true] at this
  by_cases h0 : (dig n).length = 0
  · exact .inl h0
  · exact .inr (can_getLast (can_dig n) (by omega))
theorem gcd1 {q : Rat} (h : 0 < (dig (denN q)).length) : Nat.gcd q.num.natAbs (denN q) = 1 := by
  rw [denN_pos h]; exact q.reduced
theorem gcd1d (q : Rat) : Nat.gcd q.num.natAbs q.den = 1 := q.reduced
theorem blen1 : blen 1 = 1 := rfl
def u8L (n : Nat) : LV := .v (.int .u8 (n : Nat))
theorem u8E : EncOK u8L 1 false := ⟨fun _ => rfl, fun _ => rfl, fun _ => rfl⟩
end Go.Proofs.YthhdcfhaldcheaaGreat
namespace Go.Lg
open Go.Proofs.YthhdcfhaldcheaaGreat in
theorem OpP.cv8 {P : Program} {H : Heap} {ρ : Operand → LV} {S T : TypeId} {x : Operand} {d : TypeDesc} {k' : IntKind} {n : Nat} (hS : P.underlying S = some d) (hD : P.underlying T = some (.int .u8)) (hx : ρ x = .v (.int k' (n : Nat))) (h : n < 256) :
    OpP P H ρ (.convert S T x) (u8L n) := by
  have := OpP.conv (H := H) hS hD hx
  rwa [IntKind.wrap_u8, show ((n : Nat) : Int) % 256 = (n : Int) by omega] at this
end Go.Lg
namespace Go.Proofs.YthhdcfhaldcheaaGreat
open Go.Lg
theorem rem32 {a b : Nat} (h : 0 < b) : binI .rem .u32 (a : Nat) (b : Nat) = some (.int .u32 ((a % b : Nat) : Int)) := by
  have e : ((a : Int)).tmod b = ((a % b : Nat) : Int) := by rw [Int.tmod_eq_emod_of_nonneg (by omega)]; simp
  simp [binI, e]; omega
theorem quo32 {a b : Nat} (h : 0 < b) (h1 : a < 4294967296) : binI .quo .u32 (a : Nat) (b : Nat) = some (.int .u32 ((a / b : Nat) : Int)) := by
  have e : ((a : Int)).tdiv b = ((a / b : Nat) : Int) := by rw [Int.tdiv_eq_ediv_of_nonneg (by omega)]; simp
  have := Nat.div_le_self a b
  simp only [binI, if_neg (show ¬ ((b : Nat) : Int) = 0 by omega), e]
  rw [IntKind.wrap_u32]
  generalize a / b = x at *
  congr 2; omega
theorem m10 {m : Nat} (h : m < 10) : (48 + m % 10) % 4294967296 = 48 + m := by
  rw [Nat.mod_eq_of_lt h, Nat.mod_eq_of_lt (Nat.lt_of_lt_of_le (Nat.add_lt_add_left h 48) (by decide))]
namespace H_c_RValid
theorem zSm {p q : Prop} (k : q) (e : p = q := by simp only [e1, e2, e3, e4, p1, p2, p3, q1, q2, q3, l1, t0, t1, r1, r2, r3, r4, Nat.zero_add, Nat.reduceMul, Nat.reduceAdd, b1, b2, b3, b4, b5, b6, i1, i2, i3, i4, i5, i6, Nat.reduceBEq, val_dig, dflt, tz0]; exact rfl) : p := e.mpr k
end H_c_RValid
open H_c_RValid in
theorem c_RValid (q : Rat) (h : rl q ≤ 1099511627776) : CallP Tryz.prog 142 [ratL q] (bL true) := by
  have a1 := rl_num q
  have a2 := rl_den q
  have a3 := rl_denN q
  have hne := denN_ne1 q
  refine fnP Tryz.func142 ?_
  refine zg11 ?_
  refine cp am1 (c_NValidD _ (by omega)) ?_
  refine zg4 ?_
  refine cp am1 (c_NValidD _ (by omega)) ?_
  refine zg8 ?_
  refine op_if 18 rfl (fun h18r h18 => ?_) (fun h18r h18 => ?_)
  · refine zg9 ?_
    refine wl_if rfl (fun h25r h25 => ?_) (fun h25r h25 => ?_)
    · exfalso
      have := (dig_is1 (n := denN q) (by omega)).1
      omega
    · refine zg11 ?_
      refine wl_if rfl (fun h29r h29 => ?_) (fun h29r h29 => ?_)
      · refine zg6 ?_
        refine op_if 33 rfl (fun h33r h33 => ?_) (fun h33r h33 => ?_)
        · have hz := num0 (q := q) (by omega)
          subst hz
          refine zg10 ?_
          exact ret1 rfl (by first | exact .pure rfl | exact .pure (limL_pure _) | exact .pure (magL_pure _) | exact .pure (ratE.pure _) | exact .pure (pure_lst u32E _ _) | exact .pure (pure_lst ratE _ _))
        · exfalso
          have hz := num0 (q := q) (by omega)
          subst hz
          revert h33r
          decide
      · refine zg9 ?_
        refine op_if 43 rfl (fun h43r h43 => ?_) (fun h43r h43 => ?_)
        · refine zg5 ?_
          first | simp only [val_dig, hg1] | skip
          refine zg7 ?_
          exact ret1 rfl (by first | exact .pure rfl | exact .pure (limL_pure _) | exact .pure (magL_pure _) | exact .pure (ratE.pure _) | exact .pure (pure_lst u32E _ _) | exact .pure (pure_lst ratE _ _))
        · have hg1 := gcd1 (q := q) (by omega)
          refine zg4 ?_
          refine cp am2 (c_NGcd _ _ (lim_dig _) (lim_dig _) (by omega) (by omega)) ?_
          first | simp only [val_dig, hg1] | skip
          refine cp am1 (c_NBits (dig 1) (lim_dig _) (by decide)) ?_
          refine zg6 ?_
          exact ret1 rfl (by first | exact .pure rfl | exact .pure (limL_pure _) | exact .pure (magL_pure _) | exact .pure (ratE.pure _) | exact .pure (pure_lst u32E _ _) | exact .pure (pure_lst ratE _ _))
  · refine zg21 ?_
    refine wl_if rfl (fun h29r h29 => ?_) (fun h29r h29 => ?_)
    · refine zg6 ?_
      refine op_if 33 rfl (fun h33r h33 => ?_) (fun h33r h33 => ?_)
      · have hz := num0 (q := q) (by omega)
        subst hz
        refine zg10 ?_
        exact ret1 rfl (by first | exact .pure rfl | exact .pure (limL_pure _) | exact .pure (magL_pure _) | exact .pure (ratE.pure _) | exact .pure (pure_lst u32E _ _) | exact .pure (pure_lst ratE _ _))
      · exfalso
        have hz := num0 (q := q) (by omega)
        subst hz
        revert h33r
        decide
    · refine zg9 ?_
      refine op_if 43 rfl (fun h43r h43 => ?_) (fun h43r h43 => ?_)
      · refine zg5 ?_
        first | simp only [val_dig, hg1] | skip
        refine zg7 ?_
        exact ret1 rfl (by first | exact .pure rfl | exact .pure (limL_pure _) | exact .pure (magL_pure _) | exact .pure (ratE.pure _) | exact .pure (pure_lst u32E _ _) | exact .pure (pure_lst ratE _ _))
      · have hg1 := gcd1 (q := q) (by omega)
        refine zg4 ?_
        refine cp am2 (c_NGcd _ _ (lim_dig _) (lim_dig _) (by omega) (by omega)) ?_
        first | simp only [val_dig, hg1] | skip
        refine cp am1 (c_NBits (dig 1) (lim_dig _) (by decide)) ?_
        refine zg6 ?_
        exact ret1 rfl (by first | exact .pure rfl | exact .pure (limL_pure _) | exact .pure (magL_pure _) | exact .pure (ratE.pure _) | exact .pure (pure_lst u32E _ _) | exact .pure (pure_lst ratE _ _))
namespace H_c_FText1
theorem zSm {p q : Prop} (k : q) (e : p = q := by simp only [e1, e2, e3, e4, p1, p2, p3, q1, q2, q3, l1, t0, t1, r1, r2, r3, r4, Nat.zero_add, Nat.reduceMul, Nat.reduceAdd, b1, b2, b3, b4, b5, b6, i1, i2, i3, i4, i5, i6, Nat.reduceBEq, val_dig, dflt, tz0, hdv, hmd, m10 h10, hm100, take_map_len, map_snoc, len_snoc, List.length_cons, List.length_nil, List.nil_append, kills_map u8E, LV.kill, ei0, List.map_cons, List.map_nil, List.length_map]; exact rfl) : p := e.mpr k
end H_c_FText1
open H_c_FText1 in
theorem c_FText1 (m : Nat) (h0 : 0 < m) (h10 : m < 10) : CallP Tryz.prog 143 [magL m] (.v (.string ⟨#[UInt8.ofNat (48 + m)]⟩)) := by
  have hd := dig_small h0 (by omega : m < 4294967296)
  have hl : (dig m).length = 1 := by rw [hd]; rfl
  have hdv : m / 1000000000 = 0 := by omega
  have hmd : m % 1000000000 = m := by omega
  have hm100 : m / 10 = 0 := by omega
  refine fnP Tryz.func143 ?_
  have ei0 : True := trivial
  refine zg13 ?_
  refine wl_if rfl (fun h11r h11 => ?_) (fun h11r h11 => ?_)
  · omega
  · refine zg9 ?_
    refine wl_weak (Weak.own (t := 3) 39 1 rfl rfl) ?_
    refine lp2 (fun (a : Nat) (o : List Nat) L => (((St.mk L.slot (hp [(39, ⟨1, o.map u8L, true⟩)])).put (some 0) (magL a)).put (some 3) (.ref 39 1 0 o.length))) (fun a o => (m = a ∧ o = []) ∨ (a = 0 ∧ o = [48 + m])) (fun a o => a) m ([]) (.inl ⟨rfl, rfl⟩) ?_
    rintro a o L1 hao
    refine zg8 ?_
    refine wl_if rfl (fun h14r h14 => ?_) (fun h14r h14 => ?_)
    · have hao2 : m = a ∧ o = [] := by
        rcases hao with h | h
        · exact h
        · rw [h.1] at h14; exact absurd h14 (by decide)
      obtain ⟨rfl, rfl⟩ := hao2
      refine zg6 ?_
      refine cp am2 (c_FbyLimb m 1000000000 (by omega) (by omega) (by omega)) ?_
      refine zg14 ?_
      refine lp3 (fun (i r : Nat) (o2 : List Nat) L => ((((((St.mk L.slot (hp [(39, ⟨1, o2.map u8L, true⟩)])).put (some 0) (magL m)).put (some 3) (.ref 39 1 0 o2.length)).put (some 4) (magL 0)).put (some 5) (nU32 r)).put (some 6) (nI64 i))) (fun i r o2 => (i = 0 ∧ m = r ∧ o2 = []) ∨ (i = 1 ∧ r = 0 ∧ o2 = [48 + m])) (fun i r o2 => r) 0 m ([]) (.inl ⟨rfl, rfl, rfl⟩) ?_
      rintro i r o2 L2 hio
      refine zg2 ?_
      refine wl_cut (fun L => ∃ (t : Bool) (L1 : St), (t = decide (0 < r)) ∧ L = (((((((St.mk L1.slot (hp [(39, ⟨1, o2.map u8L, true⟩)])).put (some 0) (magL m)).put (some 3) (.ref 39 1 0 o2.length)).put (some 4) (magL 0)).put (some 5) (nU32 r)).put (some 6) (nI64 i)).put (some 30) (bL t))) ?_ ?_
      · refine zg4 ?_
        refine op_if 22 rfl (fun h22r h22 => ?_) (fun h22r h22 => ?_)
        · refine zg3 ?_
          refine op_if 25 rfl (fun h25r h25 => ?_) (fun h25r h25 => ?_)
          · refine zg7 ?_
            exact ⟨true, _, by symm; rw [decide_eq_true_iff]; omega, ((put_id' (put_id' (put_id' (put_id' (put_id' (put_id' (mk_id' cl) cl) cl) cl) cl) cl) cl)).symm⟩
          · refine zg7 ?_
            exact ⟨false, _, by symm; rw [decide_eq_false_iff_not]; omega, ((put_id' (put_id' (put_id' (put_id' (put_id' (put_id' (mk_id' cl) cl) cl) cl) cl) cl) cl)).symm⟩
        · exfalso
          omega
      · rintro _ ⟨t, LR7, ht, rfl⟩
        refine zg1 ?_
        refine wl_if rfl (fun h30r h30 => ?_) (fun h30r h30 => ?_)
        · rw [ht, decide_eq_true_iff] at h30r
          have hio2 : i = 0 ∧ m = r ∧ o2 = [] := by
            rcases hio with h | h
            · exact h
            · omega
          obtain ⟨rfl, rfl, rfl⟩ := hio2
          refine zg8 ?_
          refine st_pure rfl (.bin rfl rfl (rem32 (b := 10) (by decide))) ?_
          refine st_pure rfl (.bin rfl rfl (addU32)) ?_
          refine st_pure rfl (.cv8 (n := 48 + m) Tryz.underlying114 Tryz.underlying5 (by simp only [e1, p1, p2, Nat.reduceBEq, m10 h10]; rfl) (by omega)) ?_
          refine st_alloc rfl rfl (.lit1 u8E Tryz.underlying137 Z5 T5 rfl (by decide) (by decide)) ?_
          refine st_store rfl (.app (news := [u8L (48 + m)]) rfl rfl rfl rfl rfl (by simp) (.inl rfl) (by decide) Tryz.underlying137 Tryz.underlying137 Z5 T5 rfl B5 (.inl ⟨38, 0, _, rfl, by decide, rfl, rfl, by simp, rfl, rfl⟩) (by simp) (by simp) (by decide)) ?_
          refine zg5 ?_
          refine st_pure rfl (.bin rfl rfl (quo32 (b := 10) (by decide) (by omega))) ?_
          refine zg4 ?_
          refine wl_regW (Weak.kill _ 38) ?_
          refine zg5 ?_
          exact nx3 1 0 ([48 + m]) (.inr ⟨rfl, rfl, rfl⟩) (hm := h0)
        · rw [ht, decide_eq_false_iff_not] at h30r
          have hio2 : i = 1 ∧ r = 0 ∧ o2 = [48 + m] := by
            rcases hio with h | h
            · omega
            · exact h
          obtain ⟨rfl, rfl, rfl⟩ := hio2
          refine zg11 ?_
          exact nx2 0 ([48 + m]) (.inr ⟨rfl, rfl⟩) (hm := h0)
    · have hao2 : a = 0 ∧ o = [48 + m] := by
        rcases hao with h | h
        · rw [← h.1] at h14; omega
        · exact h
      obtain ⟨rfl, rfl⟩ := hao2
      refine zg9 ?_
      refine st_alloc rfl rfl (.makeM (n := 1) (m := 1) u8E Tryz.underlying137 Z5 T5 B5 ml ml om om om) ?_
      refine zg10 ?_
      refine lp2 (fun (i : Nat) (w : List Nat) L => ((((St.mk L.slot (hp [(39, ⟨1, [48 + m].map u8L, true⟩), (45, ⟨1, w.map u8L, true⟩)])).put (some 3) (.ref 39 1 0 1)).put (some 7) (.ref 45 1 0 1)).put (some 8) (nI64 i))) (fun i w => (i = 0 ∧ w = [0]) ∨ (i = 1 ∧ w = [48 + m])) (fun i w => 1 - i) 0 ([0]) (.inl ⟨rfl, rfl⟩) ?_
      rintro i w L3 hiw
      refine zg9 ?_
      refine wl_if rfl (fun h49r h49 => ?_) (fun h49r h49 => ?_)
      · have hiw2 : i = 0 ∧ w = [0] := by
          rcases hiw with h | h
          · exact h
          · omega
        obtain ⟨rfl, rfl⟩ := hiw2
        have ei0 : ((1 : Int) - 1 - 0).toNat = 0 := rfl
        refine zg13 ?_
        refine st_pure rfl ix137 ?_
        refine st_pure rfl ld5 ?_
        refine st_pure rfl ix137 ?_
        refine st_store rfl (by exact .storeM u8E rfl rfl rfl T5 om) ?_
        refine zg9 ?_
        exact nx2 1 ([48 + m]) (.inr ⟨rfl, rfl⟩)
      · have hiw2 : i = 1 ∧ w = [48 + m] := by
          rcases hiw with h | h
          · omega
          · exact h
        obtain ⟨rfl, rfl⟩ := hiw2
        refine zg8 ?_
        refine st_pure rfl (.strR (ns := [48 + m]) Tryz.underlying137 Tryz.underlying5 Tryz.underlying9 rfl rfl rfl rfl (by simp)) ?_
        refine zg4 ?_
        exact ret1 rfl (.pure rfl)
namespace H_c_FText
theorem zSm {p q : Prop} (k : q) (e : p = q := by simp only [e1, e2, e3, e4, p1, p2, p3, q1, q2, q3, l1, t0, t1, r1, r2, r3, r4, Nat.zero_add, Nat.reduceMul, Nat.reduceAdd, b1, b2, b3, b4, b5, b6, i1, i2, i3, i4, i5, i6, Nat.reduceBEq, edd]; exact rfl) : p := e.mpr k
end H_c_FText
open H_c_FText in
theorem c_FText (q : Rat) (h0 : 0 < q) (hn : q.num.natAbs < 10) (hd : q.den < 10) : CallP Tryz.prog 87 [ratL q] (.v (.string (if q.den = 1 then ⟨#[UInt8.ofNat (48 + q.num.natAbs)]⟩ else ⟨#[UInt8.ofNat (48 + q.num.natAbs), 47, UInt8.ofNat (48 + q.den)]⟩))) := by
  have hq0 : 0 < q.num.natAbs := by have := pos_iff.1 h0; omega
  have hnn : ¬ q < 0 := by grind
  have hdp := q.den_pos
  refine fnP Tryz.func87 ?_
  have edd : True := trivial
  refine zg10 ?_
  refine cp am1 (c_FText1 _ (by omega) (by omega)) ?_
  refine zg10 ?_
  refine wl_if rfl (fun h8r h8 => ?_) (fun h8r h8 => ?_)
  · exact absurd h8 hnn
  · refine zg11 ?_
    refine wl_if rfl (fun h14r h14 => ?_) (fun h14r h14 => ?_)
    · have edd := denN_pos (q := q) (by omega)
      have hd1 : q.den ≠ 1 := fun e => by have := denN_eq q; rw [if_pos e] at this; omega
      refine zg4 ?_
      simp only [edd]
      refine cp am1 (c_FText1 _ (by omega) (by omega)) ?_
      refine st_pure rfl (.addS rfl rfl (Nat.le_of_ble_eq_true rfl)) ?_
      refine st_pure rfl (.addS rfl rfl (Nat.le_of_ble_eq_true rfl)) ?_
      refine zg10 ?_
      rw [if_neg hd1]
      exact ret1 rfl (.pure rfl)
    · have hd1 := denN_zero (q := q) (by omega)
      refine zg9 ?_
      rw [if_pos hd1]
      exact ret1 rfl (.pure rfl)
end Go.Proofs.YthhdcfhaldcheaaGreat
