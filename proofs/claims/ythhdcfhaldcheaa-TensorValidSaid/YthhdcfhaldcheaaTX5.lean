/- Texts R6, B2, L1, C1, C2, D1, T1, T3, T4, T5, X1, X2 of this proof, joined. -/
import Derived.Test.YthhdcfhaldcheaaTX4
set_option linter.unusedVariables false
set_option linter.unusedSimpArgs false
section
set_option linter.unusedVariables false
set_option linter.unusedSimpArgs false
set_option maxHeartbeats 8000000
set_option maxRecDepth 100000
attribute [local irreducible] Go.Lg.opsL Go.Lg.wpL Go.Lg.thenL Go.Lg.blockL
namespace Go.Proofs.Ythhdcfhaldcheaa
open Go.Lg
theorem denN_ne1 (q : Rat) : denN q ≠ 1 := by rw [denN_eq]; split <;> omega
theorem c_NValidD (n : Nat) (h : (dig n).length ≤ 4611686018427387904) : CallP Try.prog 95 [magL n] (bL true) := by
  have := c_NValid (dig n) h
  rwa [decide_eq_true] at this
  by_cases h0 : (dig n).length = 0
  · exact .inl h0
  · exact .inr (can_getLast (can_dig n) (by omega))
theorem c_FValidD (n : Nat) (h : (dig n).length ≤ 4611686018427387904) : CallP Try.prog 128 [magL n] (bL true) := by
  have := c_FValid (dig n) h
  rwa [decide_eq_true] at this
  by_cases h0 : (dig n).length = 0
  · exact .inl h0
  · exact .inr (can_getLast (can_dig n) (by omega))
theorem gcd1 {q : Rat} (h : 0 < (dig (denN q)).length) : Nat.gcd q.num.natAbs (denN q) = 1 := by
  rw [denN_pos h]; exact q.reduced
theorem gcd1d (q : Rat) : Nat.gcd q.num.natAbs q.den = 1 := q.reduced
def u8L (n : Nat) : LV := .v (.int .u8 (n : Nat))
theorem u8E : EncOK u8L 1 false := ⟨fun _ => rfl, fun _ => rfl, fun _ => rfl⟩
end Go.Proofs.Ythhdcfhaldcheaa
namespace Go.Lg
open Go.Proofs.Ythhdcfhaldcheaa in
theorem OpP.cv8 {P : Program} {H : Heap} {ρ : Operand → LV} {S T : TypeId} {x : Operand} {d : TypeDesc} {k' : IntKind} {n : Nat} (hS : P.underlying S = some d) (hD : P.underlying T = some (.int .u8)) (hx : ρ x = .v (.int k' (n : Nat))) (h : n < 256) :
    OpP P H ρ (.convert S T x) (u8L n) := by
  have := OpP.conv (H := H) hS hD hx
  rwa [IntKind.wrap_u8, show ((n : Nat) : Int) % 256 = (n : Int) by omega] at this
end Go.Lg
namespace Go.Proofs.Ythhdcfhaldcheaa
open Go.Lg
theorem rem32 {a b : Nat} (h : 0 < b) : binI .rem .u32 (a : Nat) (b : Nat) = some (.int .u32 ((a % b : Nat) : Int)) := by
  have e : ((a : Int)).tmod b = ((a % b : Nat) : Int) := by rw [Int.tmod_eq_emod_of_nonneg (by omega)]; simp
  simp [binI, e]; omega
theorem quo32 {a b : Nat} (h : 0 < b) (h1 : a < 4294967296) : binI .quo .u32 (a : Nat) (b : Nat) = some (.int .u32 ((a / b : Nat) : Int)) := by
  have e : ((a : Int)).tdiv b = ((a / b : Nat) : Int) := by rw [Int.tdiv_eq_ediv_of_nonneg (by omega)]; simp
  have := Nat.div_le_self a b
  simp only [binI, if_neg (show ¬ ((b : Nat) : Int) = 0 by omega), e]
  rw [IntKind.wrap_u32]
  generalize a / b = x at *
  congr 2; omega
theorem m10 {m : Nat} (h : m < 10) : (48 + m % 10) % 4294967296 = 48 + m := by
  rw [Nat.mod_eq_of_lt h, Nat.mod_eq_of_lt (Nat.lt_of_lt_of_le (Nat.add_lt_add_left h 48) (by decide))]
namespace H_c_RValid
theorem zSm {p q : Prop} (k : q) (e : p = q := by simp only [e1, e2, e3, e4, p1, p2, p3, q1, q2, q3, l1, t0, t1, r1, r2, r3, r4, Nat.zero_add, Nat.reduceMul, Nat.reduceAdd, b1, b2, b3, b4, b5, b6, i1, i2, i3, i4, i5, i6, Nat.reduceBEq, val_dig, dflt, tz0]; exact rfl) : p := e.mpr k
end H_c_RValid
open H_c_RValid in
theorem c_RValid (q : Rat) (h : rl q ≤ 1099511627776) : CallP Try.prog 56 [ratL q] (bL true) := by
  have a1 := rl_num q
  have a2 := rl_den q
  have a3 := rl_denN q
  have hne := denN_ne1 q
  refine fnP Try.func56 ?_
  refine zg11 ?_
  refine cp am1 (c_NValidD _ (by omega)) ?_
  refine zg4 ?_
  refine cp am1 (c_NValidD _ (by omega)) ?_
  refine zg8 ?_
  refine op_if 18 rfl (fun h18r h18 => ?_) (fun h18r h18 => ?_)
  · refine zg9 ?_
    refine wl_if rfl (fun h25r h25 => ?_) (fun h25r h25 => ?_)
    · exfalso
      have := (dig_is1 (n := denN q) (by omega)).1
      omega
    · refine zg11 ?_
      refine wl_if rfl (fun h29r h29 => ?_) (fun h29r h29 => ?_)
      · refine zg6 ?_
        refine op_if 33 rfl (fun h33r h33 => ?_) (fun h33r h33 => ?_)
        · have hz := num0 (q := q) (by omega)
          subst hz
          refine zg10 ?_
          exact ret1 rfl (by first | exact .pure rfl | exact .pure (limL_pure _) | exact .pure (magL_pure _) | exact .pure (ratE.pure _) | exact .pure (pure_lst u32E _ _) | exact .pure (pure_lst ratE _ _))
        · exfalso
          have hz := num0 (q := q) (by omega)
          subst hz
          revert h33r
          decide
      · refine zg9 ?_
        refine op_if 43 rfl (fun h43r h43 => ?_) (fun h43r h43 => ?_)
        · refine zg5 ?_
          first | simp only [val_dig, hg1] | skip
          refine zg7 ?_
          exact ret1 rfl (by first | exact .pure rfl | exact .pure (limL_pure _) | exact .pure (magL_pure _) | exact .pure (ratE.pure _) | exact .pure (pure_lst u32E _ _) | exact .pure (pure_lst ratE _ _))
        · have hg1 := gcd1 (q := q) (by omega)
          refine zg4 ?_
          refine cp am2 (c_NGcd _ _ (lim_dig _) (lim_dig _) (by omega) (by omega)) ?_
          first | simp only [val_dig, hg1] | skip
          refine cp am1 (c_NBits (dig 1) (lim_dig _) (by decide)) ?_
          refine zg6 ?_
          exact ret1 rfl (by first | exact .pure rfl | exact .pure (limL_pure _) | exact .pure (magL_pure _) | exact .pure (ratE.pure _) | exact .pure (pure_lst u32E _ _) | exact .pure (pure_lst ratE _ _))
  · refine zg21 ?_
    refine wl_if rfl (fun h29r h29 => ?_) (fun h29r h29 => ?_)
    · refine zg6 ?_
      refine op_if 33 rfl (fun h33r h33 => ?_) (fun h33r h33 => ?_)
      · have hz := num0 (q := q) (by omega)
        subst hz
        refine zg10 ?_
        exact ret1 rfl (by first | exact .pure rfl | exact .pure (limL_pure _) | exact .pure (magL_pure _) | exact .pure (ratE.pure _) | exact .pure (pure_lst u32E _ _) | exact .pure (pure_lst ratE _ _))
      · exfalso
        have hz := num0 (q := q) (by omega)
        subst hz
        revert h33r
        decide
    · refine zg9 ?_
      refine op_if 43 rfl (fun h43r h43 => ?_) (fun h43r h43 => ?_)
      · refine zg5 ?_
        first | simp only [val_dig, hg1] | skip
        refine zg7 ?_
        exact ret1 rfl (by first | exact .pure rfl | exact .pure (limL_pure _) | exact .pure (magL_pure _) | exact .pure (ratE.pure _) | exact .pure (pure_lst u32E _ _) | exact .pure (pure_lst ratE _ _))
      · have hg1 := gcd1 (q := q) (by omega)
        refine zg4 ?_
        refine cp am2 (c_NGcd _ _ (lim_dig _) (lim_dig _) (by omega) (by omega)) ?_
        first | simp only [val_dig, hg1] | skip
        refine cp am1 (c_NBits (dig 1) (lim_dig _) (by decide)) ?_
        refine zg6 ?_
        exact ret1 rfl (by first | exact .pure rfl | exact .pure (limL_pure _) | exact .pure (magL_pure _) | exact .pure (ratE.pure _) | exact .pure (pure_lst u32E _ _) | exact .pure (pure_lst ratE _ _))
namespace H_c_FText1
theorem zSm {p q : Prop} (k : q) (e : p = q := by simp only [e1, e2, e3, e4, p1, p2, p3, q1, q2, q3, l1, t0, t1, r1, r2, r3, r4, Nat.zero_add, Nat.reduceMul, Nat.reduceAdd, b1, b2, b3, b4, b5, b6, i1, i2, i3, i4, i5, i6, Nat.reduceBEq, val_dig, dflt, tz0, hdv, hmd, m10 h10, hm100, take_map_len, map_snoc, len_snoc, List.length_cons, List.length_nil, List.nil_append, kills_map u8E, LV.kill, ei0, List.map_cons, List.map_nil, List.length_map]; exact rfl) : p := e.mpr k
end H_c_FText1
open H_c_FText1 in
theorem c_FText1 (m : Nat) (h0 : 0 < m) (h10 : m < 10) : CallP Try.prog 93 [magL m] (.v (.string ⟨#[UInt8.ofNat (48 + m)]⟩)) := by
  have hd := dig_small h0 (by omega : m < 4294967296)
  have hl : (dig m).length = 1 := by rw [hd]; rfl
  have hdv : m / 1000000000 = 0 := by omega
  have hmd : m % 1000000000 = m := by omega
  have hm100 : m / 10 = 0 := by omega
  refine fnP Try.func93 ?_
  have ei0 : True := trivial
  refine zg13 ?_
  refine wl_if rfl (fun h11r h11 => ?_) (fun h11r h11 => ?_)
  · omega
  · refine zg9 ?_
    refine wl_weak (Weak.own (t := 3) 39 1 rfl rfl) ?_
    refine lp2 (fun (a : Nat) (o : List Nat) L => (((St.mk L.slot (hp [(39, ⟨1, o.map u8L, true⟩)])).put (some 0) (magL a)).put (some 3) (.ref 39 1 0 o.length))) (fun a o => (m = a ∧ o = []) ∨ (a = 0 ∧ o = [48 + m])) (fun a o => a) m ([]) (.inl ⟨rfl, rfl⟩) ?_
    rintro a o L1 hao
    refine zg8 ?_
    refine wl_if rfl (fun h14r h14 => ?_) (fun h14r h14 => ?_)
    · have hao2 : m = a ∧ o = [] := by
        rcases hao with h | h
        · exact h
        · rw [h.1] at h14; exact absurd h14 (by decide)
      obtain ⟨rfl, rfl⟩ := hao2
      refine zg6 ?_
      refine cp am2 (c_FbyLimb m 1000000000 (by omega) (by omega) (by omega)) ?_
      refine zg14 ?_
      refine lp3 (fun (i r : Nat) (o2 : List Nat) L => ((((((St.mk L.slot (hp [(39, ⟨1, o2.map u8L, true⟩)])).put (some 0) (magL m)).put (some 3) (.ref 39 1 0 o2.length)).put (some 4) (magL 0)).put (some 5) (nU32 r)).put (some 6) (nI64 i))) (fun i r o2 => (i = 0 ∧ m = r ∧ o2 = []) ∨ (i = 1 ∧ r = 0 ∧ o2 = [48 + m])) (fun i r o2 => r) 0 m ([]) (.inl ⟨rfl, rfl, rfl⟩) ?_
      rintro i r o2 L2 hio
      refine zg2 ?_
      refine wl_cut (fun L => ∃ (t : Bool) (L1 : St), (t = decide (0 < r)) ∧ L = (((((((St.mk L1.slot (hp [(39, ⟨1, o2.map u8L, true⟩)])).put (some 0) (magL m)).put (some 3) (.ref 39 1 0 o2.length)).put (some 4) (magL 0)).put (some 5) (nU32 r)).put (some 6) (nI64 i)).put (some 30) (bL t))) ?_ ?_
      · refine zg4 ?_
        refine op_if 22 rfl (fun h22r h22 => ?_) (fun h22r h22 => ?_)
        · refine zg3 ?_
          refine op_if 25 rfl (fun h25r h25 => ?_) (fun h25r h25 => ?_)
          · refine zg7 ?_
            exact ⟨true, _, by symm; rw [decide_eq_true_iff]; omega, ((put_id' (put_id' (put_id' (put_id' (put_id' (put_id' (mk_id' cl) cl) cl) cl) cl) cl) cl)).symm⟩
          · refine zg7 ?_
            exact ⟨false, _, by symm; rw [decide_eq_false_iff_not]; omega, ((put_id' (put_id' (put_id' (put_id' (put_id' (put_id' (mk_id' cl) cl) cl) cl) cl) cl) cl)).symm⟩
        · exfalso
          omega
      · rintro _ ⟨t, LR7, ht, rfl⟩
        refine zg1 ?_
        refine wl_if rfl (fun h30r h30 => ?_) (fun h30r h30 => ?_)
        · rw [ht, decide_eq_true_iff] at h30r
          have hio2 : i = 0 ∧ m = r ∧ o2 = [] := by
            rcases hio with h | h
            · exact h
            · omega
          obtain ⟨rfl, rfl, rfl⟩ := hio2
          refine zg8 ?_
          refine st_pure rfl (.bin rfl rfl (rem32 (b := 10) (by decide))) ?_
          refine st_pure rfl (.bin rfl rfl (addU32)) ?_
          refine st_pure rfl (.cv8 (n := 48 + m) Try.underlying31 Try.underlying5 (by simp only [e1, p1, p2, Nat.reduceBEq, m10 h10]; rfl) (by omega)) ?_
          refine st_alloc rfl rfl (.lit1 u8E Try.underlying126 Z5 T5 rfl (by decide) (by decide)) ?_
          refine st_store rfl (.app (news := [u8L (48 + m)]) rfl rfl rfl rfl rfl (by simp) (.inl rfl) (by decide) Try.underlying126 Try.underlying126 Z5 T5 rfl B5 (.inl ⟨38, 0, _, rfl, by decide, rfl, rfl, by simp, rfl, rfl⟩) (by simp) (by simp) (by decide)) ?_
          refine zg5 ?_
          refine st_pure rfl (.bin rfl rfl (quo32 (b := 10) (by decide) (by omega))) ?_
          refine zg4 ?_
          refine wl_regW (Weak.kill _ 38) ?_
          refine zg5 ?_
          exact nx3 1 0 ([48 + m]) (.inr ⟨rfl, rfl, rfl⟩) (hm := h0)
        · rw [ht, decide_eq_false_iff_not] at h30r
          have hio2 : i = 1 ∧ r = 0 ∧ o2 = [48 + m] := by
            rcases hio with h | h
            · omega
            · exact h
          obtain ⟨rfl, rfl, rfl⟩ := hio2
          refine zg11 ?_
          exact nx2 0 ([48 + m]) (.inr ⟨rfl, rfl⟩) (hm := h0)
    · have hao2 : a = 0 ∧ o = [48 + m] := by
        rcases hao with h | h
        · rw [← h.1] at h14; omega
        · exact h
      obtain ⟨rfl, rfl⟩ := hao2
      refine zg9 ?_
      refine st_alloc rfl rfl (.makeM (n := 1) (m := 1) u8E Try.underlying126 Z5 T5 B5 ml ml om om om) ?_
      refine zg10 ?_
      refine lp2 (fun (i : Nat) (w : List Nat) L => ((((St.mk L.slot (hp [(39, ⟨1, [48 + m].map u8L, true⟩), (45, ⟨1, w.map u8L, true⟩)])).put (some 3) (.ref 39 1 0 1)).put (some 7) (.ref 45 1 0 1)).put (some 8) (nI64 i))) (fun i w => (i = 0 ∧ w = [0]) ∨ (i = 1 ∧ w = [48 + m])) (fun i w => 1 - i) 0 ([0]) (.inl ⟨rfl, rfl⟩) ?_
      rintro i w L3 hiw
      refine zg9 ?_
      refine wl_if rfl (fun h49r h49 => ?_) (fun h49r h49 => ?_)
      · have hiw2 : i = 0 ∧ w = [0] := by
          rcases hiw with h | h
          · exact h
          · omega
        obtain ⟨rfl, rfl⟩ := hiw2
        have ei0 : ((1 : Int) - 1 - 0).toNat = 0 := rfl
        refine zg13 ?_
        refine st_pure rfl ix126 ?_
        refine st_pure rfl ld5 ?_
        refine st_pure rfl ix126 ?_
        refine st_store rfl (by exact .storeM u8E rfl rfl rfl T5 om) ?_
        refine zg9 ?_
        exact nx2 1 ([48 + m]) (.inr ⟨rfl, rfl⟩)
      · have hiw2 : i = 1 ∧ w = [48 + m] := by
          rcases hiw with h | h
          · omega
          · exact h
        obtain ⟨rfl, rfl⟩ := hiw2
        refine zg8 ?_
        refine st_pure rfl (.strR (ns := [48 + m]) Try.underlying126 Try.underlying5 Try.underlying9 rfl rfl rfl rfl (by simp)) ?_
        refine zg4 ?_
        exact ret1 rfl (.pure rfl)
namespace H_c_FText
theorem zSm {p q : Prop} (k : q) (e : p = q := by simp only [e1, e2, e3, e4, p1, p2, p3, q1, q2, q3, l1, t0, t1, r1, r2, r3, r4, Nat.zero_add, Nat.reduceMul, Nat.reduceAdd, b1, b2, b3, b4, b5, b6, i1, i2, i3, i4, i5, i6, Nat.reduceBEq, edd]; exact rfl) : p := e.mpr k
end H_c_FText
open H_c_FText in
theorem c_FText (q : Rat) (h0 : 0 < q) (hn : q.num.natAbs < 10) (hd : q.den < 10) : CallP Try.prog 52 [ratL q] (.v (.string (if q.den = 1 then ⟨#[UInt8.ofNat (48 + q.num.natAbs)]⟩ else ⟨#[UInt8.ofNat (48 + q.num.natAbs), 47, UInt8.ofNat (48 + q.den)]⟩))) := by
  have hq0 : 0 < q.num.natAbs := by have := pos_iff.1 h0; omega
  have hnn : ¬ q < 0 := by grind
  have hdp := q.den_pos
  refine fnP Try.func52 ?_
  have edd : True := trivial
  refine zg10 ?_
  refine cp am1 (c_FText1 _ (by omega) (by omega)) ?_
  refine zg10 ?_
  refine wl_if rfl (fun h8r h8 => ?_) (fun h8r h8 => ?_)
  · exact absurd h8 hnn
  · refine zg11 ?_
    refine wl_if rfl (fun h14r h14 => ?_) (fun h14r h14 => ?_)
    · have edd := denN_pos (q := q) (by omega)
      have hd1 : q.den ≠ 1 := fun e => by have := denN_eq q; rw [if_pos e] at this; omega
      refine zg4 ?_
      simp only [edd]
      refine cp am1 (c_FText1 _ (by omega) (by omega)) ?_
      refine st_pure rfl (.addS rfl rfl (Nat.le_of_ble_eq_true rfl)) ?_
      refine st_pure rfl (.addS rfl rfl (Nat.le_of_ble_eq_true rfl)) ?_
      refine zg10 ?_
      rw [if_neg hd1]
      exact ret1 rfl (.pure rfl)
    · have hd1 := denN_zero (q := q) (by omega)
      refine zg9 ?_
      rw [if_pos hd1]
      exact ret1 rfl (.pure rfl)
end Go.Proofs.Ythhdcfhaldcheaa
end
section
set_option linter.unusedVariables false
set_option linter.unusedSimpArgs false
set_option maxHeartbeats 8000000
set_option maxRecDepth 100000
attribute [local irreducible] Go.Lg.opsL Go.Lg.wpL Go.Lg.thenL Go.Lg.blockL
namespace Go.Proofs.Ythhdcfhaldcheaa
open Go.Lg
/-- the sizes that a halving takes -/
def HS (p : List Rat) (t : Rat) : Prop := ∃ cc, rl (1 - t) + rl t + 1 ≤ cc ∧ cc ≤ 1073741824 ∧ ∀ x ∈ p, (rl x + cc) * 2 ^ p.length ≤ 1073741824
theorem c_halvesH (p : List Rat) (t : Rat) (h : HS p t) : CallP Try.prog 58 [.list 3 (p.map ratL), ratL t] (.tup [.list 3 ((loP p t).map ratL), .list 3 ((hiP p t).map ratL)]) := by
  obtain ⟨cc, h1, h2, h3⟩ := h
  exact c_halves p t cc h1 h2 h3
theorem HS.len {p : List Rat} {t : Rat} (h : HS p t) : p.length ≤ 30 := by
  obtain ⟨cc, h1, h2, h3⟩ := h
  exact sz_len (Nat.le_trans (Nat.le_add_left 1 _) h1) h3
theorem HS.rl {p : List Rat} {t : Rat} (h : HS p t) : rl t ≤ 1073741824 ∧ ∀ x ∈ p, Go.Lg.rl x ≤ 1073741824 := by
  obtain ⟨cc, h1, h2, h3⟩ := h
  exact ⟨by omega, fun x hx => by have := sz_rl (h3 x hx); omega⟩
def evP (p : List Rat) (t : Rat) : Rat := (loP p t).getD (p.length - 1) 0
namespace H_c_BEval
theorem zSm {p q : Prop} (k : q) (e : p = q := by simp only [e1, e2, e3, e4, p1, p2, p3, q1, q2, q3, l1, t0, t1, r1, r2, r3, r4, Nat.zero_add, Nat.reduceMul, Nat.reduceAdd, b1, b2, b3, b4, b5, b6, i1, i2, i3, i4, i5, i6, Nat.reduceBEq, dfq, ej, hll]; exact rfl) : p := e.mpr k
end H_c_BEval
open H_c_BEval in
theorem c_BEval (p : List Rat) (t : Rat) (h : HS p t) (hp0 : 0 < p.length) : CallP Try.prog 22 [.list 3 (p.map ratL), ratL t] (ratL (evP p t)) := by
  have hll := loP_len p t
  have hlen := h.len
  have hj : (((p.length : Nat) : Int) - 1).toNat = p.length - 1 := by omega
  refine fnP Try.func22 ?_
  have ej : True := trivial
  refine zg14 ?_
  refine wl_if rfl (fun h9r h9 => ?_) (fun h9r h9 => ?_)
  · omega
  · refine zg6 ?_
    refine cp am2 (c_halvesH _ _ (by assumption)) ?_
    refine zg12 ?_
    refine st_pure rfl (.bin rfl rfl (sub1N (by omega) (by omega))) ?_
    refine zg6 ?_
    rw [evP]
    exact retC [] rfl rfl rfl (ratE.csize _) (ratL_all _) T34 (.pure (ratE.pure _))
end Go.Proofs.Ythhdcfhaldcheaa
end
section
set_option linter.unusedVariables false
set_option linter.unusedSimpArgs false
set_option maxHeartbeats 8000000
set_option maxRecDepth 100000
attribute [local irreducible] Go.Lg.opsL Go.Lg.wpL Go.Lg.thenL Go.Lg.blockL
namespace Go.Proofs.Ythhdcfhaldcheaa
open Go.Lg
end Go.Proofs.Ythhdcfhaldcheaa
namespace Go.Lg
end Go.Lg
namespace Go.Proofs.Ythhdcfhaldcheaa
open Go.Lg
theorem half_eq : (((1 : Int) : Rat) / ((2 : Int) : Rat)) = 1 / 2 := rfl
theorem c_tx14 : CallP Try.prog 52 [ratL (1 / 4)] (.v (.string ⟨#[49, 47, 52]⟩)) := by
  have := c_FText (1 / 4) (by decide +kernel) (by decide +kernel) (by decide +kernel)
  rw [show (1 / 4 : Rat).den = 4 by decide +kernel, show (1 / 4 : Rat).num.natAbs = 1 by decide +kernel] at this
  exact this
theorem tz2 : (2 : Int).toNat = 2 := rfl
end Go.Proofs.Ythhdcfhaldcheaa
end
section
set_option linter.unusedVariables false
set_option linter.unusedSimpArgs false
set_option maxHeartbeats 8000000
set_option maxRecDepth 100000
attribute [local irreducible] Go.Lg.opsL Go.Lg.wpL Go.Lg.thenL Go.Lg.blockL
namespace Go.Proofs.Ythhdcfhaldcheaa
open Go.Lg
theorem set_takeR {o p : List Rat} {k : Nat} {v : Rat} (hk : k < p.length) (hol : o.length = p.length) (ht : o.take k = p.take k) (hv : v = p.getD k 0) : (o.set k v).take (k + 1) = p.take (k + 1) := by subst hv; exact cp_take hk hol ht
theorem getD_rl {o : List Rat} {S : Nat} (h1 : 1 ≤ S) (h : ∀ x ∈ o, rl x ≤ S) (k : Nat) : rl (o.getD k 0) ≤ S := by
  rcases Nat.lt_or_ge k o.length with hk | hk
  · exact h _ (getD_mem hk)
  · rw [List.getD_eq_getElem?_getD, List.getElem?_eq_none hk]; show rl 0 ≤ S; rw [show rl 0 = 1 from rfl]; exact h1
end Go.Proofs.Ythhdcfhaldcheaa
end
section
set_option linter.unusedVariables false
set_option linter.unusedSimpArgs false
set_option maxHeartbeats 8000000
set_option maxRecDepth 100000
attribute [local irreducible] Go.Lg.opsL Go.Lg.wpL Go.Lg.thenL Go.Lg.blockL
namespace Go.Proofs.Ythhdcfhaldcheaa
open Go.Lg
theorem add64N {a b : Nat} (h : a + b ≤ 9223372036854775807) : binI .add .i64 (a : Nat) (b : Nat) = some (.int .i64 ((a + b : Nat) : Int)) := by
  rw [add64 (by omega) (by omega)]; congr 2
theorem add1N {a : Nat} (h : a + 1 ≤ 9223372036854775807) : binI .add .i64 (a : Nat) 1 = some (.int .i64 ((a + 1 : Nat) : Int)) := by
  rw [add64 (by omega) (by omega)]; congr 2
end Go.Proofs.Ythhdcfhaldcheaa
end
section
set_option linter.unusedVariables false
set_option linter.unusedSimpArgs false
set_option maxHeartbeats 8000000
set_option maxRecDepth 100000
attribute [local irreducible] Go.Lg.opsL Go.Lg.wpL Go.Lg.thenL Go.Lg.blockL
namespace Go.Proofs.Ythhdcfhaldcheaa
open Go.Lg
def difP (p : List Rat) : List Rat := if p.length < 2 then [0] else (List.range (p.length - 1)).map fun i => (((p.length - 1 : Nat) : Int) : Rat) * (p.getD (i + 1) 0 - p.getD i 0)
theorem difP_len {p : List Rat} : (difP p).length = if p.length < 2 then 1 else p.length - 1 := by unfold difP; split <;> simp
theorem difP_get {p : List Rat} {i : Nat} (h : i + 1 < p.length) : (difP p).getD i 0 = (((p.length - 1 : Nat) : Int) : Rat) * (p.getD (i + 1) 0 - p.getD i 0) := by
  unfold difP
  rw [if_neg (by omega), List.getD_eq_getElem?_getD, List.getElem?_eq_getElem (by simp; omega)]; simp
theorem difP_rl {p : List Rat} {R : Nat} (hR : 1 ≤ R) (hl : p.length ≤ 1000) (h : ∀ x ∈ p, rl x ≤ R) : ∀ x ∈ difP p, rl x ≤ 2 * R + 4 := by
  intro x hx
  obtain ⟨k, hk, rfl⟩ := mem_getD hx
  rw [difP_len] at hk
  by_cases h2 : p.length < 2
  · rw [if_pos h2] at hk
    have : difP p = [0] := by unfold difP; rw [if_pos h2]
    rw [this]
    obtain rfl : k = 0 := by omega
    show rl 0 ≤ _
    rw [show rl 0 = 1 from rfl]; omega
  · rw [if_neg h2] at hk
    rw [difP_get (by omega)]
    have h3 := rl_int (n := ((p.length - 1 : Nat) : Int)) (by omega)
    have h4 := h _ (getD_mem (i := k) (by omega))
    have h5 := h _ (getD_mem (i := k + 1) (by omega))
    have h6 := rl_sub (p.getD (k + 1) 0) (p.getD k 0)
    have h7 := rl_mul (((p.length - 1 : Nat) : Int) : Rat) (p.getD (k + 1) 0 - p.getD k 0)
    omega
namespace H_c_Diff
theorem zSm {p q : Prop} (k : q) (e : p = q := by simp only [e1, e2, e3, e4, p1, p2, p3, q1, q2, q3, l1, t0, t1, r1, r2, r3, r4, Nat.zero_add, Nat.reduceMul, Nat.reduceAdd, b1, b2, b3, b4, b5, b6, i1, i2, i3, i4, i5, i6, Nat.reduceBEq, dfq, List.length_set, kills_map ratE, ratL_kill, spL_kill, LV.kill, kills]; exact rfl) : p := e.mpr k
end H_c_Diff
open H_c_Diff in
theorem c_Diff (p : List Rat) (hl : p.length ≤ 1000) (hpr : ∀ x ∈ p, rl x ≤ 1073741824) : CallP Try.prog 45 [.list 3 (p.map ratL)] (.list 3 ((difP p).map ratL)) := by
  refine fnP Try.func45 ?_
  refine zg13 ?_
  refine wl_if rfl (fun h8r h8 => ?_) (fun h8r h8 => ?_)
  · have hE : difP p = [0] := by unfold difP; rw [if_pos (by omega)]
    refine zg2 ?_
    refine st_pure rfl (.build0 SL34 Z34a) ?_
    refine zg6 ?_
    rw [hE]
    exact ret1f [10] rfl rfl (imm_refm ratE rfl rfl rfl)
  · have hdl : (difP p).length = p.length - 1 := by rw [difP_len, if_neg (by omega)]
    refine zg6 ?_
    refine st_pure rfl (.bin rfl rfl (sub1N (by omega) (by omega))) ?_
    refine cp am1 (c_RInt ((p.length - 1 : Nat) : Int) (by omega) (by omega)) ?_
    refine zg8 ?_
    refine st_pure rfl (.bin rfl rfl (sub1N (by omega) (by omega))) ?_
    refine st_alloc rfl rfl (.mkE (n := (p.length - 1)) (m := (p.length - 1)) ml ml om om om) ?_
    refine zg12 ?_
    refine lp2 (fun (i : Nat) (w : List Rat) L => (((((((St.mk L.slot (hp [(3, ⟨3, [ratL (((p.length - 1 : Nat) : Int) : Rat)], true⟩), (18, ⟨3, w.map ratL, true⟩)])).put (some 0) (.list 3 (p.map ratL))).put (some 3) (.eptr 3 3 0 0)).put (some 4) (.ref 18 3 0 (p.length - 1))).put (some 19) (.ref 18 3 0 (p.length - 1))).put (some 20) (nI64 (p.length - 1))).put (some 21) (nI64 i))) (fun i w => i ≤ p.length - 1 ∧ w.length = p.length - 1 ∧ w.take i = (difP p).take i) (fun i w => p.length - 1 - i) 0 (List.replicate (p.length - 1) 0) ⟨Nat.zero_le _, by simp, rfl⟩ ?_
    rintro i w L1 ⟨hi, hwl, hwt⟩
    refine zg6 ?_
    refine wl_if rfl (fun h22r h22 => ?_) (fun h22r h22 => ?_)
    · have hi2 : i < p.length - 1 := by omega
      have hr1 := hpr _ (getD_mem (i := i) (by omega))
      have hr2 := hpr _ (getD_mem (i := i + 1) (by omega))
      have hr3 := rl_sub (p.getD (i + 1) 0) (p.getD i 0)
      have hr4 := rl_int (n := ((p.length - 1 : Nat) : Int)) (by omega)
      refine zg10 ?_
      refine wl_regD 15 (by decide +kernel) ?_
      refine zg5 ?_
      refine st_pure rfl (.bin rfl rfl (add1N (by omega))) ?_
      refine zg6 ?_
      refine cp am2 (c_RSub (p.getD (i + 1) 0) (p.getD i 0) (by omega)) ?_
      refine cp am2 (c_RMul (((p.length - 1 : Nat) : Int) : Rat) (p.getD (i + 1) 0 - p.getD i 0) (by omega)) ?_
      refine zg10 ?_
      exact nx2 (i + 1) (w.set i ((((p.length - 1 : Nat) : Int) : Rat) * (p.getD (i + 1) 0 - p.getD i 0))) ⟨by omega, by simp [hwl], set_takeR (by omega) (by omega) hwt (difP_get (by omega)).symm⟩
    · obtain rfl : i = p.length - 1 := by omega
      have hE : w = difP p := by
        rw [List.take_of_length_le (by omega), List.take_of_length_le (by omega)] at hwt
        exact hwt
      subst hE
      refine zg12 ?_
      exact ret1f [18] rfl rfl (imm_refm ratE rfl rfl hdl.symm)
end Go.Proofs.Ythhdcfhaldcheaa
end
section
set_option linter.unusedVariables false
set_option linter.unusedSimpArgs false
set_option maxHeartbeats 8000000
set_option maxRecDepth 100000
attribute [local irreducible] Go.Lg.opsL Go.Lg.wpL Go.Lg.thenL Go.Lg.blockL
namespace Go.Proofs.Ythhdcfhaldcheaa
open Go.Lg
end Go.Proofs.Ythhdcfhaldcheaa
namespace Go.Lg
/-- a block of one value, told in another way -/
theorem Weak.cell {L : St} (b : Nat) {sz : Nat} {x y : LV} {mt : Bool} (hb : L.heap b = some ⟨sz, [x], mt⟩) (h : ∀ Z μ w cs, Rep Z μ w x cs → Rep Z μ w y cs) : Weak L (L.setB b (some ⟨sz, [y], mt⟩)) := by
  rintro n W X Z0 a w ⟨hdf, hsz, μ, Z, hc, hr⟩
  refine ⟨hdf, hsz, μ, Z, ?_, hr⟩
  have hs : ∀ c, (L.setB b (some ⟨sz, [y], mt⟩)).heap c = if c = b then some ⟨sz, [y], mt⟩ else L.heap c := fun c => rfl
  refine ⟨hc.keep, hc.zone, hc.zsup, hc.zsub, hc.inj, hc.own, hc.x0, hc.xlt, hc.x1, fun c id blk g1 g2 => ?_, fun c id blk g1 g2 => ?_, fun c id g1 => ?_⟩
  · rw [hs] at g2
    split at g2
    · rename_i e; subst e; cases g2; exact hc.mutz c id ⟨sz, [x], mt⟩ g1 hb
    · exact hc.mutz c id blk g1 g2
  · rw [hs] at g2
    split at g2
    · rename_i e; subst e; cases g2; exact hc.frz c id ⟨sz, [x], mt⟩ g1 hb
    · exact hc.frz c id blk g1 g2
  · obtain ⟨blk, k1, k2⟩ := hc.heap c id g1
    rw [hs]
    by_cases e : c = b
    · subst e
      rw [if_pos rfl]
      rw [hb] at k1
      cases k1
      refine ⟨_, rfl, ?_⟩
      obtain ⟨cs, T, part, rest, e1, e2, e3⟩ := k2
      refine ⟨cs, T, part, rest, e1, e2, ?_⟩
      simp only [RepAll] at e3 ⊢
      obtain ⟨c1, c2, q1, q2, q3, q4⟩ := e3
      exact ⟨c1, c2, q1, q2, h _ _ _ _ q3, q4⟩
    · rw [if_neg e]; exact ⟨blk, k1, k2⟩
/-- an empty block that nothing stands for -/
theorem Weak.newB (L : St) (d sz : Nat) (hd : L.heap d = none) : Weak L (L.setB d (some ⟨sz, [], true⟩)) := by
  rintro n W X Z0 a w ⟨hdf, hsz, μ, Z, hc, hr⟩
  refine ⟨hdf, hsz, μ, Z, ?_, hr⟩
  refine hc.reheap fun c id hcd => ?_
  have : c ≠ d := by rintro rfl; rw [mu_none hc hd] at hcd; cases hcd
  simp [St.setB, this]
theorem rep_net (d sz : Nat) (x y : LV) (Z : Nat → Prop) (μ : Nat → Option Nat) (w : World) (cs : List Value) (h : Rep Z μ w (.agg [x, y, .v (.slice none 0 0)]) cs) : Rep Z μ w (.agg [x, y, .ref d sz 0 0]) cs := by
  simp only [Rep, RepFs] at h ⊢
  obtain ⟨c1, c2, e1, e2, e3, c3, c4, e4, e5, e6, c5, c6, e7, e8, e9, e10⟩ := h
  exact ⟨c1, c2, e1, e2, e3, c3, c4, e4, e5, e6, c5, c6, e7, e8, .inl ⟨e9.1, trivial⟩, e10⟩
end Go.Lg
namespace Go.Proofs.Ythhdcfhaldcheaa
open Go.Lg
theorem net_pure (u v : Int) (c : List Rat) : LV.pure (.agg [iL u, iL v, .list 3 (c.map ratL)]) = true := by simp [LV.pure, pures, pures_map ratE]
theorem net_pureN (u v : Nat) (c : List Rat) : LV.pure (.agg [nI64 u, nI64 v, .list 3 (c.map ratL)]) = true := net_pure u v c
theorem mulE {a b n : Nat} (h : a * b = n) (hn : n ≤ 9223372036854775807) : binI .mul .i64 (a : Nat) (b : Nat) = some (.int .i64 (n : Nat)) := by
  rw [mul64 (by rw [← Int.natCast_mul, h]; omega) (by rw [← Int.natCast_mul, h]; omega), ← Int.natCast_mul, h]
def gL (n : Nat) (W : Nat → Rat) : List Rat := (List.range n).map W
theorem gL_len (n : Nat) (W : Nat → Rat) : (gL n W).length = n := by simp [gL]
theorem gL_succ (n : Nat) (W : Nat → Rat) : gL (n + 1) W = gL n W ++ [W n] := by simp [gL, List.range_succ]
theorem take_gL (n : Nat) (W : Nat → Rat) (f : Rat → LV) : ((gL n W).map f).take n = (gL n W).map f := by rw [List.take_of_length_le (by simp [gL_len])]
theorem ix_div {V i j : Nat} (h : j ≤ V) : (i * (V + 1) + j) / (V + 1) = i := by
  rw [Nat.add_comm, Nat.add_mul_div_right _ _ (Nat.succ_pos V), Nat.div_eq_of_lt (by omega), Nat.zero_add]
theorem ix_mod {V i j : Nat} (h : j ≤ V) : (i * (V + 1) + j) % (V + 1) = j := by
  rw [Nat.add_comm, Nat.add_mul_mod_self_right, Nat.mod_eq_of_lt (by omega)]
theorem ix_lt {U V i j : Nat} (hi : i ≤ U) (hj : j ≤ V) : i * (V + 1) + j < (U + 1) * (V + 1) := by
  have := Nat.mul_le_mul_right (V + 1) (show i + 1 ≤ U + 1 by omega)
  rw [Nat.succ_mul] at this
  omega
def swV (U V : Nat) (c : List Rat) (x : Nat) : Rat := c.getD (x % (U + 1) * (V + 1) + x / (U + 1)) 0
def swL (U V : Nat) (c : List Rat) : List Rat := gL ((V + 1) * (U + 1)) (swV U V c)
section
variable (V1 V2 W U2 : Nat) (x y : List Rat) (i j k : Nat)
def mL : Nat → List Rat → List Rat
  | 0, o => o
  | l + 1, o => (mL l o).set ((i + k) * (W + 1) + j + l) ((mL l o).getD ((i + k) * (W + 1) + j + l) 0 + x.getD (i * (V1 + 1) + j) 0 * y.getD (k * (V2 + 1) + l) 0)
def mK : Nat → List Rat → List Rat
  | 0, o => o
  | k + 1, o => mL V1 V2 W x y i j k (V2 + 1) (mK k o)
def mJ : Nat → List Rat → List Rat
  | 0, o => o
  | j + 1, o => mK V1 V2 W x y i j (U2 + 1) (mJ j o)
def mI : Nat → List Rat → List Rat
  | 0, o => o
  | i + 1, o => mJ V1 V2 W U2 x y i (V1 + 1) (mI i o)
end
open H0 in
theorem c_shaped (U V : Nat) (c : List Rat) (hc : c.length = (U + 1) * (V + 1)) (hl : c.length ≤ 1048576) : CallP Try.prog 78 [.agg [nI64 U, nI64 V, .list 3 (c.map ratL)]] (bL true) := by
  have hU : U + 1 ≤ c.length := by rw [hc]; exact Nat.le_mul_of_pos_right _ (Nat.succ_pos V)
  have hV : V + 1 ≤ c.length := by rw [hc]; exact Nat.le_mul_of_pos_left _ (Nat.succ_pos U)
  have hnp := net_pureN U V c
  refine fnP Try.func78 ?_
  refine zg12 ?_
  refine st_pure (guardX (v := true) rfl rfl ((decide_eq_true (by omega))) rfl) fa27 ?_
  refine st_pure (guardX (v := true) rfl rfl ((decide_eq_true (by omega))) rfl) ld3 ?_
  refine st_pure (guardX (v := true) rfl rfl ((decide_eq_true (by omega))) rfl) (.bin rfl rfl rfl) ?_
  refine st_pure rfl (.pickT rfl ((decide_eq_true (by omega)))) ?_
  refine zg1 ?_
  refine st_pure (guardX (v := true) rfl rfl ((decide_eq_true (by omega))) rfl) fa27 ?_
  refine st_pure (guardX (v := true) rfl rfl ((decide_eq_true (by omega))) rfl) ld3 ?_
  refine st_pure (guardX (v := true) rfl rfl ((decide_eq_true (by omega))) rfl) fa27 ?_
  refine st_pure (guardX (v := true) rfl rfl ((decide_eq_true (by omega))) rfl) ld25 ?_
  refine st_pure (guardX (v := true) rfl rfl ((decide_eq_true (by omega))) rfl) ln25 ?_
  refine st_pure (guardX (v := true) rfl rfl ((decide_eq_true (by omega))) rfl) (.bin rfl rfl rfl) ?_
  refine st_pure rfl (.pickT rfl ((decide_eq_true (by omega)))) ?_
  refine zg1 ?_
  refine st_pure (guardX (v := true) rfl rfl ((decide_eq_true (by omega))) rfl) fa27 ?_
  refine st_pure (guardX (v := true) rfl rfl ((decide_eq_true (by omega))) rfl) ld3 ?_
  refine st_pure (guardX (v := true) rfl rfl ((decide_eq_true (by omega))) rfl) fa27 ?_
  refine st_pure (guardX (v := true) rfl rfl ((decide_eq_true (by omega))) rfl) ld25 ?_
  refine st_pure (guardX (v := true) rfl rfl ((decide_eq_true (by omega))) rfl) ln25 ?_
  refine st_pure (guardX (v := true) rfl rfl ((decide_eq_true (by omega))) rfl) (.bin rfl rfl rfl) ?_
  refine st_pure rfl (.pickT rfl ((decide_eq_true (by omega)))) ?_
  refine zg1 ?_
  refine st_pure (guardX (v := true) rfl rfl ((decide_eq_true (by omega))) rfl) fa27 ?_
  refine st_pure (guardX (v := true) rfl rfl ((decide_eq_true (by omega))) rfl) ld25 ?_
  refine st_pure (guardX (v := true) rfl rfl ((decide_eq_true (by omega))) rfl) ln25 ?_
  refine st_pure (guardX (v := true) rfl rfl ((decide_eq_true (by omega))) rfl) fa27 ?_
  refine st_pure (guardX (v := true) rfl rfl ((decide_eq_true (by omega))) rfl) ld3 ?_
  refine st_pure (guardX (v := true) rfl rfl ((decide_eq_true (by omega))) rfl) (.bin rfl rfl (add1N (by omega))) ?_
  refine st_pure (guardX (v := true) rfl rfl ((decide_eq_true (by omega))) rfl) fa27 ?_
  refine st_pure (guardX (v := true) rfl rfl ((decide_eq_true (by omega))) rfl) ld3 ?_
  refine st_pure (guardX (v := true) rfl rfl ((decide_eq_true (by omega))) rfl) (.bin rfl rfl (add1N (by omega))) ?_
  refine st_pure (guardX (v := true) rfl rfl ((decide_eq_true (by omega))) rfl) (.bin rfl rfl (mulE hc.symm (by omega))) ?_
  refine st_pure (guardX (v := true) rfl rfl ((decide_eq_true (by omega))) rfl) (.bin rfl rfl rfl) ?_
  refine st_pure rfl (.pickT rfl ((decide_eq_true (by omega)))) ?_
  refine zg4 ?_
  refine ret1 (x := .v (.bool (((c.length : Nat) : Int) == ((c.length : Nat) : Int)))) rfl ?_
  rw [beq_self_eq_true]
  exact .pure rfl
namespace H_c_Swap
theorem zSm {p q : Prop} (k : q) (e : p = q := by simp only [e1, e2, e3, e4, p1, p2, p3, q1, q2, q3, l1, t0, t1, r1, r2, r3, r4, Nat.zero_add, Nat.reduceMul, Nat.reduceAdd, b1, b2, b3, b4, b5, b6, i1, i2, i3, i4, i5, i6, Nat.reduceBEq, dfq, esw, Rat.add_zero, Nat.add_zero, take_gL, take_map_len, map_snoc, len_snoc, List.length_cons, List.length_nil, kills_map i64E, kills_map ratE, ratL_kill, spL_kill, LV.kill, kills]; exact rfl) : p := e.mpr k
end H_c_Swap
open H_c_Swap in
theorem c_Swap (U V : Nat) (c : List Rat) (hc : c.length = (U + 1) * (V + 1)) (hl : c.length ≤ 1048576) (hcR : ∀ x ∈ c, rl x ≤ 274877906944) : CallP Try.prog 38 [.agg [nI64 U, nI64 V, .list 3 (c.map ratL)]] (.agg [nI64 V, nI64 U, .list 3 ((swL U V c).map ratL)]) := by
  have hU : U + 1 ≤ c.length := by rw [hc]; exact Nat.le_mul_of_pos_right _ (Nat.succ_pos V)
  have hV : V + 1 ≤ c.length := by rw [hc]; exact Nat.le_mul_of_pos_left _ (Nat.succ_pos U)
  have hnp := net_pureN U V c
  refine fnP Try.func38 (ht := (fun g => LV.ren_pure g _ (net_pureN _ _ _))) ?_
  have esw : True := trivial
  refine zg21 ?_
  refine cp am1 (c_shaped U V c hc hl) ?_
  refine zg11 ?_
  refine st_pure rfl (.bin rfl rfl (add1N (by omega))) ?_
  refine zg4 ?_
  refine wl_weak ((Weak.cell 3 rfl (fun Z μ w cs h => rep_net 43 3 _ _ Z μ w cs h)).trans (Weak.newB _ 43 3 rfl)) ?_
  refine lp2 (fun (j m : Nat) L => ((((((St.mk L.slot (hp [(1, ⟨3, [.agg [nI64 U, nI64 V, .list 3 (c.map ratL)]], true⟩), (2, ⟨3, [.agg [.v (.int .i64 0), .v (.int .i64 0), .v (.slice none 0 0)]], true⟩), (3, ⟨3, [.agg [nI64 V, nI64 U, .ref 43 3 0 m]], true⟩), (43, ⟨3, (gL m (swV U V c)).map ratL, true⟩)])).put (some 1) (.eptr 1 3 0 0)).put (some 2) (.eptr 2 3 0 0)).put (some 3) (.eptr 3 3 0 0)).put (some 17) (nI64 (V + 1))).put (some 18) (nI64 j))) (fun j m => j ≤ V + 1 ∧ j * (U + 1) = m) (fun j m => V + 1 - j) 0 0 ⟨Nat.zero_le _, Nat.zero_mul _⟩ ?_
  rintro j m L1 ⟨hj, hm⟩
  refine zg6 ?_
  refine wl_if rfl (fun h19r h19 => ?_) (fun h19r h19 => ?_)
  · have hj2 : j ≤ V := by omega
    refine zg14 ?_
    refine st_pure rfl (.bin rfl rfl (add1N (by omega))) ?_
    refine zg4 ?_
    refine lp1 (fun (i : Nat) L => (((((((((St.mk L.slot (hp [(1, ⟨3, [.agg [nI64 U, nI64 V, .list 3 (c.map ratL)]], true⟩), (2, ⟨3, [.agg [.v (.int .i64 0), .v (.int .i64 0), .v (.slice none 0 0)]], true⟩), (3, ⟨3, [.agg [nI64 V, nI64 U, .ref 43 3 0 (m + i)]], true⟩), (43, ⟨3, (gL (m + i) (swV U V c)).map ratL, true⟩)])).put (some 1) (.eptr 1 3 0 0)).put (some 2) (.eptr 2 3 0 0)).put (some 3) (.eptr 3 3 0 0)).put (some 17) (nI64 (V + 1))).put (some 18) (nI64 j)).put (some 4) (nI64 j)).put (some 23) (nI64 (U + 1))).put (some 24) (nI64 i))) (fun i => i ≤ U + 1) (fun i => U + 1 - i) 0 (Nat.zero_le _) ?_
    rintro i L2 hi
    refine zg6 ?_
    refine wl_if rfl (fun h25r h25 => ?_) (fun h25r h25 => ?_)
    · have hi2 : i ≤ U := by omega
      have hmi := ix_lt (U := V) (V := U) hj2 hi2
      rw [hm, Nat.mul_comm, ← hc] at hmi
      have hix := ix_lt hi2 hj2
      rw [← hc] at hix
      have hgl := gL_len (m + i) (swV U V c)
      have esw : gL (m + (i + 1)) (swV U V c) = gL (m + i) (swV U V c) ++ [c.getD (i * (V + 1) + j) 0] := by rw [← Nat.add_assoc, gL_succ, swV, ← hm, ix_div hi2, ix_mod hi2]
      have hr1 := hcR _ (getD_mem (i := i * (V + 1) + j) hix)
      refine zg10 ?_
      refine wl_regD 16 (by decide +kernel) ?_
      refine zg7 ?_
      refine st_pure rfl (.bin rfl rfl (add1N (by omega))) ?_
      refine st_pure rfl (.bin rfl rfl (mulE rfl (by omega))) ?_
      refine zg1 ?_
      refine st_pure rfl (.bin rfl rfl (add64N (by omega))) ?_
      refine zg2 ?_
      refine st_pure rfl (.build0 SL34 Z34a) ?_
      refine cp am2 (c_RAdd (c.getD (i * (V + 1) + j) 0) 0 (by rw [show rl 0 = 1 from rfl]; omega)) ?_
      refine zg1 ?_
      refine st_store rfl (.app (news := [ratL (c.getD (i * (V + 1) + j) 0 + 0)]) rfl rfl rfl rfl rfl (by simp [gL_len]) (.inl rfl) (by decide) Try.underlying25 Try.underlying25 Z34a T34 rfl B34 (.inl ⟨42, 0, _, rfl, by decide, rfl, rfl, by simp, rfl, by simp [pures, ratE.pure]⟩) (by simp; omega) (by simp; omega) (by decide)) ?_
      refine zg5 ?_
      refine wl_regW (Weak.kill _ 42) ?_
      refine zg4 ?_
      exact nx1 (i + 1) (by omega)
    · obtain rfl : i = U + 1 := by omega
      refine zg11 ?_
      exact nx2 (j + 1) (m + (U + 1)) ⟨by omega, by rw [Nat.succ_mul]; omega⟩
  · obtain rfl : j = V + 1 := by omega
    have hE : gL m (swV U V c) = swL U V c := by rw [← hm]; rfl
    refine zg12 ?_
    rw [← hE]
    exact retC [43] rfl rfl rfl rfl rfl T27 (.agg (.cons (.pure rfl) (.cons (.pure rfl) (.cons (imm_refm ratE rfl rfl (by rw [gL_len])) .nil))))
end Go.Proofs.Ythhdcfhaldcheaa
end
section
set_option linter.unusedVariables false
set_option linter.unusedSimpArgs false
set_option maxHeartbeats 8000000
set_option maxRecDepth 100000
attribute [local irreducible] Go.Lg.opsL Go.Lg.wpL Go.Lg.thenL Go.Lg.blockL
namespace Go.Proofs.Ythhdcfhaldcheaa
open Go.Lg
end Go.Proofs.Ythhdcfhaldcheaa
namespace Go.Lg
theorem clo_kill (b : Nat) (f : FuncId) (caps : List LV) (h : pures caps = true) : (LV.clo f caps).kill b = .clo f caps := LV.kill_pure b _ (by simpa [LV.pure] using h)
end Go.Lg
namespace Go.Proofs.Ythhdcfhaldcheaa
open Go.Lg
def rwL (V : Nat) (c : List Rat) (i : Nat) : List Rat := (c.take ((i + 1) * (V + 1))).drop (i * (V + 1))
theorem rw_le {U V i : Nat} {c : List Rat} (hc : c.length = (U + 1) * (V + 1)) (hi : i ≤ U) : i * (V + 1) + (V + 1) ≤ c.length := by
  rw [hc, ← Nat.succ_mul]; exact Nat.mul_le_mul_right _ (by omega)
theorem rwL_len {U V i : Nat} {c : List Rat} (hc : c.length = (U + 1) * (V + 1)) (hi : i ≤ U) : (rwL V c i).length = V + 1 := by
  have := rw_le hc hi
  unfold rwL
  rw [List.length_drop, List.length_take, Nat.succ_mul]; omega
theorem rwL_mem {V i : Nat} {c : List Rat} {x : Rat} (h : x ∈ rwL V c i) : x ∈ c := List.mem_of_mem_take (List.mem_of_mem_drop h)
def rsL (g : List Rat → List Rat) (V : Nat) (c : List Rat) : Nat → List Rat
  | 0 => []
  | i + 1 => rsL g V c i ++ g (rwL V c i)
theorem rsL_len {g : List Rat → List Rat} {V W U : Nat} {c : List Rat} (hg : ∀ i, i ≤ U → (g (rwL V c i)).length = W + 1) : ∀ n, n ≤ U + 1 → (rsL g V c n).length = n * (W + 1)
  | 0, _ => by rw [Nat.zero_mul]; rfl
  | n + 1, h => by rw [rsL, List.length_append, rsL_len hg n (by omega), hg n (by omega), Nat.succ_mul]
theorem swL_len (U V : Nat) (c : List Rat) : (swL U V c).length = (V + 1) * (U + 1) := gL_len _ _
theorem sw_rl {U V R : Nat} {c : List Rat} (hR : 1 ≤ R) (h : ∀ x ∈ c, rl x ≤ R) : ∀ x ∈ swL U V c, rl x ≤ R := by
  intro x hx
  obtain ⟨i, _, rfl⟩ := List.mem_map.1 hx
  exact getD_rl hR h _
def colT (U V : Nat) (c : List Rat) (v : Rat) : List Rat := rsL (fun p => [evP p v]) V c (U + 1)
def rowT (U V : Nat) (c : List Rat) (u : Rat) : List Rat := rsL (fun p => [evP p u]) U (swL U V c) (V + 1)
theorem rowT_len (U V : Nat) (c : List Rat) (u : Rat) : (rowT U V c u).length = V + 1 := by
  have := rsL_len (g := fun p => [evP p u]) (V := U) (W := 0) (U := V) (c := swL U V c) (fun i _ => rfl) (V + 1) (Nat.le_refl _)
  rw [rowT, this]; omega
def evT (U V : Nat) (c : List Rat) (u v : Rat) : Rat := evP (rowT U V c u) v
def dfU (U V : Nat) (c : List Rat) : List Rat := swL V (U - 1) (rsL difP U (swL U V c) (V + 1))
theorem dif_W {p : List Rat} {U : Nat} (h : p.length = U + 1) : (difP p).length = U - 1 + 1 := by rw [difP_len]; split <;> omega
def vaT (u v : Int) (c : List Rat) : Bool := decide (0 ≤ u ∧ 0 ≤ v ∧ u ≤ 40 ∧ v ≤ 40 ∧ (c.length : Int) = (u + 1) * (v + 1))
theorem mulI {a b : Int} (ha : 0 ≤ a) (hb : 0 ≤ b) (ha2 : a ≤ 41) (hb2 : b ≤ 41) : binI .mul .i64 a b = some (.int .i64 (a * b)) := by
  have h1 := Int.mul_nonneg ha hb
  have h2 := Int.mul_le_mul ha2 hb2 hb (by decide)
  exact mul64 (by omega) (by omega)
theorem a7_ev : evT 1 1 [0, 0, 0, 1] (1 / 2) (1 / 2) = 1 / 4 := by decide +kernel
theorem a7_df : dfU 1 1 [0, 0, 0, 1] = [0, 1] := by decide +kernel
theorem c_tx1 : CallP Try.prog 52 [ratL 1] (.v (.string ⟨#[49]⟩)) := by
  have := c_FText 1 (by decide +kernel) (by decide +kernel) (by decide +kernel)
  rw [show (1 : Rat).den = 1 by decide +kernel, show (1 : Rat).num.natAbs = 1 by decide +kernel] at this
  exact this
theorem hs_7 (p : List Rat) (h : ∀ x ∈ p, rl x ≤ 1) (hl : p.length ≤ 4) : HS p (1 / 2) := by
  refine ⟨6, by decide +kernel, by decide, fun x hx => ?_⟩
  have h5 := h x hx
  have h6 : 2 ^ p.length ≤ 2 ^ 4 := Nat.pow_le_pow_right (by decide) hl
  exact Nat.le_trans (Nat.mul_le_mul (show rl x + 6 ≤ 7 by omega) h6) (by decide)
theorem rs_rl {g : List Rat → List Rat} {V U R : Nat} {c : List Rat} (h : ∀ i, i ≤ U → ∀ x ∈ g (rwL V c i), rl x ≤ R) : ∀ {n : Nat}, n ≤ U + 1 → ∀ x ∈ rsL g V c n, rl x ≤ R
  | 0, _, x, hx => by cases hx
  | n + 1, hn, x, hx => by
    rcases List.mem_append.1 (show x ∈ rsL g V c n ++ g (rwL V c n) from hx) with h1 | h1
    · exact rs_rl h (by omega) x h1
    · exact h n (by omega) x h1
open H0 in
theorem c_row7 (U V : Nat) (c : List Rat) (hc : c.length = (U + 1) * (V + 1)) (hl : c.length ≤ 1048576) (i : Nat) (hi : i ≤ U) : CallP Try.prog 144 [.agg [nI64 U, nI64 V, .list 3 (c.map ratL)], nI64 i] (.list 3 ((rwL V c i).map ratL)) := by
  have hU : U + 1 ≤ c.length := by rw [hc]; exact Nat.le_mul_of_pos_right _ (Nat.succ_pos V)
  have hV : V + 1 ≤ c.length := by rw [hc]; exact Nat.le_mul_of_pos_left _ (Nat.succ_pos U)
  have hnp := net_pureN U V c
  have hri := rw_le hc hi
  have hrs : (i + 1) * (V + 1) = i * (V + 1) + (V + 1) := Nat.succ_mul i (V + 1)
  refine fnP Try.func144 ?_
  refine zg13 ?_
  refine st_pure rfl (.bin rfl rfl (add1N (by omega))) ?_
  refine st_pure rfl (.bin rfl rfl (mulE rfl (by omega))) ?_
  refine zg1 ?_
  refine st_pure rfl (.bin rfl rfl (add1N (by omega))) ?_
  refine zg2 ?_
  refine st_pure rfl (.bin rfl rfl (add1N (by omega))) ?_
  refine st_pure rfl (.bin rfl rfl (mulE rfl (by omega))) ?_
  refine st_pure rfl (.sliceLb (a := _) (h := _) ratE rfl Try.underlying25 T34 rfl rfl (by omega) (by omega)) ?_
  refine zg4 ?_
  exact ret1 rfl (by first | exact .pure rfl | exact .pure (limL_pure _) | exact .pure (magL_pure _) | exact .pure (ratE.pure _) | exact .pure (pure_lst u32E _ _) | exact .pure (pure_lst ratE _ _))
namespace H_c_rows
theorem zSm {p q : Prop} (k : q) (e : p = q := by simp only [e1, e2, e3, e4, p1, p2, p3, q1, q2, q3, l1, t0, t1, r1, r2, r3, r4, Nat.zero_add, Nat.reduceMul, Nat.reduceAdd, b1, b2, b3, b4, b5, b6, i1, i2, i3, i4, i5, i6, Nat.reduceBEq, frz_nil, dfq, clo_kill _ _ _ hcp, ers, etk, elen, Nat.add_sub_cancel, List.length_map, kills_map ratE, ratL_kill, spL_kill, LV.kill, kills]; exact rfl) : p := e.mpr k
theorem zSm1 {p q : Prop} (k : q) (e : p = q := by simp only [e1, e2, e3, e4, p1, p2, p3, q1, q2, q3, l1, t0, t1, r1, r2, r3, r4, Nat.zero_add, Nat.reduceMul, Nat.reduceAdd, b1, b2, b3, b4, b5, b6, i1, i2, i3, i4, i5, i6, Nat.reduceBEq, frz_nil, dfq, clo_kill _ _ _ hcp, ers, etk, elen, Nat.add_sub_cancel, List.length_map, kills_map ratE, ratL_kill, spL_kill, LV.kill, kills, elen]; exact rfl) : p := e.mpr k
theorem nf1 {p : Prop} (h : p := by first | (refine zSm1 ?_; exact rfl) | exact rfl) : p := h
end H_c_rows
open H_c_rows in
theorem c_rows (U V : Nat) (c : List Rat) (hc : c.length = (U + 1) * (V + 1)) (hl : c.length ≤ 1048576) (f : Nat) (caps : List LV) (hcp : pures caps = true) (hcs : ∀ x ∈ caps, x.csize = 1 ∧ x.isAgg = false) (g : List Rat → List Rat) (W : Nat) (hf : ∀ i, i ≤ U → CallP Try.prog f ([.list 3 ((rwL V c i).map ratL)] ++ caps) (.list 3 ((g (rwL V c i)).map ratL))) (hg : ∀ i, i ≤ U → (g (rwL V c i)).length = W + 1) (hW : (U + 1) * (W + 1) ≤ 1048576) : CallP Try.prog 119 [.agg [nI64 U, nI64 V, .list 3 (c.map ratL)], .clo f caps] (.agg [nI64 U, nI64 W, .list 3 ((rsL g V c (U + 1)).map ratL)]) := by
  have hU : U + 1 ≤ c.length := by rw [hc]; exact Nat.le_mul_of_pos_right _ (Nat.succ_pos V)
  have hV : V + 1 ≤ c.length := by rw [hc]; exact Nat.le_mul_of_pos_left _ (Nat.succ_pos U)
  have hnp := net_pureN U V c
  have hW2 : W + 1 ≤ (U + 1) * (W + 1) := Nat.le_mul_of_pos_left _ (Nat.succ_pos U)
  refine fnP Try.func119 (ht := (fun g => LV.ren_pure g _ (net_pureN _ _ _))) ?_
  have ers : True := trivial
  have etk : True := trivial
  have elen : True := trivial
  refine zg19 ?_
  refine cp am1 (c_shaped U V c hc hl) ?_
  refine zg11 ?_
  refine st_pure rfl (.bin rfl rfl (add1N (by omega))) ?_
  refine zg4 ?_
  refine wl_weak ((Weak.cell 5 rfl (fun Z μ w cs h => rep_net 35 3 _ _ Z μ w cs h)).trans (Weak.newB _ 35 3 rfl)) ?_
  refine lp3 (fun (i m v : Nat) L => (((((((St.mk L.slot (hp [(2, ⟨3, [.agg [nI64 U, nI64 V, .list 3 (c.map ratL)]], true⟩), (4, ⟨3, [.agg [.v (.int .i64 0), .v (.int .i64 0), .v (.slice none 0 0)]], true⟩), (5, ⟨3, [.agg [nI64 U, nI64 v, .ref 35 3 0 m]], true⟩), (35, ⟨3, (rsL g V c i).map ratL, true⟩)])).put (some 1) (.clo f caps)).put (some 2) (.eptr 2 3 0 0)).put (some 4) (.eptr 4 3 0 0)).put (some 5) (.eptr 5 3 0 0)).put (some 19) (nI64 (U + 1))).put (some 20) (nI64 i))) (fun i m v => i ≤ U + 1 ∧ i * (W + 1) = m ∧ (i = 0 ∨ v = W)) (fun i m v => U + 1 - i) 0 0 0 ⟨Nat.zero_le _, Nat.zero_mul _, .inl rfl⟩ ?_
  rintro i m v L1 ⟨hi, hm, hv⟩
  refine zg6 ?_
  refine wl_if rfl (fun h21r h21 => ?_) (fun h21r h21 => ?_)
  · have hi2 : i ≤ U := by omega
    have hfi := hf i hi2
    have elen := hg i hi2
    have hrl := rsL_len hg i hi
    rw [hm] at hrl
    have hmu : m + (W + 1) ≤ (U + 1) * (W + 1) := by rw [← hm, ← Nat.succ_mul]; exact Nat.mul_le_mul_right _ (by omega)
    have ers : (rsL g V c i).map ratL ++ (g (rwL V c i)).map ratL = (rsL g V c (i + 1)).map ratL := by rw [rsL, List.map_append]
    have etk : ((rsL g V c i).map ratL).take m = (rsL g V c i).map ratL := List.take_of_length_le (by rw [List.length_map]; omega)
    refine zg15 ?_
    refine cp am2 (c_row7 U V c hc hl i hi2) ?_
    refine st_opc [] rfl rfl (.clo (f := f) (cap := caps) (args := [.list 3 ((rwL V c i).map ratL)]) rfl (.cons im0 .nil) ⟨hcp, hcs⟩ hfi.1 (by decide) (fun _ h => by cases h)) (hfi.2 _) ?_
    refine zg7 ?_
    refine st_pure rfl (.bin rfl rfl (sub1N (by omega) (by omega))) ?_
    refine zg1 ?_
    refine st_store rfl (.store rfl rfl rfl rfl rfl rfl rfl T3 ne0) ?_
    refine st_end nf1 ?_
    refine zg5 ?_
    refine st_store rfl (.app (news := (g (rwL V c i)).map ratL) rfl rfl rfl rfl rfl (by rw [List.length_map]; omega) (.inl rfl) (by decide) Try.underlying25 Try.underlying37 Z34a T34 rfl B34 (.inr (.inl rfl)) (by rw [List.length_map, elen]; omega) (by rw [List.length_map, elen]; omega) (by decide)) ?_
    refine zg10 ?_
    exact nx3 (i + 1) (m + (W + 1)) W ⟨by omega, by rw [Nat.succ_mul]; omega, .inr rfl⟩
  · obtain rfl : i = U + 1 := by omega
    obtain rfl : v = W := by omega
    have hrl := rsL_len hg (U + 1) (Nat.le_refl _)
    refine zg12 ?_
    exact retC [35] rfl rfl rfl rfl rfl T27 (.agg (.cons (.pure rfl) (.cons (.pure rfl) (.cons (imm_refm ratE rfl rfl (by omega)) .nil))))
open H0 in
theorem c_Col1 (p : List Rat) (v : Rat) (h : HS p v) (hp0 : 0 < p.length) : CallP Try.prog 145 [.list 3 (p.map ratL), .boxp (ratL v)] (.list 3 ([evP p v].map ratL)) := by
  refine fnP Try.func145 ?_
  refine zg9 ?_
  refine cp am2 (c_BEval p v h hp0) ?_
  refine zg5 ?_
  exact ret1f [7] rfl rfl (imm_refm ratE rfl rfl rfl)
open H0 in
theorem c_Column (U V : Nat) (c : List Rat) (hc : c.length = (U + 1) * (V + 1)) (hl : c.length ≤ 1048576) (v : Rat) (hS : ∀ i, i ≤ U → HS (rwL V c i) v) : CallP Try.prog 121 [.agg [nI64 U, nI64 V, .list 3 (c.map ratL)], ratL v] (.list 3 ((colT U V c v).map ratL)) := by
  have hU : U + 1 ≤ c.length := by rw [hc]; exact Nat.le_mul_of_pos_right _ (Nat.succ_pos V)
  have hV : V + 1 ≤ c.length := by rw [hc]; exact Nat.le_mul_of_pos_left _ (Nat.succ_pos U)
  have hnp := net_pureN U V c
  have hbp : pures [LV.boxp (ratL v)] = true := by simp [pures, LV.pure, ratE.pure]
  refine fnP Try.func121 ?_
  refine zg10 ?_
  refine st_opc [3] rfl rfl (.mk (caps := [.boxp (ratL v)]) (.cons (.eptr rfl rfl rfl (ratE.csize _) (ratL_all _) (ratE.pure _) rfl) .nil) (fun x hx => by rw [List.mem_singleton.1 hx]; exact ⟨rfl, rfl⟩)) rfl ?_
  refine st_callP rfl (.cons (.pure hnp) (.cons (.pure (show LV.pure (.clo 145 [.boxp (ratL v)]) = true by simpa [LV.pure] using hbp)) .nil)) (c_rows U V c hc hl 145 [.boxp (ratL v)] hbp (fun x hx => by rw [List.mem_singleton.1 hx]; exact ⟨rfl, rfl⟩) (fun p => [evP p v]) 0 (fun i hi => c_Col1 _ v (hS i hi) (by rw [rwL_len hc hi]; exact Nat.succ_pos V)) (fun i hi => rfl) (by omega)) ?_
  refine st_pure rfl (.field rfl SL27 rfl (pure_lst ratE _ _)) ?_
  refine zg4 ?_
  exact ret1 rfl (by first | exact .pure rfl | exact .pure (limL_pure _) | exact .pure (magL_pure _) | exact .pure (ratE.pure _) | exact .pure (pure_lst u32E _ _) | exact .pure (pure_lst ratE _ _))
open H0 in
theorem c_TRow (U V : Nat) (c : List Rat) (hc : c.length = (U + 1) * (V + 1)) (hl : c.length ≤ 1048576) (hcR : ∀ x ∈ c, rl x ≤ 274877906944) (u : Rat) (hS : ∀ j, j ≤ V → HS (rwL U (swL U V c) j) u) : CallP Try.prog 94 [.agg [nI64 U, nI64 V, .list 3 (c.map ratL)], ratL u] (.list 3 ((rowT U V c u).map ratL)) := by
  have hU : U + 1 ≤ c.length := by rw [hc]; exact Nat.le_mul_of_pos_right _ (Nat.succ_pos V)
  have hV : V + 1 ≤ c.length := by rw [hc]; exact Nat.le_mul_of_pos_left _ (Nat.succ_pos U)
  have hnp := net_pureN U V c
  have hsl := swL_len U V c
  have hsw : (swL U V c).length ≤ 1048576 := by rw [hsl, Nat.mul_comm, ← hc]; exact hl
  have hnp2 := net_pureN V U (swL U V c)
  refine fnP Try.func94 ?_
  refine zg8 ?_
  refine wl_regD 5 (by decide +kernel) ?_
  refine zg1 ?_
  refine cp am1 (c_Swap U V c hc hl hcR) ?_
  refine zg1 ?_
  refine cp am2 (c_Column V U (swL U V c) hsl hsw u hS) ?_
  refine zg4 ?_
  exact ret1 rfl (by first | exact .pure rfl | exact .pure (limL_pure _) | exact .pure (magL_pure _) | exact .pure (ratE.pure _) | exact .pure (pure_lst u32E _ _) | exact .pure (pure_lst ratE _ _))
open H0 in
theorem c_TEval (U V : Nat) (c : List Rat) (hc : c.length = (U + 1) * (V + 1)) (hl : c.length ≤ 1048576) (hcR : ∀ x ∈ c, rl x ≤ 274877906944) (u v : Rat) (hS : ∀ j, j ≤ V → HS (rwL U (swL U V c) j) u) (hS2 : HS (rowT U V c u) v) : CallP Try.prog 53 [.agg [nI64 U, nI64 V, .list 3 (c.map ratL)], ratL u, ratL v] (ratL (evT U V c u v)) := by
  have hU : U + 1 ≤ c.length := by rw [hc]; exact Nat.le_mul_of_pos_right _ (Nat.succ_pos V)
  have hV : V + 1 ≤ c.length := by rw [hc]; exact Nat.le_mul_of_pos_left _ (Nat.succ_pos U)
  have hnp := net_pureN U V c
  refine fnP Try.func53 ?_
  refine zg9 ?_
  refine wl_regD 5 (by decide +kernel) ?_
  refine zg2 ?_
  refine cp am2 (c_TRow U V c hc hl hcR u hS) ?_
  refine zg1 ?_
  refine cp am2 (c_BEval (rowT U V c u) v hS2 (by rw [rowT_len]; exact Nat.succ_pos V)) ?_
  refine zg4 ?_
  exact retC [] rfl rfl rfl (ratE.csize _) (ratL_all _) T34 (.pure (ratE.pure _))
open H0 in
theorem c_columns (U V : Nat) (c : List Rat) (hc : c.length = (U + 1) * (V + 1)) (hl : c.length ≤ 1048576) (hcR : ∀ x ∈ c, rl x ≤ 274877906944) (f : Nat) (caps : List LV) (hcp : pures caps = true) (hcs : ∀ x ∈ caps, x.csize = 1 ∧ x.isAgg = false) (g : List Rat → List Rat) (W : Nat) (hf : ∀ j, j ≤ V → CallP Try.prog f ([.list 3 ((rwL U (swL U V c) j).map ratL)] ++ caps) (.list 3 ((g (rwL U (swL U V c) j)).map ratL))) (hg : ∀ j, j ≤ V → (g (rwL U (swL U V c) j)).length = W + 1) (hW : (V + 1) * (W + 1) ≤ 1048576) (hgR : ∀ x ∈ (rsL g U (swL U V c) (V + 1)), rl x ≤ 274877906944) : CallP Try.prog 92 [.agg [nI64 U, nI64 V, .list 3 (c.map ratL)], .clo f caps] (.agg [nI64 W, nI64 V, .list 3 ((swL V W (rsL g U (swL U V c) (V + 1))).map ratL)]) := by
  have hU : U + 1 ≤ c.length := by rw [hc]; exact Nat.le_mul_of_pos_right _ (Nat.succ_pos V)
  have hV : V + 1 ≤ c.length := by rw [hc]; exact Nat.le_mul_of_pos_left _ (Nat.succ_pos U)
  have hnp := net_pureN U V c
  have hsl := swL_len U V c
  have hsw : (swL U V c).length ≤ 1048576 := by rw [hsl, Nat.mul_comm, ← hc]; exact hl
  have hnp2 := net_pureN V U (swL U V c)
  have hrl := rsL_len hg (V + 1) (Nat.le_refl _)
  have hnp3 := net_pureN V W (rsL g U (swL U V c) (V + 1))
  have hcl : LV.pure (.clo f caps) = true := by simpa [LV.pure] using hcp
  refine fnP Try.func92 (ht := (fun g => LV.ren_pure g _ (net_pureN _ _ _))) ?_
  refine zg9 ?_
  refine cp am1 (c_Swap U V c hc hl hcR) ?_
  refine zg1 ?_
  refine cp am2 (c_rows V U (swL U V c) hsl hsw f caps hcp hcs g W hf hg hW) ?_
  refine cp am1 (c_Swap V W (rsL g U (swL U V c) (V + 1)) hrl (by omega) hgR) ?_
  refine zg4 ?_
  exact retC [] rfl rfl rfl rfl rfl T27 (.pure (net_pureN _ _ _))
open H0 in
theorem c_DiffU (U V : Nat) (c : List Rat) (hc : c.length = (U + 1) * (V + 1)) (hl : c.length ≤ 1048576) (hcR : ∀ x ∈ c, rl x ≤ 1073741824) (hU1 : U ≤ 900) : CallP Try.prog 51 [.agg [nI64 U, nI64 V, .list 3 (c.map ratL)]] (.agg [nI64 (U - 1), nI64 V, .list 3 ((dfU U V c).map ratL)]) := by
  have hU : U + 1 ≤ c.length := by rw [hc]; exact Nat.le_mul_of_pos_right _ (Nat.succ_pos V)
  have hV : V + 1 ≤ c.length := by rw [hc]; exact Nat.le_mul_of_pos_left _ (Nat.succ_pos U)
  have hnp := net_pureN U V c
  have hsl := swL_len U V c
  have hsw : (swL U V c).length ≤ 1048576 := by rw [hsl, Nat.mul_comm, ← hc]; exact hl
  have hnp2 := net_pureN (U - 1) V (dfU U V c)
  have hsR := sw_rl (U := U) (V := V) (R := 1073741824) (by decide) hcR
  refine fnP Try.func51 (ht := (fun g => LV.ren_pure g _ (net_pureN _ _ _))) ?_
  refine zg9 ?_
  refine cp am2 (c_columns U V c hc hl (fun x hx => Nat.le_trans (hcR x hx) (by decide)) 45 [] rfl (fun x hx => by cases hx) difP (U - 1) (fun j hj => c_Diff _ (by rw [rwL_len hsl hj]; omega) (fun x hx => hsR x (rwL_mem hx))) (fun j hj => dif_W (rwL_len hsl hj)) (by have := Nat.mul_le_mul_left (V + 1) (show U - 1 + 1 ≤ U + 1 by omega); omega) (rs_rl (U := V) (fun j hj x hx => Nat.le_trans (difP_rl (R := 1073741824) (by decide) (by rw [rwL_len hsl hj]; omega) (fun x hx => hsR x (rwL_mem hx)) x hx) (by decide)) (Nat.le_refl _))) ?_
  refine zg4 ?_
  exact retC [] rfl rfl rfl rfl rfl T27 (.pure (net_pureN _ _ _))
end Go.Proofs.Ythhdcfhaldcheaa
end
section
set_option linter.unusedVariables false
set_option linter.unusedSimpArgs false
set_option maxHeartbeats 8000000
set_option maxRecDepth 100000
attribute [local irreducible] Go.Lg.opsL Go.Lg.wpL Go.Lg.thenL Go.Lg.blockL
namespace Go.Proofs.Ythhdcfhaldcheaa
open Go.Lg
theorem a7_val : vaT 1 1 [0, 0, 0, 1] = true := by decide +kernel
namespace H_c_TValid
theorem zSm {p q : Prop} (k : q) (e : p = q := by simp only [e1, e2, e3, e4, p1, p2, p3, q1, q2, q3, l1, t0, t1, r1, r2, r3, r4, Nat.zero_add, Nat.reduceMul, Nat.reduceAdd, b1, b2, b3, b4, b5, b6, i1, i2, i3, i4, i5, i6, Nat.reduceBEq, dfq, kills_map ratE, ratL_kill, spL_kill, LV.kill, kills]; exact rfl) : p := e.mpr k
end H_c_TValid
open H_c_TValid in
theorem c_TValid (u v : Int) (c : List Rat) (hu : -9223372036854775808 ≤ u ∧ u ≤ 9223372036854775807) (hv : -9223372036854775808 ≤ v ∧ v ≤ 9223372036854775807) (hl : c.length ≤ 1048576) (hcR : ∀ x ∈ c, rl x ≤ 1099511627776) : CallP Try.prog 14 [.agg [iL u, iL v, .list 3 (c.map ratL)]] (bL (vaT u v c)) := by
  refine fnP Try.func14 ?_
  refine zg13 ?_
  refine op_if 8 rfl (fun h8r h8 => ?_) (fun h8r h8 => ?_)
  · refine zg37 ?_
    rw [show vaT u v c = false from decide_eq_false (by omega)]
    exact ret1 rfl (by first | exact .pure rfl | exact .pure (limL_pure _) | exact .pure (magL_pure _) | exact .pure (ratE.pure _) | exact .pure (pure_lst u32E _ _) | exact .pure (pure_lst ratE _ _))
  · refine zg5 ?_
    refine op_if 13 rfl (fun h13r h13 => ?_) (fun h13r h13 => ?_)
    · refine zg32 ?_
      rw [show vaT u v c = false from decide_eq_false (by omega)]
      exact ret1 rfl (by first | exact .pure rfl | exact .pure (limL_pure _) | exact .pure (magL_pure _) | exact .pure (ratE.pure _) | exact .pure (pure_lst u32E _ _) | exact .pure (pure_lst ratE _ _))
    · refine zg5 ?_
      refine op_if 18 rfl (fun h18r h18 => ?_) (fun h18r h18 => ?_)
      · refine zg27 ?_
        rw [show vaT u v c = false from decide_eq_false (by omega)]
        exact ret1 rfl (by first | exact .pure rfl | exact .pure (limL_pure _) | exact .pure (magL_pure _) | exact .pure (ratE.pure _) | exact .pure (pure_lst u32E _ _) | exact .pure (pure_lst ratE _ _))
      · refine zg5 ?_
        refine op_if 23 rfl (fun h23r h23 => ?_) (fun h23r h23 => ?_)
        · refine zg22 ?_
          rw [show vaT u v c = false from decide_eq_false (by omega)]
          exact ret1 rfl (by first | exact .pure rfl | exact .pure (limL_pure _) | exact .pure (magL_pure _) | exact .pure (ratE.pure _) | exact .pure (pure_lst u32E _ _) | exact .pure (pure_lst ratE _ _))
        · refine zg5 ?_
          refine st_pure (guardX (v := false) rfl rfl (h23r) rfl) (.bin rfl rfl (add64 (by omega) (by omega))) ?_
          refine zg2 ?_
          refine st_pure (guardX (v := false) rfl rfl (h23r) rfl) (.bin rfl rfl (add64 (by omega) (by omega))) ?_
          refine st_pure (guardX (v := false) rfl rfl (h23r) rfl) (.bin rfl rfl (mulI (by omega) (by omega) (by omega) (by omega))) ?_
          refine zg4 ?_
          refine wl_if rfl (fun h35r h35 => ?_) (fun h35r h35 => ?_)
          · refine zg7 ?_
            rw [show vaT u v c = false from decide_eq_false (by omega)]
            exact ret1 rfl (by first | exact .pure rfl | exact .pure (limL_pure _) | exact .pure (magL_pure _) | exact .pure (ratE.pure _) | exact .pure (pure_lst u32E _ _) | exact .pure (pure_lst ratE _ _))
          · refine zg12 ?_
            refine wl_weak (Weak.kill _ 1) ?_
            refine lp1 (fun (k : Nat) L => ((((St.mk L.slot (hp [])).put (some 37) (.list 3 (c.map ratL))).put (some 38) (nI64 c.length)).put (some 39) (nI64 k))) (fun k => k ≤ c.length) (fun k => c.length - k) 0 (Nat.zero_le _) ?_
            rintro k L1 hk
            refine zg6 ?_
            refine wl_if rfl (fun h40r h40 => ?_) (fun h40r h40 => ?_)
            · have hk2 : k < c.length := by omega
              have hr1 := hcR _ (getD_mem (i := k) hk2)
              refine zg15 ?_
              refine cp am1 (c_RValid (c.getD k 0) (by omega)) ?_
              refine zg7 ?_
              refine wl_regW (Weak.kill _ 4) ?_
              refine zg4 ?_
              exact nx1 (k + 1) (by omega)
            · refine zg11 ?_
              rw [show vaT u v c = true from decide_eq_true ⟨by omega, by omega, by omega, by omega, by omega⟩]
              exact ret1 rfl (by first | exact .pure rfl | exact .pure (limL_pure _) | exact .pure (magL_pure _) | exact .pure (ratE.pure _) | exact .pure (pure_lst u32E _ _) | exact .pure (pure_lst ratE _ _))
namespace H_c_awake7
theorem zSm {p q : Prop} (k : q) (e : p = q := by simp only [e1, e2, e3, e4, p1, p2, p3, q1, q2, q3, l1, t0, t1, r1, r2, r3, r4, Nat.zero_add, Nat.reduceMul, Nat.reduceAdd, b1, b2, b3, b4, b5, b6, i1, i2, i3, i4, i5, i6, Nat.reduceBEq, List.length_cons, List.length_nil, half_eq, r1r, tz2, tz1, dfq]; exact rfl) : p := e.mpr k
end H_c_awake7
open H_c_awake7 in
theorem c_awake7  : CallP Try.prog 11 [] (bL true) := by
  have hR1 : ∀ x ∈ ([0, 0, 0, 1] : List Rat), rl x ≤ 1 := by decide +kernel
  have hDU : CallP Try.prog 51 [.agg [nI64 1, nI64 1, .list 3 ([0, 0, 0, 1].map ratL)]] (.agg [nI64 0, nI64 1, .list 3 ([0, 1].map ratL)]) := by
    have := c_DiffU 1 1 [0, 0, 0, 1] rfl (by decide) (fun x hx => Nat.le_trans (hR1 x hx) (by decide)) (by decide)
    rw [a7_df] at this
    exact this
  have hEV := c_TEval 1 1 [0, 0, 0, 1] rfl (by decide) (fun x hx => Nat.le_trans (hR1 x hx) (by decide)) (1 / 2) (1 / 2) (fun j hj => hs_7 _ (fun x hx => sw_rl (by decide) hR1 x (rwL_mem hx)) (by rw [rwL_len (U := 1) (V := 1) (swL_len 1 1 _) hj]; decide)) ⟨5, by decide +kernel, by decide, by decide +kernel⟩
  rw [a7_ev] at hEV
  refine fnP Try.func11 ?_
  refine zg7 ?_
  refine st_pure rfl (.build0 SL34 Z34a) ?_
  refine st_pure rfl (.build0 SL34 Z34a) ?_
  refine st_pure rfl (.build0 SL34 Z34a) ?_
  refine cp am1 (c_FInt 1 (by decide) (by decide)) ?_
  refine zg8 ?_
  refine cp am2 (c_FFrac 1 2 (by decide) (by decide) (by decide) (by decide) (by decide)) ?_
  refine zg7 ?_
  refine st_callPf [8] rfl rfl (.cons (.agg (.cons (.pure rfl) (.cons (.pure rfl) (.cons (imm_refm ratE rfl rfl rfl) .nil)))) .nil) hDU ?_
  refine zg7 ?_
  refine st_callPf [8] rfl rfl (.cons (.agg (.cons (.pure rfl) (.cons (.pure rfl) (.cons (imm_refm ratE rfl rfl rfl) .nil)))) .nil) (c_TValid 1 1 [0, 0, 0, 1] (by decide) (by decide) (by decide) (fun x hx => Nat.le_trans (hR1 x hx) (by decide))) ?_
  refine zg1 ?_
  refine st_pure (guardX (v := true) rfl rfl (a7_val) rfl) ld27 ?_
  refine st_pure (guardX (v := true) rfl rfl (a7_val) rfl) ld34 ?_
  refine st_pure (guardX (v := true) rfl rfl (a7_val) rfl) ld34 ?_
  refine st_callPf [8] (guardX (v := true) rfl rfl (a7_val) rfl) rfl (.cons (.agg (.cons (.pure rfl) (.cons (.pure rfl) (.cons (imm_refm ratE rfl rfl rfl) .nil)))) (.cons im0 (.cons im0 .nil))) hEV ?_
  refine st_callP (guardX (v := true) rfl rfl (a7_val) rfl) (.cons im0 .nil) (c_tx14) ?_
  refine st_pure (guardX (v := true) rfl rfl (a7_val) rfl) (.eqS rfl rfl) ?_
  refine st_pure rfl (.pickT rfl (a7_val)) ?_
  refine zg1 ?_
  refine st_pure (guardX (v := true) rfl rfl ((by decide +kernel)) rfl) fa27 ?_
  refine st_pure (guardX (v := true) rfl rfl ((by decide +kernel)) rfl) ld3 ?_
  refine st_pure (guardX (v := true) rfl rfl ((by decide +kernel)) rfl) (.bin rfl rfl rfl) ?_
  refine st_pure rfl (.pickT rfl ((by decide +kernel))) ?_
  refine zg1 ?_
  refine st_pure (guardX (v := true) rfl rfl ((by decide)) rfl) fa27 ?_
  refine st_pure (guardX (v := true) rfl rfl ((by decide)) rfl) ld3 ?_
  refine st_pure (guardX (v := true) rfl rfl ((by decide)) rfl) (.bin rfl rfl rfl) ?_
  refine st_pure rfl (.pickT rfl ((by decide))) ?_
  refine zg1 ?_
  refine st_pure (guardX (v := true) rfl rfl ((by decide)) rfl) fa27 ?_
  refine st_pure (guardX (v := true) rfl rfl ((by decide)) rfl) ld25 ?_
  refine st_pure (guardX (v := true) rfl rfl ((by decide)) rfl) ln25 ?_
  refine st_pure (guardX (v := true) rfl rfl ((by decide)) rfl) (.bin rfl rfl rfl) ?_
  refine st_pure rfl (.pickT rfl ((by decide))) ?_
  refine zg1 ?_
  refine st_pure (guardX (v := true) rfl rfl ((by decide)) rfl) fa27 ?_
  refine st_pure (guardX (v := true) rfl rfl ((by decide)) rfl) ld25 ?_
  refine st_pure (guardX (v := true) rfl rfl ((by decide)) rfl) ix25 ?_
  refine st_pure (guardX (v := true) rfl rfl ((by decide)) rfl) ld34 ?_
  refine st_callP (guardX (v := true) rfl rfl ((by decide)) rfl) (.cons im0 .nil) (c_tx1) ?_
  refine st_pure (guardX (v := true) rfl rfl ((by decide)) rfl) (.eqS rfl rfl) ?_
  refine st_pure rfl (.pickT rfl ((by decide))) ?_
  refine zg4 ?_
  exact ret1 (x := .v (.bool true)) (congrArg (fun b => LV.v (.bool b)) (show ((⟨#[49]⟩ : ByteArray).toList == (⟨#[49]⟩ : ByteArray).toList) = true by decide +kernel)) (.pure rfl)
end Go.Proofs.Ythhdcfhaldcheaa
end
section
set_option linter.unusedVariables false
set_option linter.unusedSimpArgs false
set_option maxHeartbeats 8000000
set_option maxRecDepth 100000
attribute [local irreducible] Go.Lg.opsL Go.Lg.wpL Go.Lg.thenL Go.Lg.blockL
namespace Go.Proofs.Ythhdcfhaldcheaa
open Go.Lg
end Go.Proofs.Ythhdcfhaldcheaa
namespace Go.Lg
theorem retMCf {P : Program} {L : St} {a : Nat} {T : TypeId} {b sz : Nat} {x y : LV} {m : Bool} {n : Nat} {ag : Bool} {blk : Blk} (bs : List Nat) (hbs : bs.contains 0 = false) (h : L.slot a = .eptr b sz 0 0) (hb : L.heap b = some ⟨sz, [x], m⟩)
    (hx : x.csize = sz) (hat : x.at 0 n ag = some x) (hT : TyIs P T n ag) (hi : Imm (L.frz bs).heap x y) (h0 : (L.frz bs).heap 0 = some blk) (hm : blk.mt = true) (hp : pures blk.vals = true) : RetM P [.cell a T] L y blk :=
  ⟨[x], [y], (L.frz bs).heap, .cons ⟨b, sz, 0, 0, _, x, n, ag, h, hb, rfl, rfl, hx, hat, hT⟩ .nil, frz_le bs hbs, .cons (.imm hi) .nil, h0, hm, hp, rfl⟩
end Go.Lg
namespace Go.Proofs.Ythhdcfhaldcheaa
open Go.Lg
def nU (l : List Int) (k : Nat) (n : Nat) : Nat := (nxV l k ((n : Int) + 1)).toNat
theorem nU_le (l : List Int) (k n : Nat) : nU l k n ≤ n := by
  have := nxV_lt (l := l) (k := k) (n := (n : Int) + 1) (by omega)
  unfold nU; omega
def ntC (l : List Int) (k u v : Nat) : List Rat := plV l (nxK l (nxK l k)) ((nU l k u + 1) * (nU l (nxK l k) v + 1))
def ntK (l : List Int) (k u v : Nat) : Nat := plK l (nxK l (nxK l k)) ((nU l k u + 1) * (nU l (nxK l k) v + 1))
theorem ntC_len (l : List Int) (k u v : Nat) : (ntC l k u v).length = (nU l k u + 1) * (nU l (nxK l k) v + 1) := plV_len l _ _
theorem ntC_rl (l : List Int) (k u v : Nat) : ∀ x ∈ ntC l k u v, rl x ≤ 1 := plV_rl l _ _
namespace H_c_Net
theorem zSm {p q : Prop} (k : q) (e : p = q := by simp only [e1, e2, e3, e4, p1, p2, p3, q1, q2, q3, l1, t0, t1, r1, r2, r3, r4, Nat.zero_add, Nat.reduceMul, Nat.reduceAdd, b1, b2, b3, b4, b5, b6, i1, i2, i3, i4, i5, i6, Nat.reduceBEq, l1, frz_nil, ratL_ren, hU, hV, take_map_len, map_snoc, len_snoc, List.length_cons, List.length_nil, kills_map ratE, LV.kill, kills, dice_kill, ek]; exact rfl) : p := e.mpr k
end H_c_Net
open H_c_Net in
theorem c_Net (l : List Int) (k0 u v : Nat) (hl : l.length ≤ 500) (hk : k0 ≤ 500) (hu : u ≤ 20) (hv : v ≤ 20) : CallOKM Try.prog 13 ⟨2, [diceL l k0], true⟩ [.eptr 0 2 0 0, nI64 u, nI64 v] (.agg [nI64 (nU l k0 u), nI64 (nU l (nxK l k0) v), .list 3 ((ntC l k0 u v).map ratL)]) ⟨2, [diceL l (ntK l k0 u v)], true⟩ := by
  have k1 := nxK_le (l := l) hl hk
  have k2 := nxK_le (l := l) hl k1
  have hb1 := nxV_lt (l := l) (k := k0) (n := (u : Int) + 1) (by omega)
  have hb2 := nxV_lt (l := l) (k := nxK l k0) (n := (v : Int) + 1) (by omega)
  have hU : nxV l k0 ((u : Int) + 1) = ((nU l k0 u) : Int) := by unfold nU; omega
  have hV : nxV l (nxK l k0) ((v : Int) + 1) = ((nU l (nxK l k0) v) : Int) := by unfold nU; omega
  have hU2 := nU_le l k0 u
  have hV2 := nU_le l (nxK l k0) v
  have hN : (((nU l k0 u) + 1) * ((nU l (nxK l k0) v) + 1)) ≤ 441 := Nat.le_trans (Nat.mul_le_mul (show (nU l k0 u) + 1 ≤ 21 by omega) (show (nU l (nxK l k0) v) + 1 ≤ 21 by omega)) (by decide)
  refine fnM Try.func13 ?_
  have ek : True := trivial
  refine zg9 ?_
  refine st_pure rfl (.bin rfl rfl (add64 (by omega) (by omega))) ?_
  refine st_callMp 0 rfl rfl rfl (dice_pure l _) (.cons .ptr (.cons (.imm (.pure rfl)) .nil)) .ptr (c_Next l k0 ((u : Int) + 1) (by omega) (by omega) (by omega) (by omega)) rfl (dice_pure l _) rfl ?_
  refine zg2 ?_
  refine st_pure rfl (.bin rfl rfl (add64 (by omega) (by omega))) ?_
  refine st_callMp 0 rfl rfl rfl (dice_pure l _) (.cons .ptr (.cons (.imm (.pure rfl)) .nil)) .ptr (c_Next l (nxK l k0) ((v : Int) + 1) (by omega) (by omega) (by omega) (by omega)) rfl (dice_pure l _) rfl ?_
  refine zg12 ?_
  refine wl_weak ((Weak.cell 7 rfl (fun Z μ w cs h => rep_net 34 3 _ _ Z μ w cs h)).trans (Weak.newB _ 34 3 rfl)) ?_
  refine lp3 (fun (c k : Nat) (o : List Rat) L => (((((St.mk L.slot (hp [(0, ⟨2, [diceL l k], true⟩), (6, ⟨3, [.agg [.v (.int .i64 0), .v (.int .i64 0), .v (.slice none 0 0)]], true⟩), (7, ⟨3, [.agg [nI64 (nU l k0 u), nI64 (nU l (nxK l k0) v), .ref 34 3 0 o.length]], true⟩), (34, ⟨3, o.map ratL, true⟩)])).put (some 0) (.eptr 0 2 0 0)).put (some 6) (.eptr 6 3 0 0)).put (some 7) (.eptr 7 3 0 0)).put (some 8) (nI64 o.length))) (fun c k o => k ≤ 500 ∧ o.length + c = (((nU l k0 u) + 1) * ((nU l (nxK l k0) v) + 1)) ∧ o ++ plV l k c = ntC l k0 u v ∧ plK l k c = ntK l k0 u v) (fun c k o => c) (((nU l k0 u) + 1) * ((nU l (nxK l k0) v) + 1)) (nxK l (nxK l k0)) ([]) ⟨k2, by simp, rfl, rfl⟩ ?_
  rintro c k o L1 ⟨hk1, ho, hVl, hK⟩
  refine zg6 ?_
  refine st_pure rfl (.bin rfl rfl (add1N (by omega))) ?_
  refine zg2 ?_
  refine st_pure rfl (.bin rfl rfl (add1N (by omega))) ?_
  refine st_pure rfl (.bin rfl rfl (mulE rfl (by omega))) ?_
  refine zg3 ?_
  refine wl_if rfl (fun h26r h26 => ?_) (fun h26r h26 => ?_)
  · obtain ⟨j, rfl⟩ : ∃ j, c = j + 1 := ⟨c - 1, by omega⟩
    refine zg4 ?_
    refine wl_cut (fun L => ∃  (L1 : St), (True) ∧ L = (((((St.mk L1.slot (hp [(0, ⟨2, [diceL l (nbV l k).2], true⟩), (6, ⟨3, [.agg [.v (.int .i64 0), .v (.int .i64 0), .v (.slice none 0 0)]], true⟩), (7, ⟨3, [.agg [nI64 (nU l k0 u), nI64 (nU l (nxK l k0) v), .ref 34 3 0 (o.length + 1)]], true⟩), (33, ⟨3, [(nbV l k).1].map ratL, true⟩), (34, ⟨3, (o ++ [(nbV l k).1]).map ratL, true⟩)])).put (some 0) (.eptr 0 2 0 0)).put (some 6) (.eptr 6 3 0 0)).put (some 7) (.eptr 7 3 0 0)).put (some 8) (nI64 o.length))) ?_ ?_
    · refine wl_regA ?_
      refine any_2 0 2 _ _ (by decide +kernel) rfl rfl ?_ ?_
      · refine zg1 ?_
        refine st_nil ?_
        refine any_2 1 2 _ _ (by decide +kernel) rfl rfl ?_ ?_
        · refine zg1 ?_
          refine st_nil ?_
          refine any_1 2 _ (by decide +kernel) rfl ?_
          refine zg1 ?_
          refine st_nil ?_
          refine any_1 3 _ (by decide +kernel) rfl ?_
          refine st_callMp 0 rfl rfl rfl (dice_pure l _) (.cons .ptr .nil) .ptr (c_number l k (by omega) (by omega)) rfl (dice_pure l _) (ratE.pure _) ?_
          refine st_nil ?_
          refine any_1 4 _ (by decide +kernel) rfl ?_
          refine zg1 ?_
          refine st_nil ?_
          refine any_1 5 _ (by decide +kernel) rfl ?_
          refine st_store rfl (.app (news := [ratL (nbV l k).1]) rfl rfl rfl rfl rfl (by simp) (.inl rfl) (by decide) Try.underlying25 Try.underlying25 Z34a T34 rfl B34 (.inl ⟨33, 0, _, rfl, by decide, rfl, rfl, by simp, rfl, by simp [pures, ratE.pure]⟩) (by simp; omega) (by simp; omega) (by decide)) ?_
          refine st_nil ?_
          refine any_1 6 _ (by decide +kernel) rfl ?_
          refine zg1 ?_
          refine st_nil ?_
          refine any_1 7 _ (by decide +kernel) rfl ?_
          refine zg1 ?_
          refine st_nil ?_
          refine any_0 (by decide +kernel) ?_
          refine zg1 ?_
          exact ⟨_, trivial, ((put_id' (put_id' (put_id' (put_id' (mk_id' cl) cl) cl) cl) cl)).symm⟩
        · refine zg1 ?_
          refine st_nil ?_
          refine any_2 1 3 _ _ (by decide +kernel) rfl rfl ?_ ?_
          · refine zg1 ?_
            refine st_nil ?_
            refine any_1 3 _ (by decide +kernel) rfl ?_
            refine st_callMp 0 rfl rfl rfl (dice_pure l _) (.cons .ptr .nil) .ptr (c_number l k (by omega) (by omega)) rfl (dice_pure l _) (ratE.pure _) ?_
            refine st_nil ?_
            refine any_1 4 _ (by decide +kernel) rfl ?_
            refine zg1 ?_
            refine st_nil ?_
            refine any_1 5 _ (by decide +kernel) rfl ?_
            refine st_store rfl (.app (news := [ratL (nbV l k).1]) rfl rfl rfl rfl rfl (by simp) (.inl rfl) (by decide) Try.underlying25 Try.underlying25 Z34a T34 rfl B34 (.inl ⟨33, 0, _, rfl, by decide, rfl, rfl, by simp, rfl, by simp [pures, ratE.pure]⟩) (by simp; omega) (by simp; omega) (by decide)) ?_
            refine st_nil ?_
            refine any_1 6 _ (by decide +kernel) rfl ?_
            refine zg1 ?_
            refine st_nil ?_
            refine any_1 7 _ (by decide +kernel) rfl ?_
            refine zg1 ?_
            refine st_nil ?_
            refine any_0 (by decide +kernel) ?_
            refine zg1 ?_
            exact ⟨_, trivial, ((put_id' (put_id' (put_id' (put_id' (mk_id' cl) cl) cl) cl) cl)).symm⟩
          · refine st_callMp 0 rfl rfl rfl (dice_pure l _) (.cons .ptr .nil) .ptr (c_number l k (by omega) (by omega)) rfl (dice_pure l _) (ratE.pure _) ?_
            refine st_nil ?_
            refine any_2 1 4 _ _ (by decide +kernel) rfl rfl ?_ ?_
            · refine zg1 ?_
              refine st_nil ?_
              refine any_1 4 _ (by decide +kernel) rfl ?_
              refine zg1 ?_
              refine st_nil ?_
              refine any_1 5 _ (by decide +kernel) rfl ?_
              refine st_store rfl (.app (news := [ratL (nbV l k).1]) rfl rfl rfl rfl rfl (by simp) (.inl rfl) (by decide) Try.underlying25 Try.underlying25 Z34a T34 rfl B34 (.inl ⟨33, 0, _, rfl, by decide, rfl, rfl, by simp, rfl, by simp [pures, ratE.pure]⟩) (by simp; omega) (by simp; omega) (by decide)) ?_
              refine st_nil ?_
              refine any_1 6 _ (by decide +kernel) rfl ?_
              refine zg1 ?_
              refine st_nil ?_
              refine any_1 7 _ (by decide +kernel) rfl ?_
              refine zg1 ?_
              refine st_nil ?_
              refine any_0 (by decide +kernel) ?_
              refine zg1 ?_
              exact ⟨_, trivial, ((put_id' (put_id' (put_id' (put_id' (mk_id' cl) cl) cl) cl) cl)).symm⟩
            · refine zg1 ?_
              refine st_nil ?_
              refine any_1 1 _ (by decide +kernel) rfl ?_
              refine zg1 ?_
              refine st_nil ?_
              refine any_1 5 _ (by decide +kernel) rfl ?_
              refine st_store rfl (.app (news := [ratL (nbV l k).1]) rfl rfl rfl rfl rfl (by simp) (.inl rfl) (by decide) Try.underlying25 Try.underlying25 Z34a T34 rfl B34 (.inl ⟨33, 0, _, rfl, by decide, rfl, rfl, by simp, rfl, by simp [pures, ratE.pure]⟩) (by simp; omega) (by simp; omega) (by decide)) ?_
              refine st_nil ?_
              refine any_1 6 _ (by decide +kernel) rfl ?_
              refine zg1 ?_
              refine st_nil ?_
              refine any_1 7 _ (by decide +kernel) rfl ?_
              refine zg1 ?_
              refine st_nil ?_
              refine any_0 (by decide +kernel) ?_
              refine zg1 ?_
              exact ⟨_, trivial, ((put_id' (put_id' (put_id' (put_id' (mk_id' cl) cl) cl) cl) cl)).symm⟩
      · refine zg1 ?_
        refine st_nil ?_
        refine any_2 0 3 _ _ (by decide +kernel) rfl rfl ?_ ?_
        · refine zg1 ?_
          refine st_nil ?_
          refine any_2 1 3 _ _ (by decide +kernel) rfl rfl ?_ ?_
          · refine zg1 ?_
            refine st_nil ?_
            refine any_1 3 _ (by decide +kernel) rfl ?_
            refine st_callMp 0 rfl rfl rfl (dice_pure l _) (.cons .ptr .nil) .ptr (c_number l k (by omega) (by omega)) rfl (dice_pure l _) (ratE.pure _) ?_
            refine st_nil ?_
            refine any_1 4 _ (by decide +kernel) rfl ?_
            refine zg1 ?_
            refine st_nil ?_
            refine any_1 5 _ (by decide +kernel) rfl ?_
            refine st_store rfl (.app (news := [ratL (nbV l k).1]) rfl rfl rfl rfl rfl (by simp) (.inl rfl) (by decide) Try.underlying25 Try.underlying25 Z34a T34 rfl B34 (.inl ⟨33, 0, _, rfl, by decide, rfl, rfl, by simp, rfl, by simp [pures, ratE.pure]⟩) (by simp; omega) (by simp; omega) (by decide)) ?_
            refine st_nil ?_
            refine any_1 6 _ (by decide +kernel) rfl ?_
            refine zg1 ?_
            refine st_nil ?_
            refine any_1 7 _ (by decide +kernel) rfl ?_
            refine zg1 ?_
            refine st_nil ?_
            refine any_0 (by decide +kernel) ?_
            refine zg1 ?_
            exact ⟨_, trivial, ((put_id' (put_id' (put_id' (put_id' (mk_id' cl) cl) cl) cl) cl)).symm⟩
          · refine st_callMp 0 rfl rfl rfl (dice_pure l _) (.cons .ptr .nil) .ptr (c_number l k (by omega) (by omega)) rfl (dice_pure l _) (ratE.pure _) ?_
            refine st_nil ?_
            refine any_2 1 4 _ _ (by decide +kernel) rfl rfl ?_ ?_
            · refine zg1 ?_
              refine st_nil ?_
              refine any_1 4 _ (by decide +kernel) rfl ?_
              refine zg1 ?_
              refine st_nil ?_
              refine any_1 5 _ (by decide +kernel) rfl ?_
              refine st_store rfl (.app (news := [ratL (nbV l k).1]) rfl rfl rfl rfl rfl (by simp) (.inl rfl) (by decide) Try.underlying25 Try.underlying25 Z34a T34 rfl B34 (.inl ⟨33, 0, _, rfl, by decide, rfl, rfl, by simp, rfl, by simp [pures, ratE.pure]⟩) (by simp; omega) (by simp; omega) (by decide)) ?_
              refine st_nil ?_
              refine any_1 6 _ (by decide +kernel) rfl ?_
              refine zg1 ?_
              refine st_nil ?_
              refine any_1 7 _ (by decide +kernel) rfl ?_
              refine zg1 ?_
              refine st_nil ?_
              refine any_0 (by decide +kernel) ?_
              refine zg1 ?_
              exact ⟨_, trivial, ((put_id' (put_id' (put_id' (put_id' (mk_id' cl) cl) cl) cl) cl)).symm⟩
            · refine zg1 ?_
              refine st_nil ?_
              refine any_1 1 _ (by decide +kernel) rfl ?_
              refine zg1 ?_
              refine st_nil ?_
              refine any_1 5 _ (by decide +kernel) rfl ?_
              refine st_store rfl (.app (news := [ratL (nbV l k).1]) rfl rfl rfl rfl rfl (by simp) (.inl rfl) (by decide) Try.underlying25 Try.underlying25 Z34a T34 rfl B34 (.inl ⟨33, 0, _, rfl, by decide, rfl, rfl, by simp, rfl, by simp [pures, ratE.pure]⟩) (by simp; omega) (by simp; omega) (by decide)) ?_
              refine st_nil ?_
              refine any_1 6 _ (by decide +kernel) rfl ?_
              refine zg1 ?_
              refine st_nil ?_
              refine any_1 7 _ (by decide +kernel) rfl ?_
              refine zg1 ?_
              refine st_nil ?_
              refine any_0 (by decide +kernel) ?_
              refine zg1 ?_
              exact ⟨_, trivial, ((put_id' (put_id' (put_id' (put_id' (mk_id' cl) cl) cl) cl) cl)).symm⟩
        · refine st_callMp 0 rfl rfl rfl (dice_pure l _) (.cons .ptr .nil) .ptr (c_number l k (by omega) (by omega)) rfl (dice_pure l _) (ratE.pure _) ?_
          refine st_nil ?_
          refine any_2 0 4 _ _ (by decide +kernel) rfl rfl ?_ ?_
          · refine zg1 ?_
            refine st_nil ?_
            refine any_2 1 4 _ _ (by decide +kernel) rfl rfl ?_ ?_
            · refine zg1 ?_
              refine st_nil ?_
              refine any_1 4 _ (by decide +kernel) rfl ?_
              refine zg1 ?_
              refine st_nil ?_
              refine any_1 5 _ (by decide +kernel) rfl ?_
              refine st_store rfl (.app (news := [ratL (nbV l k).1]) rfl rfl rfl rfl rfl (by simp) (.inl rfl) (by decide) Try.underlying25 Try.underlying25 Z34a T34 rfl B34 (.inl ⟨33, 0, _, rfl, by decide, rfl, rfl, by simp, rfl, by simp [pures, ratE.pure]⟩) (by simp; omega) (by simp; omega) (by decide)) ?_
              refine st_nil ?_
              refine any_1 6 _ (by decide +kernel) rfl ?_
              refine zg1 ?_
              refine st_nil ?_
              refine any_1 7 _ (by decide +kernel) rfl ?_
              refine zg1 ?_
              refine st_nil ?_
              refine any_0 (by decide +kernel) ?_
              refine zg1 ?_
              exact ⟨_, trivial, ((put_id' (put_id' (put_id' (put_id' (mk_id' cl) cl) cl) cl) cl)).symm⟩
            · refine zg1 ?_
              refine st_nil ?_
              refine any_1 1 _ (by decide +kernel) rfl ?_
              refine zg1 ?_
              refine st_nil ?_
              refine any_1 5 _ (by decide +kernel) rfl ?_
              refine st_store rfl (.app (news := [ratL (nbV l k).1]) rfl rfl rfl rfl rfl (by simp) (.inl rfl) (by decide) Try.underlying25 Try.underlying25 Z34a T34 rfl B34 (.inl ⟨33, 0, _, rfl, by decide, rfl, rfl, by simp, rfl, by simp [pures, ratE.pure]⟩) (by simp; omega) (by simp; omega) (by decide)) ?_
              refine st_nil ?_
              refine any_1 6 _ (by decide +kernel) rfl ?_
              refine zg1 ?_
              refine st_nil ?_
              refine any_1 7 _ (by decide +kernel) rfl ?_
              refine zg1 ?_
              refine st_nil ?_
              refine any_0 (by decide +kernel) ?_
              refine zg1 ?_
              exact ⟨_, trivial, ((put_id' (put_id' (put_id' (put_id' (mk_id' cl) cl) cl) cl) cl)).symm⟩
          · refine zg1 ?_
            refine st_nil ?_
            refine any_1 0 _ (by decide +kernel) rfl ?_
            refine zg1 ?_
            refine st_nil ?_
            refine any_1 1 _ (by decide +kernel) rfl ?_
            refine zg1 ?_
            refine st_nil ?_
            refine any_1 5 _ (by decide +kernel) rfl ?_
            refine st_store rfl (.app (news := [ratL (nbV l k).1]) rfl rfl rfl rfl rfl (by simp) (.inl rfl) (by decide) Try.underlying25 Try.underlying25 Z34a T34 rfl B34 (.inl ⟨33, 0, _, rfl, by decide, rfl, rfl, by simp, rfl, by simp [pures, ratE.pure]⟩) (by simp; omega) (by simp; omega) (by decide)) ?_
            refine st_nil ?_
            refine any_1 6 _ (by decide +kernel) rfl ?_
            refine zg1 ?_
            refine st_nil ?_
            refine any_1 7 _ (by decide +kernel) rfl ?_
            refine zg1 ?_
            refine st_nil ?_
            refine any_0 (by decide +kernel) ?_
            refine zg1 ?_
            exact ⟨_, trivial, ((put_id' (put_id' (put_id' (put_id' (mk_id' cl) cl) cl) cl) cl)).symm⟩
    · rintro _ ⟨LR5, -, rfl⟩
      refine zg2 ?_
      refine wl_regW (Weak.kill _ 33) ?_
      refine zg5 ?_
      exact nx3 j ((nbV l k).2) (o ++ [(nbV l k).1]) ⟨nbK_le hl hk1, by simp; omega, by rw [List.append_assoc]; exact hVl, hK⟩
  · obtain rfl : c = 0 := by omega
    rw [plV, List.append_nil] at hVl
    rw [plK] at hK
    refine zg12 ?_
    rw [← hVl, ← hK]
    exact retMCf [34] rfl rfl rfl rfl rfl T27 (.agg (.cons (.pure rfl) (.cons (.pure rfl) (.cons (imm_refm ratE rfl rfl rfl) .nil)))) rfl rfl (dice_pure l _)
end Go.Proofs.Ythhdcfhaldcheaa
end
section
set_option linter.unusedVariables false
set_option linter.unusedSimpArgs false
set_option maxHeartbeats 8000000
set_option maxRecDepth 100000
attribute [local irreducible] Go.Lg.opsL Go.Lg.wpL Go.Lg.thenL Go.Lg.blockL
namespace Go.Proofs.Ythhdcfhaldcheaa
open Go.Lg
namespace H_c_FRValid
theorem zSm {p q : Prop} (k : q) (e : p = q := by simp only [e1, e2, e3, e4, p1, p2, p3, q1, q2, q3, l1, t0, t1, r1, r2, r3, r4, Nat.zero_add, Nat.reduceMul, Nat.reduceAdd, b1, b2, b3, b4, b5, b6, i1, i2, i3, i4, i5, i6, Nat.reduceBEq, val_dig, dflt, tz0, List.length_cons, List.length_nil]; exact rfl) : p := e.mpr k
end H_c_FRValid
open H_c_FRValid in
theorem c_FRValid (q : Rat) (h : rl q ≤ 68719476736) : CallP Try.prog 98 [ratL q] (bL true) := by
  have a1 := rl_num q
  have a2 := rl_den q
  have a3 := rl_denN q
  have hne := denN_ne1 q
  have hg1 := gcd1d q
  have hG := c_FGcd q.num.natAbs q.den (by omega) (by omega)
  rw [hg1] at hG
  have hk : ¬ ((dig (denN q)).length = 1 ∧ (dig (denN q)).getD 0 0 = 1) := fun ⟨a, b⟩ => by
    have := (dig_is1 (n := denN q) a).1
    omega
  have hz0 : (dig q.num.natAbs).length = 0 → (dig (denN q)).length = 0 ∧ ¬ q < 0 := fun h => by
    have hz := num0 h
    subst hz
    exact ⟨by decide, by decide +kernel⟩
  have hd1 : dig 1 = [1] := dig_small (by decide) (by decide)
  rw [show magL 1 = .list 1 ([1].map u32L) from by rw [magL, hd1]] at hG
  refine fnP Try.func98 ?_
  refine zg11 ?_
  refine cp am1 (c_FValidD _ (by omega)) ?_
  refine zg4 ?_
  refine cp am1 (c_FValidD _ (by omega)) ?_
  refine zg8 ?_
  refine op_if 19 rfl (fun h19r h19 => ?_) (fun h19r h19 => ?_)
  · refine zg8 ?_
    refine op_if 27 rfl (fun h27r h27 => ?_) (fun h27r h27 => ?_)
    · exfalso
      omega
    · refine zg5 ?_
      refine op_if 32 rfl (fun h32r h32 => ?_) (fun h32r h32 => ?_)
      · refine zg3 ?_
        refine st_pure (guardX (v := false) rfl rfl ((decide_eq_false (hz0 (by omega)).2)) rfl) fa34 ?_
        refine st_pure (guardX (v := false) rfl rfl ((decide_eq_false (hz0 (by omega)).2)) rfl) ld32 ?_
        refine st_pure (guardX (v := false) rfl rfl ((decide_eq_false (hz0 (by omega)).2)) rfl) ln32 ?_
        refine st_pure (guardX (v := false) rfl rfl ((decide_eq_false (hz0 (by omega)).2)) rfl) (.bin rfl rfl rfl) ?_
        refine st_pure (guardX (v := true) rfl rfl (h32r) rfl) (.pickF rfl ((decide_eq_false (hz0 (by omega)).2))) ?_
        refine zg4 ?_
        refine wl_condY (b := _) rfl (decide_eq_false (by have := (hz0 (by omega)).1; omega)) ?_
        refine zg3 ?_
        refine wl_regD 6 (by decide +kernel) ?_
        refine zg3 ?_
        refine cp am1 (c_FDen _) ?_
        refine cp am2 (hG) ?_
        refine zg9 ?_
        refine st_pure (guardX (v := true) rfl rfl ((by decide)) rfl) (.move _) ?_
        refine st_pure (guardX (v := true) rfl rfl ((by decide)) rfl) ix32 ?_
        refine st_pure (guardX (v := true) rfl rfl ((by decide)) rfl) ld31 ?_
        refine st_pure (guardX (v := true) rfl rfl ((by decide)) rfl) (.bin rfl rfl rfl) ?_
        refine st_pure rfl (.pickT rfl ((by decide))) ?_
        refine zg4 ?_
        exact ret1 rfl (by first | exact .pure rfl | exact .pure (limL_pure _) | exact .pure (magL_pure _) | exact .pure (ratE.pure _) | exact .pure (pure_lst u32E _ _) | exact .pure (pure_lst ratE _ _))
      · refine zg16 ?_
        refine wl_regD 6 (by decide +kernel) ?_
        refine zg3 ?_
        refine cp am1 (c_FDen _) ?_
        refine cp am2 (hG) ?_
        refine zg9 ?_
        refine st_pure (guardX (v := true) rfl rfl ((by decide)) rfl) (.move _) ?_
        refine st_pure (guardX (v := true) rfl rfl ((by decide)) rfl) ix32 ?_
        refine st_pure (guardX (v := true) rfl rfl ((by decide)) rfl) ld31 ?_
        refine st_pure (guardX (v := true) rfl rfl ((by decide)) rfl) (.bin rfl rfl rfl) ?_
        refine st_pure rfl (.pickT rfl ((by decide))) ?_
        refine zg4 ?_
        exact ret1 rfl (by first | exact .pure rfl | exact .pure (limL_pure _) | exact .pure (magL_pure _) | exact .pure (ratE.pure _) | exact .pure (pure_lst u32E _ _) | exact .pure (pure_lst ratE _ _))
  · refine zg13 ?_
    refine op_if 32 rfl (fun h32r h32 => ?_) (fun h32r h32 => ?_)
    · refine zg3 ?_
      refine st_pure (guardX (v := false) rfl rfl ((decide_eq_false (hz0 (by omega)).2)) rfl) fa34 ?_
      refine st_pure (guardX (v := false) rfl rfl ((decide_eq_false (hz0 (by omega)).2)) rfl) ld32 ?_
      refine st_pure (guardX (v := false) rfl rfl ((decide_eq_false (hz0 (by omega)).2)) rfl) ln32 ?_
      refine st_pure (guardX (v := false) rfl rfl ((decide_eq_false (hz0 (by omega)).2)) rfl) (.bin rfl rfl rfl) ?_
      refine st_pure (guardX (v := true) rfl rfl (h32r) rfl) (.pickF rfl ((decide_eq_false (hz0 (by omega)).2))) ?_
      refine zg4 ?_
      refine wl_condY (b := _) rfl (decide_eq_false (by have := (hz0 (by omega)).1; omega)) ?_
      refine zg3 ?_
      refine wl_regD 6 (by decide +kernel) ?_
      refine zg3 ?_
      refine cp am1 (c_FDen _) ?_
      refine cp am2 (hG) ?_
      refine zg9 ?_
      refine st_pure (guardX (v := true) rfl rfl ((by decide)) rfl) (.move _) ?_
      refine st_pure (guardX (v := true) rfl rfl ((by decide)) rfl) ix32 ?_
      refine st_pure (guardX (v := true) rfl rfl ((by decide)) rfl) ld31 ?_
      refine st_pure (guardX (v := true) rfl rfl ((by decide)) rfl) (.bin rfl rfl rfl) ?_
      refine st_pure rfl (.pickT rfl ((by decide))) ?_
      refine zg4 ?_
      exact ret1 rfl (by first | exact .pure rfl | exact .pure (limL_pure _) | exact .pure (magL_pure _) | exact .pure (ratE.pure _) | exact .pure (pure_lst u32E _ _) | exact .pure (pure_lst ratE _ _))
    · refine zg16 ?_
      refine wl_regD 6 (by decide +kernel) ?_
      refine zg3 ?_
      refine cp am1 (c_FDen _) ?_
      refine cp am2 (hG) ?_
      refine zg9 ?_
      refine st_pure (guardX (v := true) rfl rfl ((by decide)) rfl) (.move _) ?_
      refine st_pure (guardX (v := true) rfl rfl ((by decide)) rfl) ix32 ?_
      refine st_pure (guardX (v := true) rfl rfl ((by decide)) rfl) ld31 ?_
      refine st_pure (guardX (v := true) rfl rfl ((by decide)) rfl) (.bin rfl rfl rfl) ?_
      refine st_pure rfl (.pickT rfl ((by decide))) ?_
      refine zg4 ?_
      exact ret1 rfl (by first | exact .pure rfl | exact .pure (limL_pure _) | exact .pure (magL_pure _) | exact .pure (ratE.pure _) | exact .pure (pure_lst u32E _ _) | exact .pure (pure_lst ratE _ _))
namespace H_c_FValids
theorem zSm {p q : Prop} (k : q) (e : p = q := by simp only [e1, e2, e3, e4, p1, p2, p3, q1, q2, q3, l1, t0, t1, r1, r2, r3, r4, Nat.zero_add, Nat.reduceMul, Nat.reduceAdd, b1, b2, b3, b4, b5, b6, i1, i2, i3, i4, i5, i6, Nat.reduceBEq, dfq, kills_map ratE, ratL_kill, spL_kill, LV.kill, kills]; exact rfl) : p := e.mpr k
end H_c_FValids
open H_c_FValids in
theorem c_FValids (c : List Rat) (hl : c.length ≤ 1048576) (hcR : ∀ x ∈ c, rl x ≤ 68719476736) : CallP Try.prog 57 [.list 3 (c.map ratL)] (bL true) := by
  refine fnP Try.func57 ?_
  refine zg12 ?_
  refine lp1 (fun (k : Nat) L => (((St.mk L.slot (hp [])).put (some 0) (.list 3 (c.map ratL))).put (some 3) (nI64 k))) (fun k => k ≤ c.length) (fun k => c.length - k) 0 (Nat.zero_le _) ?_
  rintro k L1 hk
  refine zg9 ?_
  refine wl_if rfl (fun h7r h7 => ?_) (fun h7r h7 => ?_)
  · have hk2 : k < c.length := by omega
    have hr1 := hcR _ (getD_mem (i := k) hk2)
    refine zg10 ?_
    refine cp am1 (c_FRValid (c.getD k 0) (by omega)) ?_
    refine zg9 ?_
    refine st_pure rfl (.bin rfl rfl (add1N (by omega))) ?_
    refine zg3 ?_
    exact nx1 (k + 1) (by omega)
  · refine zg11 ?_
    exact ret1 rfl (by first | exact .pure rfl | exact .pure (limL_pure _) | exact .pure (magL_pure _) | exact .pure (ratE.pure _) | exact .pure (pure_lst u32E _ _) | exact .pure (pure_lst ratE _ _))
namespace H_c_FVal7
theorem zSm {p q : Prop} (k : q) (e : p = q := by simp only [e1, e2, e3, e4, p1, p2, p3, q1, q2, q3, l1, t0, t1, r1, r2, r3, r4, Nat.zero_add, Nat.reduceMul, Nat.reduceAdd, b1, b2, b3, b4, b5, b6, i1, i2, i3, i4, i5, i6, Nat.reduceBEq, dfq, kills_map ratE, ratL_kill, spL_kill, LV.kill, kills]; exact rfl) : p := e.mpr k
end H_c_FVal7
open H_c_FVal7 in
theorem c_FVal7 (u v : Int) (c : List Rat) (hu : -9223372036854775808 ≤ u ∧ u ≤ 9223372036854775807) (hv : -9223372036854775808 ≤ v ∧ v ≤ 9223372036854775807) (hl : c.length ≤ 1048576) (hcR : ∀ x ∈ c, rl x ≤ 68719476736) : CallP Try.prog 15 [.agg [iL u, iL v, .list 3 (c.map ratL)]] (bL (vaT u v c)) := by
  refine fnP Try.func15 ?_
  refine zg12 ?_
  refine op_if 6 rfl (fun h6r h6 => ?_) (fun h6r h6 => ?_)
  · refine zg5 ?_
    refine op_if 11 rfl (fun h11r h11 => ?_) (fun h11r h11 => ?_)
    · refine zg5 ?_
      refine op_if 16 rfl (fun h16r h16 => ?_) (fun h16r h16 => ?_)
      · refine zg5 ?_
        refine op_if 21 rfl (fun h21r h21 => ?_) (fun h21r h21 => ?_)
        · refine zg5 ?_
          refine st_pure (guardX (v := true) rfl rfl (h21r) rfl) (.bin rfl rfl (add64 (by omega) (by omega))) ?_
          refine zg2 ?_
          refine st_pure (guardX (v := true) rfl rfl (h21r) rfl) (.bin rfl rfl (add64 (by omega) (by omega))) ?_
          refine st_pure (guardX (v := true) rfl rfl (h21r) rfl) (.bin rfl rfl (mulI (by omega) (by omega) (by omega) (by omega))) ?_
          refine zg3 ?_
          refine op_if 34 rfl (fun h34r h34 => ?_) (fun h34r h34 => ?_)
          · refine zg2 ?_
            refine cp am1 (c_FValids c hl hcR) ?_
            refine zg5 ?_
            first | (rw [show vaT u v c = true from decide_eq_true ⟨by omega, by omega, by omega, by omega, by omega⟩]; exact ret1 rfl (.pure rfl)) | (rw [show vaT u v c = false from decide_eq_false (by omega)]; exact ret1 rfl (.pure rfl))
          · refine zg8 ?_
            first | (rw [show vaT u v c = true from decide_eq_true ⟨by omega, by omega, by omega, by omega, by omega⟩]; exact ret1 rfl (.pure rfl)) | (rw [show vaT u v c = false from decide_eq_false (by omega)]; exact ret1 rfl (.pure rfl))
        · refine zg21 ?_
          first | (rw [show vaT u v c = true from decide_eq_true ⟨by omega, by omega, by omega, by omega, by omega⟩]; exact ret1 rfl (.pure rfl)) | (rw [show vaT u v c = false from decide_eq_false (by omega)]; exact ret1 rfl (.pure rfl))
      · refine zg26 ?_
        first | (rw [show vaT u v c = true from decide_eq_true ⟨by omega, by omega, by omega, by omega, by omega⟩]; exact ret1 rfl (.pure rfl)) | (rw [show vaT u v c = false from decide_eq_false (by omega)]; exact ret1 rfl (.pure rfl))
    · refine zg31 ?_
      first | (rw [show vaT u v c = true from decide_eq_true ⟨by omega, by omega, by omega, by omega, by omega⟩]; exact ret1 rfl (.pure rfl)) | (rw [show vaT u v c = false from decide_eq_false (by omega)]; exact ret1 rfl (.pure rfl))
  · refine zg36 ?_
    first | (rw [show vaT u v c = true from decide_eq_true ⟨by omega, by omega, by omega, by omega, by omega⟩]; exact ret1 rfl (.pure rfl)) | (rw [show vaT u v c = false from decide_eq_false (by omega)]; exact ret1 rfl (.pure rfl))
namespace H_c_RValRaw
theorem zSm {p q : Prop} (k : q) (e : p = q := by simp only [e1, e2, e3, e4, p1, p2, p3, q1, q2, q3, l1, t0, t1, r1, r2, r3, r4, Nat.zero_add, Nat.reduceMul, Nat.reduceAdd, b1, b2, b3, b4, b5, b6, i1, i2, i3, i4, i5, i6, Nat.reduceBEq, List.length_cons, List.length_nil]; exact rfl) : p := e.mpr k
end H_c_RValRaw
open H_c_RValRaw in
theorem c_RValRaw  : CallP Try.prog 56 [.agg [.v (.bool false), .list 1 [], .list 1 ([1].map u32L)]] (bL false) := by
  refine fnP Try.func56 ?_
  refine zg11 ?_
  refine cp am1 (c_NValid [] (by decide)) ?_
  refine zg2 ?_
  refine st_pure (guardX (v := false) rfl rfl ((by decide)) rfl) fa34 ?_
  refine st_pure (guardX (v := false) rfl rfl ((by decide)) rfl) ld32 ?_
  refine st_callP (guardX (v := false) rfl rfl ((by decide)) rfl) (.cons im0 .nil) (c_NValid [1] (by decide)) ?_
  refine st_pure (guardX (v := false) rfl rfl ((by decide)) rfl) (.not rfl) ?_
  refine st_pure rfl (.pickF rfl ((by decide))) ?_
  refine zg1 ?_
  refine st_pure (guardX (v := false) rfl rfl ((by decide)) rfl) fa34 ?_
  refine st_pure (guardX (v := false) rfl rfl ((by decide)) rfl) ld32 ?_
  refine st_pure (guardX (v := false) rfl rfl ((by decide)) rfl) ln32 ?_
  refine st_pure (guardX (v := false) rfl rfl ((by decide)) rfl) (.bin rfl rfl rfl) ?_
  refine st_pure (guardX (v := false) rfl rfl ((by decide)) rfl) (.move _) ?_
  refine st_pure (guardX (v := true) rfl rfl ((by decide)) rfl) fa34 ?_
  refine st_pure (guardX (v := true) rfl rfl ((by decide)) rfl) ld32 ?_
  refine st_pure (guardX (v := true) rfl rfl ((by decide)) rfl) ix32 ?_
  refine st_pure (guardX (v := true) rfl rfl ((by decide)) rfl) ld31 ?_
  refine st_pure (guardX (v := true) rfl rfl ((by decide)) rfl) (.bin rfl rfl rfl) ?_
  refine st_pure (guardX (v := false) rfl rfl ((by decide)) rfl) (.pickT rfl ((by decide))) ?_
  refine st_pure rfl (.pickF rfl ((by decide))) ?_
  refine zg2 ?_
  refine wl_condX (b := _) rfl (by decide) ?_
  refine zg7 ?_
  exact ret1 rfl (by first | exact .pure rfl | exact .pure (limL_pure _) | exact .pure (magL_pure _) | exact .pure (ratE.pure _) | exact .pure (pure_lst u32E _ _) | exact .pure (pure_lst ratE _ _))
namespace H_c_TValRaw
theorem zSm {p q : Prop} (k : q) (e : p = q := by simp only [e1, e2, e3, e4, p1, p2, p3, q1, q2, q3, l1, t0, t1, r1, r2, r3, r4, Nat.zero_add, Nat.reduceMul, Nat.reduceAdd, b1, b2, b3, b4, b5, b6, i1, i2, i3, i4, i5, i6, Nat.reduceBEq, dfq, List.length_cons, List.length_map, kills_map ratE, ratL_kill, spL_kill, LV.kill, kills]; exact rfl) : p := e.mpr k
end H_c_TValRaw
open H_c_TValRaw in
theorem c_TValRaw (u v : Nat) (c : List Rat) (hc : c.length + 1 = (u + 1) * (v + 1)) (hu : u ≤ 40) (hv : v ≤ 40) : CallP Try.prog 14 [.agg [nI64 u, nI64 v, .list 3 (.agg [.v (.bool false), .list 1 [], .list 1 ([1].map u32L)] :: c.map ratL)]] (bL false) := by
  have hb : (u + 1) * (v + 1) ≤ 1681 := Nat.le_trans (Nat.mul_le_mul (show u + 1 ≤ 41 by omega) (show v + 1 ≤ 41 by omega)) (by decide)
  refine fnP Try.func14 ?_
  refine zg13 ?_
  refine op_if 8 rfl (fun h8r h8 => ?_) (fun h8r h8 => ?_)
  · refine zg37 ?_
    exact ret1 rfl (by first | exact .pure rfl | exact .pure (limL_pure _) | exact .pure (magL_pure _) | exact .pure (ratE.pure _) | exact .pure (pure_lst u32E _ _) | exact .pure (pure_lst ratE _ _))
  · refine zg5 ?_
    refine op_if 13 rfl (fun h13r h13 => ?_) (fun h13r h13 => ?_)
    · refine zg32 ?_
      exact ret1 rfl (by first | exact .pure rfl | exact .pure (limL_pure _) | exact .pure (magL_pure _) | exact .pure (ratE.pure _) | exact .pure (pure_lst u32E _ _) | exact .pure (pure_lst ratE _ _))
    · refine zg5 ?_
      refine op_if 18 rfl (fun h18r h18 => ?_) (fun h18r h18 => ?_)
      · refine zg27 ?_
        exact ret1 rfl (by first | exact .pure rfl | exact .pure (limL_pure _) | exact .pure (magL_pure _) | exact .pure (ratE.pure _) | exact .pure (pure_lst u32E _ _) | exact .pure (pure_lst ratE _ _))
      · refine zg5 ?_
        refine op_if 23 rfl (fun h23r h23 => ?_) (fun h23r h23 => ?_)
        · refine zg22 ?_
          exact ret1 rfl (by first | exact .pure rfl | exact .pure (limL_pure _) | exact .pure (magL_pure _) | exact .pure (ratE.pure _) | exact .pure (pure_lst u32E _ _) | exact .pure (pure_lst ratE _ _))
        · refine zg5 ?_
          refine st_pure (guardX (v := false) rfl rfl (h23r) rfl) (.bin rfl rfl (add1N (by omega))) ?_
          refine zg2 ?_
          refine st_pure (guardX (v := false) rfl rfl (h23r) rfl) (.bin rfl rfl (add1N (by omega))) ?_
          refine st_pure (guardX (v := false) rfl rfl (h23r) rfl) (.bin rfl rfl (mulE hc.symm (by omega))) ?_
          refine zg4 ?_
          refine wl_if rfl (fun h35r h35 => ?_) (fun h35r h35 => ?_)
          · refine zg7 ?_
            exact ret1 rfl (by first | exact .pure rfl | exact .pure (limL_pure _) | exact .pure (magL_pure _) | exact .pure (ratE.pure _) | exact .pure (pure_lst u32E _ _) | exact .pure (pure_lst ratE _ _))
          · refine zg12 ?_
            refine wl_weak (Weak.kill _ 1) ?_
            refine lp1 (fun (k : Nat) L => ((((St.mk L.slot (hp [])).put (some 37) (.list 3 (.agg [.v (.bool false), .list 1 [], .list 1 ([1].map u32L)] :: c.map ratL))).put (some 38) (nI64 (c.length + 1))).put (some 39) (nI64 k))) (fun k => k = 0) (fun k => 0) 0 rfl ?_
            rintro k L1 hk
            refine zg6 ?_
            refine wl_if rfl (fun h40r h40 => ?_) (fun h40r h40 => ?_)
            · subst hk
              refine zg6 ?_
              refine st_pure rfl (.idxL rfl Try.underlying25 T34 rfl (by decide) rfl rfl) ?_
              refine zg8 ?_
              refine cp am1 (c_RValRaw) ?_
              refine zg15 ?_
              exact ret1 rfl (by first | exact .pure rfl | exact .pure (limL_pure _) | exact .pure (magL_pure _) | exact .pure (ratE.pure _) | exact .pure (pure_lst u32E _ _) | exact .pure (pure_lst ratE _ _))
            · exfalso
              omega
end Go.Proofs.Ythhdcfhaldcheaa
end
section
set_option linter.unusedVariables false
set_option linter.unusedSimpArgs false
set_option maxHeartbeats 8000000
set_option maxRecDepth 100000
attribute [local irreducible] Go.Lg.opsL Go.Lg.wpL Go.Lg.thenL Go.Lg.blockL
namespace Go.Proofs.Ythhdcfhaldcheaa
open Go.Lg
def rw26 : LV := .agg [.v (.bool false), .list 1 [], .ref 26 1 0 1]
def kn5 (U V : Nat) (c : List Rat) : LV := .agg [nI64 U, nI64 V, .ref 32 3 0 (1 + (c.drop 1).length)]
def nz5 : LV := .agg [.v (.int .i64 0), .v (.int .i64 0), .v (.slice none 0 0)]
def nt5 (U V : Nat) (c : List Rat) : LV := .agg [nI64 U, nI64 V, .list 3 (c.map ratL)]
/-- the memory while the region runs -/
def hh5 (U V : Nat) (c : List Rat) (M : LV) (d4 d6 d10 d12 d13 : Bool) : Heap := fun b =>
  if b = 9 then (if d12 then some ⟨3, [if d13 then kn5 U V c else nz5], true⟩ else none) else
  if b = 32 then (if d10 then some ⟨3, rw26 :: (c.drop 1).map ratL, true⟩ else none) else
  if b = 28 then (if d10 then none else if d6 then some ⟨3, [rw26], true⟩ else none) else
  if b = 26 then (if d4 then some ⟨1, [u32L 1], true⟩ else none) else
  if b = 7 then some ⟨3, [nt5 U V c], true⟩ else if b = 8 then some ⟨3, [M], true⟩ else none
structure F5 (U V : Nat) (c : List Rat) (M : LV) (d0 d1 d2 d3 d4 d5 d6 d7 d8 d9 d10 d11 d12 d13 : Bool) (L : St) : Prop where
  hH : L.heap = hh5 U V c M d4 d6 d10 d12 d13
  s7 : L.slot 7 = .eptr 7 3 0 0
  s8 : L.slot 8 = .eptr 8 3 0 0
  f0 : d0 = true → L.slot 22 = .eptr 7 3 0 0
  f1 : d1 = true → L.slot 23 = nI64 U
  f2 : d2 = true → L.slot 24 = .eptr 7 3 0 1
  f3 : d3 = true → L.slot 25 = nI64 V
  f4 : d4 = true → L.slot 26 = .ref 26 1 0 1
  f5 : d5 = true → L.slot 27 = rw26
  f6 : d6 = true → d10 = false → L.slot 28 = .ref 28 3 0 1
  f7 : d7 = true → L.slot 29 = .eptr 7 3 0 2
  f8 : d8 = true → L.slot 30 = .list 3 (c.map ratL)
  f9 : d9 = true → L.slot 31 = .list 3 ((c.drop 1).map ratL)
  f10 : d10 = true → L.slot 32 = .ref 32 3 0 (1 + (c.drop 1).length)
  f11 : d11 = true → L.slot 33 = kn5 U V c
  f12 : d12 = true → L.slot 9 = .eptr 9 3 0 0
  g10 : d10 = true → d6 = true
  g13 : d13 = true → d12 = true
def I5 (U V : Nat) (c : List Rat) (M : LV) (D : Array Bool) (L : St) : Prop := ∃ d0 d1 d2 d3 d4 d5 d6 d7 d8 d9 d10 d11 d12 d13 : Bool, D = #[d0, d1, d2, d3, d4, d5, d6, d7, d8, d9, d10, d11, d12, d13] ∧ F5 U V c M d0 d1 d2 d3 d4 d5 d6 d7 d8 d9 d10 d11 d12 d13 L
theorem hk5 {U V : Nat} {c : List Rat} {M : LV} {d4 d12 d13 : Bool} (hM : M.pure = true) (b : Nat) : (if b = 32 then some (⟨3, kills 28 ([rw26].take 1 ++ (c.drop 1).map ratL), true⟩ : Blk) else if b = 28 then none else (hh5 U V c M d4 true false d12 d13 b).map fun blk => ⟨blk.sz, kills 28 blk.vals, blk.mt⟩) = hh5 U V c M d4 true true d12 d13 b := by
  have e1 : rw26.kill 28 = rw26 := rfl
  have e2 := kills_map ratE 28 (c.drop 1)
  have e3 : (nt5 U V c).kill 28 = nt5 U V c := LV.kill_pure 28 _ (net_pureN U V c)
  have e4 : M.kill 28 = M := LV.kill_pure 28 _ hM
  have e5 : (kn5 U V c).kill 28 = kn5 U V c := rfl
  have e6 : nz5.kill 28 = nz5 := rfl
  have e7 : (u32L 1).kill 28 = u32L 1 := rfl
  unfold hh5
  by_cases h32 : b = 32
  · subst h32
    show some (⟨3, kills 28 (rw26 :: (c.drop 1).map ratL), true⟩ : Blk) = some ⟨3, rw26 :: (c.drop 1).map ratL, true⟩
    simp only [kills, e1, e2]
  by_cases h28 : b = 28
  · subst h28; simp
  by_cases h9 : b = 9
  · subst h9; cases d12 <;> cases d13 <;> simp [kills, e5, e6]
  by_cases h26 : b = 26
  · subst h26; cases d4 <;> simp [kills, e7]
  by_cases h7 : b = 7
  · subst h7; simp [kills, e3]
  by_cases h8 : b = 8
  · subst h8; simp [kills, e4]
  simp [h32, h28, h9, h26, h7, h8]
theorem p5_0 {U V : Nat} {c : List Rat} {M : LV} {d0 d1 d2 d3 d4 d5 d6 d7 d8 d9 d10 d11 d12 d13 : Bool} {L : St} {ops : Array Oper} {ty : TypeId} {pos : String} {af : Array Edge} (hM : M.pure = true) (F : F5 U V c M d0 d1 d2 d3 d4 d5 d6 d7 d8 d9 d10 d11 d12 d13 L) (hd : d0 = false) : opsL Try.prog false ops [⟨some 22, .fieldAddr 27 (.tmp 7) 0, ty, pos, af, none⟩] L (F5 U V c M true d1 d2 d3 d4 d5 d6 d7 d8 d9 d10 d11 d12 d13) := by
  refine st_pure rfl (.fieldAddrE F.s7 SL27 (by decide)) ?_
  refine st_nil ?_
  exact ⟨F.hH, F.s7, F.s8, (fun _ => rfl), F.f1, F.f2, F.f3, F.f4, F.f5, F.f6, F.f7, F.f8, F.f9, F.f10, F.f11, F.f12, F.g10, F.g13⟩
theorem p5_1 {U V : Nat} {c : List Rat} {M : LV} {d0 d1 d2 d3 d4 d5 d6 d7 d8 d9 d10 d11 d12 d13 : Bool} {L : St} {ops : Array Oper} {ty : TypeId} {pos : String} {af : Array Edge} (hM : M.pure = true) (F : F5 U V c M d0 d1 d2 d3 d4 d5 d6 d7 d8 d9 d10 d11 d12 d13 L) (hd : d1 = false) (hd0 : d0 = true) : opsL Try.prog false ops [⟨some 23, .load 3 (.tmp 22), ty, pos, af, none⟩] L (F5 U V c M d0 true d2 d3 d4 d5 d6 d7 d8 d9 d10 d11 d12 d13) := by
  refine st_pure rfl (.loadE (F.f0 hd0) (by rw [F.hH]; rfl) rfl rfl rfl rfl T3) ?_
  refine st_nil ?_
  exact ⟨F.hH, F.s7, F.s8, F.f0, (fun _ => rfl), F.f2, F.f3, F.f4, F.f5, F.f6, F.f7, F.f8, F.f9, F.f10, F.f11, F.f12, F.g10, F.g13⟩
theorem p5_2 {U V : Nat} {c : List Rat} {M : LV} {d0 d1 d2 d3 d4 d5 d6 d7 d8 d9 d10 d11 d12 d13 : Bool} {L : St} {ops : Array Oper} {ty : TypeId} {pos : String} {af : Array Edge} (hM : M.pure = true) (F : F5 U V c M d0 d1 d2 d3 d4 d5 d6 d7 d8 d9 d10 d11 d12 d13 L) (hd : d2 = false) : opsL Try.prog false ops [⟨some 24, .fieldAddr 27 (.tmp 7) 1, ty, pos, af, none⟩] L (F5 U V c M d0 d1 true d3 d4 d5 d6 d7 d8 d9 d10 d11 d12 d13) := by
  refine st_pure rfl (.fieldAddrE F.s7 SL27 (by decide)) ?_
  refine st_nil ?_
  exact ⟨F.hH, F.s7, F.s8, F.f0, F.f1, (fun _ => rfl), F.f3, F.f4, F.f5, F.f6, F.f7, F.f8, F.f9, F.f10, F.f11, F.f12, F.g10, F.g13⟩
theorem p5_3 {U V : Nat} {c : List Rat} {M : LV} {d0 d1 d2 d3 d4 d5 d6 d7 d8 d9 d10 d11 d12 d13 : Bool} {L : St} {ops : Array Oper} {ty : TypeId} {pos : String} {af : Array Edge} (hM : M.pure = true) (F : F5 U V c M d0 d1 d2 d3 d4 d5 d6 d7 d8 d9 d10 d11 d12 d13 L) (hd : d3 = false) (hd2 : d2 = true) : opsL Try.prog false ops [⟨some 25, .load 3 (.tmp 24), ty, pos, af, none⟩] L (F5 U V c M d0 d1 d2 true d4 d5 d6 d7 d8 d9 d10 d11 d12 d13) := by
  refine st_pure rfl (.loadE (F.f2 hd2) (by rw [F.hH]; rfl) rfl rfl rfl rfl T3) ?_
  refine st_nil ?_
  exact ⟨F.hH, F.s7, F.s8, F.f0, F.f1, F.f2, (fun _ => rfl), F.f4, F.f5, F.f6, F.f7, F.f8, F.f9, F.f10, F.f11, F.f12, F.g10, F.g13⟩
theorem p5_4 {U V : Nat} {c : List Rat} {M : LV} {d0 d1 d2 d3 d4 d5 d6 d7 d8 d9 d10 d11 d12 d13 : Bool} {L : St} {ops : Array Oper} {ty : TypeId} {pos : String} {af : Array Edge} (hM : M.pure = true) (F : F5 U V c M d0 d1 d2 d3 d4 d5 d6 d7 d8 d9 d10 d11 d12 d13 L) (hd : d4 = false) : opsL Try.prog false ops [⟨some 26, .buildSlice 32 1 #[(0, .const (.int .u32 1))], ty, pos, af, none⟩] L (F5 U V c M d0 d1 d2 d3 true d5 d6 d7 d8 d9 d10 d11 d12 d13) := by
  refine st_alloc rfl (by rw [F.hH, hd]; rfl) (.lit1 (a := 1) u32E Try.underlying32 Z31 T31 rfl (by decide) (by decide)) ?_
  refine st_nil ?_
  exact ⟨(by funext b; show (if b = 26 then _ else L.heap b) = _; rw [F.hH, hd]; unfold hh5; by_cases h : b = 26; simp [h, buildL, List.replicate]; simp [h]), F.s7, F.s8, F.f0, F.f1, F.f2, F.f3, (fun _ => rfl), F.f5, F.f6, F.f7, F.f8, F.f9, F.f10, F.f11, F.f12, F.g10, F.g13⟩
theorem p5_5 {U V : Nat} {c : List Rat} {M : LV} {d0 d1 d2 d3 d4 d5 d6 d7 d8 d9 d10 d11 d12 d13 : Bool} {L : St} {ops : Array Oper} {ty : TypeId} {pos : String} {af : Array Edge} (hM : M.pure = true) (F : F5 U V c M d0 d1 d2 d3 d4 d5 d6 d7 d8 d9 d10 d11 d12 d13 L) (hd : d5 = false) (hd4 : d4 = true) : opsL Try.prog false ops [⟨some 27, .build 34 #[(2, .tmp 26)], ty, pos, af, none⟩] L (F5 U V c M d0 d1 d2 d3 d4 true d6 d7 d8 d9 d10 d11 d12 d13) := by
  have e5 : L.ev (.tmp 26) = .ref 26 1 0 1 := F.f4 hd4
  refine st_pure rfl (.build (zs := [.v (.bool false), .list 1 [], .list 1 []]) SL34 Z34a (by intro p hp; simp only [List.mem_singleton] at hp; subst hp; exact ⟨_, rfl, by rw [e5]; rfl, by rw [e5]; exact ne0⟩)) ?_
  refine st_nil ?_
  exact ⟨F.hH, F.s7, F.s8, F.f0, F.f1, F.f2, F.f3, F.f4, (fun _ => by show LV.agg (buildL [.v (.bool false), .list 1 [], .list 1 []] [(2, L.ev (.tmp 26))]) = _; rw [e5]; rfl), F.f6, F.f7, F.f8, F.f9, F.f10, F.f11, F.f12, F.g10, F.g13⟩
theorem p5_6 {U V : Nat} {c : List Rat} {M : LV} {d0 d1 d2 d3 d4 d5 d6 d7 d8 d9 d10 d11 d12 d13 : Bool} {L : St} {ops : Array Oper} {ty : TypeId} {pos : String} {af : Array Edge} (hM : M.pure = true) (F : F5 U V c M d0 d1 d2 d3 d4 d5 d6 d7 d8 d9 d10 d11 d12 d13 L) (hd : d6 = false) (hd5 : d5 = true) : opsL Try.prog false ops [⟨some 28, .buildSlice 25 1 #[(0, .tmp 27)], ty, pos, af, none⟩] L (F5 U V c M d0 d1 d2 d3 d4 d5 true d7 d8 d9 d10 d11 d12 d13) := by
  have e6 : L.ev (.tmp 27) = rw26 := F.f5 hd5
  refine st_alloc rfl (by rw [F.hH, hd]; cases d10 with | true => exact absurd (F.g10 rfl) (by rw [hd]; decide) | false => rfl) (.lit (z := .agg [.v (.bool false), .list 1 [], .list 1 []]) (sz := 3) Try.underlying25 Z34a T34 rfl (by decide) (by decide) (by decide) (by intro p hp; simp only [List.mem_singleton] at hp; subst hp; exact ⟨by decide, by rw [e6]; rfl, by rw [e6]; exact ⟨(fun h => by cases h), (fun _ h => by cases h)⟩⟩)) ?_
  refine st_nil ?_
  have hd10 : d10 = false := by cases h : d10 with | true => exact absurd (F.g10 h) (by rw [hd]; decide) | false => rfl
  exact ⟨(by funext b; show (if b = 28 then _ else L.heap b) = _; rw [F.hH, hd, hd10]; unfold hh5; by_cases h : b = 28; simp [h, buildL, List.replicate, e6]; simp [h]), F.s7, F.s8, F.f0, F.f1, F.f2, F.f3, F.f4, F.f5, (fun _ _ => rfl), F.f7, F.f8, F.f9, F.f10, F.f11, F.f12, (fun _ => rfl), F.g13⟩
theorem p5_7 {U V : Nat} {c : List Rat} {M : LV} {d0 d1 d2 d3 d4 d5 d6 d7 d8 d9 d10 d11 d12 d13 : Bool} {L : St} {ops : Array Oper} {ty : TypeId} {pos : String} {af : Array Edge} (hM : M.pure = true) (F : F5 U V c M d0 d1 d2 d3 d4 d5 d6 d7 d8 d9 d10 d11 d12 d13 L) (hd : d7 = false) : opsL Try.prog false ops [⟨some 29, .fieldAddr 27 (.tmp 7) 2, ty, pos, af, none⟩] L (F5 U V c M d0 d1 d2 d3 d4 d5 d6 true d8 d9 d10 d11 d12 d13) := by
  refine st_pure rfl (.fieldAddrE F.s7 SL27 (by decide)) ?_
  refine st_nil ?_
  exact ⟨F.hH, F.s7, F.s8, F.f0, F.f1, F.f2, F.f3, F.f4, F.f5, F.f6, (fun _ => rfl), F.f8, F.f9, F.f10, F.f11, F.f12, F.g10, F.g13⟩
theorem p5_8 {U V : Nat} {c : List Rat} {M : LV} {d0 d1 d2 d3 d4 d5 d6 d7 d8 d9 d10 d11 d12 d13 : Bool} {L : St} {ops : Array Oper} {ty : TypeId} {pos : String} {af : Array Edge} (hM : M.pure = true) (F : F5 U V c M d0 d1 d2 d3 d4 d5 d6 d7 d8 d9 d10 d11 d12 d13 L) (hd : d8 = false) (hd7 : d7 = true) : opsL Try.prog false ops [⟨some 30, .load 25 (.tmp 29), ty, pos, af, none⟩] L (F5 U V c M d0 d1 d2 d3 d4 d5 d6 d7 true d9 d10 d11 d12 d13) := by
  refine st_pure rfl (.loadE (F.f7 hd7) (by rw [F.hH]; rfl) rfl rfl rfl rfl T25) ?_
  refine st_nil ?_
  exact ⟨F.hH, F.s7, F.s8, F.f0, F.f1, F.f2, F.f3, F.f4, F.f5, F.f6, F.f7, (fun _ => rfl), F.f9, F.f10, F.f11, F.f12, F.g10, F.g13⟩
theorem p5_9 {U V : Nat} {c : List Rat} {M : LV} {d0 d1 d2 d3 d4 d5 d6 d7 d8 d9 d10 d11 d12 d13 : Bool} {L : St} {ops : Array Oper} {ty : TypeId} {pos : String} {af : Array Edge} (hM : M.pure = true) (hc0 : 1 ≤ c.length) (hcl : c.length ≤ 64) (F : F5 U V c M d0 d1 d2 d3 d4 d5 d6 d7 d8 d9 d10 d11 d12 d13 L) (hd : d9 = false) (hd8 : d8 = true) : opsL Try.prog false ops [⟨some 31, .slice 25 (.tmp 30) (some (.const (.int .i64 1))) none none, ty, pos, af, none⟩] L (F5 U V c M d0 d1 d2 d3 d4 d5 d6 d7 d8 true d10 d11 d12 d13) := by
  refine st_pure rfl (.sliceLl (a := 1) ratE (F.f8 hd8) Try.underlying25 T34 rfl hc0) ?_
  refine st_nil ?_
  exact ⟨F.hH, F.s7, F.s8, F.f0, F.f1, F.f2, F.f3, F.f4, F.f5, F.f6, F.f7, F.f8, (fun _ => rfl), F.f10, F.f11, F.f12, F.g10, F.g13⟩
theorem p5_10 {U V : Nat} {c : List Rat} {M : LV} {d0 d1 d2 d3 d4 d5 d6 d7 d8 d9 d10 d11 d12 d13 : Bool} {L : St} {ops : Array Oper} {ty : TypeId} {pos : String} {af : Array Edge} (hM : M.pure = true) (hc0 : 1 ≤ c.length) (hcl : c.length ≤ 64) (F : F5 U V c M d0 d1 d2 d3 d4 d5 d6 d7 d8 d9 d10 d11 d12 d13 L) (hd : d10 = false) (hd6 : d6 = true) (hd9 : d9 = true) : opsL Try.prog false ops [⟨some 32, .call ⟨.builtin .append, #[.tmp 28, .tmp 31], #[25, 25]⟩, ty, pos, af, none⟩] L (F5 U V c M d0 d1 d2 d3 d4 d5 d6 d7 d8 d9 true d11 d12 d13) := by
  have e10 : L.ev (.tmp 28) = .ref 28 3 0 1 := F.f6 hd6 hd
  have e11 : L.ev (.tmp 31) = .list 3 ((c.drop 1).map ratL) := F.f9 hd9
  refine st_store rfl (.app (d := 32) (news := (c.drop 1).map ratL) (blk := ⟨3, [rw26], true⟩) rfl e10 (by rw [F.hH, hd, hd6]; rfl) rfl rfl (by decide) (.inr (by rw [F.hH, hd]; rfl)) (by decide) Try.underlying25 Try.underlying25 Z34a T34 rfl B34 (.inr (.inl e11)) (by rw [List.length_map, List.length_drop]; omega) (by rw [List.length_map, List.length_drop]; omega) (by decide)) ?_
  refine st_nil ?_
  exact ⟨(by funext b; show (if b = 32 then _ else if b = 28 then none else (L.heap b).map _) = _; rw [F.hH, hd, hd6]; exact hk5 hM b), (by show (L.slot 7).kill 28 = _; rw [F.s7]; rfl), (by show (L.slot 8).kill 28 = _; rw [F.s8]; rfl), (fun h => by show (L.slot 22).kill 28 = _; rw [F.f0 h]; rfl), (fun h => by show (L.slot 23).kill 28 = _; rw [F.f1 h]; rfl), (fun h => by show (L.slot 24).kill 28 = _; rw [F.f2 h]; rfl), (fun h => by show (L.slot 25).kill 28 = _; rw [F.f3 h]; rfl), (fun h => by show (L.slot 26).kill 28 = _; rw [F.f4 h]; rfl), (fun h => by show (L.slot 27).kill 28 = _; rw [F.f5 h]; rfl), (fun _ h => absurd h (by decide)), (fun h => by show (L.slot 29).kill 28 = _; rw [F.f7 h]; rfl), (fun h => by show (L.slot 30).kill 28 = _; rw [F.f8 h]; exact LV.kill_pure 28 _ (pure_lst ratE _ _)), (fun h => by show (L.slot 31).kill 28 = _; rw [F.f9 h]; exact LV.kill_pure 28 _ (pure_lst ratE _ _)), (fun _ => by show LV.ref 32 3 0 (1 + ((c.drop 1).map ratL).length) = _; rw [List.length_map]), (fun h => by show (L.slot 33).kill 28 = _; rw [F.f11 h]; rfl), (fun h => by show (L.slot 9).kill 28 = _; rw [F.f12 h]; rfl), (fun _ => hd6), F.g13⟩
theorem p5_11 {U V : Nat} {c : List Rat} {M : LV} {d0 d1 d2 d3 d4 d5 d6 d7 d8 d9 d10 d11 d12 d13 : Bool} {L : St} {ops : Array Oper} {ty : TypeId} {pos : String} {af : Array Edge} (hM : M.pure = true) (F : F5 U V c M d0 d1 d2 d3 d4 d5 d6 d7 d8 d9 d10 d11 d12 d13 L) (hd : d11 = false) (hd1 : d1 = true) (hd3 : d3 = true) (hd10 : d10 = true) : opsL Try.prog false ops [⟨some 33, .build 27 #[(0, .tmp 23), (1, .tmp 25), (2, .tmp 32)], ty, pos, af, none⟩] L (F5 U V c M d0 d1 d2 d3 d4 d5 d6 d7 d8 d9 d10 true d12 d13) := by
  have a1 : L.ev (.tmp 23) = nI64 U := F.f1 hd1
  have a2 : L.ev (.tmp 25) = nI64 V := F.f3 hd3
  have a3 : L.ev (.tmp 32) = .ref 32 3 0 (1 + (c.drop 1).length) := F.f10 hd10
  refine st_pure rfl (.build (zs := [.v (.int .i64 0), .v (.int .i64 0), .v (.slice none 0 0)]) SL27 Z27 (by simp only [List.forall_mem_cons]; exact ⟨⟨_, rfl, by rw [a1]; rfl, by rw [a1]; exact ne0⟩, ⟨_, rfl, by rw [a2]; rfl, by rw [a2]; exact ne0⟩, ⟨_, rfl, by rw [a3]; rfl, by rw [a3]; exact ne0⟩, fun _ h => by cases h⟩)) ?_
  refine st_nil ?_
  exact ⟨F.hH, F.s7, F.s8, F.f0, F.f1, F.f2, F.f3, F.f4, F.f5, F.f6, F.f7, F.f8, F.f9, F.f10, (fun _ => by show LV.agg (buildL [.v (.int .i64 0), .v (.int .i64 0), .v (.slice none 0 0)] [(0, L.ev (.tmp 23)), (1, L.ev (.tmp 25)), (2, L.ev (.tmp 32))]) = _; rw [a1, a2, a3]; rfl), F.f12, F.g10, F.g13⟩
theorem p5_12 {U V : Nat} {c : List Rat} {M : LV} {d0 d1 d2 d3 d4 d5 d6 d7 d8 d9 d10 d11 d12 d13 : Bool} {L : St} {ops : Array Oper} {ty : TypeId} {pos : String} {af : Array Edge} (hM : M.pure = true) (F : F5 U V c M d0 d1 d2 d3 d4 d5 d6 d7 d8 d9 d10 d11 d12 d13 L) (hd : d12 = false) : opsL Try.prog false ops [⟨some 9, .alloc 27, ty, pos, af, none⟩] L (F5 U V c M d0 d1 d2 d3 d4 d5 d6 d7 d8 d9 d10 d11 true d13) := by
  refine st_alloc rfl (by rw [F.hH, hd]; rfl) (.alloc Z27) ?_
  refine st_nil ?_
  have hd13 : d13 = false := by cases h : d13 with | true => exact absurd (F.g13 h) (by rw [hd]; decide) | false => rfl
  exact ⟨(by funext b; show (if b = 9 then _ else L.heap b) = _; rw [F.hH, hd, hd13]; unfold hh5; by_cases h : b = 9; subst h; rfl; simp [h]), F.s7, F.s8, F.f0, F.f1, F.f2, F.f3, F.f4, F.f5, F.f6, F.f7, F.f8, F.f9, F.f10, F.f11, (fun _ => rfl), F.g10, (fun _ => rfl)⟩
theorem p5_13 {U V : Nat} {c : List Rat} {M : LV} {d0 d1 d2 d3 d4 d5 d6 d7 d8 d9 d10 d11 d12 d13 : Bool} {L : St} {ops : Array Oper} {ty : TypeId} {pos : String} {af : Array Edge} (hM : M.pure = true) (F : F5 U V c M d0 d1 d2 d3 d4 d5 d6 d7 d8 d9 d10 d11 d12 d13 L) (hd : d13 = false) (hd0 : d0 = true) (hd1 : d1 = true) (hd2 : d2 = true) (hd3 : d3 = true) (hd4 : d4 = true) (hd5 : d5 = true) (hd6 : d6 = true) (hd7 : d7 = true) (hd8 : d8 = true) (hd9 : d9 = true) (hd10 : d10 = true) (hd11 : d11 = true) (hd12 : d12 = true) : opsL Try.prog false ops [⟨none, .store 27 (.tmp 9) (.tmp 33), ty, pos, af, none⟩] L (F5 U V c M d0 d1 d2 d3 d4 d5 d6 d7 d8 d9 d10 d11 d12 true) := by
  have b1 : L.ev (.tmp 33) = kn5 U V c := F.f11 hd11
  refine st_store rfl (.store (y := nz5) (y' := kn5 U V c) (F.f12 hd12) (by rw [F.hH, hd, hd12]; rfl) rfl rfl rfl rfl (by rw [b1]; rfl) (by rw [b1]; exact T27) (by rw [b1]; exact ⟨(fun h => by cases h), (fun _ h => by cases h)⟩)) ?_
  refine st_nil ?_
  exact ⟨(by funext b; show (if b = 9 then _ else L.heap b) = _; rw [F.hH, hd, hd12]; unfold hh5; by_cases h : b = 9 <;> simp [h]), F.s7, F.s8, F.f0, F.f1, F.f2, F.f3, F.f4, F.f5, F.f6, F.f7, F.f8, F.f9, F.f10, F.f11, F.f12, F.g10, (fun _ => hd12)⟩
def regOps : Code → Array Oper
  | .region _ ops _ => ops
  | _ => #[]
theorem e5_all {U V : Nat} {c : List Rat} {M : LV} {D : Array Bool} {L : St} (hM : M.pure = true) (hc0 : 1 ≤ c.length) (hcl : c.length ≤ 64) (hI : I5 U V c M D L) (i : Nat) (o : Oper) (ho : (regOps ((subF Try.f3 [1, 1, 1, 1, 0]).getD .skip))[i]? = some o) (hd : D.getD i false = false) (hj : ∀ j ∈ dirs o, D.getD j false = true) :
    opsL Try.prog false (regOps ((subF Try.f3 [1, 1, 1, 1, 0]).getD .skip)) [o] L (fun L' => I5 U V c M (D.setIfInBounds i true) L') := by
  obtain ⟨d0, d1, d2, d3, d4, d5, d6, d7, d8, d9, d10, d11, d12, d13, rfl, F⟩ := hI
  have hi : i < 14 := (Array.getElem?_eq_some_iff.1 ho).1
  match i, hi, ho, hd with
  | 0, _, ho, hd =>
    obtain rfl : (regOps ((subF Try.f3 [1, 1, 1, 1, 0]).getD .skip)).getD 0 default = o := by rw [Array.getD_eq_getD_getElem?, ho]; rfl
    exact opsL_mono (fun L' h => ⟨_, _, _, _, _, _, _, _, _, _, _, _, _, _, rfl, h⟩) _ _ (p5_0 hM F hd )
  | 1, _, ho, hd =>
    obtain rfl : (regOps ((subF Try.f3 [1, 1, 1, 1, 0]).getD .skip)).getD 1 default = o := by rw [Array.getD_eq_getD_getElem?, ho]; rfl
    exact opsL_mono (fun L' h => ⟨_, _, _, _, _, _, _, _, _, _, _, _, _, _, rfl, h⟩) _ _ (p5_1 hM F hd (hj 0 (by decide +kernel)))
  | 2, _, ho, hd =>
    obtain rfl : (regOps ((subF Try.f3 [1, 1, 1, 1, 0]).getD .skip)).getD 2 default = o := by rw [Array.getD_eq_getD_getElem?, ho]; rfl
    exact opsL_mono (fun L' h => ⟨_, _, _, _, _, _, _, _, _, _, _, _, _, _, rfl, h⟩) _ _ (p5_2 hM F hd )
  | 3, _, ho, hd =>
    obtain rfl : (regOps ((subF Try.f3 [1, 1, 1, 1, 0]).getD .skip)).getD 3 default = o := by rw [Array.getD_eq_getD_getElem?, ho]; rfl
    exact opsL_mono (fun L' h => ⟨_, _, _, _, _, _, _, _, _, _, _, _, _, _, rfl, h⟩) _ _ (p5_3 hM F hd (hj 2 (by decide +kernel)))
  | 4, _, ho, hd =>
    obtain rfl : (regOps ((subF Try.f3 [1, 1, 1, 1, 0]).getD .skip)).getD 4 default = o := by rw [Array.getD_eq_getD_getElem?, ho]; rfl
    exact opsL_mono (fun L' h => ⟨_, _, _, _, _, _, _, _, _, _, _, _, _, _, rfl, h⟩) _ _ (p5_4 hM F hd )
  | 5, _, ho, hd =>
    obtain rfl : (regOps ((subF Try.f3 [1, 1, 1, 1, 0]).getD .skip)).getD 5 default = o := by rw [Array.getD_eq_getD_getElem?, ho]; rfl
    exact opsL_mono (fun L' h => ⟨_, _, _, _, _, _, _, _, _, _, _, _, _, _, rfl, h⟩) _ _ (p5_5 hM F hd (hj 4 (by decide +kernel)))
  | 6, _, ho, hd =>
    obtain rfl : (regOps ((subF Try.f3 [1, 1, 1, 1, 0]).getD .skip)).getD 6 default = o := by rw [Array.getD_eq_getD_getElem?, ho]; rfl
    exact opsL_mono (fun L' h => ⟨_, _, _, _, _, _, _, _, _, _, _, _, _, _, rfl, h⟩) _ _ (p5_6 hM F hd (hj 5 (by decide +kernel)))
  | 7, _, ho, hd =>
    obtain rfl : (regOps ((subF Try.f3 [1, 1, 1, 1, 0]).getD .skip)).getD 7 default = o := by rw [Array.getD_eq_getD_getElem?, ho]; rfl
    exact opsL_mono (fun L' h => ⟨_, _, _, _, _, _, _, _, _, _, _, _, _, _, rfl, h⟩) _ _ (p5_7 hM F hd )
  | 8, _, ho, hd =>
    obtain rfl : (regOps ((subF Try.f3 [1, 1, 1, 1, 0]).getD .skip)).getD 8 default = o := by rw [Array.getD_eq_getD_getElem?, ho]; rfl
    exact opsL_mono (fun L' h => ⟨_, _, _, _, _, _, _, _, _, _, _, _, _, _, rfl, h⟩) _ _ (p5_8 hM F hd (hj 7 (by decide +kernel)))
  | 9, _, ho, hd =>
    obtain rfl : (regOps ((subF Try.f3 [1, 1, 1, 1, 0]).getD .skip)).getD 9 default = o := by rw [Array.getD_eq_getD_getElem?, ho]; rfl
    exact opsL_mono (fun L' h => ⟨_, _, _, _, _, _, _, _, _, _, _, _, _, _, rfl, h⟩) _ _ (p5_9 hM hc0 hcl F hd (hj 8 (by decide +kernel)))
  | 10, _, ho, hd =>
    obtain rfl : (regOps ((subF Try.f3 [1, 1, 1, 1, 0]).getD .skip)).getD 10 default = o := by rw [Array.getD_eq_getD_getElem?, ho]; rfl
    exact opsL_mono (fun L' h => ⟨_, _, _, _, _, _, _, _, _, _, _, _, _, _, rfl, h⟩) _ _ (p5_10 hM hc0 hcl F hd (hj 6 (by decide +kernel)) (hj 9 (by decide +kernel)))
  | 11, _, ho, hd =>
    obtain rfl : (regOps ((subF Try.f3 [1, 1, 1, 1, 0]).getD .skip)).getD 11 default = o := by rw [Array.getD_eq_getD_getElem?, ho]; rfl
    exact opsL_mono (fun L' h => ⟨_, _, _, _, _, _, _, _, _, _, _, _, _, _, rfl, h⟩) _ _ (p5_11 hM F hd (hj 1 (by decide +kernel)) (hj 3 (by decide +kernel)) (hj 10 (by decide +kernel)))
  | 12, _, ho, hd =>
    obtain rfl : (regOps ((subF Try.f3 [1, 1, 1, 1, 0]).getD .skip)).getD 12 default = o := by rw [Array.getD_eq_getD_getElem?, ho]; rfl
    exact opsL_mono (fun L' h => ⟨_, _, _, _, _, _, _, _, _, _, _, _, _, _, rfl, h⟩) _ _ (p5_12 hM F hd )
  | 13, _, ho, hd =>
    obtain rfl : (regOps ((subF Try.f3 [1, 1, 1, 1, 0]).getD .skip)).getD 13 default = o := by rw [Array.getD_eq_getD_getElem?, ho]; rfl
    exact opsL_mono (fun L' h => ⟨_, _, _, _, _, _, _, _, _, _, _, _, _, _, rfl, h⟩) _ _ (p5_13 hM F hd (hj 0 (by decide +kernel)) (hj 1 (by decide +kernel)) (hj 2 (by decide +kernel)) (hj 3 (by decide +kernel)) (hj 4 (by decide +kernel)) (hj 5 (by decide +kernel)) (hj 6 (by decide +kernel)) (hj 7 (by decide +kernel)) (hj 8 (by decide +kernel)) (hj 9 (by decide +kernel)) (hj 10 (by decide +kernel)) (hj 11 (by decide +kernel)) (hj 12 (by decide +kernel)))
theorem hh5_end (U V : Nat) (c : List Rat) (M : LV) : hh5 U V c M true true true true true = hp [(7, ⟨3, [nt5 U V c], true⟩), (8, ⟨3, [M], true⟩), (26, ⟨1, [u32L 1], true⟩), (32, ⟨3, rw26 :: (c.drop 1).map ratL, true⟩), (9, ⟨3, [kn5 U V c], true⟩)] := by
  funext b
  unfold hh5
  simp only [hp]
  by_cases h9 : b = 9
  · subst h9; rfl
  by_cases h32 : b = 32
  · subst h32; rfl
  by_cases h28 : b = 28
  · subst h28; rfl
  by_cases h26 : b = 26
  · subst h26; rfl
  by_cases h7 : b = 7
  · subst h7; rfl
  by_cases h8 : b = 8
  · subst h8; rfl
  simp only [if_neg h9, if_neg h32, if_neg h28, if_neg h26, if_neg h7, if_neg h8, beq_ne h9, beq_ne h32, beq_ne h26, beq_ne h7, beq_ne h8]; rfl
theorem hh5_start (U V : Nat) (c : List Rat) (M : LV) : hp [(7, ⟨3, [nt5 U V c], true⟩), (8, ⟨3, [M], true⟩)] = hh5 U V c M false false false false false := by
  funext b
  unfold hh5
  simp only [hp]
  by_cases h7 : b = 7
  · subst h7; rfl
  by_cases h8 : b = 8
  · subst h8; rfl
  simp [h7, h8, beq_ne h7, beq_ne h8]
theorem reg5 {U V : Nat} {c : List Rat} {M : LV} {Q : LEx → St → Prop} {L0 : St} (hM : M.pure = true) (hc0 : 1 ≤ c.length) (hcl : c.length ≤ 64) (h7 : L0.slot 7 = .eptr 7 3 0 0) (h8 : L0.slot 8 = .eptr 8 3 0 0)
    (hH : L0.heap = hp [(7, ⟨3, [nt5 U V c], true⟩), (8, ⟨3, [M], true⟩)])
    (hQ : ∀ L1 : St, Q .normal ((((St.mk L1.slot (hp [(7, ⟨3, [nt5 U V c], true⟩), (8, ⟨3, [M], true⟩), (26, ⟨1, [u32L 1], true⟩), (32, ⟨3, rw26 :: (c.drop 1).map ratL, true⟩), (9, ⟨3, [kn5 U V c], true⟩)])).put (some 7) (.eptr 7 3 0 0)).put (some 8) (.eptr 8 3 0 0)).put (some 9) (.eptr 9 3 0 0))) :
    wpL Try.prog ((subF Try.f3 [1, 1, 1, 1, 0]).getD .skip) Q L0 := by
  refine wl_sub rfl ?_
  refine wl_regA ?_
  refine anyL_inv (ops := (regOps ((subF Try.f3 [1, 1, 1, 1, 0]).getD .skip))) (I5 U V c M) (fun D L ⟨_, _, _, _, _, _, _, _, _, _, _, _, _, _, e, _⟩ => by subst e; rfl) (by
    intro i o ho
    have hi : i < 14 := (Array.getElem?_eq_some_iff.1 ho).1
    obtain rfl : (regOps ((subF Try.f3 [1, 1, 1, 1, 0]).getD .skip)).getD i default = o := by rw [Array.getD_eq_getD_getElem?, ho]; rfl
    have : ∀ i : Fin 14, ∀ j ∈ dirs ((regOps ((subF Try.f3 [1, 1, 1, 1, 0]).getD .skip)).getD i default), j < i.val := by decide +kernel
    exact this ⟨i, hi⟩) (fun D L hI i o ho hd hj => e5_all hM hc0 hcl hI i o ho hd hj) ?_ _ _ _ ?_ (by decide +kernel)
  · rintro D L1 ⟨d0, d1, d2, d3, d4, d5, d6, d7, d8, d9, d10, d11, d12, d13, rfl, F⟩ hd
    obtain rfl : d4 = true := hd 4 (by decide)
    obtain rfl : d6 = true := hd 6 (by decide)
    obtain rfl : d10 = true := hd 10 (by decide)
    obtain rfl : d12 = true := hd 12 (by decide)
    obtain rfl : d13 = true := hd 13 (by decide)
    refine goal_of (hQ L1) ?_
    have e := F.hH
    rw [hh5_end] at e
    have e7 := F.s7
    have e8 := F.s8
    have e9 := F.f12 rfl
    exact (put_id' (put_id' (put_id' (mk_id' e) e7) e8) e9)
  · refine ⟨false, false, false, false, false, false, false, false, false, false, false, false, false, false, rfl, ⟨?_, h7, h8, ?_, ?_, ?_, ?_, ?_, ?_, ?_, ?_, ?_, ?_, ?_, ?_, ?_, ?_, ?_⟩⟩
    · rw [hH, hh5_start]
    all_goals (intro h; cases h)
theorem immL_pu {H : Heap} : ∀ {l : List LV}, pures l = true → ImmL H l l
  | [], _ => .nil
  | x :: xs, h => by
    simp only [pures, Bool.and_eq_true] at h
    exact .cons (.pure h.1) (immL_pu h.2)
theorem imm5 {H : Heap} {c : List Rat} (h26 : H 26 = some ⟨1, [u32L 1], false⟩) : ImmL H (((rw26 :: c.map ratL).drop 0).take (1 + c.length)) (.agg [.v (.bool false), .list 1 [], .list 1 ([1].map u32L)] :: c.map ratL) := by
  have e : ((rw26 :: c.map ratL).drop 0).take (1 + c.length) = rw26 :: c.map ratL := List.take_of_length_le (by simp; omega)
  rw [e]
  have h := Imm.ref (H := H) (b := 26) (off := 0) (len := 1) h26 rfl rfl (by decide) rfl
  exact .cons (.agg (.cons (.pure rfl) (.cons (.pure rfl) (.cons h .nil)))) (immL_pu (pures_map ratE c))
namespace H_c_TensorValid
theorem zSm {p q : Prop} (k : q) (e : p = q := by simp only [e1, e2, e3, e4, p1, p2, p3, q1, q2, q3, l1, t0, t1, r1, r2, r3, r4, Nat.zero_add, Nat.reduceMul, Nat.reduceAdd, b1, b2, b3, b4, b5, b6, i1, i2, i3, i4, i5, i6, Nat.reduceBEq, dfq, tz0, kills_map ratE, ratL_kill, spL_kill, LV.kill, kills, dice_kill]; exact rfl) : p := e.mpr k
end H_c_TensorValid
open H_c_TensorValid in
theorem c_TensorValid (u v : Int) (l : List Int) (hu : -9223372036854775808 ≤ u ∧ u ≤ 9223372036854775807) (hv : -9223372036854775808 ≤ v ∧ v ≤ 9223372036854775807) (hl : l.length ≤ 9223372036854775807 ∧ ∀ n ∈ l, -9223372036854775808 ≤ n ∧ n ≤ 9223372036854775807) : CallP Try.prog 3 [iL u, iL v, .list 1 (l.map i64L)] (bL true) := by
  have hU : (nU l 0 4) ≤ 4 := nU_le _ _ _
  have hV : (nU l (nxK l 0) 4) ≤ 4 := nU_le _ _ _
  have hcl := ntC_len l 0 4 4
  have hcR := ntC_rl l 0 4 4
  have hlen : (ntC l 0 4 4).length ≤ 25 := by rw [hcl]; exact Nat.le_trans (Nat.mul_le_mul (show (nU l 0 4) + 1 ≤ 5 by omega) (show (nU l (nxK l 0) 4) + 1 ≤ 5 by omega)) (by decide)
  have hc0 : 1 ≤ (ntC l 0 4 4).length := by rw [hcl]; exact Nat.mul_pos (Nat.succ_pos _) (Nat.succ_pos _)
  have hc2 : ∀ x ∈ (ntC l 0 4 4), rl x ≤ 1099511627776 := fun x hx => Nat.le_trans (hcR x hx) (by decide)
  have hva : vaT ((nU l 0 4) : Nat) ((nU l (nxK l 0) 4) : Nat) (ntC l 0 4 4) = true := decide_eq_true ⟨by omega, by omega, by omega, by omega, by rw [hcl]; simp⟩
  have hT1 := c_TValid ((nU l 0 4) : Nat) ((nU l (nxK l 0) 4) : Nat) (ntC l 0 4 4) (by omega) (by omega) (by omega) hc2
  rw [hva] at hT1
  have hT2 := c_TValid u v (ntC l 0 4 4) hu hv (by omega) hc2
  have hF2 := c_FVal7 u v (ntC l 0 4 4) hu hv (by omega) (fun x hx => Nat.le_trans (hcR x hx) (by decide))
  have hcd : ((ntC l 0 4 4).drop 1).length + 1 = ((nU l 0 4) + 1) * ((nU l (nxK l 0) 4) + 1) := by rw [List.length_drop, ← hcl]; omega
  have hT3 := c_TValRaw (nU l 0 4) (nU l (nxK l 0) 4) ((ntC l 0 4 4).drop 1) hcd (by omega) (by omega)
  have hn1 := net_pureN (nU l 0 4) (nU l (nxK l 0) 4) (ntC l 0 4 4)
  have hn2 := net_pure u v (ntC l 0 4 4)
  refine fnP Try.func3 ?_
  refine zg9 ?_
  refine cp am1 (c_Light l (by omega)) ?_
  refine zg3 ?_
  refine wl_if rfl (fun h12r h12 => ?_) (fun h12r h12 => ?_)
  · refine zg2 ?_
    refine cp am0 (c_awake7) ?_
    refine zg5 ?_
    exact ret1 rfl (by first | exact .pure rfl | exact .pure (limL_pure _) | exact .pure (magL_pure _) | exact .pure (ratE.pure _) | exact .pure (pure_lst u32E _ _) | exact .pure (pure_lst ratE _ _))
  · refine zg5 ?_
    refine st_call1 [] rfl rfl (.cons im0 .nil) (c_Roll l) (dice_pure l 0) rfl ?_
    refine st_callMp 1000241 rfl rfl rfl (dice_pure l _) (.cons .ptr (.cons (.imm (.pure rfl)) (.cons (.imm (.pure rfl)) .nil))) .ptr (c_Net l 0 4 4 (by omega) (by omega) (by decide) (by decide)) rfl (dice_pure l _) (net_pureN _ _ _) ?_
    refine zg5 ?_
    refine wl_regW (Weak.kill _ 1000241) ?_
    refine zg10 ?_
    refine reg5 (U := (nU l 0 4)) (V := (nU l (nxK l 0) 4)) (c := (ntC l 0 4 4)) (M := .agg [iL u, iL v, .list 3 ((ntC l 0 4 4).map ratL)]) hn2 hc0 (by omega) cl cl cl ?_
    intro L5
    refine zg2 ?_
    refine wl_regD 18 (by decide +kernel) ?_
    refine zg1 ?_
    refine cp am1 (hT1) ?_
    refine zg2 ?_
    refine cp am1 (hT2) ?_
    refine zg1 ?_
    refine cp am1 (hF2) ?_
    refine zg3 ?_
    refine st_pure (guardX (v := true) rfl rfl ((beq_self_eq_true _)) rfl) ld27 ?_
    refine st_callPf [26, 32] (guardX (v := true) rfl rfl ((beq_self_eq_true _)) rfl) rfl (.cons (.agg (.cons (.pure rfl) (.cons (.pure rfl) (.cons (.refI (blk := ⟨3, _, false⟩) rfl rfl (by simp; omega) rfl (imm5 rfl)) .nil)))) .nil) hT3 ?_
    refine st_pure (guardX (v := true) rfl rfl ((beq_self_eq_true _)) rfl) (.not rfl) ?_
    refine st_pure rfl (.pickT rfl ((beq_self_eq_true _))) ?_
    refine zg1 ?_
    refine cp am0 (c_awake7) ?_
    refine zg5 ?_
    exact ret1 rfl (by first | exact .pure rfl | exact .pure (limL_pure _) | exact .pure (magL_pure _) | exact .pure (ratE.pure _) | exact .pure (pure_lst u32E _ _) | exact .pure (pure_lst ratE _ _))
end Go.Proofs.Ythhdcfhaldcheaa
end
