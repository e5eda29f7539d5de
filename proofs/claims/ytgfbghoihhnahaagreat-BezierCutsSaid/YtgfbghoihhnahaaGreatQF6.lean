/- Texts K9, K13, K2, K10, K7, K6b, K11, K14, K16, P4, K17, K18, P5, K15, K19, K20 of this proof, joined. -/
import Derived.Test.YtgfbghoihhnahaaGreatQF5
set_option linter.unusedVariables false
set_option linter.unusedSimpArgs false
section
set_option linter.unusedVariables false
set_option linter.unusedSimpArgs false
set_option maxHeartbeats 8000000
set_option maxRecDepth 100000
attribute [local irreducible] Go.Lg.opsL Go.Lg.wpL Go.Lg.thenL Go.Lg.blockL
namespace Go.Proofs.YtgfbghoihhnahaaGreat
open Go.Lg
theorem lit6 {P : Program} {ρ : Operand → LV} {T E : TypeId} {x0 x1 x2 x3 x4 x5 : Operand} {d sz : Nat} {ag : Bool} {α : Type} {e : α → LV} {z a0 a1 a2 a3 a4 a5 : α} (he : EncOK e sz ag) (hT : P.underlying T = some (.slice E)) (hz : ZeroOK P E (e z)) (hE : TyIs P E sz ag)
    (h0 : ρ x0 = e a0) (h1 : ρ x1 = e a1) (h2 : ρ x2 = e a2) (h3 : ρ x3 = e a3) (h4 : ρ x4 = e a4) (h5 : ρ x5 = e a5) (hs0 : 0 < sz) (hs1 : sz ≤ 1000) :
    OpA P ρ d (.buildSlice T 6 #[(0, x0), (1, x1), (2, x2), (3, x3), (4, x4), (5, x5)]) (.ref d sz 0 6) ⟨sz, [a0, a1, a2, a3, a4, a5].map e, true⟩ := by
  have hne : ∀ (v : Operand) (a : α), ρ v = e a → lay (ρ v) = lay (e z) ∧ ρ v ≠ .any ∧ ∀ m, ρ v ≠ .tup m := by
    intro v a h
    rw [h]; exact ⟨by simp [lay, he.csize, he.isAgg], LV.pure_ne_any (he.pure _), LV.pure_ne_tup (he.pure _)⟩
  have := OpA.lit (P := P) (ρ := ρ) (d := d) (T := T) (n := 6) (ps := #[(0, x0), (1, x1), (2, x2), (3, x3), (4, x4), (5, x5)]) hT hz (by rw [he.isAgg]; exact hE) (he.csize z) (by omega) (by omega) hs0 (by
    intro p hp
    simp only [List.mem_cons, List.not_mem_nil, or_false] at hp
    rcases hp with rfl | rfl | rfl | rfl | rfl | rfl
    · exact ⟨by show 0 < 6; omega, hne x0 _ h0⟩
    · exact ⟨by show 1 < 6; omega, hne x1 _ h1⟩
    · exact ⟨by show 2 < 6; omega, hne x2 _ h2⟩
    · exact ⟨by show 3 < 6; omega, hne x3 _ h3⟩
    · exact ⟨by show 4 < 6; omega, hne x4 _ h4⟩
    · exact ⟨by show 5 < 6; omega, hne x5 _ h5⟩)
  simpa [buildL, h0, h1, h2, h3, h4, h5, List.replicate] using this
theorem map4 {α : Type} (e : α → LV) (l : List α) (a b c d : α) : l.map e ++ [e a, e b, e c, e d] = (l ++ [a, b, c, d]).map e := by simp
theorem dig_inj {a b : Nat} (h : dig a = dig b) : a = b := by rw [← val_dig a, h, val_dig]
section
variable {a b : Rat}
theorem rsm2 (h2 : decide (dig a.num.natAbs = dig b.num.natAbs) = false) : false = decide (a = b) := by
  symm; rw [decide_eq_false_iff_not]; rintro rfl; simp at h2
theorem rsm3 (h : (decide (a < 0) == decide (b < 0)) = true) (h2 : decide (dig a.num.natAbs = dig b.num.natAbs) = true) : decide (dig (denN a) = dig (denN b)) = decide (a = b) := by
  rw [decide_eq_decide, rat_ext']
  exact ⟨fun h3 => ⟨eq_of_beq h, dig_inj (of_decide_eq_true h2), dig_inj h3⟩, fun h3 => by rw [h3.2.2]⟩
end
/-- the number of binary digits of a numerator or denominator -/
def bitR (q : Rat) : Nat := max (blen q.num.natAbs) (blen q.den)
theorem bitR_le {q : Rat} {R : Nat} (h : rl q ≤ R) : bitR q ≤ 32 * R := by
  have h1 := rl_num q
  have h2 := rl_den q
  have e1 : blen q.num.natAbs ≤ 32 * R := by
    rw [blen_le, Nat.pow_mul]
    exact dig_length_ge (Nat.le_trans h1 h)
  have e2 : blen q.den ≤ 32 * R := by
    rw [blen_le, Nat.pow_mul]
    exact dig_length_ge (Nat.le_trans h2 h)
  unfold bitR; omega
/-- how often a number occurs ahead of a place -/
def tmN (k : List Rat) (t : Rat) : Nat → Nat
  | 0 => 0
  | i + 1 => tmN k t i + (if k.getD i 0 = t then 1 else 0)
theorem tmN_le (k : List Rat) (t : Rat) : ∀ i, tmN k t i ≤ i
  | 0 => Nat.le_refl _
  | i + 1 => by have := tmN_le k t i; rw [tmN]; split <;> omega
/-- each number once, of those ahead of a place -/
def dsN (k : List Rat) : Nat → List Rat
  | 0 => []
  | i + 1 => if i = 0 ∨ k.getD i 0 ≠ k.getD (i - 1) 0 then dsN k i ++ [k.getD i 0] else dsN k i
theorem dsN_le (k : List Rat) : ∀ i, (dsN k i).length ≤ i
  | 0 => Nat.le_refl _
  | i + 1 => by
    have := dsN_le k i
    rw [dsN]; split
    · simp; omega
    · omega
theorem dsN_pos (k : List Rat) : ∀ i, 0 < i → 0 < (dsN k i).length
  | 1, _ => by rw [dsN, if_pos (.inl rfl)]; simp
  | i + 2, _ => by
    have := dsN_pos k (i + 1) (by omega)
    rw [dsN]; split
    · simp
    · exact this
theorem dsN_mem (k : List Rat) : ∀ i, i ≤ k.length → ∀ x ∈ dsN k i, x ∈ k
  | 0, _, x, h => by cases h
  | i + 1, hi, x, h => by
    rw [dsN] at h
    split at h
    · rcases List.mem_append.1 h with h | h
      · exact dsN_mem k i (by omega) x h
      · rw [List.mem_singleton.1 h]; exact getD_mem (by omega)
    · exact dsN_mem k i (by omega) x h
/-- what a valid list of knots is -/
structure kOK (k : List Rat) (d : Nat) : Prop where
  d1 : 1 ≤ d
  d6 : d ≤ 6
  len : 2 * d + 2 ≤ k.length
  max : k.length ≤ d + 41
  srt : ∀ i, i + 1 < k.length → k.getD i 0 ≤ k.getD (i + 1) 0
  ne : k.getD 0 0 ≠ k.getD (k.length - 1) 0
  endk : ∀ t ∈ k, (t = k.getD 0 0 ∨ t = k.getD (k.length - 1) 0) → tmN k t k.length = d + 1
  ink : ∀ t ∈ k, t ≠ k.getD 0 0 → t ≠ k.getD (k.length - 1) 0 → tmN k t k.length ≤ d
  sz : ∀ x ∈ k, rl x ≤ 64
theorem ds_all {k : List Rat} : ∀ i, i ≤ k.length → (∀ j, 1 ≤ j → j < i → k.getD j 0 ≠ k.getD (j - 1) 0) → dsN k i = k.take i
  | 0, _, _ => rfl
  | i + 1, hi, h => by
    rw [dsN, ds_all i (by omega) (fun j h1 h2 => h j h1 (by omega)), if_pos (by
      by_cases e : i = 0
      · exact .inl e
      · exact .inr (h i (by omega) (by omega))), List.take_add_one, List.getD_eq_getElem?_getD, List.getElem?_eq_getElem (by omega)]; rfl
theorem ds_y {k : List Rat} {i : Nat} (h0 : 0 < i) (h : k.getD i 0 ≠ k.getD (i - 1) 0) : dsN k (i + 1) = dsN k i ++ [k.getD i 0] := by rw [dsN, if_pos (.inr h)]
theorem ds_n {k : List Rat} {i : Nat} (h0 : 0 < i) (h : k.getD i 0 = k.getD (i - 1) 0) : dsN k (i + 1) = dsN k i := by rw [dsN, if_neg (fun e => e.elim (fun e => by omega) (fun e => e h))]
theorem clr_eq {w : List Rat} {m n : Nat} (hm : m ≤ n) (hw : w.length = n) : (w.map ratL).take m ++ List.replicate (n - m) (ratL 0) ++ (w.map ratL).drop (m + (n - m)) = (w.take m ++ List.replicate (n - m) 0).map ratL := by
  rw [List.drop_of_length_le (by simp; omega)]
  simp [List.map_take]
theorem take_snocL {l : List Rat} {k : Nat} (h : k < l.length) : l.take k ++ [l.getD k 0] = l.take (k + 1) := by
  rw [List.take_add_one, List.getElem?_eq_getElem h, List.getD_eq_getElem?_getD, List.getElem?_eq_getElem h]; rfl
theorem imm_pre {α : Type} {e : α → LV} {ag : Bool} {bs : List Nat} {L : St} {b sz len : Nat} {l m : List α} {t : Bool} (he : EncOK e sz ag) (hb : L.heap b = some ⟨sz, (l ++ m).map e, t⟩) (hbs : bs.contains b = true) (hl : len = l.length) : Imm (L.frz bs).heap (.ref b sz 0 len) (.list sz (l.map e)) := by
  have := imm_ref (off := 0) (len := len) hb hbs (pures_map he _) (by simp; omega)
  subst hl
  rwa [List.drop_zero, ← List.map_take, List.take_left] at this
open H0 in
theorem c_RSame (a b : Rat) (h : rl a + rl b ≤ 1099511627776) : CallP Tryz.prog 271 [ratL a, ratL b] (bL (decide (a = b))) := by
  have a1 := rl_num a
  have a3 := rl_denN a
  have c1 := rl_num b
  have c3 := rl_denN b
  refine fnP Tryz.func271 ?_
  refine zg15 ?_
  refine op_if 10 rfl (fun h10r h10 => ?_) (fun h10r h10 => ?_)
  · refine zg4 ?_
    refine cp am2 (c_Equal _ _ (by omega) (by omega)) ?_
    refine zg2 ?_
    refine op_if 17 rfl (fun h17r h17 => ?_) (fun h17r h17 => ?_)
    · refine zg4 ?_
      refine cp am2 (c_Equal _ _ (by omega) (by omega)) ?_
      refine zg5 ?_
      rw [← rsm3 h10r h17r]
      exact ret1 rfl (by first | exact .pure rfl | exact .pure (limL_pure _) | exact .pure (magL_pure _) | exact .pure (ratE.pure _) | exact .pure (pure_lst u32E _ _) | exact .pure (pure_lst ratE _ _))
    · refine zg10 ?_
      rw [← rsm2 h17r]
      exact ret1 rfl (by first | exact .pure rfl | exact .pure (limL_pure _) | exact .pure (magL_pure _) | exact .pure (ratE.pure _) | exact .pure (pure_lst u32E _ _) | exact .pure (pure_lst ratE _ _))
  · refine zg17 ?_
    rw [← same1 h10r]
    exact ret1 rfl (by first | exact .pure rfl | exact .pure (limL_pure _) | exact .pure (magL_pure _) | exact .pure (ratE.pure _) | exact .pure (pure_lst u32E _ _) | exact .pure (pure_lst ratE _ _))
namespace H_c_RBits
theorem zSm {p q : Prop} (k : q) (e : p = q := by simp only [e1, e2, e3, e4, p1, p2, p3, q1, q2, q3, l1, t0, t1, r1, r2, r3, r4, Nat.zero_add, Nat.reduceMul, Nat.reduceAdd, b1, b2, b3, b4, b5, b6, i1, i2, i3, i4, i5, i6, Nat.reduceBEq, val_dig]; exact rfl) : p := e.mpr k
end H_c_RBits
open H_c_RBits in
theorem c_RBits (q : Rat) (h : rl q ≤ 1000000) : CallP Tryz.prog 249 [ratL q] (nI64 (bitR q)) := by
  have a1 := rl_num q
  have a2 := rl_den q
  have a3 := rl_denN q
  refine fnP Tryz.func249 ?_
  refine zg7 ?_
  refine wl_regD 8 (by decide +kernel) ?_
  refine zg2 ?_
  refine cp am1 (c_NBits _ (lim_dig _) (by omega)) ?_
  refine zg1 ?_
  refine cp am1 (c_den _) ?_
  refine cp am1 (c_NBits _ (lim_dig _) (by omega)) ?_
  refine zg5 ?_
  rw [bitR]
  refine ret1 ?_ (.pure rfl)
  simp only [e1, e2, e3, e4, p1, p2, p3, q1, q2, q3, Nat.reduceBEq, val_dig]
  congr 2
  omega
namespace H_c_CloneR
theorem zSm {p q : Prop} (k : q) (e : p = q := by simp only [e1, e2, e3, e4, p1, p2, p3, q1, q2, q3, l1, t0, t1, r1, r2, r3, r4, Nat.zero_add, Nat.reduceMul, Nat.reduceAdd, b1, b2, b3, b4, b5, b6, i1, i2, i3, i4, i5, i6, Nat.reduceBEq, List.take_zero, List.take_nil, List.nil_append, List.set_cons_zero, List.set_cons_succ, Nat.reduceEqDiff, reduceIte, if_true, if_false, ptL_kill, poL_kill, kills_map ptE, kills_map poE, kills_map ratE, ratL_kill, spL_kill, LV.kill, kills]; exact rfl) : p := e.mpr k
end H_c_CloneR
open H_c_CloneR in
theorem c_CloneR (l : List Rat) (h0 : 0 < l.length) (hl : l.length ≤ 1048576) : CallOK Tryz.prog 308 [.list 3 (l.map ratL)] (.ref 1 3 0 l.length) [⟨3, l.map ratL, true⟩] := by
  obtain ⟨x, r, rfl⟩ : ∃ x r, l = x :: r := by
    cases l with
    | nil => cases h0
    | cons x r => exact ⟨x, r, rfl⟩
  refine fnO Tryz.func308 ?_
  refine zg9 ?_
  refine st_pure rfl (.eqNL (v := ratL x) (l := r.map ratL) rfl rfl Tryz.underlying33) ?_
  refine zg2 ?_
  refine wl_if rfl (fun h4r h4 => ?_) (fun h4r h4 => ?_)
  · first | exact h4.elim | cases h4r
  · refine zg6 ?_
    refine st_store rfl (.app (news := (x :: r).map ratL) rfl rfl rfl rfl rfl (Nat.zero_le _) (.inr rfl) (by decide) Tryz.underlying33 Tryz.underlying33 Z29a T29 rfl B29 (.inr (.inl rfl)) (by rw [List.length_map]; omega) (by rw [List.length_map]; omega) (by decide)) ?_
    refine zg4 ?_
    refine ret1own (b := 7) (len := (x :: r).length) (blk := ⟨3, (x :: r).map ratL, true⟩) ?_ ?_ (pures_map ratE _)
    · exact cl
    · exact cl
namespace H_c_IsSorted
theorem zSm {p q : Prop} (k : q) (e : p = q := by simp only [e1, e2, e3, e4, p1, p2, p3, q1, q2, q3, l1, t0, t1, r1, r2, r3, r4, Nat.zero_add, Nat.reduceMul, Nat.reduceAdd, b1, b2, b3, b4, b5, b6, i1, i2, i3, i4, i5, i6, Nat.reduceBEq, dfq, eij, eii, List.set_cons_zero, List.set_cons_succ, Nat.reduceEqDiff, reduceIte, if_true, if_false, ptL_kill, poL_kill, kills_map ptE, kills_map poE, kills_map ratE, ratL_kill, spL_kill, LV.kill, kills]; exact rfl) : p := e.mpr k
end H_c_IsSorted
open H_c_IsSorted in
theorem c_IsSorted (f : Nat) (k : List Rat) (h0 : 0 < k.length) (hl : k.length ≤ 1048576) (hs : ∀ i, i + 1 < k.length → k.getD i 0 ≤ k.getD (i + 1) 0) (hf : ∀ x ∈ k, ∀ y ∈ k, CallP Tryz.prog f [ratL x, ratL y] (iL (cmpR x y))) : CallP Tryz.prog 311 [.list 3 (k.map ratL), .clo f []] (bL true) := by
  refine fnP Tryz.func311 ?_
  have eij : True := trivial
  have eii : True := trivial
  refine zg10 ?_
  refine st_pure rfl (.bin rfl rfl (sub1N (by omega) (by omega))) ?_
  refine zg4 ?_
  refine lp1 (fun (i : Nat) L => ((((St.mk L.slot (hp [])).put (some 0) (.list 3 (k.map ratL))).put (some 1) (.clo f [])).put (some 5) (nI64 i))) (fun i => i < k.length) (fun i => i) (k.length - 1) (by omega) ?_
  rintro i L1 hi
  refine zg7 ?_
  refine wl_if rfl (fun h10r h10 => ?_) (fun h10r h10 => ?_)
  · have hi2 : 0 < i := by omega
    have eij : ((i : Int) - 1).toNat = i - 1 := by omega
    have eii : ((i : Int)).toNat = i := by omega
    have hc := hf _ (getD_mem (p := k) (i := i) hi) _ (getD_mem (p := k) (i := i - 1) (by omega))
    have hge := hs (i - 1) (by omega)
    rw [Nat.sub_add_cancel (by omega)] at hge
    have hcg : 0 ≤ cmpR (k.getD i 0) (k.getD (i - 1) 0) := cmpR_ge.2 hge
    refine zg5 ?_
    refine wl_regD 12 (by decide +kernel) ?_
    refine zg7 ?_
    refine st_pure rfl (.bin rfl rfl (sub1N (by omega) (by omega))) ?_
    refine zg2 ?_
    refine st_opc [] rfl rfl (.clo (f := f) (cap := []) (args := [ratL (k.getD i 0), ratL (k.getD (i - 1) 0)]) rfl (.cons im0 (.cons im0 .nil)) ⟨rfl, fun _ h => by cases h⟩ hc.1 (by decide) (fun _ h => by cases h)) (hc.2 _) ?_
    refine zg3 ?_
    refine wl_if rfl (fun h24r h24 => ?_) (fun h24r h24 => ?_)
    · omega
    · refine zg5 ?_
      refine st_pure rfl (.bin rfl rfl (sub1N (by omega) (by omega))) ?_
      refine zg3 ?_
      exact nx1 (i - 1) (by omega)
  · refine zg11 ?_
    exact ret1 rfl (.pure rfl)
namespace H_c_KTimes
theorem zSm {p q : Prop} (k : q) (e : p = q := by simp only [e1, e2, e3, e4, p1, p2, p3, q1, q2, q3, l1, t0, t1, r1, r2, r3, r4, Nat.zero_add, Nat.reduceMul, Nat.reduceAdd, b1, b2, b3, b4, b5, b6, i1, i2, i3, i4, i5, i6, Nat.reduceBEq, dfq, List.set_cons_zero, List.set_cons_succ, Nat.reduceEqDiff, reduceIte, if_true, if_false, ptL_kill, poL_kill, kills_map ptE, kills_map poE, kills_map ratE, ratL_kill, spL_kill, LV.kill, kills]; exact rfl) : p := e.mpr k
end H_c_KTimes
open H_c_KTimes in
theorem c_KTimes (k : List Rat) (hl : k.length ≤ 1048576) (hr : ∀ x ∈ k, rl x ≤ 549755813888) (t : Rat) (ht : rl t ≤ 549755813888) : CallP Tryz.prog 313 [.list 3 (k.map ratL), ratL t] (nI64 (tmN k t k.length)) := by
  refine fnP Tryz.func313 ?_
  refine zg20 ?_
  refine lp1 (fun (i : Nat) L => ((((((St.mk L.slot (hp [(3, ⟨3, [ratL t], true⟩)])).put (some 3) (.eptr 3 3 0 0)).put (some 5) (nI64 (tmN k t i))).put (some 8) (.list 3 (k.map ratL))).put (some 9) (nI64 k.length)).put (some 10) (nI64 i))) (fun i => i ≤ k.length) (fun i => k.length - i) 0 (Nat.zero_le _) ?_
  rintro i L1 hi
  refine zg6 ?_
  refine wl_if rfl (fun h11r h11 => ?_) (fun h11r h11 => ?_)
  · have hi2 : i < k.length := by omega
    have hx := hr _ (getD_mem (i := i) (by omega))
    have htl := tmN_le k t i
    refine zg16 ?_
    refine cp am2 (c_RSame (k.getD i 0) t (by omega)) ?_
    refine zg2 ?_
    refine wl_if rfl (fun h16r h16 => ?_) (fun h16r h16 => ?_)
    · have hT : tmN k t (i + 1) = tmN k t i + 1 := by rw [tmN, if_pos h16]
      refine zg2 ?_
      refine st_pure rfl (.bin rfl rfl (add1N (by omega))) ?_
      refine zg4 ?_
      refine wl_regW (Weak.kill _ 7) ?_
      refine st_pure rfl (.bin rfl rfl (add1N (by omega))) ?_
      refine zg3 ?_
      exact nx1 (i + 1) (by omega)
    · have hT : tmN k t (i + 1) = tmN k t i := by rw [tmN, if_neg h16]; rfl
      refine zg3 ?_
      refine wl_regW (Weak.kill _ 7) ?_
      refine st_pure rfl (.bin rfl rfl (add1N (by omega))) ?_
      refine zg3 ?_
      exact nx1 (i + 1) (by omega)
  · obtain rfl : i = k.length := by omega
    refine zg12 ?_
    exact ret1 rfl (.pure rfl)
namespace H_c_Compact
theorem zSm {p q : Prop} (k : q) (e : p = q := by simp only [e1, e2, e3, e4, p1, p2, p3, q1, q2, q3, l1, t0, t1, r1, r2, r3, r4, Nat.zero_add, Nat.reduceMul, Nat.reduceAdd, b1, b2, b3, b4, b5, b6, i1, i2, i3, i4, i5, i6, Nat.reduceBEq, dfq, eij, eii, eik, eia, ecl, eyl, ewa, ewb, Nat.zero_add, Nat.add_zero, List.length_set, List.length_map, List.set_cons_zero, List.set_cons_succ, Nat.reduceEqDiff, reduceIte, if_true, if_false, ptL_kill, poL_kill, kills_map ptE, kills_map poE, kills_map ratE, ratL_kill, spL_kill, LV.kill, kills]; exact rfl) : p := e.mpr k
end H_c_Compact
open H_c_Compact in
theorem c_Compact (f : Nat) (l : List Rat) (h0 : 0 < l.length) (hl : l.length ≤ 1048576) (hf : ∀ x ∈ l, ∀ y ∈ l, CallP Tryz.prog f [ratL x, ratL y] (bL (decide (x = y)))) : CallOKM Tryz.prog 341 ⟨3, l.map ratL, true⟩ [.ref 0 3 0 l.length, .clo f []] (.ref 0 3 0 (dsN l l.length).length) ⟨3, ((dsN l l.length) ++ List.replicate (l.length - (dsN l l.length).length) 0).map ratL, true⟩ := by
  refine fnM Tryz.func341 ?_
  have eij : True := trivial
  have eii : True := trivial
  have eik : True := trivial
  have eia : True := trivial
  have ecl : True := trivial
  have eyl : True := trivial
  have ewa : True := trivial
  have ewb : True := trivial
  refine zg13 ?_
  refine wl_if rfl (fun h10r h10 => ?_) (fun h10r h10 => ?_)
  · obtain rfl1 : l.length = 1 := by omega
    have hE : (dsN l l.length) = l := by rw [ds_all _ (Nat.le_refl _) (fun j h1 h2 => by omega), List.take_length]
    refine zg8 ?_
    first | (rw [hE, Nat.sub_self, List.replicate_zero, List.append_nil]; exact retM1 rfl .ref rfl rfl (pures_map ratE _)) | (exact retM1 rfl .ref (by first | rfl | (simp; done)) rfl (pures_map ratE _))
  · refine zg9 ?_
    refine lp1 (fun (i : Nat) L => ((((St.mk L.slot (hp [(0, ⟨3, l.map ratL, true⟩)])).put (some 0) (.ref 0 3 0 l.length)).put (some 1) (.clo f [])).put (some 5) (nI64 i))) (fun i => 1 ≤ i ∧ i ≤ l.length ∧ ∀ j, 1 ≤ j → j < i → l.getD j 0 ≠ l.getD (j - 1) 0) (fun i => l.length - i) 1 ⟨Nat.le_refl _, by omega, fun j h1 h2 => by omega⟩ ?_
    rintro i L1 ⟨hi1, hil, hne⟩
    refine zg9 ?_
    refine wl_if rfl (fun h15r h15 => ?_) (fun h15r h15 => ?_)
    · have hi2 : i < l.length := by omega
      have eij : ((i : Int) - 1).toNat = i - 1 := by omega
      have eii : ((i : Int)).toNat = i := by omega
      have hc := hf _ (getD_mem (p := l) (i := i) hi2) _ (getD_mem (p := l) (i := i - 1) (by omega))
      refine zg5 ?_
      refine wl_regD 11 (by decide +kernel) ?_
      refine zg7 ?_
      refine st_pure rfl (.bin rfl rfl (sub1N (by omega) (by omega))) ?_
      refine zg2 ?_
      try simp only [t1, dfq, eij, eii, Nat.zero_add]
      refine st_opc [] rfl rfl (.clo (f := f) (cap := []) (args := [ratL (l.getD i 0), ratL (l.getD (i - 1) 0)]) rfl (.cons im0 (.cons im0 .nil)) ⟨rfl, fun _ h => by cases h⟩ hc.1 (by decide) (fun _ h => by cases h)) (hc.2 _) ?_
      refine zg2 ?_
      refine wl_if rfl (fun h28r h28 => ?_) (fun h28r h28 => ?_)
      · have hdi : dsN l (i + 1) = dsN l i := ds_n (by omega) h28
        have hdt : dsN l i = l.take i := ds_all i hil hne
        have hln : (l.take i).length = i := by rw [List.length_take]; omega
        have hst : 1 ≤ 1 ∧ i + 1 ≤ l.length ∧ l.length = l.length ∧ (dsN l (i + 1)).length + 1 ≤ i + 1 ∧ l.take (dsN l (i + 1)).length = dsN l (i + 1) ∧ ∀ x, i + 1 - 1 ≤ x → l.getD x 0 = l.getD x 0 := ⟨Nat.le_refl _, by omega, rfl, by rw [hdi, hdt, hln]; omega, by rw [hdi, hdt, hln], fun _ _ => rfl⟩
        have eia : (dsN l (i + 1)).length = i := by rw [hdi, hdt, hln]
        refine zg4 ?_
        refine st_pure rfl (.sliceR (a := i) (h := l.length) rfl Tryz.underlying33 T29 (fun y hy => by cases hy; exact ⟨_, rfl⟩) (fun h => by cases h) (fun y hy => by cases hy) (fun _ => rfl) om om om) ?_
        refine zg10 ?_
        refine lp2 (fun (j : Nat) (w : List Rat) L => ((((((St.mk L.slot (hp [(0, ⟨3, w.map ratL, true⟩)])).put (some 0) (.ref 0 3 0 l.length)).put (some 1) (.clo f [])).put (some 5) (nI64 (dsN l (i + j)).length)).put (some 6) (.ref 0 3 i (l.length - i))).put (some 7) (nI64 j))) (fun j w => 1 ≤ j ∧ i + j ≤ l.length ∧ w.length = l.length ∧ (dsN l (i + j)).length + 1 ≤ i + j ∧ w.take (dsN l (i + j)).length = (dsN l (i + j)) ∧ ∀ x, i + j - 1 ≤ x → w.getD x 0 = l.getD x 0) (fun j w => l.length - (i + j)) 1 l hst ?_
        rintro j w L2 ⟨hj1, hij, hwl, hdl, hwt, hwx⟩
        refine zg9 ?_
        refine wl_if rfl (fun h35r h35 => ?_) (fun h35r h35 => ?_)
        · have hi3 : i + j < l.length := by omega
          have ewa : w.getD (i + j) 0 = l.getD (i + j) 0 := hwx _ (by omega)
          have ewb : w.getD (i + (j - 1)) 0 = l.getD (i + j - 1) 0 := by rw [show i + (j - 1) = i + j - 1 by omega]; exact hwx _ (by omega)
          have eik : ((j : Int) - 1).toNat = j - 1 := by omega
          have hc := hf _ (getD_mem (p := l) (i := i + j) hi3) _ (getD_mem (p := l) (i := i + j - 1) (by omega))
          have hd2 : (dsN l (i + j)).length < l.length := by omega
          refine zg5 ?_
          refine wl_regD 12 (by decide +kernel) ?_
          refine zg7 ?_
          refine st_pure rfl (.bin rfl rfl (sub1N (by omega) (by omega))) ?_
          refine zg2 ?_
          try simp only [t1, dfq, eik, ewa, ewb]
          refine st_opc [] rfl rfl (.clo (f := f) (cap := []) (args := [ratL (l.getD (i + j) 0), ratL (l.getD (i + j - 1) 0)]) rfl (.cons im0 (.cons im0 .nil)) ⟨rfl, fun _ h => by cases h⟩ hc.1 (by decide) (fun _ h => by cases h)) (hc.2 _) ?_
          refine zg3 ?_
          refine wl_if rfl (fun h49r h49 => ?_) (fun h49r h49 => ?_)
          · have hy := ds_y (k := l) (i := i + j) (by omega) h49
            have eyl : (dsN l (i + (j + 1))).length = (dsN l (i + j)).length + 1 := by rw [← Nat.add_assoc, hy]; simp
            have hyl : (dsN l (i + j + 1)).length = (dsN l (i + j)).length + 1 := by rw [hy]; simp
            have hnA : 1 ≤ j + 1 ∧ i + (j + 1) ≤ l.length ∧ (w.set (dsN l (i + j)).length (l.getD (i + j) 0)).length = l.length ∧ (dsN l (i + (j + 1))).length + 1 ≤ i + (j + 1) ∧ (w.set (dsN l (i + j)).length (l.getD (i + j) 0)).take (dsN l (i + (j + 1))).length = dsN l (i + (j + 1)) ∧ ∀ x, i + (j + 1) - 1 ≤ x → (w.set (dsN l (i + j)).length (l.getD (i + j) 0)).getD x 0 = l.getD x 0 := ⟨by omega, by omega, by simp [hwl], by rw [← Nat.add_assoc, hyl]; omega, by rw [← Nat.add_assoc, hyl, hy, List.take_add_one, List.take_set_of_le (Nat.le_refl _), hwt, List.getElem?_set_self (by omega)]; rfl, fun x hx => by rw [set_getD _ _ _ _ (by omega), if_neg (by omega)]; exact hwx x (by omega)⟩
            refine zg9 ?_
            try simp only [t1, dfq, ewa, Nat.zero_add]
            refine zg5 ?_
            refine st_pure rfl (.bin rfl rfl (add1N (by omega))) ?_
            refine zg6 ?_
            refine st_pure rfl (.bin rfl rfl (add1N (by omega))) ?_
            refine zg3 ?_
            exact nx2 (j + 1) (w.set (dsN l (i + j)).length (l.getD (i + j) 0)) hnA
          · have hy := ds_n (k := l) (i := i + j) (by omega) h49
            have eyl : (dsN l (i + (j + 1))).length = (dsN l (i + j)).length := by rw [← Nat.add_assoc, hy]
            have hnB : 1 ≤ j + 1 ∧ i + (j + 1) ≤ l.length ∧ w.length = l.length ∧ (dsN l (i + (j + 1))).length + 1 ≤ i + (j + 1) ∧ w.take (dsN l (i + (j + 1))).length = dsN l (i + (j + 1)) ∧ ∀ x, i + (j + 1) - 1 ≤ x → w.getD x 0 = l.getD x 0 := ⟨by omega, by omega, hwl, by rw [← Nat.add_assoc, hy]; omega, by rw [← Nat.add_assoc, hy]; exact hwt, fun x hx => hwx x (by omega)⟩
            refine zg5 ?_
            refine st_pure rfl (.bin rfl rfl (add1N (by omega))) ?_
            refine zg3 ?_
            exact nx2 (j + 1) w hnB
        · obtain rfl : j = l.length - i := by omega
          have eia : i + (l.length - i) = l.length := by omega
          have hdr := hdl
          rw [eia] at hdl hwt
          have ecl := clr_eq (w := w) (m := (dsN l l.length).length) (n := l.length) (by omega) hwl
          rw [hwt] at ecl
          refine zg9 ?_
          refine st_pure rfl (.sliceR (a := (dsN l (i + (l.length - i))).length) (h := l.length) rfl Tryz.underlying33 T29 (fun y hy => by cases hy; exact ⟨_, rfl⟩) (fun h => by cases h) (fun y hy => by cases hy) (fun _ => rfl) om om om) ?_
          refine st_store rfl (.clr (n := l.length - (dsN l (i + (l.length - i))).length) (off := 0 + (dsN l (i + (l.length - i))).length) (z := ratL 0) (blk := ⟨3, w.map ratL, true⟩) rfl rfl rfl rfl (by rw [List.length_map]; omega) Tryz.underlying33 (ratL_zero ▸ Z29a) (ratE.csize 0)) ?_
          refine zg6 ?_
          refine st_pure rfl (.sliceRh rfl Tryz.underlying33 T29 rfl om om) ?_
          refine zg9 ?_
          first | (rw [hE, Nat.sub_self, List.replicate_zero, List.append_nil]; exact retM1 rfl .ref rfl rfl (pures_map ratE _)) | (exact retM1 rfl .ref (by first | rfl | (simp; done)) rfl (pures_map ratE _))
      · have hnx : ∀ j, 1 ≤ j → j < i + 1 → l.getD j 0 ≠ l.getD (j - 1) 0 := fun j h1 h2 => by
          rcases Nat.lt_succ_iff_lt_or_eq.1 h2 with e | rfl
          · exact hne j h1 e
          · exact h28
        refine zg5 ?_
        refine st_pure rfl (.bin rfl rfl (add1N (by omega))) ?_
        refine zg3 ?_
        exact nx1 (i + 1) ⟨by omega, by omega, hnx⟩
    · obtain rfl : i = l.length := by omega
      have hE : (dsN l l.length) = l := by rw [ds_all _ (Nat.le_refl _) hne, List.take_length]
      refine zg12 ?_
      first | (rw [hE, Nat.sub_self, List.replicate_zero, List.append_nil]; exact retM1 rfl .ref rfl rfl (pures_map ratE _)) | (exact retM1 rfl .ref (by first | rfl | (simp; done)) rfl (pures_map ratE _))
namespace H_c_KcopiedO
theorem zSm {p q : Prop} (k : q) (e : p = q := by simp only [e1, e2, e3, e4, p1, p2, p3, q1, q2, q3, l1, t0, t1, r1, r2, r3, r4, Nat.zero_add, Nat.reduceMul, Nat.reduceAdd, b1, b2, b3, b4, b5, b6, i1, i2, i3, i4, i5, i6, Nat.reduceBEq, dfq, Rat.add_zero, ers, etk, Nat.zero_add, take_map_len, map_snoc, len_snoc, List.length_cons, List.length_nil, List.nil_append, List.map_nil, List.take_nil, List.append_nil, List.set_cons_zero, List.set_cons_succ, Nat.reduceEqDiff, reduceIte, if_true, if_false, ptL_kill, poL_kill, kills_map ptE, kills_map poE, kills_map ratE, ratL_kill, spL_kill, LV.kill, kills]; exact rfl) : p := e.mpr k
end H_c_KcopiedO
open H_c_KcopiedO in
theorem c_KcopiedO (p : List Rat) (hl : p.length ≤ 1048576) (hpr : ∀ x ∈ p, rl x ≤ 274877906944) : CallOK Tryz.prog 342 [.list 3 (p.map ratL)] (.ref 1 3 0 p.length) [⟨3, p.map ratL, true⟩] := by
  refine fnO Tryz.func342 ?_
  have ers : True := trivial
  have etk : True := trivial
  refine zg9 ?_
  refine st_alloc rfl rfl (.mkE (n := 0) (m := p.length) ml ml om om om) ?_
  refine zg12 ?_
  refine lp1 (fun (k : Nat) L => (((((St.mk L.slot (hp [(8, ⟨3, (p.take k).map ratL, true⟩)])).put (some 3) (.ref 8 3 0 k)).put (some 9) (.list 3 (p.map ratL))).put (some 10) (nI64 p.length)).put (some 11) (nI64 k))) (fun k => k ≤ p.length) (fun k => p.length - k) 0 (Nat.zero_le _) ?_
  rintro k L1 hk
  refine zg6 ?_
  refine wl_if rfl (fun h12r h12 => ?_) (fun h12r h12 => ?_)
  · have hk2 : k < p.length := by omega
    have hrk := hpr _ (getD_mem hk2)
    have hA := c_RAdd (p.getD k 0) 0 (by rw [show rl 0 = 1 from rfl]; omega)
    rw [Rat.add_zero] at hA
    have ers := take_snocL (l := p) hk2
    have etk : ((p.take k).map ratL).take k = (p.take k).map ratL := List.take_of_length_le (by rw [List.length_map, List.length_take]; omega)
    refine zg15 ?_
    refine st_pure rfl (.build0 SL29 Z29a) ?_
    refine cp am2 (hA) ?_
    refine zg1 ?_
    refine st_store rfl (.appX (d := 8) (news := [ratL (p.getD k 0)]) rfl rfl rfl rfl (by simp; omega) (.inl rfl) (by decide) Tryz.underlying33 Tryz.underlying33 Z29a T29 rfl B29 (.inl ⟨19, 0, _, rfl, by decide, rfl, rfl, by simp, rfl, by simp [pures, ratE.pure]⟩) (by simp; omega) (by simp; omega) (by decide)) ?_
    refine zg4 ?_
    refine wl_regW ((Weak.kill _ 5).trans (Weak.kill _ 19)) ?_
    refine st_pure rfl (.bin rfl rfl (add1N (by omega))) ?_
    refine zg3 ?_
    exact nx1 (k + 1) (by omega)
  · obtain rfl : k = p.length := by omega
    have hE : p.take p.length = p := List.take_length
    refine zg12 ?_
    rw [hE]
    exact ret1own rfl rfl (pures_map ratE _)
namespace H_c_Distinct
theorem zSm {p q : Prop} (k : q) (e : p = q := by simp only [e1, e2, e3, e4, p1, p2, p3, q1, q2, q3, l1, t0, t1, r1, r2, r3, r4, Nat.zero_add, Nat.reduceMul, Nat.reduceAdd, b1, b2, b3, b4, b5, b6, i1, i2, i3, i4, i5, i6, Nat.reduceBEq, List.set_cons_zero, List.set_cons_succ, Nat.reduceEqDiff, reduceIte, if_true, if_false, ptL_kill, poL_kill, kills_map ptE, kills_map poE, kills_map ratE, ratL_kill, spL_kill, LV.kill, kills]; exact rfl) : p := e.mpr k
end H_c_Distinct
open H_c_Distinct in
theorem c_Distinct (k : List Rat) (h0 : 0 < k.length) (hl : k.length ≤ 1048576) (hr : ∀ x ∈ k, rl x ≤ 274877906944) : CallP Tryz.prog 312 [.list 3 (k.map ratL)] (.list 3 ((dsN k k.length).map ratL)) := by
  refine fnP Tryz.func312 ?_
  refine zg8 ?_
  refine st_call1 [] rfl rfl (.cons (.pure (pure_lst ratE _ _)) .nil) (c_KcopiedO k hl hr) (pures_map ratE _) rfl ?_
  refine st_callM 1000065 rfl rfl rfl (pures_map ratE _) (.cons .ref (.cons (.imm (.pure rfl)) .nil)) (.ref h0) (c_Compact 271 k h0 hl (fun x hx y hy => c_RSame x y (by have := hr x hx; have := hr y hy; omega))) rfl (pures_map ratE _) ?_
  refine zg4 ?_
  exact ret1f [1000065] rfl rfl (imm_pre ratE rfl rfl rfl)
open H0 in
theorem c_KPoles (k : List Rat) (d : Nat) (h : d + 1 ≤ k.length) (hl : k.length ≤ 1048576) : CallP Tryz.prog 245 [.list 3 (k.map ratL), nI64 d] (nI64 (k.length - d - 1)) := by
  refine fnP Tryz.func245 ?_
  refine zg10 ?_
  refine st_pure rfl (.bin rfl rfl (sub64 (by omega) (by omega))) ?_
  refine st_pure rfl (.bin rfl rfl (sub64 (by omega) (by omega))) ?_
  refine zg4 ?_
  refine ret1 ?_ (.pure rfl)
  simp only [e1, e2, e3, e4, p1, p2, p3, q1, q2, q3, Nat.reduceBEq]
  congr 2
  omega
namespace H_c_KCheck
theorem zSm {p q : Prop} (k : q) (e : p = q := by simp only [e1, e2, e3, e4, p1, p2, p3, q1, q2, q3, l1, t0, t1, r1, r2, r3, r4, Nat.zero_add, Nat.reduceMul, Nat.reduceAdd, b1, b2, b3, b4, b5, b6, i1, i2, i3, i4, i5, i6, Nat.reduceBEq, dfq, hix, List.set_cons_zero, List.set_cons_succ, Nat.reduceEqDiff, reduceIte, if_true, if_false, ptL_kill, poL_kill, kills_map ptE, kills_map poE, kills_map ratE, ratL_kill, spL_kill, LV.kill, kills]; exact rfl) : p := e.mpr k
end H_c_KCheck
open H_c_KCheck in
theorem c_KCheck (k : List Rat) (d : Nat) (h : kOK k d) : CallP Tryz.prog 244 [.list 3 (k.map ratL), nI64 d] (iL 0) := by
  have hd1 := h.d1
  have hd6 := h.d6
  have hlen := h.len
  have hmax := h.max
  have hr : ∀ x ∈ k, rl x ≤ 274877906944 := fun x hx => Nat.le_trans (h.sz x hx) (by decide)
  have hix : ((k.length : Int) - 1).toNat = k.length - 1 := by omega
  have hr0 := h.sz _ (getD_mem (p := k) (i := 0) (by omega))
  have hr1 := h.sz _ (getD_mem (p := k) (i := k.length - 1) (by omega))
  have hS : CallP Tryz.prog 311 [.list 3 (k.map ratL), .clo 150 []] (bL true) := c_IsSorted 150 k (by omega) (by omega) h.srt (fun x hx y hy => c_RCmp x y (by have := h.sz x hx; have := h.sz y hy; omega))
  refine fnP Tryz.func244 ?_
  refine zg11 ?_
  refine st_pure rfl (.bin rfl rfl (sub64 (by omega) (by omega))) ?_
  refine st_pure rfl (.bin rfl rfl (sub64 (by omega) (by omega))) ?_
  refine zg9 ?_
  refine op_if 18 rfl (fun h18r h18 => ?_) (fun h18r h18 => ?_)
  · omega
  · refine zg6 ?_
    refine wl_if rfl (fun h15r h15 => ?_) (fun h15r h15 => ?_)
    · omega
    · refine zg5 ?_
      refine st_pure rfl (.bin rfl rfl (mul64 (by omega) (by omega))) ?_
      refine st_pure rfl (.bin rfl rfl (add64 (by omega) (by omega))) ?_
      refine zg4 ?_
      refine wl_if rfl (fun h22r h22 => ?_) (fun h22r h22 => ?_)
      · omega
      · refine zg7 ?_
        refine wl_if rfl (fun h29r h29 => ?_) (fun h29r h29 => ?_)
        · omega
        · refine zg5 ?_
          refine wl_regD 15 (by decide +kernel) ?_
          refine zg1 ?_
          refine cp am2 (hS) ?_
          refine zg8 ?_
          refine st_pure (guardX (v := false) rfl rfl (rfl) rfl) (.bin rfl rfl (sub64 (by omega) (by omega))) ?_
          refine zg2 ?_
          try simp only [t1, dfq, hix]
          refine cp am2 (c_RSame (k.getD 0 0) (k.getD (k.length - 1) 0) (by omega)) ?_
          refine zg3 ?_
          refine wl_condY (b := _) rfl (decide_eq_false h.ne) ?_
          refine zg6 ?_
          refine cp am1 (c_Distinct k (by omega) (by omega) hr) ?_
          refine zg5 ?_
          refine lp1 (fun (i : Nat) L => ((((((St.mk L.slot (hp [])).put (some 0) (.list 3 (k.map ratL))).put (some 1) (nI64 d)).put (some 48) (.list 3 ((dsN k k.length).map ratL))).put (some 49) (nI64 (dsN k k.length).length)).put (some 50) (nI64 i))) (fun i => i ≤ (dsN k k.length).length) (fun i => (dsN k k.length).length - i) 0 (Nat.zero_le _) ?_
          rintro i L1 hi
          refine zg6 ?_
          refine wl_if rfl (fun h51r h51 => ?_) (fun h51r h51 => ?_)
          · have hdl := dsN_le k k.length
            have hi2 : i < (dsN k k.length).length := by omega
            have hm := dsN_mem k k.length (Nat.le_refl _) _ (getD_mem hi2)
            have hrt := h.sz _ hm
            have he1 := h.endk _ hm
            have he2 := h.ink _ hm
            refine zg16 ?_
            refine cp am2 (c_KTimes k (by omega) (fun x hx => Nat.le_trans (hr x hx) (by decide)) ((dsN k k.length).getD i 0) (by omega)) ?_
            refine zg4 ?_
            refine wl_regD 16 (by decide +kernel) ?_
            refine zg4 ?_
            refine cp am2 (c_RSame ((dsN k k.length).getD i 0) (k.getD 0 0) (by omega)) ?_
            refine zg1 ?_
            refine op_if 62 rfl (fun h62r h62 => ?_) (fun h62r h62 => ?_)
            · refine zg7 ?_
              try simp only [t1, dfq, hix]
              refine zg11 ?_
              refine st_pure (guardX (v := true) rfl rfl (rfl) rfl) (.bin rfl rfl (add64 (by omega) (by omega))) ?_
              refine zg3 ?_
              refine op_if 79 rfl (fun h79r h79 => ?_) (fun h79r h79 => ?_)
              · have := he1 (by first | exact .inl h62 | exact .inr h73)
                omega
              · refine zg3 ?_
                refine st_skip (guardX (v := false) rfl rfl ((by first | rfl | (rw [h73r]; rfl))) rfl) ?_
                refine st_skip (guardX (v := false) rfl rfl ((by first | rfl | (rw [h73r]; rfl))) rfl) ?_
                refine st_skip (guardX (v := false) rfl rfl ((by first | rfl | (rw [h73r]; rfl))) rfl) ?_
                refine st_pure (guardX (v := false) rfl rfl (h79r) rfl) (.pickF rfl ((by first | rfl | (rw [h73r]; rfl)))) ?_
                refine zg7 ?_
                refine wl_regW (Weak.kill _ 7) ?_
                refine st_pure rfl (.bin rfl rfl (add1N (by omega))) ?_
                refine zg3 ?_
                exact nx1 (i + 1) (by omega)
            · refine zg4 ?_
              refine st_pure (guardX (v := false) rfl rfl (h62r) rfl) (.bin rfl rfl (sub64 (by omega) (by omega))) ?_
              refine zg2 ?_
              try simp only [t1, dfq, hix]
              refine cp am2 (c_RSame ((dsN k k.length).getD i 0) (k.getD (k.length - 1) 0) (by omega)) ?_
              refine zg8 ?_
              refine op_if 73 rfl (fun h73r h73 => ?_) (fun h73r h73 => ?_)
              · refine zg2 ?_
                refine st_pure (guardX (v := true) rfl rfl (h73r) rfl) (.bin rfl rfl (add64 (by omega) (by omega))) ?_
                refine zg3 ?_
                refine op_if 79 rfl (fun h79r h79 => ?_) (fun h79r h79 => ?_)
                · have := he1 (by first | exact .inl h62 | exact .inr h73)
                  omega
                · refine zg3 ?_
                  refine st_skip (guardX (v := false) rfl rfl ((by first | rfl | (rw [h73r]; rfl))) rfl) ?_
                  refine st_skip (guardX (v := false) rfl rfl ((by first | rfl | (rw [h73r]; rfl))) rfl) ?_
                  refine st_skip (guardX (v := false) rfl rfl ((by first | rfl | (rw [h73r]; rfl))) rfl) ?_
                  refine st_pure (guardX (v := false) rfl rfl (h79r) rfl) (.pickF rfl ((by first | rfl | (rw [h73r]; rfl)))) ?_
                  refine zg7 ?_
                  refine wl_regW (Weak.kill _ 7) ?_
                  refine st_pure rfl (.bin rfl rfl (add1N (by omega))) ?_
                  refine zg3 ?_
                  exact nx1 (i + 1) (by omega)
              · refine zg9 ?_
                refine st_pure (guardX (v := true) rfl rfl ((by first | rfl | (rw [h73r]; rfl))) rfl) (.move _) ?_
                refine st_pure (guardX (v := true) rfl rfl ((by first | rfl | (rw [h73r]; rfl))) rfl) (.move _) ?_
                refine st_pure (guardX (v := true) rfl rfl ((by first | rfl | (rw [h73r]; rfl))) rfl) (.bin rfl rfl rfl) ?_
                refine st_pure (guardX (v := false) rfl rfl (rfl) rfl) (.pickT rfl ((by first | rfl | (rw [h73r]; rfl)))) ?_
                refine zg3 ?_
                refine wl_if rfl (fun h87r h87 => ?_) (fun h87r h87 => ?_)
                · have := he2 h62 h73
                  omega
                · refine zg3 ?_
                  refine wl_regW (Weak.kill _ 7) ?_
                  refine st_pure rfl (.bin rfl rfl (add1N (by omega))) ?_
                  refine zg3 ?_
                  exact nx1 (i + 1) (by omega)
          · refine zg11 ?_
            exact ret1 rfl (.pure rfl)
end Go.Proofs.YtgfbghoihhnahaaGreat
end
section
set_option linter.unusedVariables false
set_option linter.unusedSimpArgs false
set_option maxHeartbeats 8000000
set_option maxRecDepth 100000
attribute [local irreducible] Go.Lg.opsL Go.Lg.wpL Go.Lg.thenL Go.Lg.blockL
namespace Go.Proofs.YtgfbghoihhnahaaGreat
open Go.Lg
def bdS (R : Nat) (s : Rat × Rat) : Prop := rl s.1 ≤ R ∧ rl s.2 ≤ R
theorem bdS.le {R S : Nat} {s : Rat × Rat} (h : bdS R s) (k : R ≤ S) : bdS S s := ⟨Nat.le_trans h.1 k, Nat.le_trans h.2 k⟩
theorem mn_rl {a b : Rat} {R : Nat} (ha : rl a ≤ R) (hb : rl b ≤ R) : rl (mnR a b) ≤ R := by unfold mnR; split <;> assumption
theorem mx_rl3 {a b : Rat} {R : Nat} (ha : rl a ≤ R) (hb : rl b ≤ R) : rl (mxR a b) ≤ R := by unfold mxR; split <;> assumption
theorem hul_bd {R : Nat} {s t : Rat × Rat} (hs : bdS R s) (ht : bdS R t) : bdS R (hulP s t) := ⟨mn_rl hs.1 ht.1, mx_rl3 hs.2 ht.2⟩
structure _root_.Go.Lg.Bx3 where
  x : Rat × Rat
  y : Rat × Rat
  z : Rat × Rat
abbrev bxL (b : Bx3) : LV := .agg [spL b.x, spL b.y, spL b.z]
theorem bxE : EncOK bxL 18 true := by
  refine ⟨fun b => ?_, fun b => rfl, fun b => ?_⟩
  · simp [bxL, LV.csize, csizes, spE.csize]
  · simp [bxL, LV.pure, pures, spE.pure]
open H0 in
theorem c_SHas (s : Rat × Rat) (x : Rat) (h1 : rl s.1 + rl x ≤ 549755813888) (h2 : rl x + rl s.2 ≤ 549755813888) : CallP Tryz.prog 216 [spL s, ratL x] (bL (hasR s x)) := by
  refine fnP Tryz.func216 ?_
  refine zg12 ?_
  refine cp am2 (c_RCmp _ _ (by omega)) ?_
  refine zg2 ?_
  refine op_if 10 rfl (fun h10r h10 => ?_) (fun h10r h10 => ?_)
  · refine zg3 ?_
    refine cp am2 (c_RCmp _ _ (by omega)) ?_
    refine zg6 ?_
    rw [← has1 h10r]
    exact ret1 rfl (by first | exact .pure rfl | exact .pure (limL_pure _) | exact .pure (magL_pure _) | exact .pure (ratE.pure _) | exact .pure (pure_lst u32E _ _) | exact .pure (pure_lst ratE _ _))
  · refine zg10 ?_
    rw [← has2 h10r]
    exact ret1 rfl (by first | exact .pure rfl | exact .pure (limL_pure _) | exact .pure (magL_pure _) | exact .pure (ratE.pure _) | exact .pure (pure_lst u32E _ _) | exact .pure (pure_lst ratE _ _))
namespace H_c_FPtSame
theorem zSm {p q : Prop} (k : q) (e : p = q := by simp only [e1, e2, e3, e4, p1, p2, p3, q1, q2, q3, l1, t0, t1, r1, r2, r3, r4, Nat.zero_add, Nat.reduceMul, Nat.reduceAdd, b1, b2, b3, b4, b5, b6, i1, i2, i3, i4, i5, i6, Nat.reduceBEq, List.set_cons_zero, List.set_cons_succ, Nat.reduceEqDiff, reduceIte, if_true, if_false, ptL_kill, poL_kill, kills_map ptE, kills_map poE, kills_map ratE, ratL_kill, spL_kill, LV.kill, kills]; exact rfl) : p := e.mpr k
end H_c_FPtSame
open H_c_FPtSame in
theorem c_FPtSame (p : V3) (h : bd3 100000000000 p) : CallP Tryz.prog 47 [ptL p, ptL p] (bL true) := by
  obtain ⟨a1, a2, a3⟩ := h
  refine fnP Tryz.func47 ?_
  refine zg13 ?_
  refine cp am2 (c_FSame p.x p.x (by omega)) ?_
  refine zg1 ?_
  refine st_pure (guardX (v := true) rfl rfl ((decide_eq_true rfl)) rfl) ixA ?_
  refine st_pure (guardX (v := true) rfl rfl ((decide_eq_true rfl)) rfl) ldA ?_
  refine st_pure (guardX (v := true) rfl rfl ((decide_eq_true rfl)) rfl) ixA ?_
  refine st_pure (guardX (v := true) rfl rfl ((decide_eq_true rfl)) rfl) ldA ?_
  refine st_callP (guardX (v := true) rfl rfl ((decide_eq_true rfl)) rfl) (.cons im0 (.cons im0 .nil)) (c_FSame p.y p.y (by omega)) ?_
  refine st_pure rfl (.pickT rfl ((decide_eq_true rfl))) ?_
  refine zg1 ?_
  refine st_pure (guardX (v := true) rfl rfl ((decide_eq_true rfl)) rfl) ixA ?_
  refine st_pure (guardX (v := true) rfl rfl ((decide_eq_true rfl)) rfl) ldA ?_
  refine st_pure (guardX (v := true) rfl rfl ((decide_eq_true rfl)) rfl) ixA ?_
  refine st_pure (guardX (v := true) rfl rfl ((decide_eq_true rfl)) rfl) ldA ?_
  refine st_callP (guardX (v := true) rfl rfl ((decide_eq_true rfl)) rfl) (.cons im0 (.cons im0 .nil)) (c_FSame p.z p.z (by omega)) ?_
  refine st_pure rfl (.pickT rfl ((decide_eq_true rfl))) ?_
  refine zg4 ?_
  refine ret1 (x := bL true) ?_ (.pure rfl)
  first | rfl | (simp; done)
end Go.Proofs.YtgfbghoihhnahaaGreat
end
section
set_option linter.unusedVariables false
set_option linter.unusedSimpArgs false
set_option maxHeartbeats 8000000
set_option maxRecDepth 100000
attribute [local irreducible] Go.Lg.opsL Go.Lg.wpL Go.Lg.thenL Go.Lg.blockL
namespace Go.Proofs.YtgfbghoihhnahaaGreat
open Go.Lg
def d3V (l : List Int) (k : Nat) : V3 := ⟨(nbV l k).1, (nbV l (nbV l k).2).1, (nbV l (nbV l (nbV l k).2).2).1⟩
def d3K (l : List Int) (k : Nat) : Nat := (nbV l (nbV l (nbV l k).2).2).2
theorem d3_rl (l : List Int) (k : Nat) : bd3 1 (d3V l k) := ⟨nb_rl _ _, nb_rl _ _, nb_rl _ _⟩
theorem d3K_le {l : List Int} {k : Nat} (hl : l.length ≤ 500) (hk : k ≤ 500) : d3K l k ≤ 500 := nbK_le hl (nbK_le hl (nbK_le hl hk))
def dwV (l : List Int) (k : Nat) : Rat := ((1 + (nxV l k 3).tmod 3 : Int) : Rat)
def dpV (l : List Int) (k : Nat) : PoR := ⟨d3V l k, dwV l (d3K l k)⟩
def dpK (l : List Int) (k : Nat) : Nat := nxK l (d3K l k)
theorem dw_in (l : List Int) (k : Nat) : 1 ≤ 1 + (nxV l k 3).tmod 3 ∧ 1 + (nxV l k 3).tmod 3 ≤ 3 := by
  have h := nxV_lt (l := l) (k := k) (n := 3) (by decide)
  rw [Int.tmod_eq_emod_of_nonneg h.1]
  omega
theorem dw_rl (l : List Int) (k : Nat) : rl (dwV l k) ≤ 1 := by
  have := dw_in l k
  exact rl_int (by omega)
theorem dw_pos (l : List Int) (k : Nat) : 0 < dwV l k := by
  have := dw_in l k
  exact Rat.intCast_pos.2 (by omega)
theorem dpK_le {l : List Int} {k : Nat} (hl : l.length ≤ 500) (hk : k ≤ 500) : dpK l k ≤ 500 := nxK_le hl (d3K_le hl hk)
/-- poles one after the other -/
def dqV (l : List Int) : Nat → Nat → List PoR
  | _, 0 => []
  | k, c + 1 => dpV l k :: dqV l (dpK l k) c
def dqK (l : List Int) : Nat → Nat → Nat
  | k, 0 => k
  | k, c + 1 => dqK l (dpK l k) c
theorem dqV_len (l : List Int) : ∀ k c, (dqV l k c).length = c
  | _, 0 => rfl
  | k, c + 1 => by simp [dqV, dqV_len l]
/-- short poles with a positive weight -/
theorem dqV_ok (l : List Int) : ∀ k c, ∀ q ∈ dqV l k c, okP 1 q
  | _, 0, q, h => by simp [dqV] at h
  | k, c + 1, q, h => by
    simp only [dqV, List.mem_cons] at h
    rcases h with rfl | h
    · exact ⟨d3_rl l k, dw_rl _ _, dw_pos _ _⟩
    · exact dqV_ok l _ c q h
/-- knots without inner ones -/
def kn0 (d : Nat) (t : Rat) : List Rat := List.replicate (d + 1) t ++ List.replicate (d + 1) (t + 1)
theorem kn0_len (d : Nat) (t : Rat) : (kn0 d t).length = 2 * (d + 1) := by simp [kn0]; omega
def dtV (l : List Int) (k : Nat) : Rat := ((nxV l k 4 - 2 : Int) : Rat)
theorem dt_rl (l : List Int) (k : Nat) : rl (dtV l k) ≤ 1 ∧ rl (dtV l k + 1) ≤ 1 := by
  have h := nxV_lt (l := l) (k := k) (n := 4) (by decide)
  refine ⟨rl_int (by omega), ?_⟩
  have e : dtV l k + 1 = ((nxV l k 4 - 1 : Int) : Rat) := by
    unfold dtV
    rw [show nxV l k 4 - 1 = (nxV l k 4 - 2) + 1 by omega, Rat.intCast_add]; rfl
  rw [e]
  exact rl_int (by omega)
/-- a curve of at most a degree, without inner knots -/
def cD (l : List Int) (k : Nat) (n : Nat) : Nat := (1 + nxV l k (n : Int)).toNat
def cT (l : List Int) (k : Nat) : Rat := dtV l (nxK l k)
def cP (l : List Int) (k : Nat) (n : Nat) : List PoR := dqV l (nxK l (nxK l (nxK l k))) (cD l k n + 1)
def cK (l : List Int) (k : Nat) (n : Nat) : Nat := dqK l (nxK l (nxK l (nxK l k))) (cD l k n + 1)
theorem cD_in (l : List Int) (k : Nat) {n : Nat} (hn : 0 < n) : 1 ≤ cD l k n ∧ cD l k n ≤ n ∧ (cD l k n : Int) = 1 + nxV l k (n : Int) := by
  have h := nxV_lt (l := l) (k := k) (n := (n : Int)) (by omega)
  unfold cD
  omega
theorem cP_len (l : List Int) (k n : Nat) : (cP l k n).length = cD l k n + 1 := dqV_len _ _ _
theorem cP_ok (l : List Int) (k n : Nat) : ∀ q ∈ cP l k n, okP 1 q := dqV_ok _ _ _
theorem any_3 {P : Program} {ops : Array Oper} {D : Array Bool} {L : St} {K : St → Prop} {fuel : Nat} (i j k : Nat) (o o2 o3 : Oper) (hr : Region.ready .any ops D = [i, j, k]) (ho : ops[i]? = some o) (ho2 : ops[j]? = some o2) (ho3 : ops[k]? = some o3)
    (h : opsL P false ops [o] L (fun L' => anyL P ops fuel (D.setIfInBounds i true) L' K)) (h2 : opsL P false ops [o2] L (fun L' => anyL P ops fuel (D.setIfInBounds j true) L' K)) (h3 : opsL P false ops [o3] L (fun L' => anyL P ops fuel (D.setIfInBounds k true) L' K)) : anyL P ops (fuel + 1) D L K := by
  simp only [opsL] at h h2 h3
  refine ⟨fun e => (by rw [hr] at e; cases e), fun x hx => ?_⟩
  rw [hr] at hx
  simp only [List.mem_cons, List.not_mem_nil, or_false] at hx
  rcases hx with rfl | rfl | rfl
  · obtain ⟨L', h1, h4⟩ := h
    exact ⟨o, L', ho, h1, h4⟩
  · obtain ⟨L', h1, h4⟩ := h2
    exact ⟨o2, L', ho2, h1, h4⟩
  · obtain ⟨L', h1, h4⟩ := h3
    exact ⟨o3, L', ho3, h1, h4⟩
theorem nxV1 (l : List Int) (k : Nat) : nxV l k 1 = 0 := by
  have := nxV_lt (l := l) (k := k) (n := 1) (by decide)
  omega
theorem rep_snoc {α : Type} (n : Nat) (t : α) : List.replicate n t ++ [t] = List.replicate (n + 1) t := by
  rw [List.replicate_succ']
section
variable {P : Program} {H : Heap} {ρ : Operand → LV} {T : TypeId}
theorem bdPo {o0 o1 : Operand} {p : V3} {r : Rat} [z : ZI P T (.agg [.agg [ratL 0, ratL 0, ratL 0], ratL 0])] [s : SI P T [(9, true), (3, true)]] (h0 : ρ o0 = ptL p) (h1 : ρ o1 = ratL r) :
    OpP P H ρ (.build T #[(0, o0), (1, o1)]) (poL ⟨p, r⟩) := by
  have := OpP.bd (H := H) (ρ := ρ) (ps := #[(0, o0), (1, o1)]) (z := z) (s := s) (by simp [lay, LV.csize, csizes, ratE.csize, ratE.isAgg, isAgg_agg]) (by
    intro q hq
    simp only [List.mem_cons, List.not_mem_nil, or_false] at hq
    rcases hq with rfl | rfl
    · exact ⟨_, rfl, by rw [h0]; simp [lay, ptE.csize, LV.csize, csizes, ratE.csize]; rfl, by rw [h0]; exact LV.pure_ne_any (ptE.pure _), by rw [h0]; exact LV.pure_ne_tup (ptE.pure _)⟩
    · exact ⟨_, rfl, by rw [h1]; simp [lay, ratE.csize, ratE.isAgg], by rw [h1]; exact LV.pure_ne_any (ratE.pure _), by rw [h1]; exact LV.pure_ne_tup (ratE.pure _)⟩)
  simp only [buildL, List.map, List.foldl, List.set, h0, h1] at this
  exact this
end
/-- the knots while the second half is being made -/
def knL (d : Nat) (T : Rat) : Nat → List Rat
  | 0 => List.replicate (d + 1) T
  | i + 1 => knL d T i ++ [T + 1]
theorem knL_eq (d : Nat) (T : Rat) : ∀ i, knL d T i = List.replicate (d + 1) T ++ List.replicate i (T + 1)
  | 0 => by rw [knL, List.replicate_zero, List.append_nil]
  | i + 1 => by rw [knL, knL_eq d T i, List.append_assoc, List.replicate_succ' (n := i)]
theorem knL_len (d : Nat) (T : Rat) (i : Nat) : (knL d T i).length = d + 1 + i := by rw [knL_eq]; simp
theorem knL_end (d : Nat) (T : Rat) : knL d T (d + 1) = kn0 d T := knL_eq d T (d + 1)
theorem retMCf {P : Program} {L : St} {a : Nat} {T : TypeId} {b sz : Nat} {x y : LV} {m : Bool} {n : Nat} {ag : Bool} {blk : Blk} (bs : List Nat) (h0 : bs.contains 0 = false) (h : L.slot a = .eptr b sz 0 0) (hb : L.heap b = some ⟨sz, [x], m⟩)
    (hx : x.csize = sz) (hat : x.at 0 n ag = some x) (hT : TyIs P T n ag) (hi : Imm (L.frz bs).heap x y) (hc : (L.frz bs).heap 0 = some blk) (hm : blk.mt = true) (hp : pures blk.vals = true) : RetM P [.cell a T] L y blk :=
  ⟨[x], [y], (L.frz bs).heap, .cons ⟨b, sz, 0, 0, _, x, n, ag, h, hb, rfl, rfl, hx, hat, hT⟩ .nil, frz_le bs h0, .cons (.imm hi) .nil, hc, hm, hp, rfl⟩
namespace H_c_DPoint
theorem zSm {p q : Prop} (k : q) (e : p = q := by simp only [e1, e2, e3, e4, p1, p2, p3, q1, q2, q3, l1, t0, t1, r1, r2, r3, r4, Nat.zero_add, Nat.reduceMul, Nat.reduceAdd, b1, b2, b3, b4, b5, b6, i1, i2, i3, i4, i5, i6, Nat.reduceBEq, l1, List.set_cons_zero, List.set_cons_succ, Nat.reduceEqDiff, reduceIte, if_true, if_false, ptL_kill, poL_kill, kills_map poE, kills_map ratE, ratL_kill, spL_kill, LV.kill, kills, dice_kill]; exact rfl) : p := e.mpr k
end H_c_DPoint
open H_c_DPoint in
theorem c_DPoint (l : List Int) (k : Nat) (hl : l.length ≤ 500) (hk : k ≤ 500) : CallOKM Tryz.prog 17 ⟨2, [diceL l k], true⟩ [.eptr 0 2 0 0] (ptL (d3V l k)) ⟨2, [diceL l (d3K l k)], true⟩ := by
  have k1 := nbK_le (l := l) hl hk
  have k2 := nbK_le (l := l) hl k1
  refine fnM Tryz.func17 ?_
  refine zg8 ?_
  refine st_callMp 0 rfl rfl rfl (dice_pure l _) (.cons .ptr .nil) .ptr (c_number l k (by omega) (by omega)) rfl (dice_pure l _) (ratE.pure _) ?_
  refine zg1 ?_
  refine st_callMp 0 rfl rfl rfl (dice_pure l _) (.cons .ptr .nil) .ptr (c_number l (nbV l k).2 (by omega) (by omega)) rfl (dice_pure l _) (ratE.pure _) ?_
  refine zg1 ?_
  refine st_callMp 0 rfl rfl rfl (dice_pure l _) (.cons .ptr .nil) .ptr (c_number l (nbV l (nbV l k).2).2 (by omega) (by omega)) rfl (dice_pure l _) (ratE.pure _) ?_
  refine zg5 ?_
  exact retMC rfl rfl cs (at_all cs rfl) T31 (.pure pu) rfl rfl (dice_pure l _)
namespace H_c_Dpole
theorem zSm {p q : Prop} (k : q) (e : p = q := by simp only [e1, e2, e3, e4, p1, p2, p3, q1, q2, q3, l1, t0, t1, r1, r2, r3, r4, Nat.zero_add, Nat.reduceMul, Nat.reduceAdd, b1, b2, b3, b4, b5, b6, i1, i2, i3, i4, i5, i6, Nat.reduceBEq, l1, List.set_cons_zero, List.set_cons_succ, Nat.reduceEqDiff, reduceIte, if_true, if_false, ptL_kill, poL_kill, kills_map poE, kills_map ratE, ratL_kill, spL_kill, LV.kill, kills, dice_kill]; exact rfl) : p := e.mpr k
end H_c_Dpole
open H_c_Dpole in
theorem c_Dpole (l : List Int) (k : Nat) (hl : l.length ≤ 500) (hk : k ≤ 500) : CallOKM Tryz.prog 102 ⟨2, [diceL l k], true⟩ [.eptr 0 2 0 0, bL false] (poL (dpV l k)) ⟨2, [diceL l (dpK l k)], true⟩ := by
  have k1 := d3K_le (l := l) hl hk
  have hb := nxV_lt (l := l) (k := d3K l k) (n := 3) (by decide)
  have hd := dw_in l (d3K l k)
  refine fnM Tryz.func102 ?_
  refine zg8 ?_
  refine st_callMp 0 rfl rfl rfl (dice_pure l _) (.cons .ptr .nil) .ptr (c_DPoint l k (by omega) (by omega)) rfl (dice_pure l _) (ptE.pure _) ?_
  refine zg10 ?_
  refine wl_if rfl (fun h8r h8 => ?_) (fun h8r h8 => ?_)
  · first | exact h8.elim | cases h8r
  · refine zg3 ?_
    refine wl_regA ?_
    refine any_2 0 1 _ _ (by decide +kernel) rfl rfl ?_ ?_
    · refine zg1 ?_
      refine st_nil ?_
      refine any_1 1 _ (by decide +kernel) rfl ?_
      refine zg1 ?_
      refine st_nil ?_
      refine any_1 2 _ (by decide +kernel) rfl ?_
      refine st_callMp 0 rfl rfl rfl (dice_pure l _) (.cons .ptr (.cons (.imm (.pure rfl)) .nil)) .ptr (c_Next l (d3K l k) 3 (by omega) (by omega) (by omega) (by omega)) rfl (dice_pure l _) rfl ?_
      refine st_nil ?_
      refine any_1 3 _ (by decide +kernel) rfl ?_
      refine st_pure rfl (.bin rfl rfl (rem64 (by decide))) ?_
      refine st_nil ?_
      refine any_1 4 _ (by decide +kernel) rfl ?_
      refine st_pure rfl (.bin rfl rfl (add64 (by omega) (by omega))) ?_
      refine st_nil ?_
      refine any_1 5 _ (by decide +kernel) rfl ?_
      refine cp am1 (c_FInt (1 + (nxV l (d3K l k) 3).tmod 3) (by omega) (by omega)) ?_
      refine st_nil ?_
      refine any_1 6 _ (by decide +kernel) rfl ?_
      refine s0bd (bdPo rfl rfl) ?_
      refine st_nil ?_
      refine any_1 7 _ (by decide +kernel) rfl ?_
      refine zg1 ?_
      refine st_nil ?_
      refine any_0 (by decide +kernel) ?_
      refine zg2 ?_
      exact retMC rfl rfl cs (at_all cs rfl) T100 (.pure pu) rfl rfl (dice_pure l _)
    · refine zg1 ?_
      refine st_nil ?_
      refine any_2 0 2 _ _ (by decide +kernel) rfl rfl ?_ ?_
      · refine zg1 ?_
        refine st_nil ?_
        refine any_1 2 _ (by decide +kernel) rfl ?_
        refine st_callMp 0 rfl rfl rfl (dice_pure l _) (.cons .ptr (.cons (.imm (.pure rfl)) .nil)) .ptr (c_Next l (d3K l k) 3 (by omega) (by omega) (by omega) (by omega)) rfl (dice_pure l _) rfl ?_
        refine st_nil ?_
        refine any_1 3 _ (by decide +kernel) rfl ?_
        refine st_pure rfl (.bin rfl rfl (rem64 (by decide))) ?_
        refine st_nil ?_
        refine any_1 4 _ (by decide +kernel) rfl ?_
        refine st_pure rfl (.bin rfl rfl (add64 (by omega) (by omega))) ?_
        refine st_nil ?_
        refine any_1 5 _ (by decide +kernel) rfl ?_
        refine cp am1 (c_FInt (1 + (nxV l (d3K l k) 3).tmod 3) (by omega) (by omega)) ?_
        refine st_nil ?_
        refine any_1 6 _ (by decide +kernel) rfl ?_
        refine s0bd (bdPo rfl rfl) ?_
        refine st_nil ?_
        refine any_1 7 _ (by decide +kernel) rfl ?_
        refine zg1 ?_
        refine st_nil ?_
        refine any_0 (by decide +kernel) ?_
        refine zg2 ?_
        exact retMC rfl rfl cs (at_all cs rfl) T100 (.pure pu) rfl rfl (dice_pure l _)
      · refine st_callMp 0 rfl rfl rfl (dice_pure l _) (.cons .ptr (.cons (.imm (.pure rfl)) .nil)) .ptr (c_Next l (d3K l k) 3 (by omega) (by omega) (by omega) (by omega)) rfl (dice_pure l _) rfl ?_
        refine st_nil ?_
        refine any_2 0 3 _ _ (by decide +kernel) rfl rfl ?_ ?_
        · refine zg1 ?_
          refine st_nil ?_
          refine any_1 3 _ (by decide +kernel) rfl ?_
          refine st_pure rfl (.bin rfl rfl (rem64 (by decide))) ?_
          refine st_nil ?_
          refine any_1 4 _ (by decide +kernel) rfl ?_
          refine st_pure rfl (.bin rfl rfl (add64 (by omega) (by omega))) ?_
          refine st_nil ?_
          refine any_1 5 _ (by decide +kernel) rfl ?_
          refine cp am1 (c_FInt (1 + (nxV l (d3K l k) 3).tmod 3) (by omega) (by omega)) ?_
          refine st_nil ?_
          refine any_1 6 _ (by decide +kernel) rfl ?_
          refine s0bd (bdPo rfl rfl) ?_
          refine st_nil ?_
          refine any_1 7 _ (by decide +kernel) rfl ?_
          refine zg1 ?_
          refine st_nil ?_
          refine any_0 (by decide +kernel) ?_
          refine zg2 ?_
          exact retMC rfl rfl cs (at_all cs rfl) T100 (.pure pu) rfl rfl (dice_pure l _)
        · refine st_pure rfl (.bin rfl rfl (rem64 (by decide))) ?_
          refine st_nil ?_
          refine any_2 0 4 _ _ (by decide +kernel) rfl rfl ?_ ?_
          · refine zg1 ?_
            refine st_nil ?_
            refine any_1 4 _ (by decide +kernel) rfl ?_
            refine st_pure rfl (.bin rfl rfl (add64 (by omega) (by omega))) ?_
            refine st_nil ?_
            refine any_1 5 _ (by decide +kernel) rfl ?_
            refine cp am1 (c_FInt (1 + (nxV l (d3K l k) 3).tmod 3) (by omega) (by omega)) ?_
            refine st_nil ?_
            refine any_1 6 _ (by decide +kernel) rfl ?_
            refine s0bd (bdPo rfl rfl) ?_
            refine st_nil ?_
            refine any_1 7 _ (by decide +kernel) rfl ?_
            refine zg1 ?_
            refine st_nil ?_
            refine any_0 (by decide +kernel) ?_
            refine zg2 ?_
            exact retMC rfl rfl cs (at_all cs rfl) T100 (.pure pu) rfl rfl (dice_pure l _)
          · refine st_pure rfl (.bin rfl rfl (add64 (by omega) (by omega))) ?_
            refine st_nil ?_
            refine any_2 0 5 _ _ (by decide +kernel) rfl rfl ?_ ?_
            · refine zg1 ?_
              refine st_nil ?_
              refine any_1 5 _ (by decide +kernel) rfl ?_
              refine cp am1 (c_FInt (1 + (nxV l (d3K l k) 3).tmod 3) (by omega) (by omega)) ?_
              refine st_nil ?_
              refine any_1 6 _ (by decide +kernel) rfl ?_
              refine s0bd (bdPo rfl rfl) ?_
              refine st_nil ?_
              refine any_1 7 _ (by decide +kernel) rfl ?_
              refine zg1 ?_
              refine st_nil ?_
              refine any_0 (by decide +kernel) ?_
              refine zg2 ?_
              exact retMC rfl rfl cs (at_all cs rfl) T100 (.pure pu) rfl rfl (dice_pure l _)
            · refine cp am1 (c_FInt (1 + (nxV l (d3K l k) 3).tmod 3) (by omega) (by omega)) ?_
              refine st_nil ?_
              refine any_1 0 _ (by decide +kernel) rfl ?_
              refine zg1 ?_
              refine st_nil ?_
              refine any_1 6 _ (by decide +kernel) rfl ?_
              refine s0bd (bdPo rfl rfl) ?_
              refine st_nil ?_
              refine any_1 7 _ (by decide +kernel) rfl ?_
              refine zg1 ?_
              refine st_nil ?_
              refine any_0 (by decide +kernel) ?_
              refine zg2 ?_
              exact retMC rfl rfl cs (at_all cs rfl) T100 (.pure pu) rfl rfl (dice_pure l _)
namespace H_c_DKnots0
theorem zSm {p q : Prop} (k : q) (e : p = q := by simp only [e1, e2, e3, e4, p1, p2, p3, q1, q2, q3, l1, t0, t1, r1, r2, r3, r4, Nat.zero_add, Nat.reduceMul, Nat.reduceAdd, b1, b2, b3, b4, b5, b6, i1, i2, i3, i4, i5, i6, Nat.reduceBEq, l1, etkA, etkB, ers, ers2, dfq, List.replicate_zero, Nat.add_zero, take_map_len, map_snoc, len_snoc, List.length_cons, List.length_nil, List.nil_append, List.length_append, List.length_replicate, List.set_cons_zero, List.set_cons_succ, Nat.reduceEqDiff, reduceIte, if_true, if_false, ptL_kill, poL_kill, kills_map poE, kills_map ratE, ratL_kill, spL_kill, LV.kill, kills, dice_kill]; exact rfl) : p := e.mpr k
end H_c_DKnots0
open H_c_DKnots0 in
theorem c_DKnots0 (l : List Int) (k : Nat) (hl : l.length ≤ 500) (d : Nat) (hd : d ≤ 6) (hk : k ≤ 500) : CallOKM Tryz.prog 101 ⟨2, [diceL l k], true⟩ [.eptr 0 2 0 0, nI64 d, iL 0] (.list 3 ((kn0 d (dtV l k)).map ratL)) ⟨2, [diceL l (nxK l (nxK l k))], true⟩ := by
  have k1 := nxK_le (l := l) hl hk
  have hb := nxV_lt (l := l) (k := k) (n := 4) (by decide)
  have hn1 := nxV1 l (nxK l k)
  obtain ⟨ht1, ht2⟩ := dt_rl l k
  have h1r : rl 1 = 1 := rfl
  refine fnM Tryz.func101 ?_
  have etkA : True := trivial
  have etkB : True := trivial
  have ers : True := trivial
  have ers2 : True := trivial
  refine zg8 ?_
  refine st_callMp 0 rfl rfl rfl (dice_pure l _) (.cons .ptr (.cons (.imm (.pure rfl)) .nil)) .ptr (c_Next l k 4 (by omega) (by omega) (by omega) (by omega)) rfl (dice_pure l _) rfl ?_
  refine st_pure rfl (.bin rfl rfl (sub64 (by omega) (by omega))) ?_
  refine cp am1 (c_FInt (nxV l k 4 - 2) (by omega) (by omega)) ?_
  refine zg16 ?_
  refine wl_weak (Weak.own (t := 8) 24 3 rfl rfl) ?_
  refine lp1 (fun (i : Nat) L => (((((((St.mk L.slot (hp [(0, ⟨2, [diceL l (nxK l k)], true⟩), (7, ⟨3, [ratL (dtV l k)], true⟩), (24, ⟨3, (List.replicate i (dtV l k)).map ratL, true⟩)])).put (some 0) (.eptr 0 2 0 0)).put (some 2) (iL 0)).put (some 1) (nI64 d)).put (some 7) (.eptr 7 3 0 0)).put (some 8) (.ref 24 3 0 i)).put (some 9) (nI64 i))) (fun i => i ≤ d + 1) (fun i => d + 1 - i) 0 (Nat.zero_le _) ?_
  rintro i L1 hi
  refine zg8 ?_
  refine wl_if rfl (fun h18r h18 => ?_) (fun h18r h18 => ?_)
  · have hi2 : i ≤ d := by omega
    have ers := rep_snoc i (dtV l k)
    have etkA : ((List.replicate i (dtV l k)).map ratL).take i = (List.replicate i (dtV l k)).map ratL := List.take_of_length_le (by simp)
    refine zg8 ?_
    refine st_store rfl (.appX (d := 24) (news := [ratL ((dtV l k))]) rfl rfl rfl rfl (by simp [knL_len]) (.inl rfl) (by decide) Tryz.underlying33 Tryz.underlying33 Z29a T29 rfl B29 (.inl ⟨23, 0, _, rfl, by decide, rfl, rfl, by simp, rfl, by simp [pures, ratE.pure]⟩) (by simp; omega) (by simp; omega) (by decide)) ?_
    refine zg4 ?_
    refine wl_regW (Weak.kill _ 23) ?_
    refine zg1 ?_
    refine st_pure rfl (.bin rfl rfl (add1N (by omega))) ?_
    refine zg3 ?_
    exact nx1 (i + 1) (by omega)
  · obtain rfl : i = d + 1 := by omega
    refine zg10 ?_
    refine st_pure rfl (.bin rfl rfl (add64 (by omega) (by omega))) ?_
    refine st_callMp 0 rfl rfl rfl (dice_pure l _) (.cons .ptr (.cons (.imm (.pure rfl)) .nil)) .ptr (c_Next l (nxK l k) 1 (by omega) (by omega) (by omega) (by omega)) rfl (dice_pure l _) rfl ?_
    refine zg4 ?_
    refine wl_unroll ?_
    refine zg7 ?_
    refine wl_condY (b := _) rfl (decide_eq_false (by omega)) ?_
    refine zg6 ?_
    refine wl_regD 3 (by decide +kernel) ?_
    refine zg1 ?_
    refine cp am1 (c_FInt 1 (by decide) (by decide)) ?_
    refine cp am2 (c_FRAdd (dtV l k) 1 (by omega)) ?_
    refine zg10 ?_
    refine lp1 (fun (i : Nat) L => (((((St.mk L.slot (hp [(0, ⟨2, [diceL l (nxK l (nxK l k))], true⟩), (7, ⟨3, [ratL ((dtV l k) + 1)], true⟩), (24, ⟨3, (knL d (dtV l k) i).map ratL, true⟩)])).put (some 1) (nI64 d)).put (some 7) (.eptr 7 3 0 0)).put (some 8) (.ref 24 3 0 (d + 1 + i))).put (some 11) (nI64 i))) (fun i => i ≤ d + 1) (fun i => d + 1 - i) 0 (Nat.zero_le _) ?_
    rintro i L3 hi
    refine zg8 ?_
    refine wl_if rfl (fun h72r h72 => ?_) (fun h72r h72 => ?_)
    · have hi2 : i ≤ d := by omega
      have ers2 : knL d (dtV l k) i ++ [(dtV l k) + 1] = knL d (dtV l k) (i + 1) := rfl
      have hkL := knL_len d (dtV l k) i
      have etkB : ((knL d (dtV l k) i).map ratL).take (d + 1 + i) = (knL d (dtV l k) i).map ratL := List.take_of_length_le (by simp; omega)
      refine zg8 ?_
      refine st_store rfl (.appX (d := 24) (news := [ratL ((dtV l k) + 1)]) rfl rfl rfl rfl (by simp [knL_len]) (.inl rfl) (by decide) Tryz.underlying33 Tryz.underlying33 Z29a T29 rfl B29 (.inl ⟨77, 0, _, rfl, by decide, rfl, rfl, by simp, rfl, by simp [pures, ratE.pure]⟩) (by simp; omega) (by simp; omega) (by decide)) ?_
      refine zg4 ?_
      refine wl_regW (Weak.kill _ 77) ?_
      refine zg1 ?_
      refine st_pure rfl (.bin rfl rfl (add1N (by omega))) ?_
      refine zg3 ?_
      exact nx1 (i + 1) (by omega)
    · obtain rfl : i = d + 1 := by omega
      refine zg12 ?_
      rw [← knL_end]
      exact retMf [24] rfl rfl (imm_refm ratE rfl rfl (knL_len _ _ _).symm) rfl rfl (dice_pure l _)
namespace H_c_DCurve
theorem zSm {p q : Prop} (k : q) (e : p = q := by simp only [e1, e2, e3, e4, p1, p2, p3, q1, q2, q3, l1, t0, t1, r1, r2, r3, r4, Nat.zero_add, Nat.reduceMul, Nat.reduceAdd, b1, b2, b3, b4, b5, b6, i1, i2, i3, i4, i5, i6, Nat.reduceBEq, l1, frz_nil, kn0_len, take_map_len, map_snoc, len_snoc, List.length_cons, List.length_nil, List.length_map, List.set_cons_zero, List.set_cons_succ, Nat.reduceEqDiff, reduceIte, if_true, if_false, ptL_kill, poL_kill, kills_map poE, kills_map ratE, ratL_kill, spL_kill, LV.kill, kills, dice_kill]; exact rfl) : p := e.mpr k
end H_c_DCurve
open H_c_DCurve in
theorem c_DCurve (l : List Int) (k : Nat) (hl : l.length ≤ 500) (n : Nat) (hn : 0 < n) (hn6 : n ≤ 6) (hk : k ≤ 500) : CallOKM Tryz.prog 18 ⟨2, [diceL l k], true⟩ [.eptr 0 2 0 0, nI64 n, iL 0, bL false] (.agg [nI64 (cD l k n), .list 3 ((kn0 (cD l k n) (cT l k)).map ratL), .list 12 ((cP l k n).map poL)]) ⟨2, [diceL l (cK l k n)], true⟩ := by
  have k1 := nxK_le (l := l) hl hk
  have k2 := nxK_le (l := l) hl k1
  have k3 := nxK_le (l := l) hl k2
  obtain ⟨hd1, hd2, hd3⟩ := cD_in l k hn
  have hb := nxV_lt (l := l) (k := k) (n := (n : Int)) (by omega)
  have gD : 1 + nxV l k (n : Int) = (((cD l k n) : Nat) : Int) := hd3.symm
  have hA : binI .add .i64 1 (nxV l k (n : Int)) = some (.int .i64 (((cD l k n) : Nat) : Int)) := by rw [← gD]; exact add64 (by omega) (by omega)
  have hkl := kn0_len (cD l k n) (cT l k)
  have hkp := pure_lst ratE 3 (kn0 (cD l k n) (cT l k))
  refine fnM Tryz.func18 ?_
  refine zg9 ?_
  refine st_callMp 0 rfl rfl rfl (dice_pure l _) (.cons .ptr (.cons (.imm (.pure rfl)) .nil)) .ptr (c_Next l k n (by omega) (by omega) (by omega) (by omega)) rfl (dice_pure l _) rfl ?_
  refine st_pure rfl (.bin rfl rfl (hA)) ?_
  refine zg11 ?_
  refine st_callMp 0 rfl rfl rfl (dice_pure l _) (.cons .ptr (.cons (.imm (.pure rfl)) (.cons (.imm (.pure rfl)) .nil))) .ptr (c_DKnots0 l (nxK l k) (by omega) (cD l k n) (by omega) (by omega)) rfl (dice_pure l _) hkp ?_
  refine zg11 ?_
  refine wl_weak ((Weak.cell 9 rfl (fun Z μ w cs h => rep_net 39 12 _ _ Z μ w cs h)).trans (Weak.newB _ 39 12 rfl)) ?_
  refine lp3 (fun (c j : Nat) (o : List PoR) L => ((((((St.mk L.slot (hp [(0, ⟨2, [diceL l j], true⟩), (8, ⟨3, [.agg [.v (.int .i64 0), .v (.slice none 0 0), .v (.slice none 0 0)]], true⟩), (9, ⟨3, [.agg [nI64 (cD l k n), .list 3 ((kn0 (cD l k n) (cT l k)).map ratL), .ref 39 12 0 o.length]], true⟩), (39, ⟨12, o.map poL, true⟩)])).put (some 0) (.eptr 0 2 0 0)).put (some 3) (bL false)).put (some 8) (.eptr 8 3 0 0)).put (some 9) (.eptr 9 3 0 0)).put (some 10) (nI64 o.length))) (fun c j o => j ≤ 500 ∧ o.length + c = (cD l k n) + 1 ∧ o ++ dqV l j c = cP l k n ∧ dqK l j c = cK l k n) (fun c j o => c) ((cD l k n) + 1) (nxK l (nxK l (nxK l k))) ([]) ⟨k3, by simp, rfl, rfl⟩ ?_
  rintro c j o L1 ⟨hj, ho, hV, hK⟩
  refine zg9 ?_
  refine st_pure rfl (.bin rfl rfl (sub64 (by omega) (by omega))) ?_
  refine st_pure rfl (.bin rfl rfl (sub64 (by omega) (by omega))) ?_
  refine zg3 ?_
  refine wl_if rfl (fun h30r h30 => ?_) (fun h30r h30 => ?_)
  · obtain ⟨e, rfl⟩ : ∃ e, c = e + 1 := ⟨c - 1, by omega⟩
    refine zg4 ?_
    refine wl_cut (fun L => ∃  (L1 : St), (True) ∧ L = ((((((St.mk L1.slot (hp [(0, ⟨2, [diceL l (dpK l j)], true⟩), (8, ⟨3, [.agg [.v (.int .i64 0), .v (.slice none 0 0), .v (.slice none 0 0)]], true⟩), (9, ⟨3, [.agg [nI64 (cD l k n), .list 3 ((kn0 (cD l k n) (cT l k)).map ratL), .ref 39 12 0 (o.length + 1)]], true⟩), (38, ⟨12, [dpV l j].map poL, true⟩), (39, ⟨12, (o ++ [dpV l j]).map poL, true⟩)])).put (some 0) (.eptr 0 2 0 0)).put (some 3) (bL false)).put (some 8) (.eptr 8 3 0 0)).put (some 9) (.eptr 9 3 0 0)).put (some 10) (nI64 o.length))) ?_ ?_
    · refine wl_regA ?_
      refine any_3 0 2 3 _ _ _ (by decide +kernel) rfl rfl rfl ?_ ?_ ?_
      · refine zg1 ?_
        refine st_nil ?_
        refine any_3 1 2 3 _ _ _ (by decide +kernel) rfl rfl rfl ?_ ?_ ?_
        · refine zg1 ?_
          refine st_nil ?_
          refine any_2 2 3 _ _ (by decide +kernel) rfl rfl ?_ ?_
          · refine zg1 ?_
            refine st_nil ?_
            refine any_1 3 _ (by decide +kernel) rfl ?_
            refine zg1 ?_
            refine st_nil ?_
            refine any_1 4 _ (by decide +kernel) rfl ?_
            refine st_callMp 0 rfl rfl rfl (dice_pure l _) (.cons .ptr (.cons (.imm (.pure rfl)) .nil)) .ptr (c_Dpole l j (by omega) (by omega)) rfl (dice_pure l _) (poE.pure _) ?_
            refine st_nil ?_
            refine any_1 5 _ (by decide +kernel) rfl ?_
            refine zg1 ?_
            refine st_nil ?_
            refine any_1 6 _ (by decide +kernel) rfl ?_
            refine st_store rfl (.appX (d := 39) (news := [poL (dpV l j)]) rfl rfl rfl rfl (by simp) (.inl rfl) (by decide) Tryz.underlying34 Tryz.underlying34 Z100 T100 cs B100 (.inl ⟨38, 0, _, rfl, by decide, rfl, rfl, by simp, rfl, by simp [pures, poE.pure]⟩) (by simp; omega) (by simp; omega) (by decide)) ?_
            refine st_nil ?_
            refine any_1 7 _ (by decide +kernel) rfl ?_
            refine zg1 ?_
            refine st_nil ?_
            refine any_1 8 _ (by decide +kernel) rfl ?_
            refine zg1 ?_
            refine st_nil ?_
            refine any_0 (by decide +kernel) ?_
            refine zg1 ?_
            exact ⟨_, trivial, ((put_id' (put_id' (put_id' (put_id' (put_id' (mk_id' cl) cl) cl) cl) cl) cl)).symm⟩
          · refine zg1 ?_
            refine st_nil ?_
            refine any_1 2 _ (by decide +kernel) rfl ?_
            refine zg1 ?_
            refine st_nil ?_
            refine any_1 4 _ (by decide +kernel) rfl ?_
            refine st_callMp 0 rfl rfl rfl (dice_pure l _) (.cons .ptr (.cons (.imm (.pure rfl)) .nil)) .ptr (c_Dpole l j (by omega) (by omega)) rfl (dice_pure l _) (poE.pure _) ?_
            refine st_nil ?_
            refine any_1 5 _ (by decide +kernel) rfl ?_
            refine zg1 ?_
            refine st_nil ?_
            refine any_1 6 _ (by decide +kernel) rfl ?_
            refine st_store rfl (.appX (d := 39) (news := [poL (dpV l j)]) rfl rfl rfl rfl (by simp) (.inl rfl) (by decide) Tryz.underlying34 Tryz.underlying34 Z100 T100 cs B100 (.inl ⟨38, 0, _, rfl, by decide, rfl, rfl, by simp, rfl, by simp [pures, poE.pure]⟩) (by simp; omega) (by simp; omega) (by decide)) ?_
            refine st_nil ?_
            refine any_1 7 _ (by decide +kernel) rfl ?_
            refine zg1 ?_
            refine st_nil ?_
            refine any_1 8 _ (by decide +kernel) rfl ?_
            refine zg1 ?_
            refine st_nil ?_
            refine any_0 (by decide +kernel) ?_
            refine zg1 ?_
            exact ⟨_, trivial, ((put_id' (put_id' (put_id' (put_id' (put_id' (mk_id' cl) cl) cl) cl) cl) cl)).symm⟩
        · refine zg1 ?_
          refine st_nil ?_
          refine any_2 1 3 _ _ (by decide +kernel) rfl rfl ?_ ?_
          · refine zg1 ?_
            refine st_nil ?_
            refine any_1 3 _ (by decide +kernel) rfl ?_
            refine zg1 ?_
            refine st_nil ?_
            refine any_1 4 _ (by decide +kernel) rfl ?_
            refine st_callMp 0 rfl rfl rfl (dice_pure l _) (.cons .ptr (.cons (.imm (.pure rfl)) .nil)) .ptr (c_Dpole l j (by omega) (by omega)) rfl (dice_pure l _) (poE.pure _) ?_
            refine st_nil ?_
            refine any_1 5 _ (by decide +kernel) rfl ?_
            refine zg1 ?_
            refine st_nil ?_
            refine any_1 6 _ (by decide +kernel) rfl ?_
            refine st_store rfl (.appX (d := 39) (news := [poL (dpV l j)]) rfl rfl rfl rfl (by simp) (.inl rfl) (by decide) Tryz.underlying34 Tryz.underlying34 Z100 T100 cs B100 (.inl ⟨38, 0, _, rfl, by decide, rfl, rfl, by simp, rfl, by simp [pures, poE.pure]⟩) (by simp; omega) (by simp; omega) (by decide)) ?_
            refine st_nil ?_
            refine any_1 7 _ (by decide +kernel) rfl ?_
            refine zg1 ?_
            refine st_nil ?_
            refine any_1 8 _ (by decide +kernel) rfl ?_
            refine zg1 ?_
            refine st_nil ?_
            refine any_0 (by decide +kernel) ?_
            refine zg1 ?_
            exact ⟨_, trivial, ((put_id' (put_id' (put_id' (put_id' (put_id' (mk_id' cl) cl) cl) cl) cl) cl)).symm⟩
          · refine zg1 ?_
            refine st_nil ?_
            refine any_2 1 4 _ _ (by decide +kernel) rfl rfl ?_ ?_
            · refine zg1 ?_
              refine st_nil ?_
              refine any_1 4 _ (by decide +kernel) rfl ?_
              refine st_callMp 0 rfl rfl rfl (dice_pure l _) (.cons .ptr (.cons (.imm (.pure rfl)) .nil)) .ptr (c_Dpole l j (by omega) (by omega)) rfl (dice_pure l _) (poE.pure _) ?_
              refine st_nil ?_
              refine any_1 5 _ (by decide +kernel) rfl ?_
              refine zg1 ?_
              refine st_nil ?_
              refine any_1 6 _ (by decide +kernel) rfl ?_
              refine st_store rfl (.appX (d := 39) (news := [poL (dpV l j)]) rfl rfl rfl rfl (by simp) (.inl rfl) (by decide) Tryz.underlying34 Tryz.underlying34 Z100 T100 cs B100 (.inl ⟨38, 0, _, rfl, by decide, rfl, rfl, by simp, rfl, by simp [pures, poE.pure]⟩) (by simp; omega) (by simp; omega) (by decide)) ?_
              refine st_nil ?_
              refine any_1 7 _ (by decide +kernel) rfl ?_
              refine zg1 ?_
              refine st_nil ?_
              refine any_1 8 _ (by decide +kernel) rfl ?_
              refine zg1 ?_
              refine st_nil ?_
              refine any_0 (by decide +kernel) ?_
              refine zg1 ?_
              exact ⟨_, trivial, ((put_id' (put_id' (put_id' (put_id' (put_id' (mk_id' cl) cl) cl) cl) cl) cl)).symm⟩
            · refine st_callMp 0 rfl rfl rfl (dice_pure l _) (.cons .ptr (.cons (.imm (.pure rfl)) .nil)) .ptr (c_Dpole l j (by omega) (by omega)) rfl (dice_pure l _) (poE.pure _) ?_
              refine st_nil ?_
              refine any_2 1 5 _ _ (by decide +kernel) rfl rfl ?_ ?_
              · refine zg1 ?_
                refine st_nil ?_
                refine any_1 5 _ (by decide +kernel) rfl ?_
                refine zg1 ?_
                refine st_nil ?_
                refine any_1 6 _ (by decide +kernel) rfl ?_
                refine st_store rfl (.appX (d := 39) (news := [poL (dpV l j)]) rfl rfl rfl rfl (by simp) (.inl rfl) (by decide) Tryz.underlying34 Tryz.underlying34 Z100 T100 cs B100 (.inl ⟨38, 0, _, rfl, by decide, rfl, rfl, by simp, rfl, by simp [pures, poE.pure]⟩) (by simp; omega) (by simp; omega) (by decide)) ?_
                refine st_nil ?_
                refine any_1 7 _ (by decide +kernel) rfl ?_
                refine zg1 ?_
                refine st_nil ?_
                refine any_1 8 _ (by decide +kernel) rfl ?_
                refine zg1 ?_
                refine st_nil ?_
                refine any_0 (by decide +kernel) ?_
                refine zg1 ?_
                exact ⟨_, trivial, ((put_id' (put_id' (put_id' (put_id' (put_id' (mk_id' cl) cl) cl) cl) cl) cl)).symm⟩
              · refine zg1 ?_
                refine st_nil ?_
                refine any_1 1 _ (by decide +kernel) rfl ?_
                refine zg1 ?_
                refine st_nil ?_
                refine any_1 6 _ (by decide +kernel) rfl ?_
                refine st_store rfl (.appX (d := 39) (news := [poL (dpV l j)]) rfl rfl rfl rfl (by simp) (.inl rfl) (by decide) Tryz.underlying34 Tryz.underlying34 Z100 T100 cs B100 (.inl ⟨38, 0, _, rfl, by decide, rfl, rfl, by simp, rfl, by simp [pures, poE.pure]⟩) (by simp; omega) (by simp; omega) (by decide)) ?_
                refine st_nil ?_
                refine any_1 7 _ (by decide +kernel) rfl ?_
                refine zg1 ?_
                refine st_nil ?_
                refine any_1 8 _ (by decide +kernel) rfl ?_
                refine zg1 ?_
                refine st_nil ?_
                refine any_0 (by decide +kernel) ?_
                refine zg1 ?_
                exact ⟨_, trivial, ((put_id' (put_id' (put_id' (put_id' (put_id' (mk_id' cl) cl) cl) cl) cl) cl)).symm⟩
        · refine zg1 ?_
          refine st_nil ?_
          refine any_2 1 2 _ _ (by decide +kernel) rfl rfl ?_ ?_
          · refine zg1 ?_
            refine st_nil ?_
            refine any_1 2 _ (by decide +kernel) rfl ?_
            refine zg1 ?_
            refine st_nil ?_
            refine any_1 4 _ (by decide +kernel) rfl ?_
            refine st_callMp 0 rfl rfl rfl (dice_pure l _) (.cons .ptr (.cons (.imm (.pure rfl)) .nil)) .ptr (c_Dpole l j (by omega) (by omega)) rfl (dice_pure l _) (poE.pure _) ?_
            refine st_nil ?_
            refine any_1 5 _ (by decide +kernel) rfl ?_
            refine zg1 ?_
            refine st_nil ?_
            refine any_1 6 _ (by decide +kernel) rfl ?_
            refine st_store rfl (.appX (d := 39) (news := [poL (dpV l j)]) rfl rfl rfl rfl (by simp) (.inl rfl) (by decide) Tryz.underlying34 Tryz.underlying34 Z100 T100 cs B100 (.inl ⟨38, 0, _, rfl, by decide, rfl, rfl, by simp, rfl, by simp [pures, poE.pure]⟩) (by simp; omega) (by simp; omega) (by decide)) ?_
            refine st_nil ?_
            refine any_1 7 _ (by decide +kernel) rfl ?_
            refine zg1 ?_
            refine st_nil ?_
            refine any_1 8 _ (by decide +kernel) rfl ?_
            refine zg1 ?_
            refine st_nil ?_
            refine any_0 (by decide +kernel) ?_
            refine zg1 ?_
            exact ⟨_, trivial, ((put_id' (put_id' (put_id' (put_id' (put_id' (mk_id' cl) cl) cl) cl) cl) cl)).symm⟩
          · refine zg1 ?_
            refine st_nil ?_
            refine any_2 1 4 _ _ (by decide +kernel) rfl rfl ?_ ?_
            · refine zg1 ?_
              refine st_nil ?_
              refine any_1 4 _ (by decide +kernel) rfl ?_
              refine st_callMp 0 rfl rfl rfl (dice_pure l _) (.cons .ptr (.cons (.imm (.pure rfl)) .nil)) .ptr (c_Dpole l j (by omega) (by omega)) rfl (dice_pure l _) (poE.pure _) ?_
              refine st_nil ?_
              refine any_1 5 _ (by decide +kernel) rfl ?_
              refine zg1 ?_
              refine st_nil ?_
              refine any_1 6 _ (by decide +kernel) rfl ?_
              refine st_store rfl (.appX (d := 39) (news := [poL (dpV l j)]) rfl rfl rfl rfl (by simp) (.inl rfl) (by decide) Tryz.underlying34 Tryz.underlying34 Z100 T100 cs B100 (.inl ⟨38, 0, _, rfl, by decide, rfl, rfl, by simp, rfl, by simp [pures, poE.pure]⟩) (by simp; omega) (by simp; omega) (by decide)) ?_
              refine st_nil ?_
              refine any_1 7 _ (by decide +kernel) rfl ?_
              refine zg1 ?_
              refine st_nil ?_
              refine any_1 8 _ (by decide +kernel) rfl ?_
              refine zg1 ?_
              refine st_nil ?_
              refine any_0 (by decide +kernel) ?_
              refine zg1 ?_
              exact ⟨_, trivial, ((put_id' (put_id' (put_id' (put_id' (put_id' (mk_id' cl) cl) cl) cl) cl) cl)).symm⟩
            · refine st_callMp 0 rfl rfl rfl (dice_pure l _) (.cons .ptr (.cons (.imm (.pure rfl)) .nil)) .ptr (c_Dpole l j (by omega) (by omega)) rfl (dice_pure l _) (poE.pure _) ?_
              refine st_nil ?_
              refine any_2 1 5 _ _ (by decide +kernel) rfl rfl ?_ ?_
              · refine zg1 ?_
                refine st_nil ?_
                refine any_1 5 _ (by decide +kernel) rfl ?_
                refine zg1 ?_
                refine st_nil ?_
                refine any_1 6 _ (by decide +kernel) rfl ?_
                refine st_store rfl (.appX (d := 39) (news := [poL (dpV l j)]) rfl rfl rfl rfl (by simp) (.inl rfl) (by decide) Tryz.underlying34 Tryz.underlying34 Z100 T100 cs B100 (.inl ⟨38, 0, _, rfl, by decide, rfl, rfl, by simp, rfl, by simp [pures, poE.pure]⟩) (by simp; omega) (by simp; omega) (by decide)) ?_
                refine st_nil ?_
                refine any_1 7 _ (by decide +kernel) rfl ?_
                refine zg1 ?_
                refine st_nil ?_
                refine any_1 8 _ (by decide +kernel) rfl ?_
                refine zg1 ?_
                refine st_nil ?_
                refine any_0 (by decide +kernel) ?_
                refine zg1 ?_
                exact ⟨_, trivial, ((put_id' (put_id' (put_id' (put_id' (put_id' (mk_id' cl) cl) cl) cl) cl) cl)).symm⟩
              · refine zg1 ?_
                refine st_nil ?_
                refine any_1 1 _ (by decide +kernel) rfl ?_
                refine zg1 ?_
                refine st_nil ?_
                refine any_1 6 _ (by decide +kernel) rfl ?_
                refine st_store rfl (.appX (d := 39) (news := [poL (dpV l j)]) rfl rfl rfl rfl (by simp) (.inl rfl) (by decide) Tryz.underlying34 Tryz.underlying34 Z100 T100 cs B100 (.inl ⟨38, 0, _, rfl, by decide, rfl, rfl, by simp, rfl, by simp [pures, poE.pure]⟩) (by simp; omega) (by simp; omega) (by decide)) ?_
                refine st_nil ?_
                refine any_1 7 _ (by decide +kernel) rfl ?_
                refine zg1 ?_
                refine st_nil ?_
                refine any_1 8 _ (by decide +kernel) rfl ?_
                refine zg1 ?_
                refine st_nil ?_
                refine any_0 (by decide +kernel) ?_
                refine zg1 ?_
                exact ⟨_, trivial, ((put_id' (put_id' (put_id' (put_id' (put_id' (mk_id' cl) cl) cl) cl) cl) cl)).symm⟩
      · refine zg1 ?_
        refine st_nil ?_
        refine any_2 0 3 _ _ (by decide +kernel) rfl rfl ?_ ?_
        · refine zg1 ?_
          refine st_nil ?_
          refine any_2 1 3 _ _ (by decide +kernel) rfl rfl ?_ ?_
          · refine zg1 ?_
            refine st_nil ?_
            refine any_1 3 _ (by decide +kernel) rfl ?_
            refine zg1 ?_
            refine st_nil ?_
            refine any_1 4 _ (by decide +kernel) rfl ?_
            refine st_callMp 0 rfl rfl rfl (dice_pure l _) (.cons .ptr (.cons (.imm (.pure rfl)) .nil)) .ptr (c_Dpole l j (by omega) (by omega)) rfl (dice_pure l _) (poE.pure _) ?_
            refine st_nil ?_
            refine any_1 5 _ (by decide +kernel) rfl ?_
            refine zg1 ?_
            refine st_nil ?_
            refine any_1 6 _ (by decide +kernel) rfl ?_
            refine st_store rfl (.appX (d := 39) (news := [poL (dpV l j)]) rfl rfl rfl rfl (by simp) (.inl rfl) (by decide) Tryz.underlying34 Tryz.underlying34 Z100 T100 cs B100 (.inl ⟨38, 0, _, rfl, by decide, rfl, rfl, by simp, rfl, by simp [pures, poE.pure]⟩) (by simp; omega) (by simp; omega) (by decide)) ?_
            refine st_nil ?_
            refine any_1 7 _ (by decide +kernel) rfl ?_
            refine zg1 ?_
            refine st_nil ?_
            refine any_1 8 _ (by decide +kernel) rfl ?_
            refine zg1 ?_
            refine st_nil ?_
            refine any_0 (by decide +kernel) ?_
            refine zg1 ?_
            exact ⟨_, trivial, ((put_id' (put_id' (put_id' (put_id' (put_id' (mk_id' cl) cl) cl) cl) cl) cl)).symm⟩
          · refine zg1 ?_
            refine st_nil ?_
            refine any_2 1 4 _ _ (by decide +kernel) rfl rfl ?_ ?_
            · refine zg1 ?_
              refine st_nil ?_
              refine any_1 4 _ (by decide +kernel) rfl ?_
              refine st_callMp 0 rfl rfl rfl (dice_pure l _) (.cons .ptr (.cons (.imm (.pure rfl)) .nil)) .ptr (c_Dpole l j (by omega) (by omega)) rfl (dice_pure l _) (poE.pure _) ?_
              refine st_nil ?_
              refine any_1 5 _ (by decide +kernel) rfl ?_
              refine zg1 ?_
              refine st_nil ?_
              refine any_1 6 _ (by decide +kernel) rfl ?_
              refine st_store rfl (.appX (d := 39) (news := [poL (dpV l j)]) rfl rfl rfl rfl (by simp) (.inl rfl) (by decide) Tryz.underlying34 Tryz.underlying34 Z100 T100 cs B100 (.inl ⟨38, 0, _, rfl, by decide, rfl, rfl, by simp, rfl, by simp [pures, poE.pure]⟩) (by simp; omega) (by simp; omega) (by decide)) ?_
              refine st_nil ?_
              refine any_1 7 _ (by decide +kernel) rfl ?_
              refine zg1 ?_
              refine st_nil ?_
              refine any_1 8 _ (by decide +kernel) rfl ?_
              refine zg1 ?_
              refine st_nil ?_
              refine any_0 (by decide +kernel) ?_
              refine zg1 ?_
              exact ⟨_, trivial, ((put_id' (put_id' (put_id' (put_id' (put_id' (mk_id' cl) cl) cl) cl) cl) cl)).symm⟩
            · refine st_callMp 0 rfl rfl rfl (dice_pure l _) (.cons .ptr (.cons (.imm (.pure rfl)) .nil)) .ptr (c_Dpole l j (by omega) (by omega)) rfl (dice_pure l _) (poE.pure _) ?_
              refine st_nil ?_
              refine any_2 1 5 _ _ (by decide +kernel) rfl rfl ?_ ?_
              · refine zg1 ?_
                refine st_nil ?_
                refine any_1 5 _ (by decide +kernel) rfl ?_
                refine zg1 ?_
                refine st_nil ?_
                refine any_1 6 _ (by decide +kernel) rfl ?_
                refine st_store rfl (.appX (d := 39) (news := [poL (dpV l j)]) rfl rfl rfl rfl (by simp) (.inl rfl) (by decide) Tryz.underlying34 Tryz.underlying34 Z100 T100 cs B100 (.inl ⟨38, 0, _, rfl, by decide, rfl, rfl, by simp, rfl, by simp [pures, poE.pure]⟩) (by simp; omega) (by simp; omega) (by decide)) ?_
                refine st_nil ?_
                refine any_1 7 _ (by decide +kernel) rfl ?_
                refine zg1 ?_
                refine st_nil ?_
                refine any_1 8 _ (by decide +kernel) rfl ?_
                refine zg1 ?_
                refine st_nil ?_
                refine any_0 (by decide +kernel) ?_
                refine zg1 ?_
                exact ⟨_, trivial, ((put_id' (put_id' (put_id' (put_id' (put_id' (mk_id' cl) cl) cl) cl) cl) cl)).symm⟩
              · refine zg1 ?_
                refine st_nil ?_
                refine any_1 1 _ (by decide +kernel) rfl ?_
                refine zg1 ?_
                refine st_nil ?_
                refine any_1 6 _ (by decide +kernel) rfl ?_
                refine st_store rfl (.appX (d := 39) (news := [poL (dpV l j)]) rfl rfl rfl rfl (by simp) (.inl rfl) (by decide) Tryz.underlying34 Tryz.underlying34 Z100 T100 cs B100 (.inl ⟨38, 0, _, rfl, by decide, rfl, rfl, by simp, rfl, by simp [pures, poE.pure]⟩) (by simp; omega) (by simp; omega) (by decide)) ?_
                refine st_nil ?_
                refine any_1 7 _ (by decide +kernel) rfl ?_
                refine zg1 ?_
                refine st_nil ?_
                refine any_1 8 _ (by decide +kernel) rfl ?_
                refine zg1 ?_
                refine st_nil ?_
                refine any_0 (by decide +kernel) ?_
                refine zg1 ?_
                exact ⟨_, trivial, ((put_id' (put_id' (put_id' (put_id' (put_id' (mk_id' cl) cl) cl) cl) cl) cl)).symm⟩
        · refine zg1 ?_
          refine st_nil ?_
          refine any_2 0 4 _ _ (by decide +kernel) rfl rfl ?_ ?_
          · refine zg1 ?_
            refine st_nil ?_
            refine any_2 1 4 _ _ (by decide +kernel) rfl rfl ?_ ?_
            · refine zg1 ?_
              refine st_nil ?_
              refine any_1 4 _ (by decide +kernel) rfl ?_
              refine st_callMp 0 rfl rfl rfl (dice_pure l _) (.cons .ptr (.cons (.imm (.pure rfl)) .nil)) .ptr (c_Dpole l j (by omega) (by omega)) rfl (dice_pure l _) (poE.pure _) ?_
              refine st_nil ?_
              refine any_1 5 _ (by decide +kernel) rfl ?_
              refine zg1 ?_
              refine st_nil ?_
              refine any_1 6 _ (by decide +kernel) rfl ?_
              refine st_store rfl (.appX (d := 39) (news := [poL (dpV l j)]) rfl rfl rfl rfl (by simp) (.inl rfl) (by decide) Tryz.underlying34 Tryz.underlying34 Z100 T100 cs B100 (.inl ⟨38, 0, _, rfl, by decide, rfl, rfl, by simp, rfl, by simp [pures, poE.pure]⟩) (by simp; omega) (by simp; omega) (by decide)) ?_
              refine st_nil ?_
              refine any_1 7 _ (by decide +kernel) rfl ?_
              refine zg1 ?_
              refine st_nil ?_
              refine any_1 8 _ (by decide +kernel) rfl ?_
              refine zg1 ?_
              refine st_nil ?_
              refine any_0 (by decide +kernel) ?_
              refine zg1 ?_
              exact ⟨_, trivial, ((put_id' (put_id' (put_id' (put_id' (put_id' (mk_id' cl) cl) cl) cl) cl) cl)).symm⟩
            · refine st_callMp 0 rfl rfl rfl (dice_pure l _) (.cons .ptr (.cons (.imm (.pure rfl)) .nil)) .ptr (c_Dpole l j (by omega) (by omega)) rfl (dice_pure l _) (poE.pure _) ?_
              refine st_nil ?_
              refine any_2 1 5 _ _ (by decide +kernel) rfl rfl ?_ ?_
              · refine zg1 ?_
                refine st_nil ?_
                refine any_1 5 _ (by decide +kernel) rfl ?_
                refine zg1 ?_
                refine st_nil ?_
                refine any_1 6 _ (by decide +kernel) rfl ?_
                refine st_store rfl (.appX (d := 39) (news := [poL (dpV l j)]) rfl rfl rfl rfl (by simp) (.inl rfl) (by decide) Tryz.underlying34 Tryz.underlying34 Z100 T100 cs B100 (.inl ⟨38, 0, _, rfl, by decide, rfl, rfl, by simp, rfl, by simp [pures, poE.pure]⟩) (by simp; omega) (by simp; omega) (by decide)) ?_
                refine st_nil ?_
                refine any_1 7 _ (by decide +kernel) rfl ?_
                refine zg1 ?_
                refine st_nil ?_
                refine any_1 8 _ (by decide +kernel) rfl ?_
                refine zg1 ?_
                refine st_nil ?_
                refine any_0 (by decide +kernel) ?_
                refine zg1 ?_
                exact ⟨_, trivial, ((put_id' (put_id' (put_id' (put_id' (put_id' (mk_id' cl) cl) cl) cl) cl) cl)).symm⟩
              · refine zg1 ?_
                refine st_nil ?_
                refine any_1 1 _ (by decide +kernel) rfl ?_
                refine zg1 ?_
                refine st_nil ?_
                refine any_1 6 _ (by decide +kernel) rfl ?_
                refine st_store rfl (.appX (d := 39) (news := [poL (dpV l j)]) rfl rfl rfl rfl (by simp) (.inl rfl) (by decide) Tryz.underlying34 Tryz.underlying34 Z100 T100 cs B100 (.inl ⟨38, 0, _, rfl, by decide, rfl, rfl, by simp, rfl, by simp [pures, poE.pure]⟩) (by simp; omega) (by simp; omega) (by decide)) ?_
                refine st_nil ?_
                refine any_1 7 _ (by decide +kernel) rfl ?_
                refine zg1 ?_
                refine st_nil ?_
                refine any_1 8 _ (by decide +kernel) rfl ?_
                refine zg1 ?_
                refine st_nil ?_
                refine any_0 (by decide +kernel) ?_
                refine zg1 ?_
                exact ⟨_, trivial, ((put_id' (put_id' (put_id' (put_id' (put_id' (mk_id' cl) cl) cl) cl) cl) cl)).symm⟩
          · refine st_callMp 0 rfl rfl rfl (dice_pure l _) (.cons .ptr (.cons (.imm (.pure rfl)) .nil)) .ptr (c_Dpole l j (by omega) (by omega)) rfl (dice_pure l _) (poE.pure _) ?_
            refine st_nil ?_
            refine any_2 0 5 _ _ (by decide +kernel) rfl rfl ?_ ?_
            · refine zg1 ?_
              refine st_nil ?_
              refine any_2 1 5 _ _ (by decide +kernel) rfl rfl ?_ ?_
              · refine zg1 ?_
                refine st_nil ?_
                refine any_1 5 _ (by decide +kernel) rfl ?_
                refine zg1 ?_
                refine st_nil ?_
                refine any_1 6 _ (by decide +kernel) rfl ?_
                refine st_store rfl (.appX (d := 39) (news := [poL (dpV l j)]) rfl rfl rfl rfl (by simp) (.inl rfl) (by decide) Tryz.underlying34 Tryz.underlying34 Z100 T100 cs B100 (.inl ⟨38, 0, _, rfl, by decide, rfl, rfl, by simp, rfl, by simp [pures, poE.pure]⟩) (by simp; omega) (by simp; omega) (by decide)) ?_
                refine st_nil ?_
                refine any_1 7 _ (by decide +kernel) rfl ?_
                refine zg1 ?_
                refine st_nil ?_
                refine any_1 8 _ (by decide +kernel) rfl ?_
                refine zg1 ?_
                refine st_nil ?_
                refine any_0 (by decide +kernel) ?_
                refine zg1 ?_
                exact ⟨_, trivial, ((put_id' (put_id' (put_id' (put_id' (put_id' (mk_id' cl) cl) cl) cl) cl) cl)).symm⟩
              · refine zg1 ?_
                refine st_nil ?_
                refine any_1 1 _ (by decide +kernel) rfl ?_
                refine zg1 ?_
                refine st_nil ?_
                refine any_1 6 _ (by decide +kernel) rfl ?_
                refine st_store rfl (.appX (d := 39) (news := [poL (dpV l j)]) rfl rfl rfl rfl (by simp) (.inl rfl) (by decide) Tryz.underlying34 Tryz.underlying34 Z100 T100 cs B100 (.inl ⟨38, 0, _, rfl, by decide, rfl, rfl, by simp, rfl, by simp [pures, poE.pure]⟩) (by simp; omega) (by simp; omega) (by decide)) ?_
                refine st_nil ?_
                refine any_1 7 _ (by decide +kernel) rfl ?_
                refine zg1 ?_
                refine st_nil ?_
                refine any_1 8 _ (by decide +kernel) rfl ?_
                refine zg1 ?_
                refine st_nil ?_
                refine any_0 (by decide +kernel) ?_
                refine zg1 ?_
                exact ⟨_, trivial, ((put_id' (put_id' (put_id' (put_id' (put_id' (mk_id' cl) cl) cl) cl) cl) cl)).symm⟩
            · refine zg1 ?_
              refine st_nil ?_
              refine any_1 0 _ (by decide +kernel) rfl ?_
              refine zg1 ?_
              refine st_nil ?_
              refine any_1 1 _ (by decide +kernel) rfl ?_
              refine zg1 ?_
              refine st_nil ?_
              refine any_1 6 _ (by decide +kernel) rfl ?_
              refine st_store rfl (.appX (d := 39) (news := [poL (dpV l j)]) rfl rfl rfl rfl (by simp) (.inl rfl) (by decide) Tryz.underlying34 Tryz.underlying34 Z100 T100 cs B100 (.inl ⟨38, 0, _, rfl, by decide, rfl, rfl, by simp, rfl, by simp [pures, poE.pure]⟩) (by simp; omega) (by simp; omega) (by decide)) ?_
              refine st_nil ?_
              refine any_1 7 _ (by decide +kernel) rfl ?_
              refine zg1 ?_
              refine st_nil ?_
              refine any_1 8 _ (by decide +kernel) rfl ?_
              refine zg1 ?_
              refine st_nil ?_
              refine any_0 (by decide +kernel) ?_
              refine zg1 ?_
              exact ⟨_, trivial, ((put_id' (put_id' (put_id' (put_id' (put_id' (mk_id' cl) cl) cl) cl) cl) cl)).symm⟩
      · refine zg1 ?_
        refine st_nil ?_
        refine any_2 0 2 _ _ (by decide +kernel) rfl rfl ?_ ?_
        · refine zg1 ?_
          refine st_nil ?_
          refine any_2 1 2 _ _ (by decide +kernel) rfl rfl ?_ ?_
          · refine zg1 ?_
            refine st_nil ?_
            refine any_1 2 _ (by decide +kernel) rfl ?_
            refine zg1 ?_
            refine st_nil ?_
            refine any_1 4 _ (by decide +kernel) rfl ?_
            refine st_callMp 0 rfl rfl rfl (dice_pure l _) (.cons .ptr (.cons (.imm (.pure rfl)) .nil)) .ptr (c_Dpole l j (by omega) (by omega)) rfl (dice_pure l _) (poE.pure _) ?_
            refine st_nil ?_
            refine any_1 5 _ (by decide +kernel) rfl ?_
            refine zg1 ?_
            refine st_nil ?_
            refine any_1 6 _ (by decide +kernel) rfl ?_
            refine st_store rfl (.appX (d := 39) (news := [poL (dpV l j)]) rfl rfl rfl rfl (by simp) (.inl rfl) (by decide) Tryz.underlying34 Tryz.underlying34 Z100 T100 cs B100 (.inl ⟨38, 0, _, rfl, by decide, rfl, rfl, by simp, rfl, by simp [pures, poE.pure]⟩) (by simp; omega) (by simp; omega) (by decide)) ?_
            refine st_nil ?_
            refine any_1 7 _ (by decide +kernel) rfl ?_
            refine zg1 ?_
            refine st_nil ?_
            refine any_1 8 _ (by decide +kernel) rfl ?_
            refine zg1 ?_
            refine st_nil ?_
            refine any_0 (by decide +kernel) ?_
            refine zg1 ?_
            exact ⟨_, trivial, ((put_id' (put_id' (put_id' (put_id' (put_id' (mk_id' cl) cl) cl) cl) cl) cl)).symm⟩
          · refine zg1 ?_
            refine st_nil ?_
            refine any_2 1 4 _ _ (by decide +kernel) rfl rfl ?_ ?_
            · refine zg1 ?_
              refine st_nil ?_
              refine any_1 4 _ (by decide +kernel) rfl ?_
              refine st_callMp 0 rfl rfl rfl (dice_pure l _) (.cons .ptr (.cons (.imm (.pure rfl)) .nil)) .ptr (c_Dpole l j (by omega) (by omega)) rfl (dice_pure l _) (poE.pure _) ?_
              refine st_nil ?_
              refine any_1 5 _ (by decide +kernel) rfl ?_
              refine zg1 ?_
              refine st_nil ?_
              refine any_1 6 _ (by decide +kernel) rfl ?_
              refine st_store rfl (.appX (d := 39) (news := [poL (dpV l j)]) rfl rfl rfl rfl (by simp) (.inl rfl) (by decide) Tryz.underlying34 Tryz.underlying34 Z100 T100 cs B100 (.inl ⟨38, 0, _, rfl, by decide, rfl, rfl, by simp, rfl, by simp [pures, poE.pure]⟩) (by simp; omega) (by simp; omega) (by decide)) ?_
              refine st_nil ?_
              refine any_1 7 _ (by decide +kernel) rfl ?_
              refine zg1 ?_
              refine st_nil ?_
              refine any_1 8 _ (by decide +kernel) rfl ?_
              refine zg1 ?_
              refine st_nil ?_
              refine any_0 (by decide +kernel) ?_
              refine zg1 ?_
              exact ⟨_, trivial, ((put_id' (put_id' (put_id' (put_id' (put_id' (mk_id' cl) cl) cl) cl) cl) cl)).symm⟩
            · refine st_callMp 0 rfl rfl rfl (dice_pure l _) (.cons .ptr (.cons (.imm (.pure rfl)) .nil)) .ptr (c_Dpole l j (by omega) (by omega)) rfl (dice_pure l _) (poE.pure _) ?_
              refine st_nil ?_
              refine any_2 1 5 _ _ (by decide +kernel) rfl rfl ?_ ?_
              · refine zg1 ?_
                refine st_nil ?_
                refine any_1 5 _ (by decide +kernel) rfl ?_
                refine zg1 ?_
                refine st_nil ?_
                refine any_1 6 _ (by decide +kernel) rfl ?_
                refine st_store rfl (.appX (d := 39) (news := [poL (dpV l j)]) rfl rfl rfl rfl (by simp) (.inl rfl) (by decide) Tryz.underlying34 Tryz.underlying34 Z100 T100 cs B100 (.inl ⟨38, 0, _, rfl, by decide, rfl, rfl, by simp, rfl, by simp [pures, poE.pure]⟩) (by simp; omega) (by simp; omega) (by decide)) ?_
                refine st_nil ?_
                refine any_1 7 _ (by decide +kernel) rfl ?_
                refine zg1 ?_
                refine st_nil ?_
                refine any_1 8 _ (by decide +kernel) rfl ?_
                refine zg1 ?_
                refine st_nil ?_
                refine any_0 (by decide +kernel) ?_
                refine zg1 ?_
                exact ⟨_, trivial, ((put_id' (put_id' (put_id' (put_id' (put_id' (mk_id' cl) cl) cl) cl) cl) cl)).symm⟩
              · refine zg1 ?_
                refine st_nil ?_
                refine any_1 1 _ (by decide +kernel) rfl ?_
                refine zg1 ?_
                refine st_nil ?_
                refine any_1 6 _ (by decide +kernel) rfl ?_
                refine st_store rfl (.appX (d := 39) (news := [poL (dpV l j)]) rfl rfl rfl rfl (by simp) (.inl rfl) (by decide) Tryz.underlying34 Tryz.underlying34 Z100 T100 cs B100 (.inl ⟨38, 0, _, rfl, by decide, rfl, rfl, by simp, rfl, by simp [pures, poE.pure]⟩) (by simp; omega) (by simp; omega) (by decide)) ?_
                refine st_nil ?_
                refine any_1 7 _ (by decide +kernel) rfl ?_
                refine zg1 ?_
                refine st_nil ?_
                refine any_1 8 _ (by decide +kernel) rfl ?_
                refine zg1 ?_
                refine st_nil ?_
                refine any_0 (by decide +kernel) ?_
                refine zg1 ?_
                exact ⟨_, trivial, ((put_id' (put_id' (put_id' (put_id' (put_id' (mk_id' cl) cl) cl) cl) cl) cl)).symm⟩
        · refine zg1 ?_
          refine st_nil ?_
          refine any_2 0 4 _ _ (by decide +kernel) rfl rfl ?_ ?_
          · refine zg1 ?_
            refine st_nil ?_
            refine any_2 1 4 _ _ (by decide +kernel) rfl rfl ?_ ?_
            · refine zg1 ?_
              refine st_nil ?_
              refine any_1 4 _ (by decide +kernel) rfl ?_
              refine st_callMp 0 rfl rfl rfl (dice_pure l _) (.cons .ptr (.cons (.imm (.pure rfl)) .nil)) .ptr (c_Dpole l j (by omega) (by omega)) rfl (dice_pure l _) (poE.pure _) ?_
              refine st_nil ?_
              refine any_1 5 _ (by decide +kernel) rfl ?_
              refine zg1 ?_
              refine st_nil ?_
              refine any_1 6 _ (by decide +kernel) rfl ?_
              refine st_store rfl (.appX (d := 39) (news := [poL (dpV l j)]) rfl rfl rfl rfl (by simp) (.inl rfl) (by decide) Tryz.underlying34 Tryz.underlying34 Z100 T100 cs B100 (.inl ⟨38, 0, _, rfl, by decide, rfl, rfl, by simp, rfl, by simp [pures, poE.pure]⟩) (by simp; omega) (by simp; omega) (by decide)) ?_
              refine st_nil ?_
              refine any_1 7 _ (by decide +kernel) rfl ?_
              refine zg1 ?_
              refine st_nil ?_
              refine any_1 8 _ (by decide +kernel) rfl ?_
              refine zg1 ?_
              refine st_nil ?_
              refine any_0 (by decide +kernel) ?_
              refine zg1 ?_
              exact ⟨_, trivial, ((put_id' (put_id' (put_id' (put_id' (put_id' (mk_id' cl) cl) cl) cl) cl) cl)).symm⟩
            · refine st_callMp 0 rfl rfl rfl (dice_pure l _) (.cons .ptr (.cons (.imm (.pure rfl)) .nil)) .ptr (c_Dpole l j (by omega) (by omega)) rfl (dice_pure l _) (poE.pure _) ?_
              refine st_nil ?_
              refine any_2 1 5 _ _ (by decide +kernel) rfl rfl ?_ ?_
              · refine zg1 ?_
                refine st_nil ?_
                refine any_1 5 _ (by decide +kernel) rfl ?_
                refine zg1 ?_
                refine st_nil ?_
                refine any_1 6 _ (by decide +kernel) rfl ?_
                refine st_store rfl (.appX (d := 39) (news := [poL (dpV l j)]) rfl rfl rfl rfl (by simp) (.inl rfl) (by decide) Tryz.underlying34 Tryz.underlying34 Z100 T100 cs B100 (.inl ⟨38, 0, _, rfl, by decide, rfl, rfl, by simp, rfl, by simp [pures, poE.pure]⟩) (by simp; omega) (by simp; omega) (by decide)) ?_
                refine st_nil ?_
                refine any_1 7 _ (by decide +kernel) rfl ?_
                refine zg1 ?_
                refine st_nil ?_
                refine any_1 8 _ (by decide +kernel) rfl ?_
                refine zg1 ?_
                refine st_nil ?_
                refine any_0 (by decide +kernel) ?_
                refine zg1 ?_
                exact ⟨_, trivial, ((put_id' (put_id' (put_id' (put_id' (put_id' (mk_id' cl) cl) cl) cl) cl) cl)).symm⟩
              · refine zg1 ?_
                refine st_nil ?_
                refine any_1 1 _ (by decide +kernel) rfl ?_
                refine zg1 ?_
                refine st_nil ?_
                refine any_1 6 _ (by decide +kernel) rfl ?_
                refine st_store rfl (.appX (d := 39) (news := [poL (dpV l j)]) rfl rfl rfl rfl (by simp) (.inl rfl) (by decide) Tryz.underlying34 Tryz.underlying34 Z100 T100 cs B100 (.inl ⟨38, 0, _, rfl, by decide, rfl, rfl, by simp, rfl, by simp [pures, poE.pure]⟩) (by simp; omega) (by simp; omega) (by decide)) ?_
                refine st_nil ?_
                refine any_1 7 _ (by decide +kernel) rfl ?_
                refine zg1 ?_
                refine st_nil ?_
                refine any_1 8 _ (by decide +kernel) rfl ?_
                refine zg1 ?_
                refine st_nil ?_
                refine any_0 (by decide +kernel) ?_
                refine zg1 ?_
                exact ⟨_, trivial, ((put_id' (put_id' (put_id' (put_id' (put_id' (mk_id' cl) cl) cl) cl) cl) cl)).symm⟩
          · refine st_callMp 0 rfl rfl rfl (dice_pure l _) (.cons .ptr (.cons (.imm (.pure rfl)) .nil)) .ptr (c_Dpole l j (by omega) (by omega)) rfl (dice_pure l _) (poE.pure _) ?_
            refine st_nil ?_
            refine any_2 0 5 _ _ (by decide +kernel) rfl rfl ?_ ?_
            · refine zg1 ?_
              refine st_nil ?_
              refine any_2 1 5 _ _ (by decide +kernel) rfl rfl ?_ ?_
              · refine zg1 ?_
                refine st_nil ?_
                refine any_1 5 _ (by decide +kernel) rfl ?_
                refine zg1 ?_
                refine st_nil ?_
                refine any_1 6 _ (by decide +kernel) rfl ?_
                refine st_store rfl (.appX (d := 39) (news := [poL (dpV l j)]) rfl rfl rfl rfl (by simp) (.inl rfl) (by decide) Tryz.underlying34 Tryz.underlying34 Z100 T100 cs B100 (.inl ⟨38, 0, _, rfl, by decide, rfl, rfl, by simp, rfl, by simp [pures, poE.pure]⟩) (by simp; omega) (by simp; omega) (by decide)) ?_
                refine st_nil ?_
                refine any_1 7 _ (by decide +kernel) rfl ?_
                refine zg1 ?_
                refine st_nil ?_
                refine any_1 8 _ (by decide +kernel) rfl ?_
                refine zg1 ?_
                refine st_nil ?_
                refine any_0 (by decide +kernel) ?_
                refine zg1 ?_
                exact ⟨_, trivial, ((put_id' (put_id' (put_id' (put_id' (put_id' (mk_id' cl) cl) cl) cl) cl) cl)).symm⟩
              · refine zg1 ?_
                refine st_nil ?_
                refine any_1 1 _ (by decide +kernel) rfl ?_
                refine zg1 ?_
                refine st_nil ?_
                refine any_1 6 _ (by decide +kernel) rfl ?_
                refine st_store rfl (.appX (d := 39) (news := [poL (dpV l j)]) rfl rfl rfl rfl (by simp) (.inl rfl) (by decide) Tryz.underlying34 Tryz.underlying34 Z100 T100 cs B100 (.inl ⟨38, 0, _, rfl, by decide, rfl, rfl, by simp, rfl, by simp [pures, poE.pure]⟩) (by simp; omega) (by simp; omega) (by decide)) ?_
                refine st_nil ?_
                refine any_1 7 _ (by decide +kernel) rfl ?_
                refine zg1 ?_
                refine st_nil ?_
                refine any_1 8 _ (by decide +kernel) rfl ?_
                refine zg1 ?_
                refine st_nil ?_
                refine any_0 (by decide +kernel) ?_
                refine zg1 ?_
                exact ⟨_, trivial, ((put_id' (put_id' (put_id' (put_id' (put_id' (mk_id' cl) cl) cl) cl) cl) cl)).symm⟩
            · refine zg1 ?_
              refine st_nil ?_
              refine any_1 0 _ (by decide +kernel) rfl ?_
              refine zg1 ?_
              refine st_nil ?_
              refine any_1 1 _ (by decide +kernel) rfl ?_
              refine zg1 ?_
              refine st_nil ?_
              refine any_1 6 _ (by decide +kernel) rfl ?_
              refine st_store rfl (.appX (d := 39) (news := [poL (dpV l j)]) rfl rfl rfl rfl (by simp) (.inl rfl) (by decide) Tryz.underlying34 Tryz.underlying34 Z100 T100 cs B100 (.inl ⟨38, 0, _, rfl, by decide, rfl, rfl, by simp, rfl, by simp [pures, poE.pure]⟩) (by simp; omega) (by simp; omega) (by decide)) ?_
              refine st_nil ?_
              refine any_1 7 _ (by decide +kernel) rfl ?_
              refine zg1 ?_
              refine st_nil ?_
              refine any_1 8 _ (by decide +kernel) rfl ?_
              refine zg1 ?_
              refine st_nil ?_
              refine any_0 (by decide +kernel) ?_
              refine zg1 ?_
              exact ⟨_, trivial, ((put_id' (put_id' (put_id' (put_id' (put_id' (mk_id' cl) cl) cl) cl) cl) cl)).symm⟩
    · rintro _ ⟨LR6, -, rfl⟩
      refine zg2 ?_
      refine wl_regW (Weak.kill _ 38) ?_
      refine zg1 ?_
      refine st_pure rfl (.bin rfl rfl (add1N (by omega))) ?_
      refine zg3 ?_
      exact nx3 e (dpK l j) (o ++ [dpV l j]) ⟨dpK_le hl hj, by simp; omega, by rw [List.append_assoc]; exact hV, hK⟩
  · obtain rfl : c = 0 := by omega
    rw [dqV, List.append_nil] at hV
    rw [dqK] at hK
    refine zg12 ?_
    rw [← hV, ← hK]
    exact retMCf [39] rfl rfl rfl rfl rfl T36 (.agg (.cons (.pure rfl) (.cons (.pure hkp) (.cons (imm_refm poE rfl rfl rfl) .nil)))) rfl rfl (dice_pure l _)
end Go.Proofs.YtgfbghoihhnahaaGreat
end
section
set_option linter.unusedVariables false
set_option linter.unusedSimpArgs false
set_option maxHeartbeats 8000000
set_option maxRecDepth 100000
attribute [local irreducible] Go.Lg.opsL Go.Lg.wpL Go.Lg.thenL Go.Lg.blockL
namespace Go.Proofs.YtgfbghoihhnahaaGreat
open Go.Lg
theorem gD1 {a b : List Rat} {i : Nat} (h : i < a.length) : (a ++ b).getD i 0 = a.getD i 0 := by
  rw [List.getD_eq_getElem?_getD, List.getD_eq_getElem?_getD, List.getElem?_append_left h]
theorem gD2 {a b : List Rat} {i : Nat} (h : a.length ≤ i) : (a ++ b).getD i 0 = b.getD (i - a.length) 0 := by
  rw [List.getD_eq_getElem?_getD, List.getD_eq_getElem?_getD, List.getElem?_append_right h]
theorem getD_rep {n i : Nat} {T : Rat} (h : i < n) : (List.replicate n T).getD i 0 = T := by
  rw [List.getD_eq_getElem?_getD, List.getElem?_eq_getElem (by simpa using h)]; simp
/-- the numbers of a curve: knots, then poles -/
def cvN (kn : List Rat) (po : List PoR) : Nat → List Rat
  | 0 => kn
  | i + 1 => cvN kn po i ++ [(po.getD i default).p.x, (po.getD i default).p.y, (po.getD i default).p.z, (po.getD i default).w]
theorem cvN_len (kn : List Rat) (po : List PoR) : ∀ i, (cvN kn po i).length = kn.length + 4 * i
  | 0 => rfl
  | i + 1 => by rw [cvN, List.length_append, cvN_len kn po i]; simp; omega
theorem cvN_rl {kn : List Rat} {po : List PoR} {R : Nat} (hk : ∀ x ∈ kn, rl x ≤ R) (hp : ∀ q ∈ po, okP R q) : ∀ i, i ≤ po.length → ∀ x ∈ cvN kn po i, rl x ≤ R
  | 0, _, x, hx => hk x hx
  | i + 1, hi, x, hx => by
    rw [cvN] at hx
    rcases List.mem_append.1 hx with hx | hx
    · exact cvN_rl hk hp i (by omega) x hx
    · obtain ⟨⟨h1, h2, h3⟩, h4, _⟩ := hp _ (getD_memP (po := po) (j := i) (by omega))
      simp only [List.mem_cons, List.not_mem_nil, or_false] at hx
      rcases hx with rfl | rfl | rfl | rfl <;> assumption
/-- a curve without inner knots has valid knots -/
theorem tm_rep (a b : List Rat) (t : Rat) : ∀ i, i ≤ a.length → tmN (a ++ b) t i = tmN a t i
  | 0, _ => rfl
  | i + 1, h => by rw [tmN, tmN, tm_rep a b t i (by omega), gD1 (by omega)]
theorem tm_app (a b : List Rat) (t : Rat) : ∀ i, tmN (a ++ b) t (a.length + i) = tmN a t a.length + tmN b t i
  | 0 => by rw [Nat.add_zero, tm_rep _ _ _ _ (Nat.le_refl _)]; rfl
  | i + 1 => by
    rw [← Nat.add_assoc, tmN, tm_app a b t i, tmN, gD2 (by omega), Nat.add_sub_cancel_left]; omega
theorem tm_const (n : Nat) (T t : Rat) : ∀ i, i ≤ n → tmN (List.replicate n T) t i = if T = t then i else 0
  | 0, _ => by split <;> rfl
  | i + 1, h => by
    rw [tmN, tm_const n T t i (by omega), getD_rep (by omega)]
    split <;> rfl
theorem kn0_tm (d : Nat) (T t : Rat) : tmN (kn0 d T) t (kn0 d T).length = (if T = t then d + 1 else 0) + (if T + 1 = t then d + 1 else 0) := by
  have h := tm_app (List.replicate (d + 1) T) (List.replicate (d + 1) (T + 1)) t (d + 1)
  rw [List.length_replicate] at h
  have e : (kn0 d T).length = d + 1 + (d + 1) := by rw [kn0_len]; omega
  rw [e]
  show tmN (List.replicate (d + 1) T ++ _) t _ = _
  rw [h, tm_const _ _ _ _ (Nat.le_refl _), tm_const _ _ _ _ (Nat.le_refl _)]
theorem kn0_get (d : Nat) (T : Rat) (i : Nat) (h : i < 2 * (d + 1)) : (kn0 d T).getD i 0 = if i < d + 1 then T else T + 1 := by
  unfold kn0
  split
  · rw [gD1 (by simp; omega), getD_rep (by omega)]
  · rw [gD2 (by simp; omega), List.length_replicate, getD_rep (by omega)]
theorem kn0_ok {d : Nat} {T : Rat} (h1 : 1 ≤ d) (h6 : d ≤ 6) (hT : rl T ≤ 64) (hT1 : rl (T + 1) ≤ 64) : kOK (kn0 d T) d := by
  have hl := kn0_len d T
  have hne : T ≠ T + 1 := by grind
  have e0 : (kn0 d T).getD 0 0 = T := by rw [kn0_get _ _ _ (by omega), if_pos (by omega)]
  have e1 : (kn0 d T).getD ((kn0 d T).length - 1) 0 = T + 1 := by rw [hl, kn0_get _ _ _ (by omega), if_neg (by omega)]
  have hm : ∀ x ∈ kn0 d T, x = T ∨ x = T + 1 := fun x hx => by
    rcases List.mem_append.1 hx with h | h
    · exact .inl (List.mem_replicate.1 h).2
    · exact .inr (List.mem_replicate.1 h).2
  refine ⟨h1, h6, by omega, by omega, fun i hi => ?_, by rw [e0, e1]; exact hne, fun t ht he => ?_, fun t ht g0 g1 => ?_, fun x hx => ?_⟩
  · rw [kn0_get _ _ _ (by omega), kn0_get _ _ _ (by omega)]
    split <;> split
    · exact Rat.le_refl
    · grind
    · omega
    · exact Rat.le_refl
  · rw [kn0_tm]
    rcases hm t ht with rfl | rfl
    · rw [if_pos rfl, if_neg (fun e => hne e.symm)]
    · rw [if_neg hne, if_pos rfl, Nat.zero_add]
  · rw [e0] at g0; rw [e1] at g1
    rcases hm t ht with h | h
    · exact absurd h g0
    · exact absurd h g1
  · rcases hm x hx with rfl | rfl <;> assumption
theorem any_ff {α : Type} (l : List α) : l.any (fun _ => false) = false := by simp
namespace H_c_numbers
theorem zSm {p q : Prop} (k : q) (e : p = q := by simp only [e1, e2, e3, e4, p1, p2, p3, q1, q2, q3, l1, t0, t1, r1, r2, r3, r4, Nat.zero_add, Nat.reduceMul, Nat.reduceAdd, b1, b2, b3, b4, b5, b6, i1, i2, i3, i4, i5, i6, Nat.reduceBEq, ers, etk, map4, take_map_len, map_snoc, len_snoc, List.length_cons, List.length_nil, List.nil_append, List.map_nil, List.take_nil, List.append_nil, List.set_cons_zero, List.set_cons_succ, Nat.reduceEqDiff, reduceIte, if_true, if_false, ptL_kill, poL_kill, kills_map ptE, kills_map poE, kills_map ratE, ratL_kill, spL_kill, LV.kill, kills]; exact rfl) : p := e.mpr k
end H_c_numbers
open H_c_numbers in
theorem c_numbers (d : Nat) (kn : List Rat) (po : List PoR) (h0 : 0 < kn.length) (hk : kn.length ≤ 1000) (hpo : po.length ≤ 1000) : CallP Tryz.prog 240 [.agg [nI64 d, .list 3 (kn.map ratL), .list 12 (po.map poL)]] (.list 3 ((cvN kn po po.length).map ratL)) := by
  have hcp : LV.pure (.agg [nI64 d, .list 3 (kn.map ratL), .list 12 (po.map poL)]) = true := by simp [LV.pure, pures, pures_map ratE, pures_map poE]
  refine fnP Tryz.func240 ?_
  have ers : True := trivial
  have etk : True := trivial
  refine zg10 ?_
  refine st_call1 [] rfl rfl (.cons (.pure (pure_lst ratE _ _)) .nil) (c_CloneR kn h0 (by omega)) (pures_map ratE _) rfl ?_
  refine zg13 ?_
  refine lp1 (fun (i : Nat) L => ((((((St.mk L.slot (hp [(1, ⟨3, [.agg [nI64 d, .list 3 (kn.map ratL), .list 12 (po.map poL)]], true⟩), (1000129, ⟨3, (cvN kn po i).map ratL, true⟩)])).put (some 1) (.eptr 1 3 0 0)).put (some 3) (.ref 1000129 3 0 (kn.length + 4 * i))).put (some 10) (.list 12 (po.map poL))).put (some 11) (nI64 po.length)).put (some 12) (nI64 i))) (fun i => i ≤ po.length) (fun i => po.length - i) 0 (Nat.zero_le _) ?_
  rintro i L1 hi
  refine zg6 ?_
  refine wl_if rfl (fun h13r h13 => ?_) (fun h13r h13 => ?_)
  · have hi2 : i < po.length := by omega
    have hlc := cvN_len kn po i
    have ers : cvN kn po i ++ [(po.getD i default).p.x, (po.getD i default).p.y, (po.getD i default).p.z, (po.getD i default).w] = cvN kn po (i + 1) := rfl
    have etk : ((cvN kn po i).map ratL).take (kn.length + 4 * i) = (cvN kn po i).map ratL := List.take_of_length_le (by rw [List.length_map]; omega)
    refine zg26 ?_
    refine st_store rfl (.appX (d := 1000129) (news := [ratL (po.getD i default).p.x, ratL (po.getD i default).p.y, ratL (po.getD i default).p.z, ratL (po.getD i default).w]) rfl rfl rfl rfl (by simp; omega) (.inl rfl) (by decide) Tryz.underlying33 Tryz.underlying33 Z29a T29 rfl B29 (.inl ⟨28, 0, _, rfl, by decide, rfl, rfl, by simp, rfl, by simp [pures, ratE.pure]⟩) (by simp; omega) (by simp; omega) (by decide)) ?_
    refine zg4 ?_
    refine wl_regW ((Weak.kill _ 5).trans (Weak.kill _ 28)) ?_
    refine st_pure rfl (.bin rfl rfl (add1N (by omega))) ?_
    refine zg3 ?_
    exact nx1 (i + 1) (by omega)
  · obtain rfl : i = po.length := by omega
    refine zg12 ?_
    exact ret1f [1000129] rfl rfl (imm_refm ratE rfl rfl (by rw [cvN_len]))
open H0 in
theorem c_CChk1 (q : Rat) (h : rl q ≤ 1000) : CallP Tryz.prog 242 [ratL q] (bL false) := by
  refine fnP Tryz.func242 ?_
  refine zg9 ?_
  refine cp am1 (c_RValid _ (by omega)) ?_
  refine zg5 ?_
  exact ret1 rfl (.pure rfl)
namespace H_c_CChk2
theorem zSm {p q : Prop} (k : q) (e : p = q := by simp only [e1, e2, e3, e4, p1, p2, p3, q1, q2, q3, l1, t0, t1, r1, r2, r3, r4, Nat.zero_add, Nat.reduceMul, Nat.reduceAdd, b1, b2, b3, b4, b5, b6, i1, i2, i3, i4, i5, i6, Nat.reduceBEq, hsg]; exact rfl) : p := e.mpr k
end H_c_CChk2
open H_c_CChk2 in
theorem c_CChk2 (q : PoR) (h : okP 1000 q) : CallP Tryz.prog 247 [poL q] (bL false) := by
  obtain ⟨_, hw, hp⟩ := h
  have hsg : sgnR q.w = 1 := sgn_pos hp
  refine fnP Tryz.func247 ?_
  refine zg10 ?_
  refine cp am1 (c_RSign q.w (by omega)) ?_
  refine zg5 ?_
  exact ret1 rfl (.pure rfl)
open H0 in
theorem c_CChk3 (q : Rat) (h : rl q ≤ 64) : CallP Tryz.prog 248 [ratL q] (bL false) := by
  have hb := bitR_le h
  refine fnP Tryz.func248 ?_
  refine zg9 ?_
  refine cp am1 (c_RBits q (by omega)) ?_
  refine zg5 ?_
  refine ret1 (x := bL (decide ((bitR q : Int) > 2048))) rfl ?_
  rw [decide_eq_false (by omega)]
  exact .pure rfl
namespace H_c_CCheck
theorem zSm {p q : Prop} (k : q) (e : p = q := by simp only [e1, e2, e3, e4, p1, p2, p3, q1, q2, q3, l1, t0, t1, r1, r2, r3, r4, Nat.zero_add, Nat.reduceMul, Nat.reduceAdd, b1, b2, b3, b4, b5, b6, i1, i2, i3, i4, i5, i6, Nat.reduceBEq, any_ff, List.set_cons_zero, List.set_cons_succ, Nat.reduceEqDiff, reduceIte, if_true, if_false, ptL_kill, poL_kill, kills_map ptE, kills_map poE, kills_map ratE, ratL_kill, spL_kill, LV.kill, kills]; exact rfl) : p := e.mpr k
end H_c_CCheck
open H_c_CCheck in
theorem c_CCheck (d : Nat) (kn : List Rat) (po : List PoR) (hk : kOK kn d) (hpo : po.length = kn.length - d - 1) (hq : ∀ q ∈ po, okP 64 q) : CallP Tryz.prog 155 [.agg [nI64 d, .list 3 (kn.map ratL), .list 12 (po.map poL)]] (iL 0) := by
  have hcp : LV.pure (.agg [nI64 d, .list 3 (kn.map ratL), .list 12 (po.map poL)]) = true := by simp [LV.pure, pures, pures_map ratE, pures_map poE]
  have hd1 := hk.d1
  have hd6 := hk.d6
  have hlen := hk.len
  have hmax := hk.max
  have hN := cvN_len kn po po.length
  have hR := cvN_rl hk.sz hq po.length (Nat.le_refl _)
  refine fnP Tryz.func155 ?_
  refine zg9 ?_
  refine cp am1 (c_numbers d kn po (by omega) (by omega) (by omega)) ?_
  refine zg7 ?_
  refine cp am2 (c_HasR 242 (fun _ => false) (cvN kn po po.length) (by omega) (fun x hx => c_CChk1 x (Nat.le_trans (hR x hx) (by decide)))) ?_
  refine zg2 ?_
  refine wl_condY (b := _) rfl (by first | rfl | exact any_ff _) ?_
  refine zg9 ?_
  refine cp am2 (c_KCheck kn d hk) ?_
  refine zg9 ?_
  refine wl_if rfl (fun h15r h15 => ?_) (fun h15r h15 => ?_)
  · refine zg8 ?_
    exact ret1 rfl (.pure rfl)
  · refine zg5 ?_
    refine wl_regD 10 (by decide +kernel) ?_
    refine zg7 ?_
    refine cp am2 (c_KPoles kn d (by omega) (by omega)) ?_
    refine zg4 ?_
    refine wl_if rfl (fun h17r h17 => ?_) (fun h17r h17 => ?_)
    · omega
    · refine zg4 ?_
      refine cp am2 (c_HasP 247 (fun _ => false) po (by omega) (fun q hx => c_CChk2 q (by obtain ⟨a, b, c⟩ := hq q hx; exact ⟨a.le (by decide), by omega, c⟩))) ?_
      refine zg3 ?_
      refine wl_condY (b := _) rfl (by first | rfl | exact any_ff _) ?_
      refine zg3 ?_
      refine cp am2 (c_HasR 248 (fun _ => false) (cvN kn po po.length) (by omega) (fun x hx => c_CChk3 x (hR x hx))) ?_
      refine zg3 ?_
      refine wl_condY (b := _) rfl (by first | rfl | exact any_ff _) ?_
      refine zg9 ?_
      exact ret1 rfl (.pure rfl)
namespace H_c_BzCheck
theorem zSm {p q : Prop} (k : q) (e : p = q := by simp only [e1, e2, e3, e4, p1, p2, p3, q1, q2, q3, l1, t0, t1, r1, r2, r3, r4, Nat.zero_add, Nat.reduceMul, Nat.reduceAdd, b1, b2, b3, b4, b5, b6, i1, i2, i3, i4, i5, i6, Nat.reduceBEq, List.set_cons_zero, List.set_cons_succ, Nat.reduceEqDiff, reduceIte, if_true, if_false, ptL_kill, poL_kill, kills_map ptE, kills_map poE, kills_map ratE, ratL_kill, spL_kill, LV.kill, kills]; exact rfl) : p := e.mpr k
end H_c_BzCheck
open H_c_BzCheck in
theorem c_BzCheck (d : Nat) (kn : List Rat) (po : List PoR) (h : cvF po d) (hk : kOK kn d) (hkl : kn.length = 2 * (d + 1)) : CallP Tryz.prog 57 [.agg [nI64 d, .list 3 (kn.map ratL), .list 12 (po.map poL)]] (iL 0) := by
  have hl := h.hl
  have hd := h.hd
  have h6 := h.h6
  have hcp : LV.pure (.agg [nI64 d, .list 3 (kn.map ratL), .list 12 (po.map poL)]) = true := by simp [LV.pure, pures, pures_map ratE, pures_map poE]
  have hq : ∀ q ∈ po, okP 64 q := fun q hx => by obtain ⟨a, b, c⟩ := h.ok q hx; exact ⟨a.le (by decide), by omega, c⟩
  refine fnP Tryz.func57 ?_
  refine zg10 ?_
  refine cp am1 (c_CCheck d kn po hk (by omega) hq) ?_
  refine zg9 ?_
  refine wl_if rfl (fun h7r h7 => ?_) (fun h7r h7 => ?_)
  · refine zg8 ?_
    exact ret1 rfl (.pure rfl)
  · refine zg10 ?_
    refine st_pure rfl (.bin rfl rfl (add64 (by omega) (by omega))) ?_
    refine zg3 ?_
    refine wl_if rfl (fun h15r h15 => ?_) (fun h15r h15 => ?_)
    · omega
    · refine zg8 ?_
      exact ret1 rfl (.pure rfl)
end Go.Proofs.YtgfbghoihhnahaaGreat
end
section
set_option linter.unusedVariables false
set_option linter.unusedSimpArgs false
set_option maxHeartbeats 8000000
set_option maxRecDepth 100000
attribute [local irreducible] Go.Lg.opsL Go.Lg.wpL Go.Lg.thenL Go.Lg.blockL
namespace Go.Proofs.YtgfbghoihhnahaaGreat
open Go.Lg
theorem knB_lo (d : Nat) (T : Rat) : (kn0 d T).getD 0 0 = T := by rw [kn0_get _ _ _ (by omega), if_pos (by omega)]
theorem knB_hi (d : Nat) (T : Rat) : (kn0 d T).getD (2 * (d + 1) - 1) 0 = T + 1 := by rw [kn0_get _ _ _ (by omega), if_neg (by omega)]
theorem mn_lt1 (T : Rat) : mnR T (T + 1) = T := by unfold mnR; rw [if_neg (by grind)]
theorem mx_lt1 (T : Rat) : mxR T (T + 1) = T + 1 := by unfold mxR; rw [if_pos (by grind)]
theorem wid1 (T : Rat) : T + 1 - T = 1 := by grind
theorem div1 (x : Rat) : x / 1 = x := by grind
/-- the derivative -/
def tanV (po : List PoR) (x : Rat) : V3 := v3m (1 / (evP (wtP po) x * evP (wtP po) x)) ⟨evP (trP po 0) x, evP (trP po 1) x, evP (trP po 2) x⟩
theorem retCCT {P : Program} {L : St} {a u v : Nat} {T U : TypeId} {b c sz sy : Nat} {x y x' y' z z' : LV} {m m' : Bool} {n n' : Nat} {ag ag' : Bool} (bs : List Nat) (h0 : bs.contains 0 = false) (h : L.slot a = .eptr b sz 0 0) (hb : L.heap b = some ⟨sz, [x], m⟩)
    (hx : x.csize = sz) (hat : x.at 0 n ag = some x) (hT : TyIs P T n ag) (hi : Imm (L.frz bs).heap x y) (h' : L.slot u = .eptr c sy 0 0) (hc : L.heap c = some ⟨sy, [x'], m'⟩)
    (hx' : x'.csize = sy) (hat' : x'.at 0 n' ag' = some x') (hT' : TyIs P U n' ag') (hi' : Imm (L.frz bs).heap x' y') (hz : L.slot v = z) (hiz : Imm (L.frz bs).heap z z') : RetL P [.cell a T, .cell u U, .tmp v] L (.tup [y, y', z']) [] :=
  ⟨[x, x', z], [y, y', z'], (L.frz bs).heap, [], .cons ⟨b, sz, 0, 0, _, x, n, ag, h, hb, rfl, rfl, hx, hat, hT⟩ (.cons ⟨c, sy, 0, 0, _, x', n', ag', h', hc, rfl, rfl, hx', hat', hT'⟩ (.cons hz .nil)), frz_le bs h0, .cons (.imm hi) (.cons (.imm hi') (.cons (.imm hiz) .nil)), List.nodup_nil, rfl, fun k b h => by simp at h, rfl⟩
theorem hs_ofK {p : List Rat} {x : Rat} (hl : p.length ≤ 10) (hp : ∀ y ∈ p, rl y ≤ 700000) (hx : rl x ≤ 100000) : HS p x := by
  have h1 := rl_sub 1 x
  have h0 : rl 1 = 1 := rfl
  refine ⟨rl (1 - x) + rl x + 1, Nat.le_refl _, by omega, fun y hy => ?_⟩
  have h2 := hp y hy
  have h3 : 2 ^ p.length ≤ 2 ^ 10 := Nat.pow_le_pow_right (by decide) hl
  have h4 : (rl y + (rl (1 - x) + rl x + 1)) * 2 ^ p.length ≤ 1000000 * 2 ^ 10 := Nat.mul_le_mul (by omega) h3
  omega
open H0 in
theorem c_SWidth (s : Rat × Rat) (h : rl s.2 + rl s.1 ≤ 549755813888) : CallP Tryz.prog 140 [spL s] (ratL (s.2 - s.1)) := by
  refine fnP Tryz.func140 ?_
  refine zg12 ?_
  refine cp am2 (c_RSub s.2 s.1 h) ?_
  refine zg4 ?_
  exact retC [] rfl rfl rfl (ratE.csize _) (ratL_all _) T29 (.pure (ratE.pure _))
namespace H_c_Dom
theorem zSm {p q : Prop} (k : q) (e : p = q := by simp only [e1, e2, e3, e4, p1, p2, p3, q1, q2, q3, l1, t0, t1, r1, r2, r3, r4, Nat.zero_add, Nat.reduceMul, Nat.reduceAdd, b1, b2, b3, b4, b5, b6, i1, i2, i3, i4, i5, i6, Nat.reduceBEq, dfq, hkl, hlo, hhi, List.length_map, List.set_cons_zero, List.set_cons_succ, Nat.reduceEqDiff, reduceIte, if_true, if_false, ptL_kill, poL_kill, kills_map ptE, kills_map poE, kills_map ratE, ratL_kill, spL_kill, LV.kill, kills]; exact rfl) : p := e.mpr k
end H_c_Dom
open H_c_Dom in
theorem c_Dom (d : Nat) (T : Rat) (po : List PoR) (hT : rl T ≤ 1) (hT1 : rl (T + 1) ≤ 1) (h9 : d ≤ 6) : CallP Tryz.prog 141 [.agg [nI64 d, .list 3 ((kn0 d T).map ratL), .list 12 (po.map poL)]] (spL (T, T + 1)) := by
  have hpu : ∀ l : List Rat, pures (l.map ratL) = true := fun l => pures_map ratE l
  have hkl := kn0_len d T
  have hlo := knB_lo d T
  have hhi := knB_hi d T
  have hcp : LV.pure (.agg [nI64 d, .list 3 ((kn0 d T).map ratL), .list 12 (po.map poL)]) = true := by simp [LV.pure, pures, pures_map ratE, pures_map poE]
  have hS := c_SOf T (T + 1) (by omega)
  rw [mn_lt1, mx_lt1] at hS
  refine fnP Tryz.func141 ?_
  refine zg15 ?_
  refine wl_if rfl (fun h6r h6 => ?_) (fun h6r h6 => ?_)
  · omega
  · refine zg3 ?_
    refine wl_regD 13 (by decide +kernel) ?_
    refine zg9 ?_
    refine st_pure rfl (.bin rfl rfl (sub1N (by omega) (by omega))) ?_
    refine zg2 ?_
    try simp only [t1, dfq, hkl, hlo, hhi, List.length_map]
    refine cp am2 (hS) ?_
    refine zg4 ?_
    exact retC [] rfl rfl rfl (spE.csize _) (spL_all _) T42 (.pure (spE.pure _))
namespace H_c_FDom
theorem zSm {p q : Prop} (k : q) (e : p = q := by simp only [e1, e2, e3, e4, p1, p2, p3, q1, q2, q3, l1, t0, t1, r1, r2, r3, r4, Nat.zero_add, Nat.reduceMul, Nat.reduceAdd, b1, b2, b3, b4, b5, b6, i1, i2, i3, i4, i5, i6, Nat.reduceBEq, dfq, hkl, hlo, hhi, List.length_map, List.set_cons_zero, List.set_cons_succ, Nat.reduceEqDiff, reduceIte, if_true, if_false, ptL_kill, poL_kill, kills_map ptE, kills_map poE, kills_map ratE, ratL_kill, spL_kill, LV.kill, kills]; exact rfl) : p := e.mpr k
end H_c_FDom
open H_c_FDom in
theorem c_FDom (d : Nat) (T : Rat) (po : List PoR) (hT : rl T ≤ 1) (hT1 : rl (T + 1) ≤ 1) (h9 : d ≤ 6) : CallP Tryz.prog 24 [.agg [nI64 d, .list 3 ((kn0 d T).map ratL), .list 12 (po.map poL)]] (spL (T, T + 1)) := by
  have hpu : ∀ l : List Rat, pures (l.map ratL) = true := fun l => pures_map ratE l
  have hkl := kn0_len d T
  have hlo := knB_lo d T
  have hhi := knB_hi d T
  have hcp : LV.pure (.agg [nI64 d, .list 3 ((kn0 d T).map ratL), .list 12 (po.map poL)]) = true := by simp [LV.pure, pures, pures_map ratE, pures_map poE]
  refine fnP Tryz.func24 ?_
  refine zg7 ?_
  refine wl_regD 13 (by decide +kernel) ?_
  refine zg9 ?_
  refine st_pure rfl (.bin rfl rfl (sub1N (by omega) (by omega))) ?_
  refine zg7 ?_
  exact retC [] rfl rfl rfl (spE.csize _) (spL_all _) T42 (.pure (spE.pure _))
namespace H_c_own
theorem zSm {p q : Prop} (k : q) (e : p = q := by simp only [e1, e2, e3, e4, p1, p2, p3, q1, q2, q3, l1, t0, t1, r1, r2, r3, r4, Nat.zero_add, Nat.reduceMul, Nat.reduceAdd, b1, b2, b3, b4, b5, b6, i1, i2, i3, i4, i5, i6, Nat.reduceBEq, List.set_cons_zero, List.set_cons_succ, Nat.reduceEqDiff, reduceIte, if_true, if_false, ptL_kill, poL_kill, kills_map ptE, kills_map poE, kills_map ratE, ratL_kill, spL_kill, LV.kill, kills]; exact rfl) : p := e.mpr k
end H_c_own
open H_c_own in
theorem c_own (d : Nat) (T : Rat) (po : List PoR) (hT : rl T ≤ 1) (hT1 : rl (T + 1) ≤ 1) (h9 : d ≤ 6) (t : Rat) (ht : rl t ≤ 1000) (hin : hasR (T, T + 1) t = true) (hp0 : 0 < po.length) : CallP Tryz.prog 123 [.agg [nI64 d, .list 3 ((kn0 d T).map ratL), .list 12 (po.map poL)], ratL t] (.tup [ratL (t - T), ratL 1, bL true]) := by
  have hpu : ∀ l : List Rat, pures (l.map ratL) = true := fun l => pures_map ratE l
  have hkl := kn0_len d T
  have hlo := knB_lo d T
  have hhi := knB_hi d T
  have hcp : LV.pure (.agg [nI64 d, .list 3 ((kn0 d T).map ratL), .list 12 (po.map poL)]) = true := by simp [LV.pure, pures, pures_map ratE, pures_map poE]
  have hz1 := rl_sub t T
  have hr1 : rl 1 = 1 := rfl
  have hD := c_Dom d T po hT hT1 h9
  have hW : CallP Tryz.prog 140 [spL (T, T + 1)] (ratL 1) := by
    have := c_SWidth (T, T + 1) (by show rl (T + 1) + rl T ≤ _; omega)
    simp only [wid1] at this
    exact this
  have hQ : CallP Tryz.prog 125 [ratL (t - T), ratL 1] (.tup [ratL (t - T), iL 0]) := by
    have := c_RQuo (t - T) 1 (by omega)
    rw [div1, if_neg (by decide)] at this
    exact this
  have hH : CallP Tryz.prog 216 [spL (T, T + 1), ratL t] (bL true) := by
    have := c_SHas (T, T + 1) t (by show rl T + rl t ≤ _; omega) (by show rl t + rl (T + 1) ≤ _; omega)
    rwa [hin] at this
  refine fnP Tryz.func123 (ht := (tame3 (ratE.pure _) (ratE.pure _) rfl)) ?_
  refine zg12 ?_
  refine cp am1 (hD) ?_
  refine zg12 ?_
  refine op_if 15 rfl (fun h15r h15 => ?_) (fun h15r h15 => ?_)
  · omega
  · refine zg2 ?_
    refine cp am2 (hH) ?_
    refine zg4 ?_
    refine wl_if rfl (fun h20r h20 => ?_) (fun h20r h20 => ?_)
    · first | exact h20.elim | cases h20r
    · refine zg5 ?_
      refine cp am1 (hW) ?_
      refine zg4 ?_
      refine wl_regF 9 [8] (by decide +kernel) ?_
      refine zg3 ?_
      refine cp am2 (c_RSub t T (by omega)) ?_
      refine zg1 ?_
      refine cp am2 (hQ) ?_
      refine zg8 ?_
      refine wl_regA ?_
      refine any_3 0 1 2 _ _ _ (by decide +kernel) rfl rfl rfl ?_ ?_ ?_
      · refine zg1 ?_
        refine st_nil ?_
        refine any_3 1 2 4 _ _ _ (by decide +kernel) rfl rfl rfl ?_ ?_ ?_
        · refine zg1 ?_
          refine st_nil ?_
          refine any_2 2 4 _ _ (by decide +kernel) rfl rfl ?_ ?_
          · refine zg1 ?_
            refine st_nil ?_
            refine any_2 3 4 _ _ (by decide +kernel) rfl rfl ?_ ?_
            · refine zg1 ?_
              refine st_nil ?_
              refine any_1 4 _ (by decide +kernel) rfl ?_
              refine zg1 ?_
              refine st_nil ?_
              refine any_1 5 _ (by decide +kernel) rfl ?_
              refine zg1 ?_
              refine st_nil ?_
              refine any_1 6 _ (by decide +kernel) rfl ?_
              refine zg1 ?_
              refine st_nil ?_
              refine any_0 (by decide +kernel) ?_
              refine zg2 ?_
              exact retCCT [] rfl rfl rfl (ratE.csize _) (ratL_all _) T29 (.pure (ratE.pure _)) rfl rfl (ratE.csize _) (ratL_all _) T29 (.pure (ratE.pure _)) rfl (.pure rfl)
            · refine zg1 ?_
              refine st_nil ?_
              refine any_2 3 5 _ _ (by decide +kernel) rfl rfl ?_ ?_
              · refine zg1 ?_
                refine st_nil ?_
                refine any_1 5 _ (by decide +kernel) rfl ?_
                refine zg1 ?_
                refine st_nil ?_
                refine any_1 6 _ (by decide +kernel) rfl ?_
                refine zg1 ?_
                refine st_nil ?_
                refine any_0 (by decide +kernel) ?_
                refine zg2 ?_
                exact retCCT [] rfl rfl rfl (ratE.csize _) (ratL_all _) T29 (.pure (ratE.pure _)) rfl rfl (ratE.csize _) (ratL_all _) T29 (.pure (ratE.pure _)) rfl (.pure rfl)
              · refine zg1 ?_
                refine st_nil ?_
                refine any_1 3 _ (by decide +kernel) rfl ?_
                refine zg1 ?_
                refine st_nil ?_
                refine any_1 6 _ (by decide +kernel) rfl ?_
                refine zg1 ?_
                refine st_nil ?_
                refine any_0 (by decide +kernel) ?_
                refine zg2 ?_
                exact retCCT [] rfl rfl rfl (ratE.csize _) (ratL_all _) T29 (.pure (ratE.pure _)) rfl rfl (ratE.csize _) (ratL_all _) T29 (.pure (ratE.pure _)) rfl (.pure rfl)
          · refine zg1 ?_
            refine st_nil ?_
            refine any_2 2 5 _ _ (by decide +kernel) rfl rfl ?_ ?_
            · refine zg1 ?_
              refine st_nil ?_
              refine any_2 3 5 _ _ (by decide +kernel) rfl rfl ?_ ?_
              · refine zg1 ?_
                refine st_nil ?_
                refine any_1 5 _ (by decide +kernel) rfl ?_
                refine zg1 ?_
                refine st_nil ?_
                refine any_1 6 _ (by decide +kernel) rfl ?_
                refine zg1 ?_
                refine st_nil ?_
                refine any_0 (by decide +kernel) ?_
                refine zg2 ?_
                exact retCCT [] rfl rfl rfl (ratE.csize _) (ratL_all _) T29 (.pure (ratE.pure _)) rfl rfl (ratE.csize _) (ratL_all _) T29 (.pure (ratE.pure _)) rfl (.pure rfl)
              · refine zg1 ?_
                refine st_nil ?_
                refine any_1 3 _ (by decide +kernel) rfl ?_
                refine zg1 ?_
                refine st_nil ?_
                refine any_1 6 _ (by decide +kernel) rfl ?_
                refine zg1 ?_
                refine st_nil ?_
                refine any_0 (by decide +kernel) ?_
                refine zg2 ?_
                exact retCCT [] rfl rfl rfl (ratE.csize _) (ratL_all _) T29 (.pure (ratE.pure _)) rfl rfl (ratE.csize _) (ratL_all _) T29 (.pure (ratE.pure _)) rfl (.pure rfl)
            · refine zg1 ?_
              refine st_nil ?_
              refine any_1 2 _ (by decide +kernel) rfl ?_
              refine zg1 ?_
              refine st_nil ?_
              refine any_1 3 _ (by decide +kernel) rfl ?_
              refine zg1 ?_
              refine st_nil ?_
              refine any_1 6 _ (by decide +kernel) rfl ?_
              refine zg1 ?_
              refine st_nil ?_
              refine any_0 (by decide +kernel) ?_
              refine zg2 ?_
              exact retCCT [] rfl rfl rfl (ratE.csize _) (ratL_all _) T29 (.pure (ratE.pure _)) rfl rfl (ratE.csize _) (ratL_all _) T29 (.pure (ratE.pure _)) rfl (.pure rfl)
        · refine zg1 ?_
          refine st_nil ?_
          refine any_3 1 3 4 _ _ _ (by decide +kernel) rfl rfl rfl ?_ ?_ ?_
          · refine zg1 ?_
            refine st_nil ?_
            refine any_2 3 4 _ _ (by decide +kernel) rfl rfl ?_ ?_
            · refine zg1 ?_
              refine st_nil ?_
              refine any_1 4 _ (by decide +kernel) rfl ?_
              refine zg1 ?_
              refine st_nil ?_
              refine any_1 5 _ (by decide +kernel) rfl ?_
              refine zg1 ?_
              refine st_nil ?_
              refine any_1 6 _ (by decide +kernel) rfl ?_
              refine zg1 ?_
              refine st_nil ?_
              refine any_0 (by decide +kernel) ?_
              refine zg2 ?_
              exact retCCT [] rfl rfl rfl (ratE.csize _) (ratL_all _) T29 (.pure (ratE.pure _)) rfl rfl (ratE.csize _) (ratL_all _) T29 (.pure (ratE.pure _)) rfl (.pure rfl)
            · refine zg1 ?_
              refine st_nil ?_
              refine any_2 3 5 _ _ (by decide +kernel) rfl rfl ?_ ?_
              · refine zg1 ?_
                refine st_nil ?_
                refine any_1 5 _ (by decide +kernel) rfl ?_
                refine zg1 ?_
                refine st_nil ?_
                refine any_1 6 _ (by decide +kernel) rfl ?_
                refine zg1 ?_
                refine st_nil ?_
                refine any_0 (by decide +kernel) ?_
                refine zg2 ?_
                exact retCCT [] rfl rfl rfl (ratE.csize _) (ratL_all _) T29 (.pure (ratE.pure _)) rfl rfl (ratE.csize _) (ratL_all _) T29 (.pure (ratE.pure _)) rfl (.pure rfl)
              · refine zg1 ?_
                refine st_nil ?_
                refine any_1 3 _ (by decide +kernel) rfl ?_
                refine zg1 ?_
                refine st_nil ?_
                refine any_1 6 _ (by decide +kernel) rfl ?_
                refine zg1 ?_
                refine st_nil ?_
                refine any_0 (by decide +kernel) ?_
                refine zg2 ?_
                exact retCCT [] rfl rfl rfl (ratE.csize _) (ratL_all _) T29 (.pure (ratE.pure _)) rfl rfl (ratE.csize _) (ratL_all _) T29 (.pure (ratE.pure _)) rfl (.pure rfl)
          · refine zg1 ?_
            refine st_nil ?_
            refine any_2 1 4 _ _ (by decide +kernel) rfl rfl ?_ ?_
            · refine zg1 ?_
              refine st_nil ?_
              refine any_1 4 _ (by decide +kernel) rfl ?_
              refine zg1 ?_
              refine st_nil ?_
              refine any_1 5 _ (by decide +kernel) rfl ?_
              refine zg1 ?_
              refine st_nil ?_
              refine any_1 6 _ (by decide +kernel) rfl ?_
              refine zg1 ?_
              refine st_nil ?_
              refine any_0 (by decide +kernel) ?_
              refine zg2 ?_
              exact retCCT [] rfl rfl rfl (ratE.csize _) (ratL_all _) T29 (.pure (ratE.pure _)) rfl rfl (ratE.csize _) (ratL_all _) T29 (.pure (ratE.pure _)) rfl (.pure rfl)
            · refine zg1 ?_
              refine st_nil ?_
              refine any_1 1 _ (by decide +kernel) rfl ?_
              refine zg1 ?_
              refine st_nil ?_
              refine any_1 5 _ (by decide +kernel) rfl ?_
              refine zg1 ?_
              refine st_nil ?_
              refine any_1 6 _ (by decide +kernel) rfl ?_
              refine zg1 ?_
              refine st_nil ?_
              refine any_0 (by decide +kernel) ?_
              refine zg2 ?_
              exact retCCT [] rfl rfl rfl (ratE.csize _) (ratL_all _) T29 (.pure (ratE.pure _)) rfl rfl (ratE.csize _) (ratL_all _) T29 (.pure (ratE.pure _)) rfl (.pure rfl)
          · refine zg1 ?_
            refine st_nil ?_
            refine any_2 1 3 _ _ (by decide +kernel) rfl rfl ?_ ?_
            · refine zg1 ?_
              refine st_nil ?_
              refine any_2 3 5 _ _ (by decide +kernel) rfl rfl ?_ ?_
              · refine zg1 ?_
                refine st_nil ?_
                refine any_1 5 _ (by decide +kernel) rfl ?_
                refine zg1 ?_
                refine st_nil ?_
                refine any_1 6 _ (by decide +kernel) rfl ?_
                refine zg1 ?_
                refine st_nil ?_
                refine any_0 (by decide +kernel) ?_
                refine zg2 ?_
                exact retCCT [] rfl rfl rfl (ratE.csize _) (ratL_all _) T29 (.pure (ratE.pure _)) rfl rfl (ratE.csize _) (ratL_all _) T29 (.pure (ratE.pure _)) rfl (.pure rfl)
              · refine zg1 ?_
                refine st_nil ?_
                refine any_1 3 _ (by decide +kernel) rfl ?_
                refine zg1 ?_
                refine st_nil ?_
                refine any_1 6 _ (by decide +kernel) rfl ?_
                refine zg1 ?_
                refine st_nil ?_
                refine any_0 (by decide +kernel) ?_
                refine zg2 ?_
                exact retCCT [] rfl rfl rfl (ratE.csize _) (ratL_all _) T29 (.pure (ratE.pure _)) rfl rfl (ratE.csize _) (ratL_all _) T29 (.pure (ratE.pure _)) rfl (.pure rfl)
            · refine zg1 ?_
              refine st_nil ?_
              refine any_1 1 _ (by decide +kernel) rfl ?_
              refine zg1 ?_
              refine st_nil ?_
              refine any_1 5 _ (by decide +kernel) rfl ?_
              refine zg1 ?_
              refine st_nil ?_
              refine any_1 6 _ (by decide +kernel) rfl ?_
              refine zg1 ?_
              refine st_nil ?_
              refine any_0 (by decide +kernel) ?_
              refine zg2 ?_
              exact retCCT [] rfl rfl rfl (ratE.csize _) (ratL_all _) T29 (.pure (ratE.pure _)) rfl rfl (ratE.csize _) (ratL_all _) T29 (.pure (ratE.pure _)) rfl (.pure rfl)
        · refine zg1 ?_
          refine st_nil ?_
          refine any_2 1 2 _ _ (by decide +kernel) rfl rfl ?_ ?_
          · refine zg1 ?_
            refine st_nil ?_
            refine any_2 2 5 _ _ (by decide +kernel) rfl rfl ?_ ?_
            · refine zg1 ?_
              refine st_nil ?_
              refine any_2 3 5 _ _ (by decide +kernel) rfl rfl ?_ ?_
              · refine zg1 ?_
                refine st_nil ?_
                refine any_1 5 _ (by decide +kernel) rfl ?_
                refine zg1 ?_
                refine st_nil ?_
                refine any_1 6 _ (by decide +kernel) rfl ?_
                refine zg1 ?_
                refine st_nil ?_
                refine any_0 (by decide +kernel) ?_
                refine zg2 ?_
                exact retCCT [] rfl rfl rfl (ratE.csize _) (ratL_all _) T29 (.pure (ratE.pure _)) rfl rfl (ratE.csize _) (ratL_all _) T29 (.pure (ratE.pure _)) rfl (.pure rfl)
              · refine zg1 ?_
                refine st_nil ?_
                refine any_1 3 _ (by decide +kernel) rfl ?_
                refine zg1 ?_
                refine st_nil ?_
                refine any_1 6 _ (by decide +kernel) rfl ?_
                refine zg1 ?_
                refine st_nil ?_
                refine any_0 (by decide +kernel) ?_
                refine zg2 ?_
                exact retCCT [] rfl rfl rfl (ratE.csize _) (ratL_all _) T29 (.pure (ratE.pure _)) rfl rfl (ratE.csize _) (ratL_all _) T29 (.pure (ratE.pure _)) rfl (.pure rfl)
            · refine zg1 ?_
              refine st_nil ?_
              refine any_1 2 _ (by decide +kernel) rfl ?_
              refine zg1 ?_
              refine st_nil ?_
              refine any_1 3 _ (by decide +kernel) rfl ?_
              refine zg1 ?_
              refine st_nil ?_
              refine any_1 6 _ (by decide +kernel) rfl ?_
              refine zg1 ?_
              refine st_nil ?_
              refine any_0 (by decide +kernel) ?_
              refine zg2 ?_
              exact retCCT [] rfl rfl rfl (ratE.csize _) (ratL_all _) T29 (.pure (ratE.pure _)) rfl rfl (ratE.csize _) (ratL_all _) T29 (.pure (ratE.pure _)) rfl (.pure rfl)
          · refine zg1 ?_
            refine st_nil ?_
            refine any_2 1 3 _ _ (by decide +kernel) rfl rfl ?_ ?_
            · refine zg1 ?_
              refine st_nil ?_
              refine any_2 3 5 _ _ (by decide +kernel) rfl rfl ?_ ?_
              · refine zg1 ?_
                refine st_nil ?_
                refine any_1 5 _ (by decide +kernel) rfl ?_
                refine zg1 ?_
                refine st_nil ?_
                refine any_1 6 _ (by decide +kernel) rfl ?_
                refine zg1 ?_
                refine st_nil ?_
                refine any_0 (by decide +kernel) ?_
                refine zg2 ?_
                exact retCCT [] rfl rfl rfl (ratE.csize _) (ratL_all _) T29 (.pure (ratE.pure _)) rfl rfl (ratE.csize _) (ratL_all _) T29 (.pure (ratE.pure _)) rfl (.pure rfl)
              · refine zg1 ?_
                refine st_nil ?_
                refine any_1 3 _ (by decide +kernel) rfl ?_
                refine zg1 ?_
                refine st_nil ?_
                refine any_1 6 _ (by decide +kernel) rfl ?_
                refine zg1 ?_
                refine st_nil ?_
                refine any_0 (by decide +kernel) ?_
                refine zg2 ?_
                exact retCCT [] rfl rfl rfl (ratE.csize _) (ratL_all _) T29 (.pure (ratE.pure _)) rfl rfl (ratE.csize _) (ratL_all _) T29 (.pure (ratE.pure _)) rfl (.pure rfl)
            · refine zg1 ?_
              refine st_nil ?_
              refine any_1 1 _ (by decide +kernel) rfl ?_
              refine zg1 ?_
              refine st_nil ?_
              refine any_1 5 _ (by decide +kernel) rfl ?_
              refine zg1 ?_
              refine st_nil ?_
              refine any_1 6 _ (by decide +kernel) rfl ?_
              refine zg1 ?_
              refine st_nil ?_
              refine any_0 (by decide +kernel) ?_
              refine zg2 ?_
              exact retCCT [] rfl rfl rfl (ratE.csize _) (ratL_all _) T29 (.pure (ratE.pure _)) rfl rfl (ratE.csize _) (ratL_all _) T29 (.pure (ratE.pure _)) rfl (.pure rfl)
      · refine zg1 ?_
        refine st_nil ?_
        refine any_2 0 2 _ _ (by decide +kernel) rfl rfl ?_ ?_
        · refine zg1 ?_
          refine st_nil ?_
          refine any_2 2 4 _ _ (by decide +kernel) rfl rfl ?_ ?_
          · refine zg1 ?_
            refine st_nil ?_
            refine any_2 3 4 _ _ (by decide +kernel) rfl rfl ?_ ?_
            · refine zg1 ?_
              refine st_nil ?_
              refine any_1 4 _ (by decide +kernel) rfl ?_
              refine zg1 ?_
              refine st_nil ?_
              refine any_1 5 _ (by decide +kernel) rfl ?_
              refine zg1 ?_
              refine st_nil ?_
              refine any_1 6 _ (by decide +kernel) rfl ?_
              refine zg1 ?_
              refine st_nil ?_
              refine any_0 (by decide +kernel) ?_
              refine zg2 ?_
              exact retCCT [] rfl rfl rfl (ratE.csize _) (ratL_all _) T29 (.pure (ratE.pure _)) rfl rfl (ratE.csize _) (ratL_all _) T29 (.pure (ratE.pure _)) rfl (.pure rfl)
            · refine zg1 ?_
              refine st_nil ?_
              refine any_2 3 5 _ _ (by decide +kernel) rfl rfl ?_ ?_
              · refine zg1 ?_
                refine st_nil ?_
                refine any_1 5 _ (by decide +kernel) rfl ?_
                refine zg1 ?_
                refine st_nil ?_
                refine any_1 6 _ (by decide +kernel) rfl ?_
                refine zg1 ?_
                refine st_nil ?_
                refine any_0 (by decide +kernel) ?_
                refine zg2 ?_
                exact retCCT [] rfl rfl rfl (ratE.csize _) (ratL_all _) T29 (.pure (ratE.pure _)) rfl rfl (ratE.csize _) (ratL_all _) T29 (.pure (ratE.pure _)) rfl (.pure rfl)
              · refine zg1 ?_
                refine st_nil ?_
                refine any_1 3 _ (by decide +kernel) rfl ?_
                refine zg1 ?_
                refine st_nil ?_
                refine any_1 6 _ (by decide +kernel) rfl ?_
                refine zg1 ?_
                refine st_nil ?_
                refine any_0 (by decide +kernel) ?_
                refine zg2 ?_
                exact retCCT [] rfl rfl rfl (ratE.csize _) (ratL_all _) T29 (.pure (ratE.pure _)) rfl rfl (ratE.csize _) (ratL_all _) T29 (.pure (ratE.pure _)) rfl (.pure rfl)
          · refine zg1 ?_
            refine st_nil ?_
            refine any_2 2 5 _ _ (by decide +kernel) rfl rfl ?_ ?_
            · refine zg1 ?_
              refine st_nil ?_
              refine any_2 3 5 _ _ (by decide +kernel) rfl rfl ?_ ?_
              · refine zg1 ?_
                refine st_nil ?_
                refine any_1 5 _ (by decide +kernel) rfl ?_
                refine zg1 ?_
                refine st_nil ?_
                refine any_1 6 _ (by decide +kernel) rfl ?_
                refine zg1 ?_
                refine st_nil ?_
                refine any_0 (by decide +kernel) ?_
                refine zg2 ?_
                exact retCCT [] rfl rfl rfl (ratE.csize _) (ratL_all _) T29 (.pure (ratE.pure _)) rfl rfl (ratE.csize _) (ratL_all _) T29 (.pure (ratE.pure _)) rfl (.pure rfl)
              · refine zg1 ?_
                refine st_nil ?_
                refine any_1 3 _ (by decide +kernel) rfl ?_
                refine zg1 ?_
                refine st_nil ?_
                refine any_1 6 _ (by decide +kernel) rfl ?_
                refine zg1 ?_
                refine st_nil ?_
                refine any_0 (by decide +kernel) ?_
                refine zg2 ?_
                exact retCCT [] rfl rfl rfl (ratE.csize _) (ratL_all _) T29 (.pure (ratE.pure _)) rfl rfl (ratE.csize _) (ratL_all _) T29 (.pure (ratE.pure _)) rfl (.pure rfl)
            · refine zg1 ?_
              refine st_nil ?_
              refine any_1 2 _ (by decide +kernel) rfl ?_
              refine zg1 ?_
              refine st_nil ?_
              refine any_1 3 _ (by decide +kernel) rfl ?_
              refine zg1 ?_
              refine st_nil ?_
              refine any_1 6 _ (by decide +kernel) rfl ?_
              refine zg1 ?_
              refine st_nil ?_
              refine any_0 (by decide +kernel) ?_
              refine zg2 ?_
              exact retCCT [] rfl rfl rfl (ratE.csize _) (ratL_all _) T29 (.pure (ratE.pure _)) rfl rfl (ratE.csize _) (ratL_all _) T29 (.pure (ratE.pure _)) rfl (.pure rfl)
        · refine zg1 ?_
          refine st_nil ?_
          refine any_2 0 3 _ _ (by decide +kernel) rfl rfl ?_ ?_
          · refine zg1 ?_
            refine st_nil ?_
            refine any_2 3 4 _ _ (by decide +kernel) rfl rfl ?_ ?_
            · refine zg1 ?_
              refine st_nil ?_
              refine any_1 4 _ (by decide +kernel) rfl ?_
              refine zg1 ?_
              refine st_nil ?_
              refine any_1 5 _ (by decide +kernel) rfl ?_
              refine zg1 ?_
              refine st_nil ?_
              refine any_1 6 _ (by decide +kernel) rfl ?_
              refine zg1 ?_
              refine st_nil ?_
              refine any_0 (by decide +kernel) ?_
              refine zg2 ?_
              exact retCCT [] rfl rfl rfl (ratE.csize _) (ratL_all _) T29 (.pure (ratE.pure _)) rfl rfl (ratE.csize _) (ratL_all _) T29 (.pure (ratE.pure _)) rfl (.pure rfl)
            · refine zg1 ?_
              refine st_nil ?_
              refine any_2 3 5 _ _ (by decide +kernel) rfl rfl ?_ ?_
              · refine zg1 ?_
                refine st_nil ?_
                refine any_1 5 _ (by decide +kernel) rfl ?_
                refine zg1 ?_
                refine st_nil ?_
                refine any_1 6 _ (by decide +kernel) rfl ?_
                refine zg1 ?_
                refine st_nil ?_
                refine any_0 (by decide +kernel) ?_
                refine zg2 ?_
                exact retCCT [] rfl rfl rfl (ratE.csize _) (ratL_all _) T29 (.pure (ratE.pure _)) rfl rfl (ratE.csize _) (ratL_all _) T29 (.pure (ratE.pure _)) rfl (.pure rfl)
              · refine zg1 ?_
                refine st_nil ?_
                refine any_1 3 _ (by decide +kernel) rfl ?_
                refine zg1 ?_
                refine st_nil ?_
                refine any_1 6 _ (by decide +kernel) rfl ?_
                refine zg1 ?_
                refine st_nil ?_
                refine any_0 (by decide +kernel) ?_
                refine zg2 ?_
                exact retCCT [] rfl rfl rfl (ratE.csize _) (ratL_all _) T29 (.pure (ratE.pure _)) rfl rfl (ratE.csize _) (ratL_all _) T29 (.pure (ratE.pure _)) rfl (.pure rfl)
          · refine zg1 ?_
            refine st_nil ?_
            refine any_1 0 _ (by decide +kernel) rfl ?_
            refine zg1 ?_
            refine st_nil ?_
            refine any_1 4 _ (by decide +kernel) rfl ?_
            refine zg1 ?_
            refine st_nil ?_
            refine any_1 5 _ (by decide +kernel) rfl ?_
            refine zg1 ?_
            refine st_nil ?_
            refine any_1 6 _ (by decide +kernel) rfl ?_
            refine zg1 ?_
            refine st_nil ?_
            refine any_0 (by decide +kernel) ?_
            refine zg2 ?_
            exact retCCT [] rfl rfl rfl (ratE.csize _) (ratL_all _) T29 (.pure (ratE.pure _)) rfl rfl (ratE.csize _) (ratL_all _) T29 (.pure (ratE.pure _)) rfl (.pure rfl)
      · refine zg1 ?_
        refine st_nil ?_
        refine any_3 0 1 3 _ _ _ (by decide +kernel) rfl rfl rfl ?_ ?_ ?_
        · refine zg1 ?_
          refine st_nil ?_
          refine any_3 1 3 4 _ _ _ (by decide +kernel) rfl rfl rfl ?_ ?_ ?_
          · refine zg1 ?_
            refine st_nil ?_
            refine any_2 3 4 _ _ (by decide +kernel) rfl rfl ?_ ?_
            · refine zg1 ?_
              refine st_nil ?_
              refine any_1 4 _ (by decide +kernel) rfl ?_
              refine zg1 ?_
              refine st_nil ?_
              refine any_1 5 _ (by decide +kernel) rfl ?_
              refine zg1 ?_
              refine st_nil ?_
              refine any_1 6 _ (by decide +kernel) rfl ?_
              refine zg1 ?_
              refine st_nil ?_
              refine any_0 (by decide +kernel) ?_
              refine zg2 ?_
              exact retCCT [] rfl rfl rfl (ratE.csize _) (ratL_all _) T29 (.pure (ratE.pure _)) rfl rfl (ratE.csize _) (ratL_all _) T29 (.pure (ratE.pure _)) rfl (.pure rfl)
            · refine zg1 ?_
              refine st_nil ?_
              refine any_2 3 5 _ _ (by decide +kernel) rfl rfl ?_ ?_
              · refine zg1 ?_
                refine st_nil ?_
                refine any_1 5 _ (by decide +kernel) rfl ?_
                refine zg1 ?_
                refine st_nil ?_
                refine any_1 6 _ (by decide +kernel) rfl ?_
                refine zg1 ?_
                refine st_nil ?_
                refine any_0 (by decide +kernel) ?_
                refine zg2 ?_
                exact retCCT [] rfl rfl rfl (ratE.csize _) (ratL_all _) T29 (.pure (ratE.pure _)) rfl rfl (ratE.csize _) (ratL_all _) T29 (.pure (ratE.pure _)) rfl (.pure rfl)
              · refine zg1 ?_
                refine st_nil ?_
                refine any_1 3 _ (by decide +kernel) rfl ?_
                refine zg1 ?_
                refine st_nil ?_
                refine any_1 6 _ (by decide +kernel) rfl ?_
                refine zg1 ?_
                refine st_nil ?_
                refine any_0 (by decide +kernel) ?_
                refine zg2 ?_
                exact retCCT [] rfl rfl rfl (ratE.csize _) (ratL_all _) T29 (.pure (ratE.pure _)) rfl rfl (ratE.csize _) (ratL_all _) T29 (.pure (ratE.pure _)) rfl (.pure rfl)
          · refine zg1 ?_
            refine st_nil ?_
            refine any_2 1 4 _ _ (by decide +kernel) rfl rfl ?_ ?_
            · refine zg1 ?_
              refine st_nil ?_
              refine any_1 4 _ (by decide +kernel) rfl ?_
              refine zg1 ?_
              refine st_nil ?_
              refine any_1 5 _ (by decide +kernel) rfl ?_
              refine zg1 ?_
              refine st_nil ?_
              refine any_1 6 _ (by decide +kernel) rfl ?_
              refine zg1 ?_
              refine st_nil ?_
              refine any_0 (by decide +kernel) ?_
              refine zg2 ?_
              exact retCCT [] rfl rfl rfl (ratE.csize _) (ratL_all _) T29 (.pure (ratE.pure _)) rfl rfl (ratE.csize _) (ratL_all _) T29 (.pure (ratE.pure _)) rfl (.pure rfl)
            · refine zg1 ?_
              refine st_nil ?_
              refine any_1 1 _ (by decide +kernel) rfl ?_
              refine zg1 ?_
              refine st_nil ?_
              refine any_1 5 _ (by decide +kernel) rfl ?_
              refine zg1 ?_
              refine st_nil ?_
              refine any_1 6 _ (by decide +kernel) rfl ?_
              refine zg1 ?_
              refine st_nil ?_
              refine any_0 (by decide +kernel) ?_
              refine zg2 ?_
              exact retCCT [] rfl rfl rfl (ratE.csize _) (ratL_all _) T29 (.pure (ratE.pure _)) rfl rfl (ratE.csize _) (ratL_all _) T29 (.pure (ratE.pure _)) rfl (.pure rfl)
          · refine zg1 ?_
            refine st_nil ?_
            refine any_2 1 3 _ _ (by decide +kernel) rfl rfl ?_ ?_
            · refine zg1 ?_
              refine st_nil ?_
              refine any_2 3 5 _ _ (by decide +kernel) rfl rfl ?_ ?_
              · refine zg1 ?_
                refine st_nil ?_
                refine any_1 5 _ (by decide +kernel) rfl ?_
                refine zg1 ?_
                refine st_nil ?_
                refine any_1 6 _ (by decide +kernel) rfl ?_
                refine zg1 ?_
                refine st_nil ?_
                refine any_0 (by decide +kernel) ?_
                refine zg2 ?_
                exact retCCT [] rfl rfl rfl (ratE.csize _) (ratL_all _) T29 (.pure (ratE.pure _)) rfl rfl (ratE.csize _) (ratL_all _) T29 (.pure (ratE.pure _)) rfl (.pure rfl)
              · refine zg1 ?_
                refine st_nil ?_
                refine any_1 3 _ (by decide +kernel) rfl ?_
                refine zg1 ?_
                refine st_nil ?_
                refine any_1 6 _ (by decide +kernel) rfl ?_
                refine zg1 ?_
                refine st_nil ?_
                refine any_0 (by decide +kernel) ?_
                refine zg2 ?_
                exact retCCT [] rfl rfl rfl (ratE.csize _) (ratL_all _) T29 (.pure (ratE.pure _)) rfl rfl (ratE.csize _) (ratL_all _) T29 (.pure (ratE.pure _)) rfl (.pure rfl)
            · refine zg1 ?_
              refine st_nil ?_
              refine any_1 1 _ (by decide +kernel) rfl ?_
              refine zg1 ?_
              refine st_nil ?_
              refine any_1 5 _ (by decide +kernel) rfl ?_
              refine zg1 ?_
              refine st_nil ?_
              refine any_1 6 _ (by decide +kernel) rfl ?_
              refine zg1 ?_
              refine st_nil ?_
              refine any_0 (by decide +kernel) ?_
              refine zg2 ?_
              exact retCCT [] rfl rfl rfl (ratE.csize _) (ratL_all _) T29 (.pure (ratE.pure _)) rfl rfl (ratE.csize _) (ratL_all _) T29 (.pure (ratE.pure _)) rfl (.pure rfl)
        · refine zg1 ?_
          refine st_nil ?_
          refine any_2 0 3 _ _ (by decide +kernel) rfl rfl ?_ ?_
          · refine zg1 ?_
            refine st_nil ?_
            refine any_2 3 4 _ _ (by decide +kernel) rfl rfl ?_ ?_
            · refine zg1 ?_
              refine st_nil ?_
              refine any_1 4 _ (by decide +kernel) rfl ?_
              refine zg1 ?_
              refine st_nil ?_
              refine any_1 5 _ (by decide +kernel) rfl ?_
              refine zg1 ?_
              refine st_nil ?_
              refine any_1 6 _ (by decide +kernel) rfl ?_
              refine zg1 ?_
              refine st_nil ?_
              refine any_0 (by decide +kernel) ?_
              refine zg2 ?_
              exact retCCT [] rfl rfl rfl (ratE.csize _) (ratL_all _) T29 (.pure (ratE.pure _)) rfl rfl (ratE.csize _) (ratL_all _) T29 (.pure (ratE.pure _)) rfl (.pure rfl)
            · refine zg1 ?_
              refine st_nil ?_
              refine any_2 3 5 _ _ (by decide +kernel) rfl rfl ?_ ?_
              · refine zg1 ?_
                refine st_nil ?_
                refine any_1 5 _ (by decide +kernel) rfl ?_
                refine zg1 ?_
                refine st_nil ?_
                refine any_1 6 _ (by decide +kernel) rfl ?_
                refine zg1 ?_
                refine st_nil ?_
                refine any_0 (by decide +kernel) ?_
                refine zg2 ?_
                exact retCCT [] rfl rfl rfl (ratE.csize _) (ratL_all _) T29 (.pure (ratE.pure _)) rfl rfl (ratE.csize _) (ratL_all _) T29 (.pure (ratE.pure _)) rfl (.pure rfl)
              · refine zg1 ?_
                refine st_nil ?_
                refine any_1 3 _ (by decide +kernel) rfl ?_
                refine zg1 ?_
                refine st_nil ?_
                refine any_1 6 _ (by decide +kernel) rfl ?_
                refine zg1 ?_
                refine st_nil ?_
                refine any_0 (by decide +kernel) ?_
                refine zg2 ?_
                exact retCCT [] rfl rfl rfl (ratE.csize _) (ratL_all _) T29 (.pure (ratE.pure _)) rfl rfl (ratE.csize _) (ratL_all _) T29 (.pure (ratE.pure _)) rfl (.pure rfl)
          · refine zg1 ?_
            refine st_nil ?_
            refine any_1 0 _ (by decide +kernel) rfl ?_
            refine zg1 ?_
            refine st_nil ?_
            refine any_1 4 _ (by decide +kernel) rfl ?_
            refine zg1 ?_
            refine st_nil ?_
            refine any_1 5 _ (by decide +kernel) rfl ?_
            refine zg1 ?_
            refine st_nil ?_
            refine any_1 6 _ (by decide +kernel) rfl ?_
            refine zg1 ?_
            refine st_nil ?_
            refine any_0 (by decide +kernel) ?_
            refine zg2 ?_
            exact retCCT [] rfl rfl rfl (ratE.csize _) (ratL_all _) T29 (.pure (ratE.pure _)) rfl rfl (ratE.csize _) (ratL_all _) T29 (.pure (ratE.pure _)) rfl (.pure rfl)
        · refine zg1 ?_
          refine st_nil ?_
          refine any_2 0 1 _ _ (by decide +kernel) rfl rfl ?_ ?_
          · refine zg1 ?_
            refine st_nil ?_
            refine any_2 1 4 _ _ (by decide +kernel) rfl rfl ?_ ?_
            · refine zg1 ?_
              refine st_nil ?_
              refine any_1 4 _ (by decide +kernel) rfl ?_
              refine zg1 ?_
              refine st_nil ?_
              refine any_1 5 _ (by decide +kernel) rfl ?_
              refine zg1 ?_
              refine st_nil ?_
              refine any_1 6 _ (by decide +kernel) rfl ?_
              refine zg1 ?_
              refine st_nil ?_
              refine any_0 (by decide +kernel) ?_
              refine zg2 ?_
              exact retCCT [] rfl rfl rfl (ratE.csize _) (ratL_all _) T29 (.pure (ratE.pure _)) rfl rfl (ratE.csize _) (ratL_all _) T29 (.pure (ratE.pure _)) rfl (.pure rfl)
            · refine zg1 ?_
              refine st_nil ?_
              refine any_1 1 _ (by decide +kernel) rfl ?_
              refine zg1 ?_
              refine st_nil ?_
              refine any_1 5 _ (by decide +kernel) rfl ?_
              refine zg1 ?_
              refine st_nil ?_
              refine any_1 6 _ (by decide +kernel) rfl ?_
              refine zg1 ?_
              refine st_nil ?_
              refine any_0 (by decide +kernel) ?_
              refine zg2 ?_
              exact retCCT [] rfl rfl rfl (ratE.csize _) (ratL_all _) T29 (.pure (ratE.pure _)) rfl rfl (ratE.csize _) (ratL_all _) T29 (.pure (ratE.pure _)) rfl (.pure rfl)
          · refine zg1 ?_
            refine st_nil ?_
            refine any_1 0 _ (by decide +kernel) rfl ?_
            refine zg1 ?_
            refine st_nil ?_
            refine any_1 4 _ (by decide +kernel) rfl ?_
            refine zg1 ?_
            refine st_nil ?_
            refine any_1 5 _ (by decide +kernel) rfl ?_
            refine zg1 ?_
            refine st_nil ?_
            refine any_1 6 _ (by decide +kernel) rfl ?_
            refine zg1 ?_
            refine st_nil ?_
            refine any_0 (by decide +kernel) ?_
            refine zg2 ?_
            exact retCCT [] rfl rfl rfl (ratE.csize _) (ratL_all _) T29 (.pure (ratE.pure _)) rfl rfl (ratE.csize _) (ratL_all _) T29 (.pure (ratE.pure _)) rfl (.pure rfl)
namespace H_c_Tan
theorem zSm {p q : Prop} (k : q) (e : p = q := by simp only [e1, e2, e3, e4, p1, p2, p3, q1, q2, q3, l1, t0, t1, r1, r2, r3, r4, Nat.zero_add, Nat.reduceMul, Nat.reduceAdd, b1, b2, b3, b4, b5, b6, i1, i2, i3, i4, i5, i6, Nat.reduceBEq, List.set_cons_zero, List.set_cons_succ, Nat.reduceEqDiff, reduceIte, if_true, if_false, ptL_kill, poL_kill, kills_map ptE, kills_map poE, kills_map ratE, ratL_kill, spL_kill, LV.kill, kills]; exact rfl) : p := e.mpr k
end H_c_Tan
open H_c_Tan in
theorem c_Tan (d : Nat) (T : Rat) (po : List PoR) (hT : rl T ≤ 1) (hT1 : rl (T + 1) ≤ 1) (h9 : d ≤ 6) (t : Rat) (ht : rl t ≤ 1000) (hin : hasR (T, T + 1) t = true) (h : cvF po d) (hd5 : d ≤ 5) : CallP Tryz.prog 31 [.agg [nI64 d, .list 3 ((kn0 d T).map ratL), .list 12 (po.map poL)], ratL t] (.tup [ptL (tanV po (t - T)), iL 0]) := by
  have hp0 : 0 < po.length := by have := h.hl; omega
  have hpu : ∀ l : List Rat, pures (l.map ratL) = true := fun l => pures_map ratE l
  have hkl := kn0_len d T
  have hlo := knB_lo d T
  have hhi := knB_hi d T
  have hcp : LV.pure (.agg [nI64 d, .list 3 ((kn0 d T).map ratL), .list 12 (po.map poL)]) = true := by simp [LV.pure, pures, pures_map ratE, pures_map poE]
  have hz1 := rl_sub t T
  have hr1 : rl 1 = 1 := rfl
  have hD := c_Dom d T po hT hT1 h9
  have hW : CallP Tryz.prog 140 [spL (T, T + 1)] (ratL 1) := by
    have := c_SWidth (T, T + 1) (by show rl (T + 1) + rl T ≤ _; omega)
    simp only [wid1] at this
    exact this
  have hQ : CallP Tryz.prog 125 [ratL (t - T), ratL 1] (.tup [ratL (t - T), iL 0]) := by
    have := c_RQuo (t - T) 1 (by omega)
    rw [div1, if_neg (by decide)] at this
    exact this
  have hH : CallP Tryz.prog 216 [spL (T, T + 1), ratL t] (bL true) := by
    have := c_SHas (T, T + 1) t (by show rl T + rl t ≤ _; omega) (by show rl t + rl (T + 1) ≤ _; omega)
    rwa [hin] at this
  have hl := h.hl
  have w1 := h.w
  have hs0 : HS (wtP po) (t - T) := hs_ofK (by omega) (fun x hx => Nat.le_trans (w1.2 x hx) (by decide)) (by omega)
  have q0 := hs0.ev
  have m0 := rl_mul (evP (wtP po) (t - T)) (evP (wtP po) (t - T))
  have m1 := rl_div 1 ((evP (wtP po) (t - T)) * (evP (wtP po) (t - T)))
  have u0 := h.t 0
  have v0 : HS (trP po 0) (t - T) := hs_ofK (by omega) (fun x hx => Nat.le_trans (u0.2 x hx) (by decide)) (by omega)
  have y0 := v0.ev
  have u1 := h.t 1
  have v1 : HS (trP po 1) (t - T) := hs_ofK (by omega) (fun x hx => Nat.le_trans (u1.2 x hx) (by decide)) (by omega)
  have y1 := v1.ev
  have u2 := h.t 2
  have v2 : HS (trP po 2) (t - T) := hs_ofK (by omega) (fun x hx => Nat.le_trans (u2.2 x hx) (by decide)) (by omega)
  have y2 := v2.ev
  have h1c : CallP Tryz.prog 126 [iL 1] (ratL 1) := c_RInt 1 (by decide) (by decide)
  have hM : CallP Tryz.prog 127 [ratL 1, ratL ((evP (wtP po) (t - T)) * (evP (wtP po) (t - T)))] (ratL ((evP (wtP po) (t - T)) * (evP (wtP po) (t - T)))) := by
    have := c_RMul 1 ((evP (wtP po) (t - T)) * (evP (wtP po) (t - T))) (by omega)
    rwa [Rat.one_mul] at this
  refine fnP Tryz.func31 (ht := (tame2 (ptE.pure _) rfl)) ?_
  refine zg12 ?_
  refine cp am2 (c_own d T po hT hT1 h9 t ht hin hp0) ?_
  refine zg18 ?_
  refine wl_if rfl (fun h23r h23 => ?_) (fun h23r h23 => ?_)
  · first | exact h23.elim | cases h23r
  · refine zg3 ?_
    refine wl_regD 6 (by decide +kernel) ?_
    refine zg1 ?_
    refine cp am1 (c_BNum d (kn0 d T) po h) ?_
    refine zg2 ?_
    refine cp am2 (c_BEval (wtP po) (t - T) hs0 (by omega)) ?_
    refine zg5 ?_
    refine wl_regF 11 [9] (by decide +kernel) ?_
    refine cp am1 (h1c) ?_
    refine zg3 ?_
    refine cp am2 (c_RMul (evP (wtP po) (t - T)) (evP (wtP po) (t - T)) (by omega)) ?_
    refine cp am2 (hM) ?_
    refine cp am2 (c_RQuo 1 ((evP (wtP po) (t - T)) * (evP (wtP po) (t - T))) (by omega)) ?_
    refine zg17 ?_
    refine cp am1 (c_turns d (kn0 d T) po h) ?_
    refine zg4 ?_
    refine wl_unroll ?_
    refine zg6 ?_
    refine wl_condX (b := _) rfl (by decide) ?_
    refine zg12 ?_
    refine wl_regD 7 (by decide +kernel) ?_
    refine zg4 ?_
    refine cp am2 (c_BEval (trP po 0) (t - T) v0 (by omega)) ?_
    refine cp am2 (c_RMul (1 / ((evP (wtP po) (t - T)) * (evP (wtP po) (t - T)))) (evP (trP po 0) (t - T)) (by omega)) ?_
    refine zg10 ?_
    refine wl_unroll ?_
    refine zg6 ?_
    refine wl_condX (b := _) rfl (by decide) ?_
    refine zg12 ?_
    refine wl_regD 7 (by decide +kernel) ?_
    refine zg4 ?_
    refine cp am2 (c_BEval (trP po 1) (t - T) v1 (by omega)) ?_
    refine cp am2 (c_RMul (1 / ((evP (wtP po) (t - T)) * (evP (wtP po) (t - T)))) (evP (trP po 1) (t - T)) (by omega)) ?_
    refine zg10 ?_
    refine wl_unroll ?_
    refine zg6 ?_
    refine wl_condX (b := _) rfl (by decide) ?_
    refine zg12 ?_
    refine wl_regD 7 (by decide +kernel) ?_
    refine zg4 ?_
    refine cp am2 (c_BEval (trP po 2) (t - T) v2 (by omega)) ?_
    refine cp am2 (c_RMul (1 / ((evP (wtP po) (t - T)) * (evP (wtP po) (t - T)))) (evP (trP po 2) (t - T)) (by omega)) ?_
    refine zg10 ?_
    refine wl_unroll ?_
    refine zg6 ?_
    refine wl_condY (b := _) rfl (by decide) ?_
    refine zg13 ?_
    exact retCT [] rfl rfl rfl cs (at_all cs rfl) T31 (.pure pu) rfl (.pure rfl)
end Go.Proofs.YtgfbghoihhnahaaGreat
end
section
set_option linter.unusedVariables false
set_option linter.unusedSimpArgs false
set_option maxHeartbeats 8000000
set_option maxRecDepth 100000
attribute [local irreducible] Go.Lg.opsL Go.Lg.wpL Go.Lg.thenL Go.Lg.blockL
namespace Go.Proofs.YtgfbghoihhnahaaGreat
open Go.Lg
namespace H_c_Adv
theorem zSm {p q : Prop} (k : q) (e : p = q := by simp only [e1, e2, e3, e4, p1, p2, p3, q1, q2, q3, l1, t0, t1, r1, r2, r3, r4, Nat.zero_add, Nat.reduceMul, Nat.reduceAdd, b1, b2, b3, b4, b5, b6, i1, i2, i3, i4, i5, i6, Nat.reduceBEq, List.set_cons_zero, List.set_cons_succ, Nat.reduceEqDiff, reduceIte, if_true, if_false, ptL_kill, poL_kill, kills_map ptE, kills_map poE, kills_map ratE, ratL_kill, spL_kill, LV.kill, kills]; exact rfl) : p := e.mpr k
end H_c_Adv
open H_c_Adv in
theorem c_Adv (d : Nat) (kn : List Rat) (po : List PoR) (h : cvF po d) (v : V3) (hv : bd3 1 v) : CallP Tryz.prog 22 [.agg [nI64 d, .list 3 (kn.map ratL), .list 12 (po.map poL)], ptL v] (iL (advV (bndP (smA po v)))) := by
  have hl := h.hl
  have hd := h.hd
  have h6 := h.h6
  have hcp : LV.pure (.agg [nI64 d, .list 3 (kn.map ratL), .list 12 (po.map poL)]) = true := by simp [LV.pure, pures, pures_map ratE, pures_map poE]
  have hpu : ∀ l : List Rat, pures (l.map ratL) = true := fun l => pures_map ratE l
  obtain ⟨v0, v1, v2⟩ := hv
  have tt0 := h.t 0
  have s0 := scP_rl v0 tt0.2
  have g0 : (scP v.x (trP po 0)).length = 2 * d - 1 + 1 := by rw [scP_len]; exact tt0.1
  have tt1 := h.t 1
  have s1 := scP_rl v1 tt1.2
  have g1 : (scP v.y (trP po 1)).length = 2 * d - 1 + 1 := by rw [scP_len]; exact tt1.1
  have tt2 := h.t 2
  have s2 := scP_rl v2 tt2.2
  have g2 : (scP v.z (trP po 2)).length = 2 * d - 1 + 1 := by rw [scP_len]; exact tt2.1
  have z1 := zipK_rl2 add_rlK (by decide) (by decide) s0 s1
  have z2 := zipK_rl2 add_rlK (by decide) (by decide) z1 s2
  have gz : (zipG (· + ·) (scP v.x (trP po 0)) (scP v.y (trP po 1))).length = 2 * d - 1 + 1 := by rw [zipG_len]; exact g0
  have hbd := bnd_rl (by decide) z2
  have gs : (smA po v).length = 2 * d - 1 + 1 := by rw [smA, zipG_len]; exact gz
  refine fnP Tryz.func22 ?_
  refine zg9 ?_
  refine st_pure rfl (.build0 SL29 Z29a) ?_
  refine zg8 ?_
  refine cp am1 (c_turns d kn po h) ?_
  refine zg4 ?_
  refine wl_unroll ?_
  refine zg6 ?_
  refine wl_condX (b := _) rfl (by decide) ?_
  refine zg18 ?_
  refine cp am2 (c_BScale v.x (trP po 0) (by omega) (fun x hx => by have := tt0.2 x hx; omega)) ?_
  refine st_callPf [10] rfl rfl (.cons (imm_refm (l := [0]) ratE rfl rfl rfl) (.cons (.pure (pure_lst ratE _ _)) .nil)) (c_BAdd0 (scP v.x (trP po 0)) (2 * d - 1) (by omega) g0 (fun x hx => Nat.le_trans (s0 x hx) (by decide))) ?_
  refine zg9 ?_
  refine wl_unroll ?_
  refine zg6 ?_
  refine wl_condX (b := _) rfl (by decide) ?_
  refine zg18 ?_
  refine cp am2 (c_BScale v.y (trP po 1) (by omega) (fun x hx => by have := tt1.2 x hx; omega)) ?_
  refine cp am2 (c_BAdds (scP v.x (trP po 0)) (scP v.y (trP po 1)) (2 * d - 1) (by omega) g0 g1 (fun x hx => Nat.le_trans (s0 x hx) (by decide)) (fun x hx => Nat.le_trans (s1 x hx) (by decide))) ?_
  refine zg9 ?_
  refine wl_unroll ?_
  refine zg6 ?_
  refine wl_condX (b := _) rfl (by decide) ?_
  refine zg18 ?_
  refine cp am2 (c_BScale v.z (trP po 2) (by omega) (fun x hx => by have := tt2.2 x hx; omega)) ?_
  refine cp am2 (c_BAdds (zipG (· + ·) (scP v.x (trP po 0)) (scP v.y (trP po 1))) (scP v.z (trP po 2)) (2 * d - 1) (by omega) gz g2 (fun x hx => Nat.le_trans (z1 x hx) (by decide)) (fun x hx => Nat.le_trans (s2 x hx) (by decide))) ?_
  refine zg9 ?_
  refine wl_unroll ?_
  refine zg6 ?_
  refine wl_condY (b := _) rfl (by decide) ?_
  refine zg9 ?_
  refine cp am1 (c_Bounds (smA po v) (by omega) (fun x hx => Nat.le_trans (z2 x hx) (by decide))) ?_
  refine zg9 ?_
  refine cp am1 (c_RSign (bndP (smA po v)).1 (Nat.le_trans hbd.1 (by decide))) ?_
  refine zg4 ?_
  refine wl_if rfl (fun h27r h27 => ?_) (fun h27r h27 => ?_)
  · have hV : advV (bndP (smA po v)) = 1 := by unfold advV; rw [if_pos (by omega)]
    refine zg8 ?_
    rw [hV]
    exact ret1 rfl (.pure rfl)
  · refine zg4 ?_
    refine cp am1 (c_RSign (bndP (smA po v)).2 (Nat.le_trans hbd.2 (by decide))) ?_
    refine zg4 ?_
    refine wl_if rfl (fun h32r h32 => ?_) (fun h32r h32 => ?_)
    · have hV : advV (bndP (smA po v)) = 0 := by unfold advV; rw [if_neg (by omega), if_pos (by omega)]
      refine zg8 ?_
      rw [hV]
      exact ret1 rfl (.pure rfl)
    · have hV : advV (bndP (smA po v)) = 2 := by unfold advV; rw [if_neg (by omega), if_neg (by omega)]
      refine zg9 ?_
      rw [hV]
      exact ret1 rfl (.pure rfl)
end Go.Proofs.YtgfbghoihhnahaaGreat
end
section
set_option linter.unusedVariables false
set_option linter.unusedSimpArgs false
set_option maxHeartbeats 8000000
set_option maxRecDepth 100000
attribute [local irreducible] Go.Lg.opsL Go.Lg.wpL Go.Lg.thenL Go.Lg.blockL
namespace Go.Proofs.YtgfbghoihhnahaaGreat
open Go.Lg
section
variable {P : Program} {H : Heap} {ρ : Operand → LV} {T E : TypeId}
theorem bdW {o1 : Operand} {r : Rat} [z : ZI P T (.agg [.agg [ratL 0, ratL 0, ratL 0], ratL 0])] [s : SI P T [(9, true), (3, true)]] (h1 : ρ o1 = ratL r) :
    OpP P H ρ (.build T #[(1, o1)]) (poL ⟨⟨0, 0, 0⟩, r⟩) := by
  have := OpP.bd (H := H) (ρ := ρ) (ps := #[(1, o1)]) (z := z) (s := s) (by simp [lay, LV.csize, csizes, ratE.csize, ratE.isAgg, isAgg_agg]) (by
    intro q hq
    simp only [List.mem_cons, List.not_mem_nil, or_false] at hq
    subst hq
    exact ⟨_, rfl, by rw [h1]; simp [lay, ratE.csize, ratE.isAgg], by rw [h1]; exact LV.pure_ne_any (ratE.pure _), by rw [h1]; exact LV.pure_ne_tup (ratE.pure _)⟩)
  simp only [buildL, List.map, List.foldl, List.set, h1] at this
  exact this
theorem bdP1 {o0 : Operand} {a : Rat} [u : UN P T (.array 3 E)] [t : TI P E 3 true] [z : ZI P T (.agg [ratL 0, ratL 0, ratL 0])] (h0 : ρ o0 = ratL a) : OpP P H ρ (.build T #[(0, o0)]) (ptL ⟨a, 0, 0⟩) := by
  have := OpP.bda (H := H) (ρ := ρ) (ps := #[(0, o0)]) (u := u) (t := t) (z := z) (by simp [lay, ratE.csize, ratE.isAgg]) (by
    intro q hq
    simp only [List.mem_cons, List.not_mem_nil, or_false] at hq
    subst hq
    exact ⟨_, rfl, by rw [h0]; simp [lay, ratE.csize, ratE.isAgg], by rw [h0]; exact LV.pure_ne_any (ratE.pure _), by rw [h0]; exact LV.pure_ne_tup (ratE.pure _)⟩)
  simp only [buildL, List.map, List.foldl, List.set, h0] at this
  exact this
theorem bdP2 {o0 o1 : Operand} {a b : Rat} [u : UN P T (.array 3 E)] [t : TI P E 3 true] [z : ZI P T (.agg [ratL 0, ratL 0, ratL 0])] (h0 : ρ o0 = ratL a) (h1 : ρ o1 = ratL b) : OpP P H ρ (.build T #[(0, o0), (1, o1)]) (ptL ⟨a, b, 0⟩) := by
  have := OpP.bda (H := H) (ρ := ρ) (ps := #[(0, o0), (1, o1)]) (u := u) (t := t) (z := z) (by simp [lay, ratE.csize, ratE.isAgg]) (by
    intro q hq
    simp only [List.mem_cons, List.not_mem_nil, or_false] at hq
    rcases hq with rfl | rfl
    · exact ⟨_, rfl, by rw [h0]; simp [lay, ratE.csize, ratE.isAgg], by rw [h0]; exact LV.pure_ne_any (ratE.pure _), by rw [h0]; exact LV.pure_ne_tup (ratE.pure _)⟩
    · exact ⟨_, rfl, by rw [h1]; simp [lay, ratE.csize, ratE.isAgg], by rw [h1]; exact LV.pure_ne_any (ratE.pure _), by rw [h1]; exact LV.pure_ne_tup (ratE.pure _)⟩)
  simp only [buildL, List.map, List.foldl, List.set, h0, h1] at this
  exact this
end
def paK : List Rat := [0, 0, 0, 1, 1, 1]
def paP : List PoR := [⟨⟨0, 0, 0⟩, 1⟩, ⟨⟨1, 1, 0⟩, 1⟩, ⟨⟨2, 0, 0⟩, 1⟩]
theorem paK_eq : kn0 2 0 = paK := by decide +kernel
theorem pa_ok : cvF paP 2 := ⟨rfl, by decide, by decide, fun q hq => by
  simp only [paP, List.mem_cons, List.not_mem_nil, or_false] at hq
  rcases hq with rfl | rfl | rfl <;> exact ⟨⟨by decide +kernel, by decide +kernel, by decide +kernel⟩, by decide +kernel, by decide +kernel⟩⟩
theorem pa_kn : kOK paK 2 := paK_eq ▸ kn0_ok (by decide) (by decide) (by decide +kernel) (by decide +kernel)
theorem pa_chd : chdP paP = 1 := by decide +kernel
theorem pa_adv0 : advV (bndP (smA paP ⟨1, 0, 0⟩)) = 1 := by decide +kernel
theorem pa_adv1 : advV (bndP (smA paP ⟨0, 1, 0⟩)) = 2 := by decide +kernel
theorem pa_tan : tanV paP (0 - 0) = ⟨2, 2, 0⟩ := by
  have h1 : (tanV paP (0 - 0)).x = 2 := by decide +kernel
  have h2 : (tanV paP (0 - 0)).y = 2 := by decide +kernel
  have h3 : (tanV paP (0 - 0)).z = 0 := by decide +kernel
  generalize tanV paP (0 - 0) = v at *
  obtain ⟨a, b, c⟩ := v
  simp only at h1 h2 h3
  rw [h1, h2, h3]
theorem c_tx1 : CallP Tryz.prog 97 [ratL 1] (.v (.string ⟨#[49]⟩)) := by
  have := c_FText 1 (by decide +kernel) (by decide +kernel) (by decide +kernel)
  exact this
theorem c_tx2 : CallP Tryz.prog 97 [ratL 2] (.v (.string ⟨#[50]⟩)) := by
  have := c_FText 2 (by decide +kernel) (by decide +kernel) (by decide +kernel)
  exact this
namespace H_c_parab
theorem zSm {p q : Prop} (k : q) (e : p = q := by simp only [e1, e2, e3, e4, p1, p2, p3, q1, q2, q3, l1, t0, t1, r1, r2, r3, r4, Nat.zero_add, Nat.reduceMul, Nat.reduceAdd, b1, b2, b3, b4, b5, b6, i1, i2, i3, i4, i5, i6, Nat.reduceBEq, List.set_cons_zero, List.set_cons_succ, Nat.reduceEqDiff, reduceIte, if_true, if_false, ptL_kill, poL_kill, kills_map ptE, kills_map poE, kills_map ratE, ratL_kill, spL_kill, LV.kill, kills]; exact rfl) : p := e.mpr k
end H_c_parab
open H_c_parab in
theorem c_parab  : CallP Tryz.prog 96 [] (.agg [nI64 2, .list 3 (paK.map ratL), .list 12 (paP.map poL)]) := by
  have h1 : CallP Tryz.prog 136 [iL 1] (ratL 1) := c_FInt 1 (by decide) (by decide)
  have h2 : CallP Tryz.prog 136 [iL 2] (ratL 2) := c_FInt 2 (by decide) (by decide)
  refine fnP Tryz.func96 (ht := (fun g => LV.ren_pure g _ (by simp [LV.pure, pures, pures_map ratE, pures_map poE]))) ?_
  refine zg7 ?_
  refine cp am1 (h1) ?_
  refine cp am1 (h2) ?_
  refine zg8 ?_
  refine st_pure rfl (.build0 SL29 Z29a) ?_
  refine st_pure rfl (.build0 SL29 Z29a) ?_
  refine st_pure rfl (.build0 SL29 Z29a) ?_
  refine zg3 ?_
  refine st_alloc rfl rfl (lit6 (a0 := 0) (a1 := 0) (a2 := 0) (a3 := 1) (a4 := 1) (a5 := 1) ratE Tryz.underlying33 (ratL_zero ▸ Z29a) T29 rfl rfl rfl rfl rfl rfl (by decide) (by decide)) ?_
  refine zg1 ?_
  refine s0bd (bdW rfl) ?_
  refine zg2 ?_
  refine s0bd (bdP2 rfl rfl) ?_
  refine zg1 ?_
  refine s0bd (bdPo (p := ⟨1, 1, 0⟩) (r := 1) rfl rfl) ?_
  refine zg1 ?_
  refine s0bd (bdP1 rfl) ?_
  refine zg1 ?_
  refine s0bd (bdPo (p := ⟨2, 0, 0⟩) (r := 1) rfl rfl) ?_
  refine st_alloc rfl rfl (.lit3 (a := ⟨⟨0, 0, 0⟩, 1⟩) (b := ⟨⟨1, 1, 0⟩, 1⟩) (c := ⟨⟨2, 0, 0⟩, 1⟩) (z := ⟨⟨0, 0, 0⟩, 0⟩) poE Tryz.underlying34 (show ZeroOK _ _ (poL ⟨⟨0, 0, 0⟩, 0⟩) from Z100) T100 rfl rfl rfl (by decide) (by decide)) ?_
  refine zg5 ?_
  exact retC [11, 23] rfl rfl rfl cs (at_all cs rfl) T36 (.agg (.cons (.pure rfl) (.cons (imm_refm (l := paK) ratE rfl rfl rfl) (.cons (imm_refm (l := paP) poE rfl rfl rfl) .nil))))
namespace H_c_Unit0
theorem zSm {p q : Prop} (k : q) (e : p = q := by simp only [e1, e2, e3, e4, p1, p2, p3, q1, q2, q3, l1, t0, t1, r1, r2, r3, r4, Nat.zero_add, Nat.reduceMul, Nat.reduceAdd, b1, b2, b3, b4, b5, b6, i1, i2, i3, i4, i5, i6, Nat.reduceBEq, List.set_cons_zero, List.set_cons_succ, Nat.reduceEqDiff, reduceIte, if_true, if_false, ptL_kill, poL_kill, kills_map ptE, kills_map poE, kills_map ratE, ratL_kill, spL_kill, LV.kill, kills]; exact rfl) : p := e.mpr k
end H_c_Unit0
open H_c_Unit0 in
theorem c_Unit0  : CallP Tryz.prog 98 [iL 0] (ptL ⟨1, 0, 0⟩) := by
  have h1 : CallP Tryz.prog 136 [iL 1] (ratL 1) := c_FInt 1 (by decide) (by decide)
  refine fnP Tryz.func98 (ht := (fun r => LV.ren_pure r _ (ptE.pure _))) ?_
  refine zg13 ?_
  refine cp am1 (h1) ?_
  refine zg11 ?_
  exact retC [] rfl rfl rfl cs (at_all cs rfl) T31 (.pure pu)
namespace H_c_Unit1
theorem zSm {p q : Prop} (k : q) (e : p = q := by simp only [e1, e2, e3, e4, p1, p2, p3, q1, q2, q3, l1, t0, t1, r1, r2, r3, r4, Nat.zero_add, Nat.reduceMul, Nat.reduceAdd, b1, b2, b3, b4, b5, b6, i1, i2, i3, i4, i5, i6, Nat.reduceBEq, List.set_cons_zero, List.set_cons_succ, Nat.reduceEqDiff, reduceIte, if_true, if_false, ptL_kill, poL_kill, kills_map ptE, kills_map poE, kills_map ratE, ratL_kill, spL_kill, LV.kill, kills]; exact rfl) : p := e.mpr k
end H_c_Unit1
open H_c_Unit1 in
theorem c_Unit1  : CallP Tryz.prog 98 [iL 1] (ptL ⟨0, 1, 0⟩) := by
  have h1 : CallP Tryz.prog 136 [iL 1] (ratL 1) := c_FInt 1 (by decide) (by decide)
  refine fnP Tryz.func98 (ht := (fun r => LV.ren_pure r _ (ptE.pure _))) ?_
  refine zg13 ?_
  refine cp am1 (h1) ?_
  refine zg11 ?_
  exact retC [] rfl rfl rfl cs (at_all cs rfl) T31 (.pure pu)
namespace H_c_awake11
theorem zSm {p q : Prop} (k : q) (e : p = q := by simp only [e1, e2, e3, e4, p1, p2, p3, q1, q2, q3, l1, t0, t1, r1, r2, r3, r4, Nat.zero_add, Nat.reduceMul, Nat.reduceAdd, b1, b2, b3, b4, b5, b6, i1, i2, i3, i4, i5, i6, Nat.reduceBEq, List.set_cons_zero, List.set_cons_succ, Nat.reduceEqDiff, reduceIte, if_true, if_false, ptL_kill, poL_kill, kills_map ptE, kills_map poE, kills_map ratE, ratL_kill, spL_kill, LV.kill, kills]; exact rfl) : p := e.mpr k
end H_c_awake11
open H_c_awake11 in
theorem c_awake11  : CallP Tryz.prog 15 [] (bL true) := by
  have hcp : LV.pure (.agg [nI64 2, .list 3 (paK.map ratL), .list 12 (paP.map poL)]) = true := by simp [LV.pure, pures, pures_map ratE, pures_map poE]
  have hT : CallP Tryz.prog 31 [.agg [nI64 2, .list 3 (paK.map ratL), .list 12 (paP.map poL)], ratL 0] (.tup [ptL ⟨2, 2, 0⟩, iL 0]) := by
    have := c_Tan 2 0 paP (by decide) (by decide +kernel) (by decide) 0 (by decide +kernel) (by decide +kernel) pa_ok (by decide)
    rwa [pa_tan, paK_eq] at this
  have hC : CallP Tryz.prog 20 [.agg [nI64 2, .list 3 (paK.map ratL), .list 12 (paP.map poL)]] (ratL 1) := by
    have := c_Chord 2 paK paP pa_ok
    rwa [pa_chd] at this
  have hA0 : CallP Tryz.prog 22 [.agg [nI64 2, .list 3 (paK.map ratL), .list 12 (paP.map poL)], ptL ⟨1, 0, 0⟩] (iL 1) := by
    have := c_Adv 2 paK paP pa_ok ⟨1, 0, 0⟩ ⟨by decide +kernel, by decide +kernel, by decide +kernel⟩
    rwa [pa_adv0] at this
  have hA1 : CallP Tryz.prog 22 [.agg [nI64 2, .list 3 (paK.map ratL), .list 12 (paP.map poL)], ptL ⟨0, 1, 0⟩] (iL 2) := by
    have := c_Adv 2 paK paP pa_ok ⟨0, 1, 0⟩ ⟨by decide +kernel, by decide +kernel, by decide +kernel⟩
    rwa [pa_adv1] at this
  have hB : CallP Tryz.prog 57 [.agg [nI64 2, .list 3 (paK.map ratL), .list 12 (paP.map poL)]] (iL 0) := c_BzCheck 2 paK paP pa_ok pa_kn rfl
  refine fnP Tryz.func15 ?_
  refine zg7 ?_
  refine cp am0 (c_parab) ?_
  refine zg7 ?_
  refine st_pure rfl (.build0 SL29 Z29a) ?_
  refine cp am2 (hT) ?_
  refine zg9 ?_
  refine wl_regD 38 (by decide +kernel) ?_
  refine zg1 ?_
  refine cp am1 (hB) ?_
  refine zg2 ?_
  refine st_pure (guardX (v := true) rfl rfl ((by decide +kernel)) rfl) ldA ?_
  refine st_callP (guardX (v := true) rfl rfl ((by decide +kernel)) rfl) (.cons im0 .nil) (hC) ?_
  refine st_callP (guardX (v := true) rfl rfl ((by decide +kernel)) rfl) (.cons im0 .nil) (c_tx1) ?_
  refine st_pure (guardX (v := true) rfl rfl ((by decide +kernel)) rfl) (.eqS rfl rfl) ?_
  refine st_pure rfl (.pickT rfl ((by decide +kernel))) ?_
  refine zg1 ?_
  refine st_pure (guardX (v := true) rfl rfl ((by decide +kernel)) rfl) ldA ?_
  refine st_callP (guardX (v := true) rfl rfl ((by decide +kernel)) rfl) (.cons im0 .nil) (c_Unit0) ?_
  refine st_callP (guardX (v := true) rfl rfl ((by decide +kernel)) rfl) (.cons im0 (.cons im0 .nil)) (hA0) ?_
  refine st_pure (guardX (v := true) rfl rfl ((by decide +kernel)) rfl) (.bin rfl rfl rfl) ?_
  refine st_pure rfl (.pickT rfl ((by decide +kernel))) ?_
  refine zg1 ?_
  refine st_pure (guardX (v := true) rfl rfl ((by decide +kernel)) rfl) ldA ?_
  refine st_callP (guardX (v := true) rfl rfl ((by decide +kernel)) rfl) (.cons im0 .nil) (c_Unit1) ?_
  refine st_callP (guardX (v := true) rfl rfl ((by decide +kernel)) rfl) (.cons im0 (.cons im0 .nil)) (hA1) ?_
  refine st_pure (guardX (v := true) rfl rfl ((by decide +kernel)) rfl) (.bin rfl rfl rfl) ?_
  refine st_pure rfl (.pickT rfl ((by decide +kernel))) ?_
  refine zg1 ?_
  refine st_pure (guardX (v := true) rfl rfl ((by decide +kernel)) rfl) (.move _) ?_
  refine st_pure (guardX (v := true) rfl rfl ((by decide +kernel)) rfl) (.bin rfl rfl rfl) ?_
  refine st_pure rfl (.pickT rfl ((by decide +kernel))) ?_
  refine zg1 ?_
  refine st_pure (guardX (v := true) rfl rfl ((by decide +kernel)) rfl) ixA ?_
  refine st_pure (guardX (v := true) rfl rfl ((by decide +kernel)) rfl) ldA ?_
  refine st_callP (guardX (v := true) rfl rfl ((by decide +kernel)) rfl) (.cons im0 .nil) (c_tx2) ?_
  refine st_pure (guardX (v := true) rfl rfl ((by decide +kernel)) rfl) (.eqS rfl rfl) ?_
  refine st_pure rfl (.pickT rfl ((by decide +kernel))) ?_
  refine zg1 ?_
  refine st_pure (guardX (v := true) rfl rfl ((by decide +kernel)) rfl) ixA ?_
  refine st_pure (guardX (v := true) rfl rfl ((by decide +kernel)) rfl) ldA ?_
  refine st_callP (guardX (v := true) rfl rfl ((by decide +kernel)) rfl) (.cons im0 .nil) (c_tx2) ?_
  refine st_pure (guardX (v := true) rfl rfl ((by decide +kernel)) rfl) (.eqS rfl rfl) ?_
  refine st_pure rfl (.pickT rfl ((by decide +kernel))) ?_
  refine zg4 ?_
  refine ret1 (x := bL ((⟨#[50]⟩ : ByteArray).toList == (⟨#[50]⟩ : ByteArray).toList)) rfl ?_
  have hbb : ((⟨#[50]⟩ : ByteArray).toList == (⟨#[50]⟩ : ByteArray).toList) = true := beq_self_eq_true _
  rw [hbb]
  exact .pure rfl
end Go.Proofs.YtgfbghoihhnahaaGreat
end
section
set_option linter.unusedVariables false
set_option linter.unusedSimpArgs false
set_option maxHeartbeats 8000000
set_option maxRecDepth 100000
attribute [local irreducible] Go.Lg.opsL Go.Lg.wpL Go.Lg.thenL Go.Lg.blockL
namespace Go.Proofs.YtgfbghoihhnahaaGreat
open Go.Lg
section
variable {po : List PoR} {d : Nat} (h : cvF po d)
include h
end
/-- a number of a span -/
def wiV (s : Rat × Rat) (n : Int) : Rat := s.1 + ptV n * (s.2 - s.1)
theorem wi_one (T : Rat) (n : Int) : wiV (T, T + 1) n = T + ptV n := by show T + ptV n * (T + 1 - T) = _; rw [wid1, Rat.mul_one]
theorem wi_rl {T : Rat} (h : rl T ≤ 1) (n : Int) : rl (T + ptV n) ≤ 3 := by
  have := rl_add T (ptV n)
  have := ptV_rl n
  omega
namespace H_c_Within
theorem zSm {p q : Prop} (k : q) (e : p = q := by simp only [e1, e2, e3, e4, p1, p2, p3, q1, q2, q3, l1, t0, t1, r1, r2, r3, r4, Nat.zero_add, Nat.reduceMul, Nat.reduceAdd, b1, b2, b3, b4, b5, b6, i1, i2, i3, i4, i5, i6, Nat.reduceBEq, List.set_cons_zero, List.set_cons_succ, Nat.reduceEqDiff, reduceIte, if_true, if_false, ptL_kill, poL_kill, kills_map ptE, kills_map poE, kills_map ratE, ratL_kill, spL_kill, LV.kill, kills]; exact rfl) : p := e.mpr k
end H_c_Within
open H_c_Within in
theorem c_Within (s : Rat × Rat) (n : Int) (R : Nat) (hR : R ≤ 1000000) (hs : bdS R s) (hn : -9223372036854775808 ≤ n ∧ n ≤ 9223372036854775807) : CallP Tryz.prog 25 [spL s, iL n] (ratL (wiV s n)) := by
  obtain ⟨a1, a2⟩ := hs
  have hp := ptV_rl n
  have m1 := rl_sub s.2 s.1
  have m2 := rl_mul (ptV n) (s.2 - s.1)
  refine fnP Tryz.func25 ?_
  refine zg7 ?_
  refine wl_regD 11 (by decide +kernel) ?_
  refine zg3 ?_
  refine cp am1 (c_MPart n hn) ?_
  refine zg4 ?_
  refine cp am2 (c_FRSub s.2 s.1 (by omega)) ?_
  refine cp am2 (c_FRMul (ptV n) (s.2 - s.1) (by omega)) ?_
  refine cp am2 (c_FRAdd s.1 (ptV n * (s.2 - s.1)) (by omega)) ?_
  refine zg4 ?_
  exact retC [] rfl rfl rfl (ratE.csize _) (ratL_all _) T29 (.pure (ratE.pure _))
end Go.Proofs.YtgfbghoihhnahaaGreat
end
section
set_option linter.unusedVariables false
set_option linter.unusedSimpArgs false
set_option maxHeartbeats 8000000
set_option maxRecDepth 100000
attribute [local irreducible] Go.Lg.opsL Go.Lg.wpL Go.Lg.thenL Go.Lg.blockL
namespace Go.Proofs.YtgfbghoihhnahaaGreat
open Go.Lg
/-- the basis function of a degree and an index at t, which lies in the interval with the index at -/
def nfn (k : List Rat) (at_ : Nat) (t : Rat) : Nat → Nat → Rat
  | 0, i => if i = at_ then 1 else 0
  | d + 1, i => if at_ < i ∨ i + (d + 1) < at_ then 0 else
      (t - k.getD i 0) / (k.getD (i + (d + 1)) 0 - k.getD i 0) * nfn k at_ t d i + (k.getD (i + (d + 1) + 1) 0 - t) / (k.getD (i + (d + 1) + 1) 0 - k.getD (i + 1) 0) * nfn k at_ t d (i + 1)
theorem part_rl {a b c d : Rat} {R : Nat} (ha : rl a ≤ R) (hb : rl b ≤ R) (hc : rl c ≤ R) (hd : rl d ≤ R) : rl (a - b) ≤ 2 * R + 1 ∧ rl (c - d) ≤ 2 * R + 1 ∧ rl ((a - b) / (c - d)) ≤ 4 * R + 2 := by
  have h1 := rl_sub a b
  have h2 := rl_sub c d
  have h3 := rl_div (a - b) (c - d)
  exact ⟨by omega, by omega, by omega⟩
theorem nfn_rl {k : List Rat} {at_ : Nat} {t : Rat} {R : Nat} (hR : 3 ≤ R) (hk : ∀ x ∈ k, rl x ≤ R) (ht : rl t ≤ R) : ∀ d i, rl (nfn k at_ t d i) ≤ (10 * R) * 2 ^ d - (8 * R + 5)
  | 0, i => by
    rw [nfn]; split
    · show 1 ≤ _; rw [Nat.pow_zero]; omega
    · show 1 ≤ _; rw [Nat.pow_zero]; omega
  | d + 1, i => by
    have g : ∀ j, rl (k.getD j 0) ≤ R := getD_rl (by omega) hk
    have a1 := nfn_rl (at_ := at_) hR hk ht d i
    have a2 := nfn_rl (at_ := at_) hR hk ht d (i + 1)
    have p1 := (part_rl ht (g i) (g (i + (d + 1))) (g i)).2.2
    have p2 := (part_rl (g (i + (d + 1) + 1)) ht (g (i + (d + 1) + 1)) (g (i + 1))).2.2
    have h2 : 2 ^ (d + 1) = 2 * 2 ^ d := by rw [Nat.pow_succ]; omega
    have h1 : 1 ≤ 2 ^ d := Nat.one_le_two_pow
    have hm : (10 * R) * 2 ^ (d + 1) = 2 * ((10 * R) * 2 ^ d) := by rw [h2]; rw [Nat.mul_left_comm]
    have hm2 : 10 * R ≤ (10 * R) * 2 ^ d := Nat.le_mul_of_pos_right _ (by omega)
    rw [nfn]
    split
    · show 1 ≤ _; rw [hm]; omega
    · have m1 := rl_mul ((t - k.getD i 0) / (k.getD (i + (d + 1)) 0 - k.getD i 0)) (nfn k at_ t d i)
      have m2 := rl_mul ((k.getD (i + (d + 1) + 1) 0 - t) / (k.getD (i + (d + 1) + 1) 0 - k.getD (i + 1) 0)) (nfn k at_ t d (i + 1))
      have s1 := rl_add ((t - k.getD i 0) / (k.getD (i + (d + 1)) 0 - k.getD i 0) * nfn k at_ t d i) ((k.getD (i + (d + 1) + 1) 0 - t) / (k.getD (i + (d + 1) + 1) 0 - k.getD (i + 1) 0) * nfn k at_ t d (i + 1))
      rw [hm]
      omega
/-- over knots without inner ones the sum with coefficients is the value of a polynomial -/
theorem nfn_step {D : Nat} {T t : Rat} {e j : Nat} (he : e < D) (hj : j ≤ e + 1) :
    nfn (kn0 D T) D t (e + 1) (D - (e + 1) + j) = (if 1 ≤ j then (t - T) * nfn (kn0 D T) D t e (D - e + (j - 1)) else 0) + (if j ≤ e then (1 - (t - T)) * nfn (kn0 D T) D t e (D - e + j) else 0) := by
  have g := kn0_get D T
  rw [nfn]
  have hk1 : (kn0 D T).getD (D - (e + 1) + j) 0 = T := by rw [g _ (by omega), if_pos (by omega)]
  have hk4 : (kn0 D T).getD (D - (e + 1) + j + (e + 1) + 1) 0 = T + 1 := by rw [g _ (by omega), if_neg (by omega)]
  rw [if_neg (by omega), hk1, hk4]
  have hi : D - (e + 1) + j + 1 = D - e + j := by omega
  rw [hi]
  congr 1
  · by_cases h1 : 1 ≤ j
    · rw [if_pos h1]
      have hk2 : (kn0 D T).getD (D - (e + 1) + j + (e + 1)) 0 = T + 1 := by rw [g _ (by omega), if_neg (by omega)]
      rw [hk2, show T + 1 - T = 1 by grind, div1, show D - (e + 1) + j = D - e + (j - 1) by omega]
    · rw [if_neg h1]
      obtain rfl : j = 0 := by omega
      have hz : nfn (kn0 D T) D t e (D - (e + 1) + 0) = 0 := by
        cases e with
        | zero => rw [nfn, if_neg (by omega)]
        | succ e => rw [nfn, if_pos (.inr (by omega))]
      rw [hz, Rat.mul_zero]
  · by_cases h1 : j ≤ e
    · rw [if_pos h1]
      have hk3 : (kn0 D T).getD (D - e + j) 0 = T := by rw [g _ (by omega), if_pos (by omega)]
      rw [hk3, show T + 1 - T = 1 by grind, div1, show T + 1 - t = 1 - (t - T) by grind]
    · rw [if_neg h1]
      obtain rfl : j = e + 1 := by omega
      have hz : nfn (kn0 D T) D t e (D - e + (e + 1)) = 0 := by
        cases e with
        | zero => rw [nfn, if_neg (by omega)]
        | succ e => rw [nfn, if_pos (.inl (by omega))]
      rw [hz, Rat.mul_zero]
theorem nfn_sum {D : Nat} {T t : Rat} : ∀ (e : Nat) (c : Nat → Rat), e ≤ D → sm (e + 1) (fun j => nfn (kn0 D T) D t e (D - e + j) * c j) = fE (1 - (t - T)) (t - T) e c
  | 0, c, h => by
    show 0 + nfn _ _ _ 0 (D - 0 + 0) * c 0 = c 0
    rw [nfn, if_pos (by omega), Rat.zero_add, Rat.one_mul]
  | e + 1, c, h => by
    have ih := nfn_sum (D := D) (T := T) (t := t) e (fun i => (1 - (t - T)) * c i + (t - T) * c (i + 1)) (by omega)
    rw [fE, ← ih]
    obtain ⟨N, hN⟩ : ∃ N : Nat → Rat, N = fun j => nfn (kn0 D T) D t e (D - e + j) := ⟨_, rfl⟩
    have e1 : sm (e + 1 + 1) (fun j => nfn (kn0 D T) D t (e + 1) (D - (e + 1) + j) * c j) =
        sm (e + 2) (fun j => (if 1 ≤ j then (t - T) * (N (j - 1) * c j) else 0)) + sm (e + 2) (fun j => if j ≤ e then (1 - (t - T)) * (N j * c j) else 0) := by
      rw [← sm_add]
      refine sm_congr _ _ _ fun j hj => ?_
      rw [nfn_step (by omega) (by omega), hN]
      split <;> split <;> grind
    have e2 : sm (e + 2) (fun j => (if 1 ≤ j then (t - T) * (N (j - 1) * c j) else 0)) = sm (e + 1) (fun j => (t - T) * (N j * c (j + 1))) := by
      rw [sm_head, if_neg (by omega), Rat.zero_add]
      refine sm_congr _ _ _ fun j hj => ?_
      rw [if_pos (by omega), Nat.add_sub_cancel]
    have e3 : sm (e + 2) (fun j => if j ≤ e then (1 - (t - T)) * (N j * c j) else 0) = sm (e + 1) (fun j => (1 - (t - T)) * (N j * c j)) := by
      rw [sm, if_neg (by omega), Rat.add_zero]
      refine sm_congr _ _ _ fun j hj => ?_
      rw [if_pos (by omega)]
    rw [e1, e2, e3, ← sm_add]
    refine sm_congr _ _ _ fun j hj => ?_
    rw [hN]; grind
/-- all basis functions of the degree -/
def nfL (D : Nat) (T t : Rat) : List Rat := (List.range (D + 1)).map fun i => nfn (kn0 D T) D t D i
theorem nfL_len (D : Nat) (T t : Rat) : (nfL D T t).length = D + 1 := by simp [nfL]
theorem nfL_get {D : Nat} {T t : Rat} {i : Nat} (h : i < D + 1) : (nfL D T t).getD i 0 = nfn (kn0 D T) D t D i := by
  unfold nfL; rw [List.getD_eq_getElem?_getD, List.getElem?_eq_getElem (by simpa using h)]; simp
theorem nfL_ev {p : List Rat} {D : Nat} {T t : Rat} (h : p.length = D + 1) : sm (D + 1) (fun i => (nfL D T t).getD i 0 * p.getD i 0) = evP p (t - T) := by
  have e := nfn_sum (T := T) (t := t) D (fun i => p.getD i 0) (Nat.le_refl _)
  rw [Nat.sub_self] at e
  rw [ev_fE (by omega), h, Nat.add_sub_cancel, ← e]
  refine sm_congr _ _ _ fun i hi => ?_
  rw [nfL_get hi, Nat.zero_add]
/-- the point of a curve at the own parameter x -/
def evV (po : List PoR) (x : Rat) : V3 := v3m (1 / evP (wtP po) x) ⟨evP (nmP po 0) x, evP (nmP po 1) x, evP (nmP po 2) x⟩
theorem nm_get {po : List PoR} {k i : Nat} (h : i < po.length) : (nmP po k).getD i 0 = (po.getD i default).w * (po.getD i default).p.at k := by
  unfold nmP
  rw [List.getD_eq_getElem?_getD, List.getElem?_map, List.getElem?_eq_getElem h, List.getD_eq_getElem?_getD, List.getElem?_eq_getElem h]; rfl
theorem wt_get {po : List PoR} {i : Nat} (h : i < po.length) : (wtP po).getD i 0 = (po.getD i default).w := by
  unfold wtP
  rw [List.getD_eq_getElem?_getD, List.getElem?_map, List.getElem?_eq_getElem h, List.getD_eq_getElem?_getD, List.getElem?_eq_getElem h]; rfl
theorem subNN {a b c : Nat} (h : a = b + c) (h2 : a ≤ 9223372036854775807) : binI .sub .i64 (a : Nat) (b : Nat) = some (.int .i64 ((c : Nat) : Int)) := by
  rw [sub64 (by omega) (by omega)]; congr 2; omega
theorem nf_snoc {D : Nat} {T t : Rat} {i : Nat} (h : i < D + 1) : (nfL D T t).take i ++ [nfn (kn0 D T) D t D i] = (nfL D T t).take (i + 1) := by
  rw [← nfL_get h]; exact take_snocL (by rw [nfL_len]; exact h)
theorem nf_rl {D : Nat} {T t : Rat} (hD : D ≤ 6) (hT : rl T ≤ 1000) (hT1 : rl (T + 1) ≤ 1000) (ht : rl t ≤ 1000) : ∀ x ∈ nfL D T t, rl x ≤ 632000 := fun x hx => by
  obtain ⟨i, hi, rfl⟩ := List.mem_map.1 hx
  have hk : ∀ y ∈ kn0 D T, rl y ≤ 1000 := fun y hy => by
    rcases List.mem_append.1 hy with h | h
    · rw [(List.mem_replicate.1 h).2]; exact hT
    · rw [(List.mem_replicate.1 h).2]; exact hT1
  have h := nfn_rl (at_ := D) (by decide) hk ht D i
  have hpw : 2 ^ D ≤ 2 ^ 6 := Nat.pow_le_pow_right (by decide) hD
  omega
theorem sm_rl {f : Nat → Rat} {R : Nat} (hR : 1 ≤ R) : ∀ n, (∀ i, i < n → rl (f i) ≤ R) → rl (sm n f) ≤ 1 + n * (R + 1)
  | 0, _ => by show 1 ≤ _; omega
  | n + 1, h => by
    have h1 := sm_rl hR n (fun i hi => h i (by omega))
    have h2 := h n (by omega)
    have h3 := rl_add (sm n f) (f n)
    rw [sm, Nat.succ_mul]; omega
/-- the sum of the first coefficients of a homogeneous function times basis functions -/
def hmS (d : Nat) (T t : Rat) (po : List PoR) (k i : Nat) : Rat := sm i fun j => (nfL d T t).getD j 0 * (if k < 3 then (nmP po k).getD j 0 else (wtP po).getD j 0)
theorem hm_bd {po : List PoR} {d : Nat} {T t : Rat} (h : cvF po d) (hn : ∀ x ∈ nfL d T t, rl x ≤ 632000) (i : Nat) (hi : i ≤ d + 1) (k : Nat) : rl (hmS d T t po k i) ≤ 5000000 := by
  have hd := h.h6
  have h1 := sm_rl (f := fun j => (nfL d T t).getD j 0 * (if k < 3 then (nmP po k).getD j 0 else (wtP po).getD j 0)) (R := 632002) (by decide) i (fun j hj => by
    have a1 := getD_rl (by decide) hn j
    have a2 := getD_rl (by decide) (h.n k).2 j
    have a3 := getD_rl (by decide) h.w.2 j
    have m := rl_mul ((nfL d T t).getD j 0) (if k < 3 then (nmP po k).getD j 0 else (wtP po).getD j 0)
    split at m <;> split <;> first | omega | contradiction)
  have h2 : i * (632002 + 1) ≤ 7 * (632002 + 1) := Nat.mul_le_mul_right _ (by omega)
  unfold hmS
  omega
theorem hm_st {po : List PoR} {d i : Nat} {T t : Rat} (h : i < po.length) :
    hmS d T t po 0 i + (nfL d T t).getD i 0 * ((po.getD i default).w * (po.getD i default).p.x) = hmS d T t po 0 (i + 1) ∧ hmS d T t po 1 i + (nfL d T t).getD i 0 * ((po.getD i default).w * (po.getD i default).p.y) = hmS d T t po 1 (i + 1) ∧
    hmS d T t po 2 i + (nfL d T t).getD i 0 * ((po.getD i default).w * (po.getD i default).p.z) = hmS d T t po 2 (i + 1) ∧ hmS d T t po 3 i + (nfL d T t).getD i 0 * (po.getD i default).w = hmS d T t po 3 (i + 1) := by
  refine ⟨?_, ?_, ?_, ?_⟩
  · unfold hmS; rw [sm, if_pos (by decide), nm_get h]; rfl
  · unfold hmS; rw [sm, if_pos (by decide), nm_get h]; rfl
  · unfold hmS; rw [sm, if_pos (by decide), nm_get h]; rfl
  · unfold hmS; rw [sm, if_neg (by decide), wt_get h]
theorem hm_ev {po : List PoR} {d : Nat} {T t : Rat} (h : cvF po d) : (∀ k, k < 3 → hmS d T t po k (d + 1) = evP (nmP po k) (t - T)) ∧ hmS d T t po 3 (d + 1) = evP (wtP po) (t - T) := by
  refine ⟨fun k hk => ?_, ?_⟩
  · rw [← nfL_ev (p := nmP po k) (D := d) (h.n k).1]
    unfold hmS
    exact sm_congr _ _ _ fun i _ => by rw [if_pos hk]
  · rw [← nfL_ev (p := wtP po) (D := d) h.w.1]
    unfold hmS
    exact sm_congr _ _ _ fun i _ => by rw [if_neg (by decide)]
namespace H_c_FIvl
theorem zSm {p q : Prop} (k : q) (e : p = q := by simp only [e1, e2, e3, e4, p1, p2, p3, q1, q2, q3, l1, t0, t1, r1, r2, r3, r4, Nat.zero_add, Nat.reduceMul, Nat.reduceAdd, b1, b2, b3, b4, b5, b6, i1, i2, i3, i4, i5, i6, Nat.reduceBEq, hkl, hlo, hhi, hkd, hix, List.length_map, dfq, List.set_cons_zero, List.set_cons_succ, Nat.reduceEqDiff, reduceIte, if_true, if_false, ptL_kill, poL_kill, kills_map ptE, kills_map poE, kills_map ratE, ratL_kill, spL_kill, LV.kill, kills]; exact rfl) : p := e.mpr k
end H_c_FIvl
open H_c_FIvl in
theorem c_FIvl (d : Nat) (T t : Rat) (hd : d ≤ 6) (hT : rl T ≤ 1) (hT1 : rl (T + 1) ≤ 1) (ht : rl t ≤ 1000) (h1 : T ≤ t) (h2 : t ≤ T + 1) : CallP Tryz.prog 120 [.list 3 ((kn0 d T).map ratL), nI64 d, ratL t] (.tup [nI64 d, iL 0]) := by
  have hkl := kn0_len d T
  have hlo := knB_lo d T
  have hhi := knB_hi d T
  have hkd : (kn0 d T).getD d 0 = T := by rw [kn0_get _ _ _ (by omega), if_pos (by omega)]
  have c1 : ¬cmpR t T < 0 := fun e => by have := cmpR_ge.2 h1; omega
  have c2 : ¬cmpR t (T + 1) > 0 := fun e => by have := cmpR_le.2 h2; omega
  have hix : ((2 * (d + 1) : Nat) : Int).toNat - 1 = 2 * (d + 1) - 1 := by omega
  refine fnP Tryz.func120 (ht := (tame2 rfl rfl)) ?_
  refine zg11 ?_
  refine st_pure rfl (.bin rfl rfl (sub1N (by omega) (by omega))) ?_
  refine zg5 ?_
  refine wl_regD 15 (by decide +kernel) ?_
  refine zg4 ?_
  try simp only [t1, dfq, hlo]
  refine cp am2 (c_FRCmp t T (by omega)) ?_
  refine zg2 ?_
  refine op_if 19 rfl (fun h19r h19 => ?_) (fun h19r h19 => ?_)
  · omega
  · refine zg5 ?_
    try simp only [t1, dfq, hkl, hhi]
    refine cp am2 (c_FRCmp t (T + 1) (by omega)) ?_
    refine zg4 ?_
    refine wl_if rfl (fun h27r h27 => ?_) (fun h27r h27 => ?_)
    · omega
    · refine zg6 ?_
      refine st_pure rfl (.bin rfl rfl (subNN (c := d + 1) (by omega) (by omega))) ?_
      refine st_pure rfl (.bin rfl rfl (sub1N (by omega) (by omega))) ?_
      refine zg5 ?_
      refine wl_unroll ?_
      refine zg2 ?_
      refine wl_regD 11 (by decide +kernel) ?_
      refine zg3 ?_
      refine op_if 34 rfl (fun h34r h34 => ?_) (fun h34r h34 => ?_)
      · refine zg5 ?_
        try simp only [t1, dfq, Nat.add_sub_cancel, Int.toNat_natCast, hkd]
        refine cp am2 (c_FRCmp t T (by omega)) ?_
        refine zg4 ?_
        refine wl_condY (b := _) rfl (by first | rfl | exact decide_eq_false c1) ?_
        refine zg13 ?_
        exact ret2 rfl (.pure rfl) rfl (.pure rfl)
      · refine zg5 ?_
        try simp only [t1, dfq, Nat.add_sub_cancel, Int.toNat_natCast, hkd]
        refine zg5 ?_
        refine wl_condY (b := _) rfl (by first | rfl | exact decide_eq_false c1) ?_
        refine zg13 ?_
        exact ret2 rfl (.pure rfl) rfl (.pure rfl)
open H0 in
theorem c_part9 (a b : Rat) (h : rl a + rl b ≤ 1000000) : CallP Tryz.prog 336 [ratL a, ratL b] (ratL (a / b)) := by
  refine fnP Tryz.func336 ?_
  refine zg11 ?_
  refine cp am2 (c_FRQuo a b (by omega)) ?_
  refine zg15 ?_
  exact retC [] rfl rfl rfl (ratE.csize _) (ratL_all _) T29 (.pure (ratE.pure _))
namespace H_c_fun0
theorem zSm {p q : Prop} (k : q) (e : p = q := by simp only [e1, e2, e3, e4, p1, p2, p3, q1, q2, q3, l1, t0, t1, r1, r2, r3, r4, Nat.zero_add, Nat.reduceMul, Nat.reduceAdd, b1, b2, b3, b4, b5, b6, i1, i2, i3, i4, i5, i6, Nat.reduceBEq, dfq, List.set_cons_zero, List.set_cons_succ, Nat.reduceEqDiff, reduceIte, if_true, if_false, ptL_kill, poL_kill, kills_map ptE, kills_map poE, kills_map ratE, ratL_kill, spL_kill, LV.kill, kills]; exact rfl) : p := e.mpr k
end H_c_fun0
open H_c_fun0 in
theorem c_fun0 (k : List Rat) (at_ : Nat) (t : Rat) (hl : k.length ≤ 1000) (hat : at_ ≤ 1000) (hk : ∀ x ∈ k, rl x ≤ 1000) (ht : rl t ≤ 1000) (i : Nat) : CallP Tryz.prog 291 [.list 3 (k.map ratL), nI64 i, iL 0, nI64 at_, ratL t] (ratL (nfn k at_ t 0 i)) := by
  have h1c : CallP Tryz.prog 136 [iL 1] (ratL 1) := c_FInt 1 (by decide) (by decide)
  refine fnP Tryz.func291 ?_
  refine zg13 ?_
  refine wl_if rfl (fun h14r h14 => ?_) (fun h14r h14 => ?_)
  · refine zg8 ?_
    refine wl_if rfl (fun h17r h17 => ?_) (fun h17r h17 => ?_)
    · have hV : nfn k at_ t 0 i = 1 := by rw [nfn, if_pos (by omega)]
      refine zg2 ?_
      refine cp am1 (h1c) ?_
      refine zg6 ?_
      rw [hV]
      exact retC [] rfl rfl rfl (ratE.csize _) (ratL_all _) T29 (.pure (ratE.pure _))
    · have hV : nfn k at_ t 0 i = 0 := by rw [nfn, if_neg (by omega)]
      refine zg4 ?_
      refine st_pure rfl (.build0 SL29 Z29a) ?_
      refine zg5 ?_
      rw [hV]
      exact retC [] rfl rfl rfl (ratE.csize _) (ratL_all _) T29 (.pure (ratE.pure _))
  · first | exact absurd h14r (by decide) | cases h14r | exact absurd rfl h14
namespace H_c_funS
theorem zSm {p q : Prop} (k : q) (e : p = q := by simp only [e1, e2, e3, e4, p1, p2, p3, q1, q2, q3, l1, t0, t1, r1, r2, r3, r4, Nat.zero_add, Nat.reduceMul, Nat.reduceAdd, b1, b2, b3, b4, b5, b6, i1, i2, i3, i4, i5, i6, Nat.reduceBEq, dfq, eia, eib, eic, List.set_cons_zero, List.set_cons_succ, Nat.reduceEqDiff, reduceIte, if_true, if_false, ptL_kill, poL_kill, kills_map ptE, kills_map poE, kills_map ratE, ratL_kill, spL_kill, LV.kill, kills]; exact rfl) : p := e.mpr k
end H_c_funS
open H_c_funS in
theorem c_funS (k : List Rat) (at_ : Nat) (t : Rat) (hl : k.length ≤ 1000) (hat : at_ ≤ 1000) (hk : ∀ x ∈ k, rl x ≤ 1000) (ht : rl t ≤ 1000) (d : Nat) (hd : d + 1 ≤ 7) (ih : ∀ i, i + d + 1 < k.length → CallP Tryz.prog 291 [.list 3 (k.map ratL), nI64 i, nI64 d, nI64 at_, ratL t] (ratL (nfn k at_ t d i))) (i : Nat) (hi : i + (d + 1) + 1 < k.length) : CallP Tryz.prog 291 [.list 3 (k.map ratL), nI64 i, nI64 (d + 1), nI64 at_, ratL t] (ratL (nfn k at_ t (d + 1) i)) := by
  have g : ∀ j, rl (k.getD j 0) ≤ 1000 := getD_rl (by decide) hk
  have pp1 := part_rl ht (g i) (g (i + (d + 1))) (g i)
  have pp2 := part_rl (g (i + (d + 1) + 1)) ht (g (i + (d + 1) + 1)) (g (i + 1))
  have nq1 := nfn_rl (at_ := at_) (by decide) hk ht d i
  have nq2 := nfn_rl (at_ := at_) (by decide) hk ht d (i + 1)
  have hpw : 2 ^ d ≤ 2 ^ 6 := Nat.pow_le_pow_right (by decide) (by omega)
  have m1 := rl_mul ((t - k.getD i 0) / (k.getD (i + (d + 1)) 0 - k.getD i 0)) (nfn k at_ t d i)
  have m2 := rl_mul ((k.getD (i + (d + 1) + 1) 0 - t) / (k.getD (i + (d + 1) + 1) 0 - k.getD (i + 1) 0)) (nfn k at_ t d (i + 1))
  have hk1 := ih i (by omega)
  have hk2 := ih (i + 1) (by omega)
  refine fnP Tryz.func291 ?_
  have eia : True := trivial
  have eib : True := trivial
  have eic : True := trivial
  refine zg13 ?_
  refine wl_if rfl (fun h14r h14 => ?_) (fun h14r h14 => ?_)
  · omega
  · refine zg9 ?_
    refine op_if 23 rfl (fun h23r h23 => ?_) (fun h23r h23 => ?_)
    · have hV : nfn k at_ t (d + 1) i = 0 := by rw [nfn, if_pos (by omega)]
      refine zg11 ?_
      refine st_pure rfl (.build0 SL29 Z29a) ?_
      refine zg5 ?_
      rw [hV]
      exact retC [] rfl rfl rfl (ratE.csize _) (ratL_all _) T29 (.pure (ratE.pure _))
    · refine zg3 ?_
      refine st_pure (guardX (v := false) rfl rfl (h23r) rfl) (.bin rfl rfl (add64N (by omega))) ?_
      refine zg4 ?_
      refine wl_if rfl (fun h29r h29 => ?_) (fun h29r h29 => ?_)
      · have hV : nfn k at_ t (d + 1) i = 0 := by rw [nfn, if_pos (by omega)]
        refine zg2 ?_
        refine st_pure rfl (.build0 SL29 Z29a) ?_
        refine zg5 ?_
        rw [hV]
        exact retC [] rfl rfl rfl (ratE.csize _) (ratL_all _) T29 (.pure (ratE.pure _))
      · have hV : nfn k at_ t (d + 1) i = (t - k.getD i 0) / (k.getD (i + (d + 1)) 0 - k.getD i 0) * nfn k at_ t d i + (k.getD (i + (d + 1) + 1) 0 - t) / (k.getD (i + (d + 1) + 1) 0 - k.getD (i + 1) 0) * nfn k at_ t d (i + 1) := by rw [nfn, if_neg (by omega)]
        refine zg3 ?_
        refine wl_regD 19 (by decide +kernel) ?_
        refine zg5 ?_
        refine cp am2 (c_FRSub t (k.getD i 0) (by have := g i; omega)) ?_
        refine zg3 ?_
        refine st_pure rfl (.bin rfl rfl (add64N (by omega))) ?_
        refine zg6 ?_
        refine cp am2 (c_FRSub (k.getD (i + (d + 1)) 0) (k.getD i 0) (by have := g i; have := g (i + (d + 1)); omega)) ?_
        refine cp am2 (c_part9 (t - k.getD i 0) (k.getD (i + (d + 1)) 0 - k.getD i 0) (by omega)) ?_
        refine zg5 ?_
        refine wl_regD 24 (by decide +kernel) ?_
        refine zg3 ?_
        refine st_pure rfl (.bin rfl rfl (add64N (by omega))) ?_
        refine st_pure rfl (.bin rfl rfl (add1N (by omega))) ?_
        refine zg3 ?_
        refine cp am2 (c_FRSub (k.getD (i + (d + 1) + 1) 0) t (by have := g (i + (d + 1) + 1); omega)) ?_
        refine zg3 ?_
        refine st_pure rfl (.bin rfl rfl (add64N (by omega))) ?_
        refine st_pure rfl (.bin rfl rfl (add1N (by omega))) ?_
        refine zg4 ?_
        refine st_pure rfl (.bin rfl rfl (add1N (by omega))) ?_
        refine zg2 ?_
        refine cp am2 (c_FRSub (k.getD (i + (d + 1) + 1) 0) (k.getD (i + 1) 0) (by have := g (i + 1); have := g (i + (d + 1) + 1); omega)) ?_
        refine cp am2 (c_part9 (k.getD (i + (d + 1) + 1) 0 - t) (k.getD (i + (d + 1) + 1) 0 - k.getD (i + 1) 0) (by omega)) ?_
        refine zg5 ?_
        refine wl_regD 20 (by decide +kernel) ?_
        refine zg4 ?_
        refine st_pure rfl (.bin rfl rfl (sub1N (by omega) (by omega))) ?_
        refine zg2 ?_
        refine cp am5 (hk1) ?_
        refine cp am2 (c_FRMul _ (nfn k at_ t d i) (by omega)) ?_
        refine zg3 ?_
        refine st_pure rfl (.bin rfl rfl (add1N (by omega))) ?_
        refine zg1 ?_
        refine st_pure rfl (.bin rfl rfl (sub1N (by omega) (by omega))) ?_
        refine zg2 ?_
        refine cp am5 (hk2) ?_
        refine cp am2 (c_FRMul _ (nfn k at_ t d (i + 1)) (by omega)) ?_
        refine cp am2 (c_FRAdd _ _ (by omega)) ?_
        refine zg4 ?_
        rw [hV]
        exact retC [] rfl rfl rfl (ratE.csize _) (ratL_all _) T29 (.pure (ratE.pure _))
theorem c_function (k : List Rat) (at_ : Nat) (t : Rat) (hl : k.length ≤ 1000) (hat : at_ ≤ 1000) (hk : ∀ x ∈ k, rl x ≤ 1000) (ht : rl t ≤ 1000) : ∀ (d : Nat) (hd : d ≤ 7) (i : Nat) (hi : i + d + 1 < k.length), CallP Tryz.prog 291 [.list 3 (k.map ratL), nI64 i, nI64 d, nI64 at_, ratL t] (ratL (nfn k at_ t d i))
  | 0, _, i, _ => c_fun0 k at_ t hl hat hk ht i
  | d + 1, hd, i, hi => c_funS k at_ t hl hat hk ht d hd (fun i hi => c_function k at_ t hl hat hk ht d (by omega) i hi) i (by omega)
namespace H_c_FValues
theorem zSm {p q : Prop} (k : q) (e : p = q := by simp only [e1, e2, e3, e4, p1, p2, p3, q1, q2, q3, l1, t0, t1, r1, r2, r3, r4, Nat.zero_add, Nat.reduceMul, Nat.reduceAdd, b1, b2, b3, b4, b5, b6, i1, i2, i3, i4, i5, i6, Nat.reduceBEq, ers, etk, List.length_map, dfq, hdd, take_map_len, map_snoc, len_snoc, List.length_cons, List.length_nil, List.nil_append, List.map_nil, List.take_nil, List.append_nil, List.set_cons_zero, List.set_cons_succ, Nat.reduceEqDiff, reduceIte, if_true, if_false, ptL_kill, poL_kill, kills_map ptE, kills_map poE, kills_map ratE, ratL_kill, spL_kill, LV.kill, kills]; exact rfl) : p := e.mpr k
end H_c_FValues
open H_c_FValues in
theorem c_FValues (d : Nat) (T t : Rat) (hd : d ≤ 6) (hT : rl T ≤ 1) (hT1 : rl (T + 1) ≤ 1) (ht : rl t ≤ 1000) (h1 : T ≤ t) (h2 : t ≤ T + 1) : CallP Tryz.prog 215 [.list 3 ((kn0 d T).map ratL), nI64 d, ratL t] (.tup [iL 0, .list 3 ((nfL d T t).map ratL), iL 0]) := by
  have hkl := kn0_len d T
  have hlo := knB_lo d T
  have hhi := knB_hi d T
  have hkd : (kn0 d T).getD d 0 = T := by rw [kn0_get _ _ _ (by omega), if_pos (by omega)]
  have c1 : ¬cmpR t T < 0 := fun e => by have := cmpR_ge.2 h1; omega
  have c2 : ¬cmpR t (T + 1) > 0 := fun e => by have := cmpR_le.2 h2; omega
  have hdd : ((d : Int) - (d : Int)) = 0 := by omega
  have hkr : ∀ x ∈ kn0 d T, rl x ≤ 1000 := fun x hx => by
    rcases List.mem_append.1 hx with h | h
    · rw [(List.mem_replicate.1 h).2]; omega
    · rw [(List.mem_replicate.1 h).2]; omega
  have hnl := nfL_len d T t
  refine fnP Tryz.func215 (ht := (tame3 rfl (pure_lst ratE _ _) rfl)) ?_
  have ers : True := trivial
  have etk : True := trivial
  refine zg13 ?_
  refine cp am3 (c_FIvl d T t hd hT hT1 ht h1 h2) ?_
  refine zg14 ?_
  refine wl_if rfl (fun h21r h21 => ?_) (fun h21r h21 => ?_)
  · first | exact h21.elim | cases h21r
  · refine zg12 ?_
    refine st_pure rfl (.bin rfl rfl (subNN (c := 0) (by omega) (by omega))) ?_
    refine zg4 ?_
    refine wl_weak (Weak.own (t := 11) 39 3 rfl rfl) ?_
    refine lp1 (fun (i : Nat) L => (((((((St.mk L.slot (hp [(5, ⟨3, [ratL t], true⟩), (39, ⟨3, ((nfL d T t).take i).map ratL, true⟩)])).put (some 0) (.list 3 ((kn0 d T).map ratL))).put (some 1) (nI64 d)).put (some 5) (.eptr 5 3 0 0)).put (some 9) (nI64 d)).put (some 11) (.ref 39 3 0 i)).put (some 12) (nI64 i))) (fun i => i ≤ d + 1) (fun i => d + 1 - i) 0 (Nat.zero_le _) ?_
    rintro i L1 hi
    refine zg8 ?_
    refine wl_if rfl (fun h28r h28 => ?_) (fun h28r h28 => ?_)
    · have hi2 : i < d + 1 := by omega
      have ers := nf_snoc (D := d) (T := T) (t := t) hi2
      have etk : (((nfL d T t).take i).map ratL).take i = ((nfL d T t).take i).map ratL := List.take_of_length_le (by rw [List.length_map, List.length_take]; omega)
      refine zg11 ?_
      refine cp am5 (c_function (kn0 d T) d t (by omega) (by omega) hkr ht d (by omega) i (by omega)) ?_
      refine zg1 ?_
      refine st_store rfl (.appX (d := 39) (news := [ratL (nfn (kn0 d T) d t d i)]) rfl rfl rfl rfl (by simp; omega) (.inl rfl) (by decide) Tryz.underlying33 Tryz.underlying33 Z29a T29 rfl B29 (.inl ⟨38, 0, _, rfl, by decide, rfl, rfl, by simp, rfl, by simp [pures, ratE.pure]⟩) (by simp; omega) (by simp; omega) (by decide)) ?_
      refine zg4 ?_
      refine wl_regW (Weak.kill _ 38) ?_
      refine zg1 ?_
      refine st_pure rfl (.bin rfl rfl (add1N (by omega))) ?_
      refine zg3 ?_
      exact nx1 (i + 1) (by omega)
    · obtain rfl : i = d + 1 := by omega
      have hE : (nfL d T t).take (d + 1) = (nfL d T t) := List.take_of_length_le (by omega)
      refine zg9 ?_
      refine st_pure rfl (.bin rfl rfl (subNN (c := 0) (by omega) (by omega))) ?_
      refine zg7 ?_
      simp only [hE]
      exact ret3f [39] rfl rfl (.pure rfl) rfl (imm_refm ratE rfl rfl (by omega)) rfl (.pure rfl)
namespace H_c_FHom
theorem zSm {p q : Prop} (k : q) (e : p = q := by simp only [e1, e2, e3, e4, p1, p2, p3, q1, q2, q3, l1, t0, t1, r1, r2, r3, r4, Nat.zero_add, Nat.reduceMul, Nat.reduceAdd, b1, b2, b3, b4, b5, b6, i1, i2, i3, i4, i5, i6, Nat.reduceBEq, List.length_map, dfq, hnl, hm0, ratL_zero, eii, List.set_cons_zero, List.set_cons_succ, Nat.reduceEqDiff, reduceIte, if_true, if_false, ptL_kill, poL_kill, kills_map ptE, kills_map poE, kills_map ratE, ratL_kill, spL_kill, LV.kill, kills]; exact rfl) : p := e.mpr k
end H_c_FHom
open H_c_FHom in
theorem c_FHom (d : Nat) (T t : Rat) (po : List PoR) (h : cvF po d) (hd : d ≤ 6) (hT : rl T ≤ 1) (hT1 : rl (T + 1) ≤ 1) (ht : rl t ≤ 1000) (h1 : T ≤ t) (h2 : t ≤ T + 1) : CallP Tryz.prog 122 [.agg [nI64 d, .list 3 ((kn0 d T).map ratL), .list 12 (po.map poL)], ratL t] (.agg [ratL (hmS d T t po 0 (d + 1)), ratL (hmS d T t po 1 (d + 1)), ratL (hmS d T t po 2 (d + 1)), ratL (hmS d T t po 3 (d + 1))]) := by
  have hnl := nfL_len d T t
  have hm0 : ∀ k, hmS d T t po k 0 = 0 := fun k => rfl
  have hnr := nf_rl (T := T) (t := t) hd (by omega) (by omega) ht
  have hl := h.hl
  have hcp : LV.pure (.agg [nI64 d, .list 3 ((kn0 d T).map ratL), .list 12 (po.map poL)]) = true := by simp [LV.pure, pures, pures_map ratE, pures_map poE]
  refine fnP Tryz.func122 (ht := (fun g => LV.ren_pure g _ pu)) ?_
  have eii : True := trivial
  refine zg14 ?_
  refine cp am3 (c_FValues d T t hd hT hT1 ht h1 h2) ?_
  refine zg21 ?_
  refine lp1 (fun (i : Nat) L => (((((((St.mk L.slot (hp [(2, ⟨3, [.agg [nI64 d, .list 3 ((kn0 d T).map ratL), .list 12 (po.map poL)]], true⟩), (3, ⟨3, [ratL t], true⟩), (4, ⟨12, [.agg [ratL 0, ratL 0, ratL 0, ratL 0]], true⟩), (8, ⟨12, [.agg [ratL (hmS d T t po 0 i), ratL (hmS d T t po 1 i), ratL (hmS d T t po 2 i), ratL (hmS d T t po 3 i)]], true⟩)])).put (some 2) (.eptr 2 3 0 0)).put (some 4) (.eptr 4 12 0 0)).put (some 5) (iL 0)).put (some 6) (.list 3 ((nfL d T t).map ratL))).put (some 8) (.eptr 8 12 0 0)).put (some 9) (nI64 i))) (fun i => i ≤ d + 1) (fun i => d + 1 - i) 0 (Nat.zero_le _) ?_
  rintro i L1 hi
  refine zg9 ?_
  refine wl_if rfl (fun h25r h25 => ?_) (fun h25r h25 => ?_)
  · have hi2 : i < po.length := by omega
    have hok := h.ok _ (getD_memP hi2)
    have hng := getD_rl (by decide) hnr i
    have hbd := hm_bd (T := T) (t := t) h hnr i (by omega)
    have hst := hm_st (T := T) (t := t) (po := po) (d := d) hi2
    obtain ⟨⟨ok1, ok2, ok3⟩, ok4, _⟩ := hok
    have eii : ((0 : Int) + (i : Int)).toNat = i := by omega
    have hok := h.ok _ (getD_memP hi2)
    have bb0 := hbd 0
    have bb1 := hbd 1
    have bb2 := hbd 2
    have bb3 := hbd 3
    have m0 := rl_mul ((nfL d T t).getD i 0) ((po.getD i default).w * (po.getD i default).p.x)
    have m1 := rl_mul ((nfL d T t).getD i 0) ((po.getD i default).w * (po.getD i default).p.y)
    have m2 := rl_mul ((nfL d T t).getD i 0) ((po.getD i default).w * (po.getD i default).p.z)
    have m3 := rl_mul ((nfL d T t).getD i 0) (po.getD i default).w
    have n0 := rl_mul (po.getD i default).w (po.getD i default).p.x
    have n1 := rl_mul (po.getD i default).w (po.getD i default).p.y
    have n2 := rl_mul (po.getD i default).w (po.getD i default).p.z
    have hA0 : CallP Tryz.prog 35 [ratL (hmS d T t po 0 i), ratL ((nfL d T t).getD i 0 * ((po.getD i default).w * (po.getD i default).p.x))] (ratL (hmS d T t po 0 (i + 1))) := by
      rw [← hst.1]; exact c_FRAdd _ _ (by omega)
    have hA1 : CallP Tryz.prog 35 [ratL (hmS d T t po 1 i), ratL ((nfL d T t).getD i 0 * ((po.getD i default).w * (po.getD i default).p.y))] (ratL (hmS d T t po 1 (i + 1))) := by
      rw [← hst.2.1]; exact c_FRAdd _ _ (by omega)
    have hA2 : CallP Tryz.prog 35 [ratL (hmS d T t po 2 i), ratL ((nfL d T t).getD i 0 * ((po.getD i default).w * (po.getD i default).p.z))] (ratL (hmS d T t po 2 (i + 1))) := by
      rw [← hst.2.2.1]; exact c_FRAdd _ _ (by omega)
    have hA3 : CallP Tryz.prog 35 [ratL (hmS d T t po 3 i), ratL ((nfL d T t).getD i 0 * (po.getD i default).w)] (ratL (hmS d T t po 3 (i + 1))) := by
      rw [← hst.2.2.2]; exact c_FRAdd _ _ (by omega)
    refine zg10 ?_
    refine st_pure rfl (.bin rfl rfl (add64 (by omega) (by omega))) ?_
    refine zg2 ?_
    try simp only [t1, eii]
    refine cp am1 (c_Lift (po.getD i default) hok) ?_
    refine zg10 ?_
    refine wl_unroll ?_
    refine zg7 ?_
    refine wl_condX (b := _) rfl (by decide) ?_
    refine zg4 ?_
    refine wl_regD 14 (by decide +kernel) ?_
    refine zg11 ?_
    try simp only [t1, dfq]
    refine cp am2 (c_FRMul ((nfL d T t).getD i 0) ((po.getD i default).w * (po.getD i default).p.x) (by omega)) ?_
    refine cp am2 (hA0) ?_
    refine zg11 ?_
    refine wl_unroll ?_
    refine zg7 ?_
    refine wl_condX (b := _) rfl (by decide) ?_
    refine zg4 ?_
    refine wl_regD 14 (by decide +kernel) ?_
    refine zg11 ?_
    try simp only [t1, dfq]
    refine cp am2 (c_FRMul ((nfL d T t).getD i 0) ((po.getD i default).w * (po.getD i default).p.y) (by omega)) ?_
    refine cp am2 (hA1) ?_
    refine zg11 ?_
    refine wl_unroll ?_
    refine zg7 ?_
    refine wl_condX (b := _) rfl (by decide) ?_
    refine zg4 ?_
    refine wl_regD 14 (by decide +kernel) ?_
    refine zg11 ?_
    try simp only [t1, dfq]
    refine cp am2 (c_FRMul ((nfL d T t).getD i 0) ((po.getD i default).w * (po.getD i default).p.z) (by omega)) ?_
    refine cp am2 (hA2) ?_
    refine zg11 ?_
    refine wl_unroll ?_
    refine zg7 ?_
    refine wl_condX (b := _) rfl (by decide) ?_
    refine zg4 ?_
    refine wl_regD 14 (by decide +kernel) ?_
    refine zg11 ?_
    try simp only [t1, dfq]
    refine cp am2 (c_FRMul ((nfL d T t).getD i 0) (po.getD i default).w (by omega)) ?_
    refine cp am2 (hA3) ?_
    refine zg11 ?_
    refine wl_unroll ?_
    refine zg7 ?_
    refine wl_condY (b := _) rfl (by decide) ?_
    refine zg6 ?_
    refine wl_regW (Weak.kill _ 10) ?_
    refine zg1 ?_
    refine st_pure rfl (.bin rfl rfl (add1N (by omega))) ?_
    refine zg3 ?_
    exact nx1 (i + 1) (by omega)
  · obtain rfl : i = d + 1 := by omega
    refine zg12 ?_
    exact retC [] rfl rfl rfl cs (at_all cs rfl) T142 (.pure pu)
end Go.Proofs.YtgfbghoihhnahaaGreat
end
section
set_option linter.unusedVariables false
set_option linter.unusedSimpArgs false
set_option maxHeartbeats 8000000
set_option maxRecDepth 100000
attribute [local irreducible] Go.Lg.opsL Go.Lg.wpL Go.Lg.thenL Go.Lg.blockL
namespace Go.Proofs.YtgfbghoihhnahaaGreat
open Go.Lg
/-- the span of a coordinate of the first points -/
def bxN (l : List V3) (k : Nat) : Nat → Rat × Rat
  | 0 => ((l.getD 0 default).at k, (l.getD 0 default).at k)
  | j + 1 => hulP (bxN l k j) ((l.getD (j + 1) default).at k, (l.getD (j + 1) default).at k)
def bxP (l : List V3) : Bx3 := ⟨bxN l 0 (l.length - 1), bxN l 1 (l.length - 1), bxN l 2 (l.length - 1)⟩
theorem hul_le (a b : Rat × Rat) : (hulP a b).1 ≤ a.1 ∧ (hulP a b).1 ≤ b.1 ∧ a.2 ≤ (hulP a b).2 ∧ b.2 ≤ (hulP a b).2 := by
  unfold hulP mnR mxR
  refine ⟨?_, ?_, ?_, ?_⟩ <;> simp only <;> split <;> grind
theorem bxN_in (l : List V3) (k : Nat) : ∀ n i, i ≤ n → (bxN l k n).1 ≤ (l.getD i default).at k ∧ (l.getD i default).at k ≤ (bxN l k n).2
  | 0, i, h => by
    obtain rfl : i = 0 := by omega
    exact ⟨Rat.le_refl, Rat.le_refl⟩
  | n + 1, i, h => by
    obtain ⟨h1, h2, h3, h4⟩ := hul_le (bxN l k n) ((l.getD (n + 1) default).at k, (l.getD (n + 1) default).at k)
    rw [bxN]
    rcases Nat.lt_or_ge i (n + 1) with hi | hi
    · obtain ⟨g1, g2⟩ := bxN_in l k n i (by omega)
      exact ⟨Rat.le_trans h1 g1, Rat.le_trans g2 h3⟩
    · obtain rfl : i = n + 1 := by omega
      exact ⟨h2, h4⟩
theorem bxN_bd {l : List V3} {R : Nat} (h : ∀ i, i < l.length → bd3 R (l.getD i default)) (k : Nat) : ∀ n, n < l.length → bdS R (bxN l k n)
  | 0, hn => ⟨at_rl (h 0 hn) k, at_rl (h 0 hn) k⟩
  | n + 1, hn => hul_bd (bxN_bd h k n (by omega)) ⟨at_rl (h _ hn) k, at_rl (h _ hn) k⟩
theorem fE_nn {a b : Rat} (ha : 0 ≤ a) (hb : 0 ≤ b) : ∀ (n : Nat) (f : Nat → Rat), (∀ i, i ≤ n → 0 ≤ f i) → 0 ≤ fE a b n f
  | 0, f, h => h 0 (Nat.le_refl _)
  | n + 1, f, h => by
    rw [fE]
    refine fE_nn ha hb n _ fun i hi => ?_
    have h1 := Rat.mul_nonneg ha (h i (by omega))
    have h2 := Rat.mul_nonneg hb (h (i + 1) (by omega))
    exact Rat.add_nonneg h1 h2
section
variable {po : List PoR} {d : Nat} (h : cvF po d)
include h
end
section
variable {po : List PoR} {d : Nat} (h : cvF po d)
include h
end
end Go.Proofs.YtgfbghoihhnahaaGreat
end
section
set_option linter.unusedVariables false
set_option linter.unusedSimpArgs false
set_option maxHeartbeats 8000000
set_option maxRecDepth 100000
attribute [local irreducible] Go.Lg.opsL Go.Lg.wpL Go.Lg.thenL Go.Lg.blockL
namespace Go.Proofs.YtgfbghoihhnahaaGreat
open Go.Lg
namespace H_c_FDrop
theorem zSm {p q : Prop} (k : q) (e : p = q := by simp only [e1, e2, e3, e4, p1, p2, p3, q1, q2, q3, l1, t0, t1, r1, r2, r3, r4, Nat.zero_add, Nat.reduceMul, Nat.reduceAdd, b1, b2, b3, b4, b5, b6, i1, i2, i3, i4, i5, i6, Nat.reduceBEq, List.set_cons_zero, List.set_cons_succ, Nat.reduceEqDiff, reduceIte, if_true, if_false, ptL_kill, poL_kill, kills_map ptE, kills_map poE, kills_map ratE, ratL_kill, spL_kill, LV.kill, kills]; exact rfl) : p := e.mpr k
end H_c_FDrop
open H_c_FDrop in
theorem c_FDrop (a b c w : Rat) (R : Nat) (hR : R ≤ 100000000) (ha : rl a ≤ R) (hb : rl b ≤ R) (hc : rl c ≤ R) (hw : rl w ≤ R) : CallP Tryz.prog 121 [.agg [ratL a, ratL b, ratL c, ratL w]] (poL ⟨v3m (1 / w) ⟨a, b, c⟩, w⟩) := by
  have h1c : CallP Tryz.prog 136 [iL 1] (ratL 1) := c_FInt 1 (by decide) (by decide)
  have hr1 : rl 1 = 1 := rfl
  have hq := rl_div 1 w
  refine fnP Tryz.func121 (ht := (fun g => LV.ren_pure g _ (poE.pure _))) ?_
  refine zg7 ?_
  refine wl_regD 15 (by decide +kernel) ?_
  simp only [List.getD_cons_zero]
  refine cp am1 (h1c) ?_
  refine zg2 ?_
  refine cp am2 (c_FOver 1 w (by omega)) ?_
  refine zg7 ?_
  refine cp am2 (c_FVScale (1 / w) ⟨a, b, c⟩ (R + 1) (by omega) (by omega) ⟨by show rl a ≤ _; omega, by show rl b ≤ _; omega, by show rl c ≤ _; omega⟩) ?_
  refine zg2 ?_
  refine s0bd (bdPo rfl rfl) ?_
  refine zg4 ?_
  exact retC [] rfl rfl rfl cs (at_all cs rfl) T100 (.pure pu)
namespace H_c_FEvalC
theorem zSm {p q : Prop} (k : q) (e : p = q := by simp only [e1, e2, e3, e4, p1, p2, p3, q1, q2, q3, l1, t0, t1, r1, r2, r3, r4, Nat.zero_add, Nat.reduceMul, Nat.reduceAdd, b1, b2, b3, b4, b5, b6, i1, i2, i3, i4, i5, i6, Nat.reduceBEq, List.set_cons_zero, List.set_cons_succ, Nat.reduceEqDiff, reduceIte, if_true, if_false, ptL_kill, poL_kill, kills_map ptE, kills_map poE, kills_map ratE, ratL_kill, spL_kill, LV.kill, kills]; exact rfl) : p := e.mpr k
end H_c_FEvalC
open H_c_FEvalC in
theorem c_FEvalC (d : Nat) (T t : Rat) (po : List PoR) (h : cvF po d) (hd : d ≤ 6) (hT : rl T ≤ 1) (hT1 : rl (T + 1) ≤ 1) (ht : rl t ≤ 1000) (h1 : T ≤ t) (h2 : t ≤ T + 1) : CallP Tryz.prog 27 [.agg [nI64 d, .list 3 ((kn0 d T).map ratL), .list 12 (po.map poL)], ratL t] (.tup [ptL (evV po (t - T)), iL 0]) := by
  have hn := nf_rl (T := T) (t := t) hd (by omega) (by omega) ht
  have hb := hm_bd (T := T) (t := t) h hn (d + 1) (Nat.le_refl _)
  have he := hm_ev (T := T) (t := t) h
  have hD : CallP Tryz.prog 121 [.agg [ratL (hmS d T t po 0 (d + 1)), ratL (hmS d T t po 1 (d + 1)), ratL (hmS d T t po 2 (d + 1)), ratL (hmS d T t po 3 (d + 1))]] (poL ⟨evV po (t - T), evP (wtP po) (t - T)⟩) := by
    have := c_FDrop _ _ _ _ 5000000 (by decide) (hb 0) (hb 1) (hb 2) (hb 3)
    rw [he.1 0 (by decide), he.1 1 (by decide), he.1 2 (by decide), he.2] at this ⊢
    exact this
  have hcp4 : LV.pure (.agg [ratL (hmS d T t po 0 (d + 1)), ratL (hmS d T t po 1 (d + 1)), ratL (hmS d T t po 2 (d + 1)), ratL (hmS d T t po 3 (d + 1))]) = true := by simp [LV.pure, pures, ratE.pure]
  have hcp : LV.pure (.agg [nI64 d, .list 3 ((kn0 d T).map ratL), .list 12 (po.map poL)]) = true := by simp [LV.pure, pures, pures_map ratE, pures_map poE]
  refine fnP Tryz.func27 (ht := (tame2 (ptE.pure _) rfl)) ?_
  refine zg16 ?_
  refine cp am3 (c_FIvl d T t hd hT hT1 ht h1 h2) ?_
  refine zg13 ?_
  refine wl_if rfl (fun h18r h18 => ?_) (fun h18r h18 => ?_)
  · first | exact h18.elim | cases h18r
  · refine zg6 ?_
    refine cp am2 (c_FHom d T t po h hd hT hT1 ht h1 h2) ?_
    refine cp am1 (hD) ?_
    refine zg6 ?_
    exact retCT [] rfl rfl rfl cs (at_all cs rfl) T31 (.pure pu) rfl (.pure rfl)
end Go.Proofs.YtgfbghoihhnahaaGreat
end
section
set_option linter.unusedVariables false
set_option linter.unusedSimpArgs false
set_option maxHeartbeats 8000000
set_option maxRecDepth 100000
attribute [local irreducible] Go.Lg.opsL Go.Lg.wpL Go.Lg.thenL Go.Lg.blockL
namespace Go.Proofs.YtgfbghoihhnahaaGreat
open Go.Lg
theorem fE_rl {a b : Rat} : ∀ (n : Nat) (c : Nat → Rat) (R : Nat), (∀ i, rl (c i) ≤ R) → rl (fE a b n c) ≤ (R + (rl a + rl b + 1)) * 2 ^ n
  | 0, c, R, h => by
    have := h 0
    show rl (c 0) ≤ _
    omega
  | n + 1, c, R, h => by
    have := fE_rl (a := a) (b := b) n (fun i => a * c i + b * c (i + 1)) (2 * R + (rl a + rl b + 1)) (fun i => by
      have h0 := h i
      have h1 := h (i + 1)
      have m0 := rl_mul a (c i)
      have m1 := rl_mul b (c (i + 1))
      have s0 := rl_add (a * c i) (b * c (i + 1))
      omega)
    rw [fE]
    refine Nat.le_trans this ?_
    rw [Nat.pow_succ, Nat.mul_comm (2 ^ n) 2, ← Nat.mul_assoc]
    exact Nat.mul_le_mul_right _ (by omega)
theorem ev_rl {p : List Rat} {t : Rat} {R : Nat} (hl : 0 < p.length) (hR : 1 ≤ R) (h : ∀ x ∈ p, rl x ≤ R) : rl (evP p t) ≤ (R + (rl (1 - t) + rl t + 1)) * 2 ^ (p.length - 1) := by
  rw [ev_fE hl]
  exact fE_rl _ _ R (fun i => getD_rl hR h i)
theorem wi_in (T : Rat) (n : Int) : T ≤ T + ptV n ∧ T + ptV n ≤ T + 1 := by
  have := ptV_in n
  constructor <;> grind
theorem fz0 (bs : List Nat) : frzH bs [] = [] := rfl
end Go.Proofs.YtgfbghoihhnahaaGreat
end
section
set_option linter.unusedVariables false
set_option linter.unusedSimpArgs false
set_option maxHeartbeats 8000000
set_option maxRecDepth 100000
attribute [local irreducible] Go.Lg.opsL Go.Lg.wpL Go.Lg.thenL Go.Lg.blockL
namespace Go.Proofs.YtgfbghoihhnahaaGreat
open Go.Lg
/-- one step of a polynomial at t -/
def sS (t : Rat) (f : Nat → Rat) : Nat → Rat := fun i => (1 - t) * f i + t * f (i + 1)
def sI (t : Rat) : Nat → (Nat → Rat) → (Nat → Rat)
  | 0, f => f
  | n + 1, f => sI t n (sS t f)
theorem sS_comm (s t : Rat) (f : Nat → Rat) : sS s (sS t f) = sS t (sS s f) := by
  funext i; unfold sS; grind
theorem sI_S (t s : Rat) : ∀ (n : Nat) (f : Nat → Rat), sI t n (sS s f) = sS s (sI t n f)
  | 0, f => rfl
  | n + 1, f => by rw [sI, sI, sS_comm, sI_S t s n]
theorem sI_succ (t : Rat) (n : Nat) (f : Nat → Rat) : sI t (n + 1) f = sS t (sI t n f) := by rw [sI, sI_S]
theorem sI_lin (t c d : Rat) : ∀ (n : Nat) (f g : Nat → Rat), sI t n (fun i => c * f i + d * g i) = fun i => c * sI t n f i + d * sI t n g i
  | 0, f, g => rfl
  | n + 1, f, g => by
    rw [sI, sI, sI, ← sI_lin t c d n]
    congr 1; funext i; unfold sS; grind
theorem sI_fE (t : Rat) : ∀ (n : Nat) (f : Nat → Rat) (i : Nat), sI t n f i = fE (1 - t) t n (fun m => f (i + m))
  | 0, f, i => rfl
  | n + 1, f, i => by rw [sI, sI_fE t n, fE]; rfl
theorem sI_congr {t : Rat} (n : Nat) {f g : Nat → Rat} (i : Nat) (h : ∀ m, m ≤ n → f (i + m) = g (i + m)) : sI t n f i = sI t n g i := by
  rw [sI_fE, sI_fE]; exact fE_congr _ _ _ _ _ h
/-- a step of the step at two parameters is the step at the one between them -/
theorem sS_mix (a b x : Rat) (f : Nat → Rat) (i : Nat) : (1 - x) * sS a f i + x * sS b f i = sS (a + x * (b - a)) f i := by unfold sS; grind
/-- the coefficient j of the part between a and b -/
def pcV (a b : Rat) (n : Nat) (f : Nat → Rat) (j : Nat) : Rat := sI a (n - j) (sI b j f) 0
theorem pc_S (a b x : Rat) {n j : Nat} (f : Nat → Rat) (h : j + 1 ≤ n) : (1 - x) * pcV a b n f j + x * pcV a b n f (j + 1) = pcV a b (n - 1) (sS (a + x * (b - a)) f) j := by
  unfold pcV
  obtain ⟨m, rfl⟩ : ∃ m, n = j + 1 + m := ⟨n - (j + 1), by omega⟩
  rw [show j + 1 + m - j = m + 1 by omega, show j + 1 + m - (j + 1) = m by omega, show j + 1 + m - 1 - j = m by omega]
  rw [sI, ← sI_S b a, sI]
  have e := sI_lin a (1 - x) x m (sI b j (sS a f)) (sI b j (sS b f))
  have e2 := sI_lin b (1 - x) x j (sS a f) (sS b f)
  rw [← e2] at e
  have e3 : (fun i => (1 - x) * sS a f i + x * sS b f i) = sS (a + x * (b - a)) f := by funext i; exact sS_mix a b x f i
  rw [e3] at e
  exact (congrFun e 0).symm
theorem pc_I (a b x : Rat) {n : Nat} : ∀ (k : Nat) (f : Nat → Rat) (j : Nat), j + k ≤ n → sI x k (pcV a b n f) j = pcV a b (n - k) (sI (a + x * (b - a)) k f) j
  | 0, f, j, h => rfl
  | k + 1, f, j, h => by
    rw [sI_succ]
    unfold sS
    rw [pc_I a b x k f j (by omega), pc_I a b x k f (j + 1) (by omega), pc_S _ _ _ _ (by omega), ← sI_succ, Nat.sub_sub]
/-- the value of a part -/
theorem pc_ev (a b x : Rat) (n : Nat) (f : Nat → Rat) : sI x n (pcV a b n f) 0 = sI (a + x * (b - a)) n f 0 := by
  rw [pc_I _ _ _ _ _ _ (by omega), Nat.sub_self]; rfl
/-- a part of a part -/
theorem pc_pc (a b x y : Rat) {n j : Nat} (f : Nat → Rat) (h : j ≤ n) : pcV x y n (pcV a b n f) j = pcV (a + x * (b - a)) (a + y * (b - a)) n f j := by
  show sI x (n - j) (sI y j (pcV a b n f)) 0 = sI (a + x * (b - a)) (n - j) (sI (a + y * (b - a)) j f) 0
  rw [sI_congr (n - j) (g := pcV a b (n - j) (sI (a + y * (b - a)) j f)) 0 (fun m hm => pc_I a b y j f (0 + m) (by omega)), pc_ev]
theorem pc_congr {a b : Rat} {n j : Nat} {f g : Nat → Rat} (hj : j ≤ n) (h : ∀ i, i ≤ n → f i = g i) : pcV a b n f j = pcV a b n g j := by
  unfold pcV
  refine sI_congr _ _ fun m hm => ?_
  exact sI_congr _ _ fun m2 hm2 => h _ (by omega)
/-- the part that the document and the program cut out -/
theorem part_pc {p : List Rat} {a b : Rat} (ha : a ≠ 1) {j : Nat} (hj : j < p.length) : (partF p a b).getD j 0 = pcV a b (p.length - 1) (fun i => p.getD i 0) j := by
  have hne : (1 : Rat) - a ≠ 0 := by grind
  have hq : (b - a) / (1 - a) * (1 - a) = b - a := Rat.div_mul_cancel hne
  unfold partF
  rw [if_neg ha, lo_get (by rw [hiP_len]; exact hj)]
  generalize (b - a) / (1 - a) = s at hq
  -- the steps from the upper part's coefficients
  have key : ∀ (k : Nat) (i : Nat), i + k ≤ p.length - 1 → sI s k (fun i => (hiP p a).getD i 0) i = sI a (p.length - 1 - i - k) (sI b k (fun m => p.getD (i + m) 0)) 0 := by
    intro k
    induction k with
    | zero =>
      intro i hi
      show (hiP p a).getD i 0 = _
      rw [hi_get (by omega), sI_fE, Nat.sub_zero]
      exact fE_congr _ _ _ _ _ fun m _ => by rw [Nat.zero_add]; rfl
    | succ k ih =>
      intro i hi
      rw [sI_succ]
      unfold sS
      rw [ih i (by omega), ih (i + 1) (by omega)]
      obtain ⟨m, hm⟩ : ∃ m, p.length - 1 - i - k = m + 1 := ⟨p.length - 1 - i - k - 1, by omega⟩
      rw [hm, show p.length - 1 - (i + 1) - k = m by omega, show p.length - 1 - i - (k + 1) = m by omega, sI]
      have hsh : (fun m => p.getD (i + 1 + m) 0) = fun m => (fun m => p.getD (i + m) 0) (m + 1) := by funext m; simp only; congr 1; omega
      rw [hsh]
      generalize (fun m => p.getD (i + m) 0) = f
      rw [← sI_S]
      have e := sI_lin a (1 - s) s m (sI b k (sS a f)) (sI b k (fun m => f (m + 1)))
      have e2 := sI_lin b (1 - s) s k (sS a f) (fun m => f (m + 1))
      rw [← e2] at e
      have e3 : (fun i => (1 - s) * sS a f i + s * f (i + 1)) = sS b f := by
        funext i; unfold sS
        have h1 : (1 - s) * (1 - a) = 1 - b := by grind
        have h2 : (1 - s) * a + s = b := by grind
        rw [← h1, ← h2]; grind
      rw [e3] at e
      exact (congrFun e 0).symm
  have := key j 0 (by omega)
  rw [sI_fE] at this
  simp only [Nat.zero_add, Nat.sub_zero] at this
  rw [this]; rfl
/-- poles of a size -/
structure cvR (po : List PoR) (d R : Nat) : Prop where
  hl : po.length = d + 1
  hd : 1 ≤ d
  h6 : d ≤ 6
  ok : ∀ q ∈ po, okP R q
theorem cvF.r {po : List PoR} {d : Nat} (h : cvF po d) : cvR po d 1 := ⟨h.hl, h.hd, h.h6, h.ok⟩
/-- the poles of the part between two own parameters -/
def cpQ (po : List PoR) (x y : Rat) (j : Nat) : PoR :=
  ⟨⟨(partF (nmP po 0) x y).getD j 0 / (partF (wtP po) x y).getD j 0, (partF (nmP po 1) x y).getD j 0 / (partF (wtP po) x y).getD j 0, (partF (nmP po 2) x y).getD j 0 / (partF (wtP po) x y).getD j 0⟩, (partF (wtP po) x y).getD j 0⟩
def cutP (po : List PoR) (x y : Rat) : List PoR := (List.range po.length).map (cpQ po x y)
theorem cutP_len (po : List PoR) (x y : Rat) : (cutP po x y).length = po.length := by simp [cutP]
theorem cutP_get {po : List PoR} {x y : Rat} {j : Nat} (h : j < po.length) : (cutP po x y).getD j default = cpQ po x y j := by
  unfold cutP; rw [List.getD_eq_getElem?_getD, List.getElem?_eq_getElem (by simpa using h)]; simp
theorem partF_len (p : List Rat) (a b : Rat) : (partF p a b).length = p.length := by rw [← part_eq, partB_len]
theorem fE_pos {a b : Rat} (ha : 0 ≤ a) (hb : 0 ≤ b) (hab : 0 < a + b) : ∀ (n : Nat) (f : Nat → Rat), (∀ i, i ≤ n → 0 < f i) → 0 < fE a b n f
  | 0, f, h => h 0 (Nat.le_refl _)
  | n + 1, f, h => by
    rw [fE]
    refine fE_pos ha hb hab n _ fun i hi => ?_
    have a1 := h i (by omega)
    have a2 := h (i + 1) (by omega)
    have b1 := Rat.mul_nonneg ha (Rat.le_of_lt a1)
    have b2 := Rat.mul_nonneg hb (Rat.le_of_lt a2)
    rcases Rat.le_iff_lt_or_eq.1 ha with h0 | h0
    · have := Rat.mul_pos h0 a1; grind
    · have := Rat.mul_pos (show 0 < b by grind) a2; grind
theorem pc_nn {a b : Rat} (ha : 0 ≤ a) (ha1 : a ≤ 1) (hb : 0 ≤ b) (hb1 : b ≤ 1) {n j : Nat} {f : Nat → Rat} (hj : j ≤ n) (h : ∀ i, i ≤ n → 0 ≤ f i) : 0 ≤ pcV a b n f j := by
  unfold pcV
  rw [sI_fE]
  refine fE_nn (by grind) ha _ _ fun m hm => ?_
  rw [sI_fE]
  exact fE_nn (by grind) hb _ _ fun m2 hm2 => h _ (by omega)
theorem pc_pos {a b : Rat} (ha : 0 ≤ a) (ha1 : a ≤ 1) (hb : 0 ≤ b) (hb1 : b ≤ 1) {n j : Nat} {f : Nat → Rat} (hj : j ≤ n) (h : ∀ i, i ≤ n → 0 < f i) : 0 < pcV a b n f j := by
  unfold pcV
  rw [sI_fE]
  refine fE_pos (by grind) ha (by grind) _ _ fun m hm => ?_
  rw [sI_fE]
  exact fE_pos (by grind) hb (by grind) _ _ fun m2 hm2 => h _ (by omega)
theorem pc_lin (a b c e : Rat) (n : Nat) (f g : Nat → Rat) (j : Nat) : pcV a b n (fun i => c * f i + e * g i) j = c * pcV a b n f j + e * pcV a b n g j := by
  unfold pcV
  rw [sI_lin, sI_lin]
theorem pc_rl {a b : Rat} {R S : Nat} (ha : rl (1 - a) + rl a + 1 ≤ S) (hb : rl (1 - b) + rl b + 1 ≤ S) {n j : Nat} (hn : n ≤ 6) (hj : j ≤ n) {f : Nat → Rat} (h : ∀ i, rl (f i) ≤ R) : rl (pcV a b n f j) ≤ ((R + S) * 64 + S) * 64 := by
  unfold pcV
  have hp : ∀ k, k ≤ 6 → 2 ^ k ≤ 64 := fun k hk => Nat.pow_le_pow_right (n := 2) (by decide) hk
  have h1 : ∀ m, rl (sI b j f m) ≤ (R + S) * 64 := fun m => by
    rw [sI_fE]
    have := fE_rl (a := 1 - b) (b := b) j (fun i => f (m + i)) R (fun i => h _)
    refine Nat.le_trans this (Nat.mul_le_mul (by omega) (hp j (by omega)))
  rw [sI_fE]
  have := fE_rl (a := 1 - a) (b := a) (n - j) (fun i => sI b j f (0 + i)) ((R + S) * 64) (fun i => h1 _)
  exact Nat.le_trans this (Nat.mul_le_mul (by omega) (hp (n - j) (by omega)))
section
variable {po : List PoR} {d R : Nat} (h : cvR po d R) {x y : Rat} (hx0 : 0 ≤ x) (hx1 : x < 1) (hy0 : 0 ≤ y) (hy1 : y ≤ 1)
include h
theorem cR_nl (k : Nat) : (nmP po k).length = d + 1 := by rw [nmP_len, h.hl]
theorem cR_wl : (wtP po).length = d + 1 := by rw [wtP_len, h.hl]
theorem cR_w {i : Nat} (hi : i ≤ d) : 0 < (wtP po).getD i 0 := by
  have hl := h.hl
  rw [wt_get (by omega)]
  exact (h.ok _ (getD_memP (by omega))).2.2
/-- the homogeneous functions of a part are the parts of the homogeneous functions -/
theorem cut_wt : wtP (cutP po x y) = partF (wtP po) x y := by
  have hl := h.hl
  have hw := cR_wl h
  refine List.ext_getElem (by rw [wtP_len, cutP_len, partF_len, wtP_len]) fun j h1 h2 => ?_
  rw [wtP_len, cutP_len] at h1
  have e1 := wt_get (po := cutP po x y) (i := j) (by rw [cutP_len]; exact h1)
  rw [cutP_get h1] at e1
  rw [List.getD_eq_getElem?_getD, List.getElem?_eq_getElem (by rw [wtP_len, cutP_len]; exact h1)] at e1
  have e2 : (cpQ po x y j).w = (partF (wtP po) x y).getD j 0 := rfl
  rw [e2, List.getD_eq_getElem?_getD, List.getElem?_eq_getElem h2] at e1
  exact e1
include hx1
theorem cut_w {j : Nat} (hj : j ≤ d) : (partF (wtP po) x y).getD j 0 = pcV x y d (fun i => (wtP po).getD i 0) j := by
  have hw := cR_wl h
  rw [part_pc (by grind) (by omega), hw, Nat.add_sub_cancel]
theorem cut_n (k : Nat) {j : Nat} (hj : j ≤ d) : (partF (nmP po k) x y).getD j 0 = pcV x y d (fun i => (nmP po k).getD i 0) j := by
  have hw := cR_nl h k
  rw [part_pc (by grind) (by omega), hw, Nat.add_sub_cancel]
include hx0 hy0 hy1
theorem cut_pos {j : Nat} (hj : j ≤ d) : 0 < (partF (wtP po) x y).getD j 0 := by
  rw [cut_w h hx1 hj]
  exact pc_pos hx0 (Rat.le_of_lt hx1) hy0 hy1 hj fun i hi => cR_w h hi
theorem cut_nm (k : Nat) (hk : k < 3) : nmP (cutP po x y) k = partF (nmP po k) x y := by
  have hl := h.hl
  refine List.ext_getElem (by rw [nmP_len, cutP_len, partF_len, nmP_len]) fun j h1 h2 => ?_
  rw [nmP_len, cutP_len] at h1
  have e1 := nm_get (po := cutP po x y) (k := k) (i := j) (by rw [cutP_len]; exact h1)
  rw [cutP_get h1] at e1
  rw [List.getD_eq_getElem?_getD, List.getElem?_eq_getElem (by rw [nmP_len, cutP_len]; exact h1)] at e1
  have hp := cut_pos h hx0 hx1 hy0 hy1 (j := j) (by omega)
  have e2 : (cpQ po x y j).w * (cpQ po x y j).p.at k = (partF (nmP po k) x y).getD j 0 := by
    have hne : (partF (wtP po) x y).getD j 0 ≠ 0 := by grind
    have hm : ∀ q : Rat, (partF (wtP po) x y).getD j 0 * (q / (partF (wtP po) x y).getD j 0) = q := fun q => by rw [Rat.mul_comm]; exact Rat.div_mul_cancel hne
    match k, hk with
    | 0, _ => exact hm _
    | 1, _ => exact hm _
    | 2, _ => exact hm _
  rw [e2, List.getD_eq_getElem?_getD, List.getElem?_eq_getElem h2] at e1
  exact e1
/-- a point of a part -/
theorem cut_ev (s : Rat) : evV (cutP po x y) s = evV po (x + s * (y - x)) := by
  have hl := h.hl
  have hw := cR_wl h
  have ew : evP (partF (wtP po) x y) s = evP (wtP po) (x + s * (y - x)) := by
    have := pc_ev x y s d (fun i => (wtP po).getD i 0)
    rw [sI_fE, sI_fE] at this
    rw [ev_fE (by rw [partF_len]; omega), ev_fE (by omega), partF_len, hw, Nat.add_sub_cancel]
    simp only [Nat.zero_add] at this
    rw [← this]
    exact fE_congr _ _ _ _ _ fun i hi => cut_w h hx1 (by omega)
  have en : ∀ k, evP (partF (nmP po k) x y) s = evP (nmP po k) (x + s * (y - x)) := fun k => by
    have hn := cR_nl h k
    have := pc_ev x y s d (fun i => (nmP po k).getD i 0)
    rw [sI_fE, sI_fE] at this
    rw [ev_fE (by rw [partF_len]; omega), ev_fE (by omega), partF_len, hn, Nat.add_sub_cancel]
    simp only [Nat.zero_add] at this
    rw [← this]
    exact fE_congr _ _ _ _ _ fun i hi => cut_n h hx1 k (by omega)
  unfold evV
  rw [cut_wt h, cut_nm h hx0 hx1 hy0 hy1 0 (by decide), cut_nm h hx0 hx1 hy0 hy1 1 (by decide), cut_nm h hx0 hx1 hy0 hy1 2 (by decide), ew, en, en, en]
/-- the poles of a part lie in every box of the poles -/
theorem cut_in {k : Nat} (hk : k < 3) {lo hi : Rat} (hb : ∀ q ∈ po, lo ≤ q.p.at k ∧ q.p.at k ≤ hi) {j : Nat} (hj : j ≤ d) : lo ≤ (cpQ po x y j).p.at k ∧ (cpQ po x y j).p.at k ≤ hi := by
  have hl := h.hl
  have hp := cut_pos h hx0 hx1 hy0 hy1 hj
  have ek : (cpQ po x y j).p.at k = (partF (nmP po k) x y).getD j 0 / (partF (wtP po) x y).getD j 0 := by
    match k, hk with
    | 0, _ => rfl
    | 1, _ => rfl
    | 2, _ => rfl
  have g : ∀ c e : Rat, (∀ q ∈ po, 0 ≤ c * q.w + e * (q.w * q.p.at k)) → 0 ≤ c * (partF (wtP po) x y).getD j 0 + e * (partF (nmP po k) x y).getD j 0 := fun c e hq => by
    rw [cut_w h hx1 hj, cut_n h hx1 k hj, ← pc_lin]
    refine pc_nn hx0 (Rat.le_of_lt hx1) hy0 hy1 hj fun i hi => ?_
    have := hq _ (getD_memP (po := po) (j := i) (by omega))
    rw [nm_get (by omega), wt_get (by omega)]
    exact this
  have k1 := g hi (-1) (fun q hq => by
    have := Rat.mul_nonneg (Rat.le_of_lt (h.ok q hq).2.2) (show 0 ≤ hi - q.p.at k by have := (hb q hq).2; grind)
    grind)
  have k2 := g (-lo) 1 (fun q hq => by
    have := Rat.mul_nonneg (Rat.le_of_lt (h.ok q hq).2.2) (show 0 ≤ q.p.at k - lo by have := (hb q hq).1; grind)
    grind)
  rw [ek]
  have hi1 := (inv_mono hp Rat.le_refl).1
  have hne : (partF (wtP po) x y).getD j 0 ≠ 0 := by grind
  have hr : 1 / (partF (wtP po) x y).getD j 0 * (partF (wtP po) x y).getD j 0 = 1 := Rat.div_mul_cancel hne
  have ed : (partF (nmP po k) x y).getD j 0 / (partF (wtP po) x y).getD j 0 = 1 / (partF (wtP po) x y).getD j 0 * (partF (nmP po k) x y).getD j 0 := by rw [div_inv1 hr, Rat.mul_comm]
  rw [ed]
  have m1 := Rat.mul_nonneg (Rat.le_of_lt hi1) k1
  have m2 := Rat.mul_nonneg (Rat.le_of_lt hi1) k2
  generalize 1 / (partF (wtP po) x y).getD j 0 = r at *
  generalize (partF (wtP po) x y).getD j 0 = w at *
  generalize (partF (nmP po k) x y).getD j 0 = n at *
  clear g hb ed ek
  have q1 : r * (hi * w + -1 * n) = hi * (r * w) - r * n := by grind
  have q2 : r * (-lo * w + 1 * n) = r * n - lo * (r * w) := by grind
  rw [q1, hr] at m1
  rw [q2, hr] at m2
  constructor <;> grind
end
/-- how long the numbers of a part are -/
theorem cut_ok {po : List PoR} {d R : Nat} (h : cvR po d R) {x y : Rat} (hx0 : 0 ≤ x) (hx1 : x < 1) (hy0 : 0 ≤ y) (hy1 : y ≤ 1) {S : Nat} (hx : rl (1 - x) + rl x + 1 ≤ S) (hy : rl (1 - y) + rl y + 1 ≤ S) (hR : 1 ≤ R) : cvR (cutP po x y) d (2 * (((2 * R + S) * 64 + S) * 64)) := by
  have hl := h.hl
  have h6 := h.h6
  refine ⟨by rw [cutP_len, hl], h.hd, h.h6, fun q hq => ?_⟩
  obtain ⟨j, hj, rfl⟩ := List.mem_map.1 hq
  have hj : j < po.length := by simpa using hj
  have hw : rl ((partF (wtP po) x y).getD j 0) ≤ ((2 * R + S) * 64 + S) * 64 := by
    rw [cut_w h hx1 (by omega)]
    exact pc_rl hx hy h6 (by omega) fun i => getD_rl (by omega) (fun z hz => Nat.le_trans (wtP_rl h.ok z hz) (by omega)) i
  have hn : ∀ k, rl ((partF (nmP po k) x y).getD j 0) ≤ ((2 * R + S) * 64 + S) * 64 := fun k => by
    rw [cut_n h hx1 k (by omega)]
    exact pc_rl hx hy h6 (by omega) fun i => getD_rl (by omega) (nmP_rl h.ok k) i
  have hd : ∀ k, rl ((partF (nmP po k) x y).getD j 0 / (partF (wtP po) x y).getD j 0) ≤ 2 * (((2 * R + S) * 64 + S) * 64) := fun k => by
    have := rl_div ((partF (nmP po k) x y).getD j 0) ((partF (wtP po) x y).getD j 0)
    have := hn k
    omega
  refine ⟨⟨hd 0, hd 1, hd 2⟩, ?_, cut_pos h hx0 hx1 hy0 hy1 (by omega)⟩
  show rl ((partF (wtP po) x y).getD j 0) ≤ _
  omega
/-- a part of a part -/
theorem cut_cut {po : List PoR} {d R : Nat} (h : cvR po d R) {x y u v : Rat} (hx0 : 0 ≤ x) (hx1 : x < 1) (hy0 : 0 ≤ y) (hy1 : y ≤ 1) (hu : u < 1) (hz : x + u * (y - x) < 1) : cutP (cutP po x y) u v = cutP po (x + u * (y - x)) (x + v * (y - x)) := by
  have hl := h.hl
  have hw := cR_wl h
  have g1 : ∀ j, j ≤ d → (partF (partF (wtP po) x y) u v).getD j 0 = (partF (wtP po) (x + u * (y - x)) (x + v * (y - x))).getD j 0 := fun j hj => by
    rw [part_pc (by grind) (by rw [partF_len]; omega), partF_len, hw, Nat.add_sub_cancel, cut_w h hz hj, ← pc_pc _ _ _ _ _ hj]
    exact pc_congr hj fun i hi => cut_w h hx1 hi
  have g2 : ∀ k j, j ≤ d → (partF (partF (nmP po k) x y) u v).getD j 0 = (partF (nmP po k) (x + u * (y - x)) (x + v * (y - x))).getD j 0 := fun k j hj => by
    have hn := cR_nl h k
    rw [part_pc (by grind) (by rw [partF_len]; omega), partF_len, hn, Nat.add_sub_cancel, cut_n h hz k hj, ← pc_pc _ _ _ _ _ hj]
    exact pc_congr hj fun i hi => cut_n h hx1 k hi
  unfold cutP
  rw [show ((List.range po.length).map (cpQ po x y)).length = po.length by simp]
  refine List.map_congr_left fun j hj => ?_
  have hj : j ≤ d := by have := List.mem_range.1 hj; omega
  show cpQ (cutP po x y) u v j = _
  unfold cpQ
  rw [cut_wt h, cut_nm h hx0 hx1 hy0 hy1 0 (by decide), cut_nm h hx0 hx1 hy0 hy1 1 (by decide), cut_nm h hx0 hx1 hy0 hy1 2 (by decide), g1 j hj, g2 0 j hj, g2 1 j hj, g2 2 j hj]
end Go.Proofs.YtgfbghoihhnahaaGreat
end
section
set_option linter.unusedVariables false
set_option linter.unusedSimpArgs false
set_option maxHeartbeats 8000000
set_option maxRecDepth 100000
attribute [local irreducible] Go.Lg.opsL Go.Lg.wpL Go.Lg.thenL Go.Lg.blockL
namespace Go.Proofs.YtgfbghoihhnahaaGreat
open Go.Lg
namespace H_c_made11
theorem zSm {p q : Prop} (k : q) (e : p = q := by simp only [e1, e2, e3, e4, p1, p2, p3, q1, q2, q3, l1, t0, t1, r1, r2, r3, r4, Nat.zero_add, Nat.reduceMul, Nat.reduceAdd, b1, b2, b3, b4, b5, b6, i1, i2, i3, i4, i5, i6, Nat.reduceBEq, List.set_cons_zero, List.set_cons_succ, Nat.reduceEqDiff, reduceIte, if_true, if_false, ptL_kill, poL_kill, kills_map ptE, kills_map poE, kills_map ratE, ratL_kill, spL_kill, LV.kill, kills, dice_kill]; exact rfl) : p := e.mpr k
end H_c_made11
open H_c_made11 in
theorem c_made11 (l : List Int) (hl5 : l.length ≤ 500) : CallP Tryz.prog 32 [.list 1 (l.map i64L)] (.agg [nI64 (cD l 0 5), .list 3 ((kn0 (cD l 0 5) (cT l 0)).map ratL), .list 12 ((cP l 0 5).map poL)]) := by
  have hcp : LV.pure (.agg [nI64 (cD l 0 5), .list 3 ((kn0 (cD l 0 5) (cT l 0)).map ratL), .list 12 ((cP l 0 5).map poL)]) = true := by simp [LV.pure, pures, pures_map ratE, pures_map poE]
  refine fnP Tryz.func32 (ht := (fun g => LV.ren_pure g _ (by simp [LV.pure, pures, pures_map ratE, pures_map poE]))) ?_
  refine zg8 ?_
  refine st_call1 [] rfl rfl (.cons im0 .nil) (c_Roll l) (dice_pure l 0) rfl ?_
  refine st_callMp 1000065 rfl rfl rfl (dice_pure l _) (.cons .ptr (.cons (.imm (.pure rfl)) (.cons (.imm (.pure rfl)) (.cons (.imm (.pure rfl)) .nil)))) .ptr (c_DCurve l 0 hl5 5 (by decide) (by decide) (Nat.zero_le _)) rfl (dice_pure l _) hcp ?_
  refine zg4 ?_
  exact retC [] rfl rfl rfl cs (at_all cs rfl) T36 (.pure hcp)
end Go.Proofs.YtgfbghoihhnahaaGreat
end
section
set_option linter.unusedVariables false
set_option linter.unusedSimpArgs false
set_option maxHeartbeats 8000000
set_option maxRecDepth 100000
attribute [local irreducible] Go.Lg.opsL Go.Lg.wpL Go.Lg.thenL Go.Lg.blockL
namespace Go.Proofs.YtgfbghoihhnahaaGreat
open Go.Lg
section
variable {po : List PoR} {d : Nat} (h : cvF po d)
include h
end
theorem ev_b {p : List Rat} {x : Rat} (hl : 0 < p.length) (hl6 : p.length ≤ 6) (h : ∀ y ∈ p, rl y ≤ 8) (hx : rl x ≤ 100) : rl (evP p x) ≤ 7000 := by
  have hr1 : rl 1 = 1 := rfl
  have s1 := rl_sub 1 x
  have e := ev_rl (t := x) hl (by decide) h
  have hp : 2 ^ (p.length - 1) ≤ 32 := Nat.pow_le_pow_right (n := 2) (by decide) (show p.length - 1 ≤ 5 by omega)
  have : (8 + (rl (1 - x) + rl x + 1)) * 2 ^ (p.length - 1) ≤ 211 * 32 := Nat.mul_le_mul (by omega) hp
  omega
end Go.Proofs.YtgfbghoihhnahaaGreat
end
section
set_option linter.unusedVariables false
set_option linter.unusedSimpArgs false
set_option maxHeartbeats 8000000
set_option maxRecDepth 100000
attribute [local irreducible] Go.Lg.opsL Go.Lg.wpL Go.Lg.thenL Go.Lg.blockL
namespace Go.Proofs.YtgfbghoihhnahaaGreat
open Go.Lg
theorem hul_call {f : Nat} (hc : ∀ s t : Rat × Rat, rl s.1 + rl t.1 ≤ 34359738368 → rl s.2 + rl t.2 ≤ 34359738368 → CallP Tryz.prog f [spL s, spL t] (spL (hulP s t))) {l : List V3} {R : Nat} (hR : R ≤ 1000000) (hb : ∀ i, i < l.length → bd3 R (l.getD i default)) (k j : Nat) (hj : j + 1 < l.length) :
    CallP Tryz.prog f [spL (bxN l k j), spL ((l.getD (j + 1) default).at k, (l.getD (j + 1) default).at k)] (spL (bxN l k (j + 1))) := by
  have q := bxN_bd hb k j (by omega)
  have g := at_rl (hb (j + 1) hj) k
  have h1 : R + R ≤ 34359738368 := by omega
  exact hc _ _ (Nat.le_trans (Nat.add_le_add q.1 g) h1) (Nat.le_trans (Nat.add_le_add q.2 g) h1)
theorem bxcs : (LV.agg [.agg [ratL 0, ratL 0], .agg [ratL 0, ratL 0], .agg [ratL 0, ratL 0]]).csize = 18 := by simp [LV.csize, csizes, ratE.csize]
theorem bxcs2 (a b c : Rat × Rat) : (LV.agg [spL a, spL b, spL c]).csize = 18 := bxE.csize ⟨a, b, c⟩
theorem dr1 (l : List V3) (j : Nat) : (l.drop 1).getD j default = l.getD (j + 1) default := by
  rw [List.getD_eq_getElem?_getD, List.getD_eq_getElem?_getD, List.getElem?_drop, Nat.add_comm]
namespace H_c_VBoxOf
theorem zSm {p q : Prop} (k : q) (e : p = q := by simp only [e1, e2, e3, e4, p1, p2, p3, q1, q2, q3, l1, t0, t1, r1, r2, r3, r4, Nat.zero_add, Nat.reduceMul, Nat.reduceAdd, b1, b2, b3, b4, b5, b6, i1, i2, i3, i4, i5, i6, Nat.reduceBEq, bxcs, bxcs2, dr1, dfq, List.length_drop, List.length_map, List.set_cons_zero, List.set_cons_succ, Nat.reduceEqDiff, reduceIte, if_true, if_false, ptL_kill, poL_kill, kills_map ptE, kills_map poE, kills_map ratE, ratL_kill, spL_kill, LV.kill, kills]; exact rfl) : p := e.mpr k
end H_c_VBoxOf
open H_c_VBoxOf in
theorem c_VBoxOf (l : List V3) (h0 : 0 < l.length) (hl : l.length ≤ 1000) (R : Nat) (hR : R ≤ 1000000) (hb : ∀ i, i < l.length → bd3 R (l.getD i default)) : CallP Tryz.prog 148 [.list 9 (l.map ptL)] (.tup [bxL (bxP l), iL 0]) := by
  obtain ⟨z1, z2, z3⟩ := hb 0 h0
  refine fnP Tryz.func148 (ht := (tame2 (bxE.pure _) rfl)) ?_
  refine zg19 ?_
  refine wl_if rfl (fun h10r h10 => ?_) (fun h10r h10 => ?_)
  · omega
  · refine zg9 ?_
    refine wl_unroll ?_
    refine zg6 ?_
    refine wl_condX (b := _) rfl (by decide) ?_
    refine zg18 ?_
    refine cp am1 (c_SPoint (l.getD 0 default).x (by omega)) ?_
    refine zg7 ?_
    refine st_pure rfl (.sliceLl (a := 1) ptE rfl Tryz.underlying129 T31 rfl om) ?_
    refine zg5 ?_
    refine lp1 (fun (j : Nat) L => (((((((((St.mk L.slot (hp [(2, ⟨18, [.agg [.agg [ratL 0, ratL 0], .agg [ratL 0, ratL 0], .agg [ratL 0, ratL 0]]], true⟩), (4, ⟨18, [.agg [spL (bxN l 0 j), .agg [ratL 0, ratL 0], .agg [ratL 0, ratL 0]]], true⟩)])).put (some 0) (.list 9 (l.map ptL))).put (some 2) (.eptr 2 18 0 0)).put (some 4) (.eptr 4 18 0 0)).put (some 5) (iL 0)).put (some 12) (iL 0)).put (some 24) (.list 9 ((l.drop 1).map ptL))).put (some 25) (nI64 (l.length - 1))).put (some 26) (nI64 j))) (fun j => j ≤ l.length - 1) (fun j => l.length - 1 - j) 0 (Nat.zero_le _) ?_
    rintro j L2 hj
    refine zg6 ?_
    refine wl_if rfl (fun h27r h27 => ?_) (fun h27r h27 => ?_)
    · have hj2 : j < l.length - 1 := by omega
      obtain ⟨g1, g2, g3⟩ := hb (j + 1) (by omega)
      have hH0 : CallP Tryz.prog 208 [spL (bxN l 0 j), spL ((l.getD (j + 1) default).x, (l.getD (j + 1) default).x)] (spL (bxN l 0 (j + 1))) := hul_call (fun s t h1 h2 => c_SHull s t (by omega) (by omega)) hR hb 0 j (by omega)
      refine zg12 ?_
      refine wl_regD 10 (by decide +kernel) ?_
      refine zg7 ?_
      refine cp am1 (c_SPoint (l.getD (j + 1) default).x (by omega)) ?_
      refine cp am2 (hH0) ?_
      refine zg5 ?_
      refine wl_regW (Weak.kill _ 7) ?_
      refine st_pure rfl (.bin rfl rfl (add1N (by omega))) ?_
      refine zg3 ?_
      exact nx1 (j + 1) (by omega)
    · obtain rfl : j = l.length - 1 := by omega
      refine zg11 ?_
      refine wl_unroll ?_
      refine zg6 ?_
      refine wl_condX (b := _) rfl (by decide) ?_
      refine zg18 ?_
      refine cp am1 (c_SPoint (l.getD 0 default).y (by omega)) ?_
      refine zg7 ?_
      refine st_pure rfl (.sliceLl (a := 1) ptE rfl Tryz.underlying129 T31 rfl om) ?_
      refine zg5 ?_
      refine lp1 (fun (j : Nat) L => (((((((((St.mk L.slot (hp [(2, ⟨18, [.agg [.agg [ratL 0, ratL 0], .agg [ratL 0, ratL 0], .agg [ratL 0, ratL 0]]], true⟩), (4, ⟨18, [.agg [spL (bxN l 0 (l.length - 1)), spL (bxN l 1 j), .agg [ratL 0, ratL 0]]], true⟩)])).put (some 0) (.list 9 (l.map ptL))).put (some 2) (.eptr 2 18 0 0)).put (some 4) (.eptr 4 18 0 0)).put (some 5) (iL 1)).put (some 12) (iL 1)).put (some 24) (.list 9 ((l.drop 1).map ptL))).put (some 25) (nI64 (l.length - 1))).put (some 26) (nI64 j))) (fun j => j ≤ l.length - 1) (fun j => l.length - 1 - j) 0 (Nat.zero_le _) ?_
      rintro j L2 hj
      refine zg6 ?_
      refine wl_if rfl (fun h27r h27 => ?_) (fun h27r h27 => ?_)
      · have hj2 : j < l.length - 1 := by omega
        obtain ⟨g1, g2, g3⟩ := hb (j + 1) (by omega)
        have hH1 : CallP Tryz.prog 208 [spL (bxN l 1 j), spL ((l.getD (j + 1) default).y, (l.getD (j + 1) default).y)] (spL (bxN l 1 (j + 1))) := hul_call (fun s t h1 h2 => c_SHull s t (by omega) (by omega)) hR hb 1 j (by omega)
        refine zg12 ?_
        refine wl_regD 10 (by decide +kernel) ?_
        refine zg7 ?_
        refine cp am1 (c_SPoint (l.getD (j + 1) default).y (by omega)) ?_
        refine cp am2 (hH1) ?_
        refine zg5 ?_
        refine wl_regW (Weak.kill _ 7) ?_
        refine st_pure rfl (.bin rfl rfl (add1N (by omega))) ?_
        refine zg3 ?_
        exact nx1 (j + 1) (by omega)
      · obtain rfl : j = l.length - 1 := by omega
        refine zg11 ?_
        refine wl_unroll ?_
        refine zg6 ?_
        refine wl_condX (b := _) rfl (by decide) ?_
        refine zg18 ?_
        refine cp am1 (c_SPoint (l.getD 0 default).z (by omega)) ?_
        refine zg7 ?_
        refine st_pure rfl (.sliceLl (a := 1) ptE rfl Tryz.underlying129 T31 rfl om) ?_
        refine zg5 ?_
        refine lp1 (fun (j : Nat) L => (((((((((St.mk L.slot (hp [(2, ⟨18, [.agg [.agg [ratL 0, ratL 0], .agg [ratL 0, ratL 0], .agg [ratL 0, ratL 0]]], true⟩), (4, ⟨18, [.agg [spL (bxN l 0 (l.length - 1)), spL (bxN l 1 (l.length - 1)), spL (bxN l 2 j)]], true⟩)])).put (some 0) (.list 9 (l.map ptL))).put (some 2) (.eptr 2 18 0 0)).put (some 4) (.eptr 4 18 0 0)).put (some 5) (iL 2)).put (some 12) (iL 2)).put (some 24) (.list 9 ((l.drop 1).map ptL))).put (some 25) (nI64 (l.length - 1))).put (some 26) (nI64 j))) (fun j => j ≤ l.length - 1) (fun j => l.length - 1 - j) 0 (Nat.zero_le _) ?_
        rintro j L2 hj
        refine zg6 ?_
        refine wl_if rfl (fun h27r h27 => ?_) (fun h27r h27 => ?_)
        · have hj2 : j < l.length - 1 := by omega
          obtain ⟨g1, g2, g3⟩ := hb (j + 1) (by omega)
          have hH2 : CallP Tryz.prog 208 [spL (bxN l 2 j), spL ((l.getD (j + 1) default).z, (l.getD (j + 1) default).z)] (spL (bxN l 2 (j + 1))) := hul_call (fun s t h1 h2 => c_SHull s t (by omega) (by omega)) hR hb 2 j (by omega)
          refine zg12 ?_
          refine wl_regD 10 (by decide +kernel) ?_
          refine zg7 ?_
          refine cp am1 (c_SPoint (l.getD (j + 1) default).z (by omega)) ?_
          refine cp am2 (hH2) ?_
          refine zg5 ?_
          refine wl_regW (Weak.kill _ 7) ?_
          refine st_pure rfl (.bin rfl rfl (add1N (by omega))) ?_
          refine zg3 ?_
          exact nx1 (j + 1) (by omega)
        · obtain rfl : j = l.length - 1 := by omega
          refine zg11 ?_
          refine wl_unroll ?_
          refine zg6 ?_
          refine wl_condY (b := _) rfl (by decide) ?_
          refine zg13 ?_
          exact retCT [] rfl rfl rfl cs (at_all cs rfl) T69 (.pure pu) rfl (.pure rfl)
namespace H_c_Box
theorem zSm {p q : Prop} (k : q) (e : p = q := by simp only [e1, e2, e3, e4, p1, p2, p3, q1, q2, q3, l1, t0, t1, r1, r2, r3, r4, Nat.zero_add, Nat.reduceMul, Nat.reduceAdd, b1, b2, b3, b4, b5, b6, i1, i2, i3, i4, i5, i6, Nat.reduceBEq, List.set_cons_zero, List.set_cons_succ, Nat.reduceEqDiff, reduceIte, if_true, if_false, ptL_kill, poL_kill, kills_map ptE, kills_map poE, kills_map ratE, ratL_kill, spL_kill, LV.kill, kills]; exact rfl) : p := e.mpr k
end H_c_Box
open H_c_Box in
theorem c_Box (d : Nat) (kn : List Rat) (po : List PoR) (h : cvF po d) : CallP Tryz.prog 52 [.agg [nI64 d, .list 3 (kn.map ratL), .list 12 (po.map poL)]] (bxL (bxP (po.map (·.p)))) := by
  have hl := h.hl
  have hd := h.hd
  have h6 := h.h6
  have hpb : ∀ i, i < (po.map (·.p)).length → bd3 1 ((po.map (·.p)).getD i default) := fun i hi => ps_bd h.ok (by rw [List.length_map] at hi; exact hi)
  have hcp : LV.pure (.agg [nI64 d, .list 3 (kn.map ratL), .list 12 (po.map poL)]) = true := by simp [LV.pure, pures, pures_map ratE, pures_map poE]
  refine fnP Tryz.func52 (ht := (fun r => LV.ren_pure r _ (bxE.pure _))) ?_
  refine zg9 ?_
  refine cp am1 (c_points d kn po h) ?_
  refine cp am1 (c_VBoxOf (po.map (·.p)) (by rw [List.length_map]; omega) (by rw [List.length_map]; omega) 1 (by decide) hpb) ?_
  refine zg15 ?_
  exact retC [] rfl rfl rfl cs (at_all cs rfl) T69 (.pure pu)
theorem evV_bd2 {po : List PoR} {d : Nat} (h : cvF po d) (hd : d ≤ 5) {x : Rat} (hx : rl x ≤ 100) : bd3 15000 (evV po x) := by
  have hr1 : rl 1 = 1 := rfl
  have w1 := h.w
  have hd1 := h.hd
  have bw := ev_b (p := wtP po) (x := x) (by omega) (by omega) (fun y hy => Nat.le_trans (w1.2 y hy) (by decide)) hx
  have m1 := rl_div 1 (evP (wtP po) x)
  have g : ∀ k, rl (1 / evP (wtP po) x * evP (nmP po k) x) ≤ 15000 := fun k => by
    have u := h.n k
    have y := ev_b (p := nmP po k) (x := x) (by omega) (by omega) (fun y hy => Nat.le_trans (u.2 y hy) (by decide)) hx
    have m2 := rl_mul (1 / evP (wtP po) x) (evP (nmP po k) x)
    omega
  exact ⟨g 0, g 1, g 2⟩
end Go.Proofs.YtgfbghoihhnahaaGreat
end
