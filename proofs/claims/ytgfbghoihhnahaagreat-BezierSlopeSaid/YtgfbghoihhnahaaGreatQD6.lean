/- Texts K9, K13, K2, K10, K7, K6b, K11, K14, P2, P3, K17, K18, K15, K19 of this proof, joined. -/
import Derived.Test.YtgfbghoihhnahaaGreatQD5
set_option linter.unusedVariables false
set_option linter.unusedSimpArgs false
section
set_option linter.unusedVariables false
set_option linter.unusedSimpArgs false
set_option maxHeartbeats 8000000
set_option maxRecDepth 100000
attribute [local irreducible] Go.Lg.opsL Go.Lg.wpL Go.Lg.thenL Go.Lg.blockL
namespace Go.Proofs.YtgfbghoihhnahaaGreat
open Go.Lg
theorem lit6 {P : Program} {ρ : Operand → LV} {T E : TypeId} {x0 x1 x2 x3 x4 x5 : Operand} {d sz : Nat} {ag : Bool} {α : Type} {e : α → LV} {z a0 a1 a2 a3 a4 a5 : α} (he : EncOK e sz ag) (hT : P.underlying T = some (.slice E)) (hz : ZeroOK P E (e z)) (hE : TyIs P E sz ag)
    (h0 : ρ x0 = e a0) (h1 : ρ x1 = e a1) (h2 : ρ x2 = e a2) (h3 : ρ x3 = e a3) (h4 : ρ x4 = e a4) (h5 : ρ x5 = e a5) (hs0 : 0 < sz) (hs1 : sz ≤ 1000) :
    OpA P ρ d (.buildSlice T 6 #[(0, x0), (1, x1), (2, x2), (3, x3), (4, x4), (5, x5)]) (.ref d sz 0 6) ⟨sz, [a0, a1, a2, a3, a4, a5].map e, true⟩ := by
  have hne : ∀ (v : Operand) (a : α), ρ v = e a → lay (ρ v) = lay (e z) ∧ ρ v ≠ .any ∧ ∀ m, ρ v ≠ .tup m := by
    intro v a h
    rw [h]; exact ⟨by simp [lay, he.csize, he.isAgg], LV.pure_ne_any (he.pure _), LV.pure_ne_tup (he.pure _)⟩
  have := OpA.lit (P := P) (ρ := ρ) (d := d) (T := T) (n := 6) (ps := #[(0, x0), (1, x1), (2, x2), (3, x3), (4, x4), (5, x5)]) hT hz (by rw [he.isAgg]; exact hE) (he.csize z) (by omega) (by omega) hs0 (by
    intro p hp
    simp only [List.mem_cons, List.not_mem_nil, or_false] at hp
    rcases hp with rfl | rfl | rfl | rfl | rfl | rfl
    · exact ⟨by show 0 < 6; omega, hne x0 _ h0⟩
    · exact ⟨by show 1 < 6; omega, hne x1 _ h1⟩
    · exact ⟨by show 2 < 6; omega, hne x2 _ h2⟩
    · exact ⟨by show 3 < 6; omega, hne x3 _ h3⟩
    · exact ⟨by show 4 < 6; omega, hne x4 _ h4⟩
    · exact ⟨by show 5 < 6; omega, hne x5 _ h5⟩)
  simpa [buildL, h0, h1, h2, h3, h4, h5, List.replicate] using this
theorem map4 {α : Type} (e : α → LV) (l : List α) (a b c d : α) : l.map e ++ [e a, e b, e c, e d] = (l ++ [a, b, c, d]).map e := by simp
theorem dig_inj {a b : Nat} (h : dig a = dig b) : a = b := by rw [← val_dig a, h, val_dig]
section
variable {a b : Rat}
theorem rsm2 (h2 : decide (dig a.num.natAbs = dig b.num.natAbs) = false) : false = decide (a = b) := by
  symm; rw [decide_eq_false_iff_not]; rintro rfl; simp at h2
theorem rsm3 (h : (decide (a < 0) == decide (b < 0)) = true) (h2 : decide (dig a.num.natAbs = dig b.num.natAbs) = true) : decide (dig (denN a) = dig (denN b)) = decide (a = b) := by
  rw [decide_eq_decide, rat_ext']
  exact ⟨fun h3 => ⟨eq_of_beq h, dig_inj (of_decide_eq_true h2), dig_inj h3⟩, fun h3 => by rw [h3.2.2]⟩
end
/-- the number of binary digits of a numerator or denominator -/
def bitR (q : Rat) : Nat := max (blen q.num.natAbs) (blen q.den)
theorem bitR_le {q : Rat} {R : Nat} (h : rl q ≤ R) : bitR q ≤ 32 * R := by
  have h1 := rl_num q
  have h2 := rl_den q
  have e1 : blen q.num.natAbs ≤ 32 * R := by
    rw [blen_le, Nat.pow_mul]
    exact dig_length_ge (Nat.le_trans h1 h)
  have e2 : blen q.den ≤ 32 * R := by
    rw [blen_le, Nat.pow_mul]
    exact dig_length_ge (Nat.le_trans h2 h)
  unfold bitR; omega
/-- how often a number occurs ahead of a place -/
def tmN (k : List Rat) (t : Rat) : Nat → Nat
  | 0 => 0
  | i + 1 => tmN k t i + (if k.getD i 0 = t then 1 else 0)
theorem tmN_le (k : List Rat) (t : Rat) : ∀ i, tmN k t i ≤ i
  | 0 => Nat.le_refl _
  | i + 1 => by have := tmN_le k t i; rw [tmN]; split <;> omega
/-- each number once, of those ahead of a place -/
def dsN (k : List Rat) : Nat → List Rat
  | 0 => []
  | i + 1 => if i = 0 ∨ k.getD i 0 ≠ k.getD (i - 1) 0 then dsN k i ++ [k.getD i 0] else dsN k i
theorem dsN_le (k : List Rat) : ∀ i, (dsN k i).length ≤ i
  | 0 => Nat.le_refl _
  | i + 1 => by
    have := dsN_le k i
    rw [dsN]; split
    · simp; omega
    · omega
theorem dsN_mem (k : List Rat) : ∀ i, i ≤ k.length → ∀ x ∈ dsN k i, x ∈ k
  | 0, _, x, h => by cases h
  | i + 1, hi, x, h => by
    rw [dsN] at h
    split at h
    · rcases List.mem_append.1 h with h | h
      · exact dsN_mem k i (by omega) x h
      · rw [List.mem_singleton.1 h]; exact getD_mem (by omega)
    · exact dsN_mem k i (by omega) x h
/-- what a valid list of knots is -/
structure kOK (k : List Rat) (d : Nat) : Prop where
  d1 : 1 ≤ d
  d6 : d ≤ 6
  len : 2 * d + 2 ≤ k.length
  max : k.length ≤ d + 41
  srt : ∀ i, i + 1 < k.length → k.getD i 0 ≤ k.getD (i + 1) 0
  ne : k.getD 0 0 ≠ k.getD (k.length - 1) 0
  endk : ∀ t ∈ k, (t = k.getD 0 0 ∨ t = k.getD (k.length - 1) 0) → tmN k t k.length = d + 1
  ink : ∀ t ∈ k, t ≠ k.getD 0 0 → t ≠ k.getD (k.length - 1) 0 → tmN k t k.length ≤ d
  sz : ∀ x ∈ k, rl x ≤ 64
theorem ds_all {k : List Rat} : ∀ i, i ≤ k.length → (∀ j, 1 ≤ j → j < i → k.getD j 0 ≠ k.getD (j - 1) 0) → dsN k i = k.take i
  | 0, _, _ => rfl
  | i + 1, hi, h => by
    rw [dsN, ds_all i (by omega) (fun j h1 h2 => h j h1 (by omega)), if_pos (by
      by_cases e : i = 0
      · exact .inl e
      · exact .inr (h i (by omega) (by omega))), List.take_add_one, List.getD_eq_getElem?_getD, List.getElem?_eq_getElem (by omega)]; rfl
theorem ds_y {k : List Rat} {i : Nat} (h0 : 0 < i) (h : k.getD i 0 ≠ k.getD (i - 1) 0) : dsN k (i + 1) = dsN k i ++ [k.getD i 0] := by rw [dsN, if_pos (.inr h)]
theorem ds_n {k : List Rat} {i : Nat} (h0 : 0 < i) (h : k.getD i 0 = k.getD (i - 1) 0) : dsN k (i + 1) = dsN k i := by rw [dsN, if_neg (fun e => e.elim (fun e => by omega) (fun e => e h))]
theorem clr_eq {w : List Rat} {m n : Nat} (hm : m ≤ n) (hw : w.length = n) : (w.map ratL).take m ++ List.replicate (n - m) (ratL 0) ++ (w.map ratL).drop (m + (n - m)) = (w.take m ++ List.replicate (n - m) 0).map ratL := by
  rw [List.drop_of_length_le (by simp; omega)]
  simp [List.map_take]
theorem take_snocL {l : List Rat} {k : Nat} (h : k < l.length) : l.take k ++ [l.getD k 0] = l.take (k + 1) := by
  rw [List.take_add_one, List.getElem?_eq_getElem h, List.getD_eq_getElem?_getD, List.getElem?_eq_getElem h]; rfl
theorem imm_pre {α : Type} {e : α → LV} {ag : Bool} {bs : List Nat} {L : St} {b sz len : Nat} {l m : List α} {t : Bool} (he : EncOK e sz ag) (hb : L.heap b = some ⟨sz, (l ++ m).map e, t⟩) (hbs : bs.contains b = true) (hl : len = l.length) : Imm (L.frz bs).heap (.ref b sz 0 len) (.list sz (l.map e)) := by
  have := imm_ref (off := 0) (len := len) hb hbs (pures_map he _) (by simp; omega)
  subst hl
  rwa [List.drop_zero, ← List.map_take, List.take_left] at this
open H0 in
theorem c_RSame (a b : Rat) (h : rl a + rl b ≤ 1099511627776) : CallP Tryz.prog 271 [ratL a, ratL b] (bL (decide (a = b))) := by
  have a1 := rl_num a
  have a3 := rl_denN a
  have c1 := rl_num b
  have c3 := rl_denN b
  refine fnP Tryz.func271 ?_
  refine zg15 ?_
  refine op_if 10 rfl (fun h10r h10 => ?_) (fun h10r h10 => ?_)
  · refine zg4 ?_
    refine cp am2 (c_Equal _ _ (by omega) (by omega)) ?_
    refine zg2 ?_
    refine op_if 17 rfl (fun h17r h17 => ?_) (fun h17r h17 => ?_)
    · refine zg4 ?_
      refine cp am2 (c_Equal _ _ (by omega) (by omega)) ?_
      refine zg5 ?_
      rw [← rsm3 h10r h17r]
      exact ret1 rfl (by first | exact .pure rfl | exact .pure (limL_pure _) | exact .pure (magL_pure _) | exact .pure (ratE.pure _) | exact .pure (pure_lst u32E _ _) | exact .pure (pure_lst ratE _ _))
    · refine zg10 ?_
      rw [← rsm2 h17r]
      exact ret1 rfl (by first | exact .pure rfl | exact .pure (limL_pure _) | exact .pure (magL_pure _) | exact .pure (ratE.pure _) | exact .pure (pure_lst u32E _ _) | exact .pure (pure_lst ratE _ _))
  · refine zg17 ?_
    rw [← same1 h10r]
    exact ret1 rfl (by first | exact .pure rfl | exact .pure (limL_pure _) | exact .pure (magL_pure _) | exact .pure (ratE.pure _) | exact .pure (pure_lst u32E _ _) | exact .pure (pure_lst ratE _ _))
namespace H_c_RBits
theorem zSm {p q : Prop} (k : q) (e : p = q := by simp only [e1, e2, e3, e4, p1, p2, p3, q1, q2, q3, l1, t0, t1, r1, r2, r3, r4, Nat.zero_add, Nat.reduceMul, Nat.reduceAdd, b1, b2, b3, b4, b5, b6, i1, i2, i3, i4, i5, i6, Nat.reduceBEq, val_dig]; exact rfl) : p := e.mpr k
end H_c_RBits
open H_c_RBits in
theorem c_RBits (q : Rat) (h : rl q ≤ 1000000) : CallP Tryz.prog 249 [ratL q] (nI64 (bitR q)) := by
  have a1 := rl_num q
  have a2 := rl_den q
  have a3 := rl_denN q
  refine fnP Tryz.func249 ?_
  refine zg7 ?_
  refine wl_regD 8 (by decide +kernel) ?_
  refine zg2 ?_
  refine cp am1 (c_NBits _ (lim_dig _) (by omega)) ?_
  refine zg1 ?_
  refine cp am1 (c_den _) ?_
  refine cp am1 (c_NBits _ (lim_dig _) (by omega)) ?_
  refine zg5 ?_
  rw [bitR]
  refine ret1 ?_ (.pure rfl)
  simp only [e1, e2, e3, e4, p1, p2, p3, q1, q2, q3, Nat.reduceBEq, val_dig]
  congr 2
  omega
namespace H_c_CloneR
theorem zSm {p q : Prop} (k : q) (e : p = q := by simp only [e1, e2, e3, e4, p1, p2, p3, q1, q2, q3, l1, t0, t1, r1, r2, r3, r4, Nat.zero_add, Nat.reduceMul, Nat.reduceAdd, b1, b2, b3, b4, b5, b6, i1, i2, i3, i4, i5, i6, Nat.reduceBEq, List.take_zero, List.take_nil, List.nil_append, List.set_cons_zero, List.set_cons_succ, Nat.reduceEqDiff, reduceIte, if_true, if_false, ptL_kill, poL_kill, kills_map ptE, kills_map poE, kills_map ratE, ratL_kill, spL_kill, LV.kill, kills]; exact rfl) : p := e.mpr k
end H_c_CloneR
open H_c_CloneR in
theorem c_CloneR (l : List Rat) (h0 : 0 < l.length) (hl : l.length ≤ 1048576) : CallOK Tryz.prog 308 [.list 3 (l.map ratL)] (.ref 1 3 0 l.length) [⟨3, l.map ratL, true⟩] := by
  obtain ⟨x, r, rfl⟩ : ∃ x r, l = x :: r := by
    cases l with
    | nil => cases h0
    | cons x r => exact ⟨x, r, rfl⟩
  refine fnO Tryz.func308 ?_
  refine zg9 ?_
  refine st_pure rfl (.eqNL (v := ratL x) (l := r.map ratL) rfl rfl Tryz.underlying33) ?_
  refine zg2 ?_
  refine wl_if rfl (fun h4r h4 => ?_) (fun h4r h4 => ?_)
  · first | exact h4.elim | cases h4r
  · refine zg6 ?_
    refine st_store rfl (.app (news := (x :: r).map ratL) rfl rfl rfl rfl rfl (Nat.zero_le _) (.inr rfl) (by decide) Tryz.underlying33 Tryz.underlying33 Z29a T29 rfl B29 (.inr (.inl rfl)) (by rw [List.length_map]; omega) (by rw [List.length_map]; omega) (by decide)) ?_
    refine zg4 ?_
    refine ret1own (b := 7) (len := (x :: r).length) (blk := ⟨3, (x :: r).map ratL, true⟩) ?_ ?_ (pures_map ratE _)
    · exact cl
    · exact cl
namespace H_c_IsSorted
theorem zSm {p q : Prop} (k : q) (e : p = q := by simp only [e1, e2, e3, e4, p1, p2, p3, q1, q2, q3, l1, t0, t1, r1, r2, r3, r4, Nat.zero_add, Nat.reduceMul, Nat.reduceAdd, b1, b2, b3, b4, b5, b6, i1, i2, i3, i4, i5, i6, Nat.reduceBEq, dfq, eij, eii, List.set_cons_zero, List.set_cons_succ, Nat.reduceEqDiff, reduceIte, if_true, if_false, ptL_kill, poL_kill, kills_map ptE, kills_map poE, kills_map ratE, ratL_kill, spL_kill, LV.kill, kills]; exact rfl) : p := e.mpr k
end H_c_IsSorted
open H_c_IsSorted in
theorem c_IsSorted (f : Nat) (k : List Rat) (h0 : 0 < k.length) (hl : k.length ≤ 1048576) (hs : ∀ i, i + 1 < k.length → k.getD i 0 ≤ k.getD (i + 1) 0) (hf : ∀ x ∈ k, ∀ y ∈ k, CallP Tryz.prog f [ratL x, ratL y] (iL (cmpR x y))) : CallP Tryz.prog 311 [.list 3 (k.map ratL), .clo f []] (bL true) := by
  refine fnP Tryz.func311 ?_
  have eij : True := trivial
  have eii : True := trivial
  refine zg10 ?_
  refine st_pure rfl (.bin rfl rfl (sub1N (by omega) (by omega))) ?_
  refine zg4 ?_
  refine lp1 (fun (i : Nat) L => ((((St.mk L.slot (hp [])).put (some 0) (.list 3 (k.map ratL))).put (some 1) (.clo f [])).put (some 5) (nI64 i))) (fun i => i < k.length) (fun i => i) (k.length - 1) (by omega) ?_
  rintro i L1 hi
  refine zg7 ?_
  refine wl_if rfl (fun h10r h10 => ?_) (fun h10r h10 => ?_)
  · have hi2 : 0 < i := by omega
    have eij : ((i : Int) - 1).toNat = i - 1 := by omega
    have eii : ((i : Int)).toNat = i := by omega
    have hc := hf _ (getD_mem (p := k) (i := i) hi) _ (getD_mem (p := k) (i := i - 1) (by omega))
    have hge := hs (i - 1) (by omega)
    rw [Nat.sub_add_cancel (by omega)] at hge
    have hcg : 0 ≤ cmpR (k.getD i 0) (k.getD (i - 1) 0) := cmpR_ge.2 hge
    refine zg5 ?_
    refine wl_regD 12 (by decide +kernel) ?_
    refine zg7 ?_
    refine st_pure rfl (.bin rfl rfl (sub1N (by omega) (by omega))) ?_
    refine zg2 ?_
    refine st_opc [] rfl rfl (.clo (f := f) (cap := []) (args := [ratL (k.getD i 0), ratL (k.getD (i - 1) 0)]) rfl (.cons im0 (.cons im0 .nil)) ⟨rfl, fun _ h => by cases h⟩ hc.1 (by decide) (fun _ h => by cases h)) (hc.2 _) ?_
    refine zg3 ?_
    refine wl_if rfl (fun h24r h24 => ?_) (fun h24r h24 => ?_)
    · omega
    · refine zg5 ?_
      refine st_pure rfl (.bin rfl rfl (sub1N (by omega) (by omega))) ?_
      refine zg3 ?_
      exact nx1 (i - 1) (by omega)
  · refine zg11 ?_
    exact ret1 rfl (.pure rfl)
namespace H_c_KTimes
theorem zSm {p q : Prop} (k : q) (e : p = q := by simp only [e1, e2, e3, e4, p1, p2, p3, q1, q2, q3, l1, t0, t1, r1, r2, r3, r4, Nat.zero_add, Nat.reduceMul, Nat.reduceAdd, b1, b2, b3, b4, b5, b6, i1, i2, i3, i4, i5, i6, Nat.reduceBEq, dfq, List.set_cons_zero, List.set_cons_succ, Nat.reduceEqDiff, reduceIte, if_true, if_false, ptL_kill, poL_kill, kills_map ptE, kills_map poE, kills_map ratE, ratL_kill, spL_kill, LV.kill, kills]; exact rfl) : p := e.mpr k
end H_c_KTimes
open H_c_KTimes in
theorem c_KTimes (k : List Rat) (hl : k.length ≤ 1048576) (hr : ∀ x ∈ k, rl x ≤ 549755813888) (t : Rat) (ht : rl t ≤ 549755813888) : CallP Tryz.prog 313 [.list 3 (k.map ratL), ratL t] (nI64 (tmN k t k.length)) := by
  refine fnP Tryz.func313 ?_
  refine zg20 ?_
  refine lp1 (fun (i : Nat) L => ((((((St.mk L.slot (hp [(3, ⟨3, [ratL t], true⟩)])).put (some 3) (.eptr 3 3 0 0)).put (some 5) (nI64 (tmN k t i))).put (some 8) (.list 3 (k.map ratL))).put (some 9) (nI64 k.length)).put (some 10) (nI64 i))) (fun i => i ≤ k.length) (fun i => k.length - i) 0 (Nat.zero_le _) ?_
  rintro i L1 hi
  refine zg6 ?_
  refine wl_if rfl (fun h11r h11 => ?_) (fun h11r h11 => ?_)
  · have hi2 : i < k.length := by omega
    have hx := hr _ (getD_mem (i := i) (by omega))
    have htl := tmN_le k t i
    refine zg16 ?_
    refine cp am2 (c_RSame (k.getD i 0) t (by omega)) ?_
    refine zg2 ?_
    refine wl_if rfl (fun h16r h16 => ?_) (fun h16r h16 => ?_)
    · have hT : tmN k t (i + 1) = tmN k t i + 1 := by rw [tmN, if_pos h16]
      refine zg2 ?_
      refine st_pure rfl (.bin rfl rfl (add1N (by omega))) ?_
      refine zg4 ?_
      refine wl_regW (Weak.kill _ 7) ?_
      refine st_pure rfl (.bin rfl rfl (add1N (by omega))) ?_
      refine zg3 ?_
      exact nx1 (i + 1) (by omega)
    · have hT : tmN k t (i + 1) = tmN k t i := by rw [tmN, if_neg h16]; rfl
      refine zg3 ?_
      refine wl_regW (Weak.kill _ 7) ?_
      refine st_pure rfl (.bin rfl rfl (add1N (by omega))) ?_
      refine zg3 ?_
      exact nx1 (i + 1) (by omega)
  · obtain rfl : i = k.length := by omega
    refine zg12 ?_
    exact ret1 rfl (.pure rfl)
namespace H_c_Compact
theorem zSm {p q : Prop} (k : q) (e : p = q := by simp only [e1, e2, e3, e4, p1, p2, p3, q1, q2, q3, l1, t0, t1, r1, r2, r3, r4, Nat.zero_add, Nat.reduceMul, Nat.reduceAdd, b1, b2, b3, b4, b5, b6, i1, i2, i3, i4, i5, i6, Nat.reduceBEq, dfq, eij, eii, eik, eia, ecl, eyl, ewa, ewb, Nat.zero_add, Nat.add_zero, List.length_set, List.length_map, List.set_cons_zero, List.set_cons_succ, Nat.reduceEqDiff, reduceIte, if_true, if_false, ptL_kill, poL_kill, kills_map ptE, kills_map poE, kills_map ratE, ratL_kill, spL_kill, LV.kill, kills]; exact rfl) : p := e.mpr k
end H_c_Compact
open H_c_Compact in
theorem c_Compact (f : Nat) (l : List Rat) (h0 : 0 < l.length) (hl : l.length ≤ 1048576) (hf : ∀ x ∈ l, ∀ y ∈ l, CallP Tryz.prog f [ratL x, ratL y] (bL (decide (x = y)))) : CallOKM Tryz.prog 341 ⟨3, l.map ratL, true⟩ [.ref 0 3 0 l.length, .clo f []] (.ref 0 3 0 (dsN l l.length).length) ⟨3, ((dsN l l.length) ++ List.replicate (l.length - (dsN l l.length).length) 0).map ratL, true⟩ := by
  refine fnM Tryz.func341 ?_
  have eij : True := trivial
  have eii : True := trivial
  have eik : True := trivial
  have eia : True := trivial
  have ecl : True := trivial
  have eyl : True := trivial
  have ewa : True := trivial
  have ewb : True := trivial
  refine zg13 ?_
  refine wl_if rfl (fun h10r h10 => ?_) (fun h10r h10 => ?_)
  · obtain rfl1 : l.length = 1 := by omega
    have hE : (dsN l l.length) = l := by rw [ds_all _ (Nat.le_refl _) (fun j h1 h2 => by omega), List.take_length]
    refine zg8 ?_
    first | (rw [hE, Nat.sub_self, List.replicate_zero, List.append_nil]; exact retM1 rfl .ref rfl rfl (pures_map ratE _)) | (exact retM1 rfl .ref (by first | rfl | (simp; done)) rfl (pures_map ratE _))
  · refine zg9 ?_
    refine lp1 (fun (i : Nat) L => ((((St.mk L.slot (hp [(0, ⟨3, l.map ratL, true⟩)])).put (some 0) (.ref 0 3 0 l.length)).put (some 1) (.clo f [])).put (some 5) (nI64 i))) (fun i => 1 ≤ i ∧ i ≤ l.length ∧ ∀ j, 1 ≤ j → j < i → l.getD j 0 ≠ l.getD (j - 1) 0) (fun i => l.length - i) 1 ⟨Nat.le_refl _, by omega, fun j h1 h2 => by omega⟩ ?_
    rintro i L1 ⟨hi1, hil, hne⟩
    refine zg9 ?_
    refine wl_if rfl (fun h15r h15 => ?_) (fun h15r h15 => ?_)
    · have hi2 : i < l.length := by omega
      have eij : ((i : Int) - 1).toNat = i - 1 := by omega
      have eii : ((i : Int)).toNat = i := by omega
      have hc := hf _ (getD_mem (p := l) (i := i) hi2) _ (getD_mem (p := l) (i := i - 1) (by omega))
      refine zg5 ?_
      refine wl_regD 11 (by decide +kernel) ?_
      refine zg7 ?_
      refine st_pure rfl (.bin rfl rfl (sub1N (by omega) (by omega))) ?_
      refine zg2 ?_
      try simp only [t1, dfq, eij, eii, Nat.zero_add]
      refine st_opc [] rfl rfl (.clo (f := f) (cap := []) (args := [ratL (l.getD i 0), ratL (l.getD (i - 1) 0)]) rfl (.cons im0 (.cons im0 .nil)) ⟨rfl, fun _ h => by cases h⟩ hc.1 (by decide) (fun _ h => by cases h)) (hc.2 _) ?_
      refine zg2 ?_
      refine wl_if rfl (fun h28r h28 => ?_) (fun h28r h28 => ?_)
      · have hdi : dsN l (i + 1) = dsN l i := ds_n (by omega) h28
        have hdt : dsN l i = l.take i := ds_all i hil hne
        have hln : (l.take i).length = i := by rw [List.length_take]; omega
        have hst : 1 ≤ 1 ∧ i + 1 ≤ l.length ∧ l.length = l.length ∧ (dsN l (i + 1)).length + 1 ≤ i + 1 ∧ l.take (dsN l (i + 1)).length = dsN l (i + 1) ∧ ∀ x, i + 1 - 1 ≤ x → l.getD x 0 = l.getD x 0 := ⟨Nat.le_refl _, by omega, rfl, by rw [hdi, hdt, hln]; omega, by rw [hdi, hdt, hln], fun _ _ => rfl⟩
        have eia : (dsN l (i + 1)).length = i := by rw [hdi, hdt, hln]
        refine zg4 ?_
        refine st_pure rfl (.sliceR (a := i) (h := l.length) rfl Tryz.underlying33 T29 (fun y hy => by cases hy; exact ⟨_, rfl⟩) (fun h => by cases h) (fun y hy => by cases hy) (fun _ => rfl) om om om) ?_
        refine zg10 ?_
        refine lp2 (fun (j : Nat) (w : List Rat) L => ((((((St.mk L.slot (hp [(0, ⟨3, w.map ratL, true⟩)])).put (some 0) (.ref 0 3 0 l.length)).put (some 1) (.clo f [])).put (some 5) (nI64 (dsN l (i + j)).length)).put (some 6) (.ref 0 3 i (l.length - i))).put (some 7) (nI64 j))) (fun j w => 1 ≤ j ∧ i + j ≤ l.length ∧ w.length = l.length ∧ (dsN l (i + j)).length + 1 ≤ i + j ∧ w.take (dsN l (i + j)).length = (dsN l (i + j)) ∧ ∀ x, i + j - 1 ≤ x → w.getD x 0 = l.getD x 0) (fun j w => l.length - (i + j)) 1 l hst ?_
        rintro j w L2 ⟨hj1, hij, hwl, hdl, hwt, hwx⟩
        refine zg9 ?_
        refine wl_if rfl (fun h35r h35 => ?_) (fun h35r h35 => ?_)
        · have hi3 : i + j < l.length := by omega
          have ewa : w.getD (i + j) 0 = l.getD (i + j) 0 := hwx _ (by omega)
          have ewb : w.getD (i + (j - 1)) 0 = l.getD (i + j - 1) 0 := by rw [show i + (j - 1) = i + j - 1 by omega]; exact hwx _ (by omega)
          have eik : ((j : Int) - 1).toNat = j - 1 := by omega
          have hc := hf _ (getD_mem (p := l) (i := i + j) hi3) _ (getD_mem (p := l) (i := i + j - 1) (by omega))
          have hd2 : (dsN l (i + j)).length < l.length := by omega
          refine zg5 ?_
          refine wl_regD 12 (by decide +kernel) ?_
          refine zg7 ?_
          refine st_pure rfl (.bin rfl rfl (sub1N (by omega) (by omega))) ?_
          refine zg2 ?_
          try simp only [t1, dfq, eik, ewa, ewb]
          refine st_opc [] rfl rfl (.clo (f := f) (cap := []) (args := [ratL (l.getD (i + j) 0), ratL (l.getD (i + j - 1) 0)]) rfl (.cons im0 (.cons im0 .nil)) ⟨rfl, fun _ h => by cases h⟩ hc.1 (by decide) (fun _ h => by cases h)) (hc.2 _) ?_
          refine zg3 ?_
          refine wl_if rfl (fun h49r h49 => ?_) (fun h49r h49 => ?_)
          · have hy := ds_y (k := l) (i := i + j) (by omega) h49
            have eyl : (dsN l (i + (j + 1))).length = (dsN l (i + j)).length + 1 := by rw [← Nat.add_assoc, hy]; simp
            have hyl : (dsN l (i + j + 1)).length = (dsN l (i + j)).length + 1 := by rw [hy]; simp
            have hnA : 1 ≤ j + 1 ∧ i + (j + 1) ≤ l.length ∧ (w.set (dsN l (i + j)).length (l.getD (i + j) 0)).length = l.length ∧ (dsN l (i + (j + 1))).length + 1 ≤ i + (j + 1) ∧ (w.set (dsN l (i + j)).length (l.getD (i + j) 0)).take (dsN l (i + (j + 1))).length = dsN l (i + (j + 1)) ∧ ∀ x, i + (j + 1) - 1 ≤ x → (w.set (dsN l (i + j)).length (l.getD (i + j) 0)).getD x 0 = l.getD x 0 := ⟨by omega, by omega, by simp [hwl], by rw [← Nat.add_assoc, hyl]; omega, by rw [← Nat.add_assoc, hyl, hy, List.take_add_one, List.take_set_of_le (Nat.le_refl _), hwt, List.getElem?_set_self (by omega)]; rfl, fun x hx => by rw [set_getD _ _ _ _ (by omega), if_neg (by omega)]; exact hwx x (by omega)⟩
            refine zg9 ?_
            try simp only [t1, dfq, ewa, Nat.zero_add]
            refine zg5 ?_
            refine st_pure rfl (.bin rfl rfl (add1N (by omega))) ?_
            refine zg6 ?_
            refine st_pure rfl (.bin rfl rfl (add1N (by omega))) ?_
            refine zg3 ?_
            exact nx2 (j + 1) (w.set (dsN l (i + j)).length (l.getD (i + j) 0)) hnA
          · have hy := ds_n (k := l) (i := i + j) (by omega) h49
            have eyl : (dsN l (i + (j + 1))).length = (dsN l (i + j)).length := by rw [← Nat.add_assoc, hy]
            have hnB : 1 ≤ j + 1 ∧ i + (j + 1) ≤ l.length ∧ w.length = l.length ∧ (dsN l (i + (j + 1))).length + 1 ≤ i + (j + 1) ∧ w.take (dsN l (i + (j + 1))).length = dsN l (i + (j + 1)) ∧ ∀ x, i + (j + 1) - 1 ≤ x → w.getD x 0 = l.getD x 0 := ⟨by omega, by omega, hwl, by rw [← Nat.add_assoc, hy]; omega, by rw [← Nat.add_assoc, hy]; exact hwt, fun x hx => hwx x (by omega)⟩
            refine zg5 ?_
            refine st_pure rfl (.bin rfl rfl (add1N (by omega))) ?_
            refine zg3 ?_
            exact nx2 (j + 1) w hnB
        · obtain rfl : j = l.length - i := by omega
          have eia : i + (l.length - i) = l.length := by omega
          have hdr := hdl
          rw [eia] at hdl hwt
          have ecl := clr_eq (w := w) (m := (dsN l l.length).length) (n := l.length) (by omega) hwl
          rw [hwt] at ecl
          refine zg9 ?_
          refine st_pure rfl (.sliceR (a := (dsN l (i + (l.length - i))).length) (h := l.length) rfl Tryz.underlying33 T29 (fun y hy => by cases hy; exact ⟨_, rfl⟩) (fun h => by cases h) (fun y hy => by cases hy) (fun _ => rfl) om om om) ?_
          refine st_store rfl (.clr (n := l.length - (dsN l (i + (l.length - i))).length) (off := 0 + (dsN l (i + (l.length - i))).length) (z := ratL 0) (blk := ⟨3, w.map ratL, true⟩) rfl rfl rfl rfl (by rw [List.length_map]; omega) Tryz.underlying33 (ratL_zero ▸ Z29a) (ratE.csize 0)) ?_
          refine zg6 ?_
          refine st_pure rfl (.sliceRh rfl Tryz.underlying33 T29 rfl om om) ?_
          refine zg9 ?_
          first | (rw [hE, Nat.sub_self, List.replicate_zero, List.append_nil]; exact retM1 rfl .ref rfl rfl (pures_map ratE _)) | (exact retM1 rfl .ref (by first | rfl | (simp; done)) rfl (pures_map ratE _))
      · have hnx : ∀ j, 1 ≤ j → j < i + 1 → l.getD j 0 ≠ l.getD (j - 1) 0 := fun j h1 h2 => by
          rcases Nat.lt_succ_iff_lt_or_eq.1 h2 with e | rfl
          · exact hne j h1 e
          · exact h28
        refine zg5 ?_
        refine st_pure rfl (.bin rfl rfl (add1N (by omega))) ?_
        refine zg3 ?_
        exact nx1 (i + 1) ⟨by omega, by omega, hnx⟩
    · obtain rfl : i = l.length := by omega
      have hE : (dsN l l.length) = l := by rw [ds_all _ (Nat.le_refl _) hne, List.take_length]
      refine zg12 ?_
      first | (rw [hE, Nat.sub_self, List.replicate_zero, List.append_nil]; exact retM1 rfl .ref rfl rfl (pures_map ratE _)) | (exact retM1 rfl .ref (by first | rfl | (simp; done)) rfl (pures_map ratE _))
namespace H_c_KcopiedO
theorem zSm {p q : Prop} (k : q) (e : p = q := by simp only [e1, e2, e3, e4, p1, p2, p3, q1, q2, q3, l1, t0, t1, r1, r2, r3, r4, Nat.zero_add, Nat.reduceMul, Nat.reduceAdd, b1, b2, b3, b4, b5, b6, i1, i2, i3, i4, i5, i6, Nat.reduceBEq, dfq, Rat.add_zero, ers, etk, Nat.zero_add, take_map_len, map_snoc, len_snoc, List.length_cons, List.length_nil, List.nil_append, List.map_nil, List.take_nil, List.append_nil, List.set_cons_zero, List.set_cons_succ, Nat.reduceEqDiff, reduceIte, if_true, if_false, ptL_kill, poL_kill, kills_map ptE, kills_map poE, kills_map ratE, ratL_kill, spL_kill, LV.kill, kills]; exact rfl) : p := e.mpr k
end H_c_KcopiedO
open H_c_KcopiedO in
theorem c_KcopiedO (p : List Rat) (hl : p.length ≤ 1048576) (hpr : ∀ x ∈ p, rl x ≤ 274877906944) : CallOK Tryz.prog 342 [.list 3 (p.map ratL)] (.ref 1 3 0 p.length) [⟨3, p.map ratL, true⟩] := by
  refine fnO Tryz.func342 ?_
  have ers : True := trivial
  have etk : True := trivial
  refine zg9 ?_
  refine st_alloc rfl rfl (.mkE (n := 0) (m := p.length) ml ml om om om) ?_
  refine zg12 ?_
  refine lp1 (fun (k : Nat) L => (((((St.mk L.slot (hp [(8, ⟨3, (p.take k).map ratL, true⟩)])).put (some 3) (.ref 8 3 0 k)).put (some 9) (.list 3 (p.map ratL))).put (some 10) (nI64 p.length)).put (some 11) (nI64 k))) (fun k => k ≤ p.length) (fun k => p.length - k) 0 (Nat.zero_le _) ?_
  rintro k L1 hk
  refine zg6 ?_
  refine wl_if rfl (fun h12r h12 => ?_) (fun h12r h12 => ?_)
  · have hk2 : k < p.length := by omega
    have hrk := hpr _ (getD_mem hk2)
    have hA := c_RAdd (p.getD k 0) 0 (by rw [show rl 0 = 1 from rfl]; omega)
    rw [Rat.add_zero] at hA
    have ers := take_snocL (l := p) hk2
    have etk : ((p.take k).map ratL).take k = (p.take k).map ratL := List.take_of_length_le (by rw [List.length_map, List.length_take]; omega)
    refine zg15 ?_
    refine st_pure rfl (.build0 SL29 Z29a) ?_
    refine cp am2 (hA) ?_
    refine zg1 ?_
    refine st_store rfl (.appX (d := 8) (news := [ratL (p.getD k 0)]) rfl rfl rfl rfl (by simp; omega) (.inl rfl) (by decide) Tryz.underlying33 Tryz.underlying33 Z29a T29 rfl B29 (.inl ⟨19, 0, _, rfl, by decide, rfl, rfl, by simp, rfl, by simp [pures, ratE.pure]⟩) (by simp; omega) (by simp; omega) (by decide)) ?_
    refine zg4 ?_
    refine wl_regW ((Weak.kill _ 5).trans (Weak.kill _ 19)) ?_
    refine st_pure rfl (.bin rfl rfl (add1N (by omega))) ?_
    refine zg3 ?_
    exact nx1 (k + 1) (by omega)
  · obtain rfl : k = p.length := by omega
    have hE : p.take p.length = p := List.take_length
    refine zg12 ?_
    rw [hE]
    exact ret1own rfl rfl (pures_map ratE _)
namespace H_c_Distinct
theorem zSm {p q : Prop} (k : q) (e : p = q := by simp only [e1, e2, e3, e4, p1, p2, p3, q1, q2, q3, l1, t0, t1, r1, r2, r3, r4, Nat.zero_add, Nat.reduceMul, Nat.reduceAdd, b1, b2, b3, b4, b5, b6, i1, i2, i3, i4, i5, i6, Nat.reduceBEq, List.set_cons_zero, List.set_cons_succ, Nat.reduceEqDiff, reduceIte, if_true, if_false, ptL_kill, poL_kill, kills_map ptE, kills_map poE, kills_map ratE, ratL_kill, spL_kill, LV.kill, kills]; exact rfl) : p := e.mpr k
end H_c_Distinct
open H_c_Distinct in
theorem c_Distinct (k : List Rat) (h0 : 0 < k.length) (hl : k.length ≤ 1048576) (hr : ∀ x ∈ k, rl x ≤ 274877906944) : CallP Tryz.prog 312 [.list 3 (k.map ratL)] (.list 3 ((dsN k k.length).map ratL)) := by
  refine fnP Tryz.func312 ?_
  refine zg8 ?_
  refine st_call1 [] rfl rfl (.cons (.pure (pure_lst ratE _ _)) .nil) (c_KcopiedO k hl hr) (pures_map ratE _) rfl ?_
  refine st_callM 1000065 rfl rfl rfl (pures_map ratE _) (.cons .ref (.cons (.imm (.pure rfl)) .nil)) (.ref h0) (c_Compact 271 k h0 hl (fun x hx y hy => c_RSame x y (by have := hr x hx; have := hr y hy; omega))) rfl (pures_map ratE _) ?_
  refine zg4 ?_
  exact ret1f [1000065] rfl rfl (imm_pre ratE rfl rfl rfl)
open H0 in
theorem c_KPoles (k : List Rat) (d : Nat) (h : d + 1 ≤ k.length) (hl : k.length ≤ 1048576) : CallP Tryz.prog 245 [.list 3 (k.map ratL), nI64 d] (nI64 (k.length - d - 1)) := by
  refine fnP Tryz.func245 ?_
  refine zg10 ?_
  refine st_pure rfl (.bin rfl rfl (sub64 (by omega) (by omega))) ?_
  refine st_pure rfl (.bin rfl rfl (sub64 (by omega) (by omega))) ?_
  refine zg4 ?_
  refine ret1 ?_ (.pure rfl)
  simp only [e1, e2, e3, e4, p1, p2, p3, q1, q2, q3, Nat.reduceBEq]
  congr 2
  omega
namespace H_c_KCheck
theorem zSm {p q : Prop} (k : q) (e : p = q := by simp only [e1, e2, e3, e4, p1, p2, p3, q1, q2, q3, l1, t0, t1, r1, r2, r3, r4, Nat.zero_add, Nat.reduceMul, Nat.reduceAdd, b1, b2, b3, b4, b5, b6, i1, i2, i3, i4, i5, i6, Nat.reduceBEq, dfq, hix, List.set_cons_zero, List.set_cons_succ, Nat.reduceEqDiff, reduceIte, if_true, if_false, ptL_kill, poL_kill, kills_map ptE, kills_map poE, kills_map ratE, ratL_kill, spL_kill, LV.kill, kills]; exact rfl) : p := e.mpr k
end H_c_KCheck
open H_c_KCheck in
theorem c_KCheck (k : List Rat) (d : Nat) (h : kOK k d) : CallP Tryz.prog 244 [.list 3 (k.map ratL), nI64 d] (iL 0) := by
  have hd1 := h.d1
  have hd6 := h.d6
  have hlen := h.len
  have hmax := h.max
  have hr : ∀ x ∈ k, rl x ≤ 274877906944 := fun x hx => Nat.le_trans (h.sz x hx) (by decide)
  have hix : ((k.length : Int) - 1).toNat = k.length - 1 := by omega
  have hr0 := h.sz _ (getD_mem (p := k) (i := 0) (by omega))
  have hr1 := h.sz _ (getD_mem (p := k) (i := k.length - 1) (by omega))
  have hS : CallP Tryz.prog 311 [.list 3 (k.map ratL), .clo 150 []] (bL true) := c_IsSorted 150 k (by omega) (by omega) h.srt (fun x hx y hy => c_RCmp x y (by have := h.sz x hx; have := h.sz y hy; omega))
  refine fnP Tryz.func244 ?_
  refine zg11 ?_
  refine st_pure rfl (.bin rfl rfl (sub64 (by omega) (by omega))) ?_
  refine st_pure rfl (.bin rfl rfl (sub64 (by omega) (by omega))) ?_
  refine zg9 ?_
  refine op_if 18 rfl (fun h18r h18 => ?_) (fun h18r h18 => ?_)
  · omega
  · refine zg6 ?_
    refine wl_if rfl (fun h15r h15 => ?_) (fun h15r h15 => ?_)
    · omega
    · refine zg5 ?_
      refine st_pure rfl (.bin rfl rfl (mul64 (by omega) (by omega))) ?_
      refine st_pure rfl (.bin rfl rfl (add64 (by omega) (by omega))) ?_
      refine zg4 ?_
      refine wl_if rfl (fun h22r h22 => ?_) (fun h22r h22 => ?_)
      · omega
      · refine zg7 ?_
        refine wl_if rfl (fun h29r h29 => ?_) (fun h29r h29 => ?_)
        · omega
        · refine zg5 ?_
          refine wl_regD 15 (by decide +kernel) ?_
          refine zg1 ?_
          refine cp am2 (hS) ?_
          refine zg8 ?_
          refine st_pure (guardX (v := false) rfl rfl (rfl) rfl) (.bin rfl rfl (sub64 (by omega) (by omega))) ?_
          refine zg2 ?_
          try simp only [t1, dfq, hix]
          refine cp am2 (c_RSame (k.getD 0 0) (k.getD (k.length - 1) 0) (by omega)) ?_
          refine zg3 ?_
          refine wl_condY (b := _) rfl (decide_eq_false h.ne) ?_
          refine zg6 ?_
          refine cp am1 (c_Distinct k (by omega) (by omega) hr) ?_
          refine zg5 ?_
          refine lp1 (fun (i : Nat) L => ((((((St.mk L.slot (hp [])).put (some 0) (.list 3 (k.map ratL))).put (some 1) (nI64 d)).put (some 48) (.list 3 ((dsN k k.length).map ratL))).put (some 49) (nI64 (dsN k k.length).length)).put (some 50) (nI64 i))) (fun i => i ≤ (dsN k k.length).length) (fun i => (dsN k k.length).length - i) 0 (Nat.zero_le _) ?_
          rintro i L1 hi
          refine zg6 ?_
          refine wl_if rfl (fun h51r h51 => ?_) (fun h51r h51 => ?_)
          · have hdl := dsN_le k k.length
            have hi2 : i < (dsN k k.length).length := by omega
            have hm := dsN_mem k k.length (Nat.le_refl _) _ (getD_mem hi2)
            have hrt := h.sz _ hm
            have he1 := h.endk _ hm
            have he2 := h.ink _ hm
            refine zg16 ?_
            refine cp am2 (c_KTimes k (by omega) (fun x hx => Nat.le_trans (hr x hx) (by decide)) ((dsN k k.length).getD i 0) (by omega)) ?_
            refine zg4 ?_
            refine wl_regD 16 (by decide +kernel) ?_
            refine zg4 ?_
            refine cp am2 (c_RSame ((dsN k k.length).getD i 0) (k.getD 0 0) (by omega)) ?_
            refine zg1 ?_
            refine op_if 62 rfl (fun h62r h62 => ?_) (fun h62r h62 => ?_)
            · refine zg7 ?_
              try simp only [t1, dfq, hix]
              refine zg11 ?_
              refine st_pure (guardX (v := true) rfl rfl (rfl) rfl) (.bin rfl rfl (add64 (by omega) (by omega))) ?_
              refine zg3 ?_
              refine op_if 79 rfl (fun h79r h79 => ?_) (fun h79r h79 => ?_)
              · have := he1 (by first | exact .inl h62 | exact .inr h73)
                omega
              · refine zg3 ?_
                refine st_skip (guardX (v := false) rfl rfl ((by first | rfl | (rw [h73r]; rfl))) rfl) ?_
                refine st_skip (guardX (v := false) rfl rfl ((by first | rfl | (rw [h73r]; rfl))) rfl) ?_
                refine st_skip (guardX (v := false) rfl rfl ((by first | rfl | (rw [h73r]; rfl))) rfl) ?_
                refine st_pure (guardX (v := false) rfl rfl (h79r) rfl) (.pickF rfl ((by first | rfl | (rw [h73r]; rfl)))) ?_
                refine zg7 ?_
                refine wl_regW (Weak.kill _ 7) ?_
                refine st_pure rfl (.bin rfl rfl (add1N (by omega))) ?_
                refine zg3 ?_
                exact nx1 (i + 1) (by omega)
            · refine zg4 ?_
              refine st_pure (guardX (v := false) rfl rfl (h62r) rfl) (.bin rfl rfl (sub64 (by omega) (by omega))) ?_
              refine zg2 ?_
              try simp only [t1, dfq, hix]
              refine cp am2 (c_RSame ((dsN k k.length).getD i 0) (k.getD (k.length - 1) 0) (by omega)) ?_
              refine zg8 ?_
              refine op_if 73 rfl (fun h73r h73 => ?_) (fun h73r h73 => ?_)
              · refine zg2 ?_
                refine st_pure (guardX (v := true) rfl rfl (h73r) rfl) (.bin rfl rfl (add64 (by omega) (by omega))) ?_
                refine zg3 ?_
                refine op_if 79 rfl (fun h79r h79 => ?_) (fun h79r h79 => ?_)
                · have := he1 (by first | exact .inl h62 | exact .inr h73)
                  omega
                · refine zg3 ?_
                  refine st_skip (guardX (v := false) rfl rfl ((by first | rfl | (rw [h73r]; rfl))) rfl) ?_
                  refine st_skip (guardX (v := false) rfl rfl ((by first | rfl | (rw [h73r]; rfl))) rfl) ?_
                  refine st_skip (guardX (v := false) rfl rfl ((by first | rfl | (rw [h73r]; rfl))) rfl) ?_
                  refine st_pure (guardX (v := false) rfl rfl (h79r) rfl) (.pickF rfl ((by first | rfl | (rw [h73r]; rfl)))) ?_
                  refine zg7 ?_
                  refine wl_regW (Weak.kill _ 7) ?_
                  refine st_pure rfl (.bin rfl rfl (add1N (by omega))) ?_
                  refine zg3 ?_
                  exact nx1 (i + 1) (by omega)
              · refine zg9 ?_
                refine st_pure (guardX (v := true) rfl rfl ((by first | rfl | (rw [h73r]; rfl))) rfl) (.move _) ?_
                refine st_pure (guardX (v := true) rfl rfl ((by first | rfl | (rw [h73r]; rfl))) rfl) (.move _) ?_
                refine st_pure (guardX (v := true) rfl rfl ((by first | rfl | (rw [h73r]; rfl))) rfl) (.bin rfl rfl rfl) ?_
                refine st_pure (guardX (v := false) rfl rfl (rfl) rfl) (.pickT rfl ((by first | rfl | (rw [h73r]; rfl)))) ?_
                refine zg3 ?_
                refine wl_if rfl (fun h87r h87 => ?_) (fun h87r h87 => ?_)
                · have := he2 h62 h73
                  omega
                · refine zg3 ?_
                  refine wl_regW (Weak.kill _ 7) ?_
                  refine st_pure rfl (.bin rfl rfl (add1N (by omega))) ?_
                  refine zg3 ?_
                  exact nx1 (i + 1) (by omega)
          · refine zg11 ?_
            exact ret1 rfl (.pure rfl)
end Go.Proofs.YtgfbghoihhnahaaGreat
end
section
set_option linter.unusedVariables false
set_option linter.unusedSimpArgs false
set_option maxHeartbeats 8000000
set_option maxRecDepth 100000
attribute [local irreducible] Go.Lg.opsL Go.Lg.wpL Go.Lg.thenL Go.Lg.blockL
namespace Go.Proofs.YtgfbghoihhnahaaGreat
open Go.Lg
def bdS (R : Nat) (s : Rat × Rat) : Prop := rl s.1 ≤ R ∧ rl s.2 ≤ R
theorem bdS.le {R S : Nat} {s : Rat × Rat} (h : bdS R s) (k : R ≤ S) : bdS S s := ⟨Nat.le_trans h.1 k, Nat.le_trans h.2 k⟩
structure _root_.Go.Lg.Bx3 where
  x : Rat × Rat
  y : Rat × Rat
  z : Rat × Rat
abbrev bxL (b : Bx3) : LV := .agg [spL b.x, spL b.y, spL b.z]
theorem bxE : EncOK bxL 18 true := by
  refine ⟨fun b => ?_, fun b => rfl, fun b => ?_⟩
  · simp [bxL, LV.csize, csizes, spE.csize]
  · simp [bxL, LV.pure, pures, spE.pure]
open H0 in
theorem c_SHas (s : Rat × Rat) (x : Rat) (h1 : rl s.1 + rl x ≤ 549755813888) (h2 : rl x + rl s.2 ≤ 549755813888) : CallP Tryz.prog 216 [spL s, ratL x] (bL (hasR s x)) := by
  refine fnP Tryz.func216 ?_
  refine zg12 ?_
  refine cp am2 (c_RCmp _ _ (by omega)) ?_
  refine zg2 ?_
  refine op_if 10 rfl (fun h10r h10 => ?_) (fun h10r h10 => ?_)
  · refine zg3 ?_
    refine cp am2 (c_RCmp _ _ (by omega)) ?_
    refine zg6 ?_
    rw [← has1 h10r]
    exact ret1 rfl (by first | exact .pure rfl | exact .pure (limL_pure _) | exact .pure (magL_pure _) | exact .pure (ratE.pure _) | exact .pure (pure_lst u32E _ _) | exact .pure (pure_lst ratE _ _))
  · refine zg10 ?_
    rw [← has2 h10r]
    exact ret1 rfl (by first | exact .pure rfl | exact .pure (limL_pure _) | exact .pure (magL_pure _) | exact .pure (ratE.pure _) | exact .pure (pure_lst u32E _ _) | exact .pure (pure_lst ratE _ _))
namespace H_c_FPtSame
theorem zSm {p q : Prop} (k : q) (e : p = q := by simp only [e1, e2, e3, e4, p1, p2, p3, q1, q2, q3, l1, t0, t1, r1, r2, r3, r4, Nat.zero_add, Nat.reduceMul, Nat.reduceAdd, b1, b2, b3, b4, b5, b6, i1, i2, i3, i4, i5, i6, Nat.reduceBEq, List.set_cons_zero, List.set_cons_succ, Nat.reduceEqDiff, reduceIte, if_true, if_false, ptL_kill, poL_kill, kills_map ptE, kills_map poE, kills_map ratE, ratL_kill, spL_kill, LV.kill, kills]; exact rfl) : p := e.mpr k
end H_c_FPtSame
open H_c_FPtSame in
theorem c_FPtSame (p : V3) (h : bd3 100000000000 p) : CallP Tryz.prog 47 [ptL p, ptL p] (bL true) := by
  obtain ⟨a1, a2, a3⟩ := h
  refine fnP Tryz.func47 ?_
  refine zg13 ?_
  refine cp am2 (c_FSame p.x p.x (by omega)) ?_
  refine zg1 ?_
  refine st_pure (guardX (v := true) rfl rfl ((decide_eq_true rfl)) rfl) ixA ?_
  refine st_pure (guardX (v := true) rfl rfl ((decide_eq_true rfl)) rfl) ldA ?_
  refine st_pure (guardX (v := true) rfl rfl ((decide_eq_true rfl)) rfl) ixA ?_
  refine st_pure (guardX (v := true) rfl rfl ((decide_eq_true rfl)) rfl) ldA ?_
  refine st_callP (guardX (v := true) rfl rfl ((decide_eq_true rfl)) rfl) (.cons im0 (.cons im0 .nil)) (c_FSame p.y p.y (by omega)) ?_
  refine st_pure rfl (.pickT rfl ((decide_eq_true rfl))) ?_
  refine zg1 ?_
  refine st_pure (guardX (v := true) rfl rfl ((decide_eq_true rfl)) rfl) ixA ?_
  refine st_pure (guardX (v := true) rfl rfl ((decide_eq_true rfl)) rfl) ldA ?_
  refine st_pure (guardX (v := true) rfl rfl ((decide_eq_true rfl)) rfl) ixA ?_
  refine st_pure (guardX (v := true) rfl rfl ((decide_eq_true rfl)) rfl) ldA ?_
  refine st_callP (guardX (v := true) rfl rfl ((decide_eq_true rfl)) rfl) (.cons im0 (.cons im0 .nil)) (c_FSame p.z p.z (by omega)) ?_
  refine st_pure rfl (.pickT rfl ((decide_eq_true rfl))) ?_
  refine zg4 ?_
  refine ret1 (x := bL true) ?_ (.pure rfl)
  first | rfl | (simp; done)
end Go.Proofs.YtgfbghoihhnahaaGreat
end
section
set_option linter.unusedVariables false
set_option linter.unusedSimpArgs false
set_option maxHeartbeats 8000000
set_option maxRecDepth 100000
attribute [local irreducible] Go.Lg.opsL Go.Lg.wpL Go.Lg.thenL Go.Lg.blockL
namespace Go.Proofs.YtgfbghoihhnahaaGreat
open Go.Lg
def d3V (l : List Int) (k : Nat) : V3 := ⟨(nbV l k).1, (nbV l (nbV l k).2).1, (nbV l (nbV l (nbV l k).2).2).1⟩
def d3K (l : List Int) (k : Nat) : Nat := (nbV l (nbV l (nbV l k).2).2).2
theorem d3_rl (l : List Int) (k : Nat) : bd3 1 (d3V l k) := ⟨nb_rl _ _, nb_rl _ _, nb_rl _ _⟩
theorem d3K_le {l : List Int} {k : Nat} (hl : l.length ≤ 500) (hk : k ≤ 500) : d3K l k ≤ 500 := nbK_le hl (nbK_le hl (nbK_le hl hk))
def dwV (l : List Int) (k : Nat) : Rat := ((1 + (nxV l k 3).tmod 3 : Int) : Rat)
def dpV (l : List Int) (k : Nat) : PoR := ⟨d3V l k, dwV l (d3K l k)⟩
def dpK (l : List Int) (k : Nat) : Nat := nxK l (d3K l k)
theorem dw_in (l : List Int) (k : Nat) : 1 ≤ 1 + (nxV l k 3).tmod 3 ∧ 1 + (nxV l k 3).tmod 3 ≤ 3 := by
  have h := nxV_lt (l := l) (k := k) (n := 3) (by decide)
  rw [Int.tmod_eq_emod_of_nonneg h.1]
  omega
theorem dw_rl (l : List Int) (k : Nat) : rl (dwV l k) ≤ 1 := by
  have := dw_in l k
  exact rl_int (by omega)
theorem dw_pos (l : List Int) (k : Nat) : 0 < dwV l k := by
  have := dw_in l k
  exact Rat.intCast_pos.2 (by omega)
theorem dpK_le {l : List Int} {k : Nat} (hl : l.length ≤ 500) (hk : k ≤ 500) : dpK l k ≤ 500 := nxK_le hl (d3K_le hl hk)
/-- poles one after the other -/
def dqV (l : List Int) : Nat → Nat → List PoR
  | _, 0 => []
  | k, c + 1 => dpV l k :: dqV l (dpK l k) c
def dqK (l : List Int) : Nat → Nat → Nat
  | k, 0 => k
  | k, c + 1 => dqK l (dpK l k) c
theorem dqV_len (l : List Int) : ∀ k c, (dqV l k c).length = c
  | _, 0 => rfl
  | k, c + 1 => by simp [dqV, dqV_len l]
/-- short poles with a positive weight -/
theorem dqV_ok (l : List Int) : ∀ k c, ∀ q ∈ dqV l k c, okP 1 q
  | _, 0, q, h => by simp [dqV] at h
  | k, c + 1, q, h => by
    simp only [dqV, List.mem_cons] at h
    rcases h with rfl | h
    · exact ⟨d3_rl l k, dw_rl _ _, dw_pos _ _⟩
    · exact dqV_ok l _ c q h
/-- knots without inner ones -/
def kn0 (d : Nat) (t : Rat) : List Rat := List.replicate (d + 1) t ++ List.replicate (d + 1) (t + 1)
theorem kn0_len (d : Nat) (t : Rat) : (kn0 d t).length = 2 * (d + 1) := by simp [kn0]; omega
def dtV (l : List Int) (k : Nat) : Rat := ((nxV l k 4 - 2 : Int) : Rat)
theorem dt_rl (l : List Int) (k : Nat) : rl (dtV l k) ≤ 1 ∧ rl (dtV l k + 1) ≤ 1 := by
  have h := nxV_lt (l := l) (k := k) (n := 4) (by decide)
  refine ⟨rl_int (by omega), ?_⟩
  have e : dtV l k + 1 = ((nxV l k 4 - 1 : Int) : Rat) := by
    unfold dtV
    rw [show nxV l k 4 - 1 = (nxV l k 4 - 2) + 1 by omega, Rat.intCast_add]; rfl
  rw [e]
  exact rl_int (by omega)
/-- a curve of at most a degree, without inner knots -/
def cD (l : List Int) (k : Nat) (n : Nat) : Nat := (1 + nxV l k (n : Int)).toNat
def cT (l : List Int) (k : Nat) : Rat := dtV l (nxK l k)
def cP (l : List Int) (k : Nat) (n : Nat) : List PoR := dqV l (nxK l (nxK l (nxK l k))) (cD l k n + 1)
def cK (l : List Int) (k : Nat) (n : Nat) : Nat := dqK l (nxK l (nxK l (nxK l k))) (cD l k n + 1)
theorem cD_in (l : List Int) (k : Nat) {n : Nat} (hn : 0 < n) : 1 ≤ cD l k n ∧ cD l k n ≤ n ∧ (cD l k n : Int) = 1 + nxV l k (n : Int) := by
  have h := nxV_lt (l := l) (k := k) (n := (n : Int)) (by omega)
  unfold cD
  omega
theorem cP_len (l : List Int) (k n : Nat) : (cP l k n).length = cD l k n + 1 := dqV_len _ _ _
theorem cP_ok (l : List Int) (k n : Nat) : ∀ q ∈ cP l k n, okP 1 q := dqV_ok _ _ _
theorem any_3 {P : Program} {ops : Array Oper} {D : Array Bool} {L : St} {K : St → Prop} {fuel : Nat} (i j k : Nat) (o o2 o3 : Oper) (hr : Region.ready .any ops D = [i, j, k]) (ho : ops[i]? = some o) (ho2 : ops[j]? = some o2) (ho3 : ops[k]? = some o3)
    (h : opsL P false ops [o] L (fun L' => anyL P ops fuel (D.setIfInBounds i true) L' K)) (h2 : opsL P false ops [o2] L (fun L' => anyL P ops fuel (D.setIfInBounds j true) L' K)) (h3 : opsL P false ops [o3] L (fun L' => anyL P ops fuel (D.setIfInBounds k true) L' K)) : anyL P ops (fuel + 1) D L K := by
  simp only [opsL] at h h2 h3
  refine ⟨fun e => (by rw [hr] at e; cases e), fun x hx => ?_⟩
  rw [hr] at hx
  simp only [List.mem_cons, List.not_mem_nil, or_false] at hx
  rcases hx with rfl | rfl | rfl
  · obtain ⟨L', h1, h4⟩ := h
    exact ⟨o, L', ho, h1, h4⟩
  · obtain ⟨L', h1, h4⟩ := h2
    exact ⟨o2, L', ho2, h1, h4⟩
  · obtain ⟨L', h1, h4⟩ := h3
    exact ⟨o3, L', ho3, h1, h4⟩
theorem nxV1 (l : List Int) (k : Nat) : nxV l k 1 = 0 := by
  have := nxV_lt (l := l) (k := k) (n := 1) (by decide)
  omega
theorem rep_snoc {α : Type} (n : Nat) (t : α) : List.replicate n t ++ [t] = List.replicate (n + 1) t := by
  rw [List.replicate_succ']
section
variable {P : Program} {H : Heap} {ρ : Operand → LV} {T : TypeId}
theorem bdPo {o0 o1 : Operand} {p : V3} {r : Rat} [z : ZI P T (.agg [.agg [ratL 0, ratL 0, ratL 0], ratL 0])] [s : SI P T [(9, true), (3, true)]] (h0 : ρ o0 = ptL p) (h1 : ρ o1 = ratL r) :
    OpP P H ρ (.build T #[(0, o0), (1, o1)]) (poL ⟨p, r⟩) := by
  have := OpP.bd (H := H) (ρ := ρ) (ps := #[(0, o0), (1, o1)]) (z := z) (s := s) (by simp [lay, LV.csize, csizes, ratE.csize, ratE.isAgg, isAgg_agg]) (by
    intro q hq
    simp only [List.mem_cons, List.not_mem_nil, or_false] at hq
    rcases hq with rfl | rfl
    · exact ⟨_, rfl, by rw [h0]; simp [lay, ptE.csize, LV.csize, csizes, ratE.csize]; rfl, by rw [h0]; exact LV.pure_ne_any (ptE.pure _), by rw [h0]; exact LV.pure_ne_tup (ptE.pure _)⟩
    · exact ⟨_, rfl, by rw [h1]; simp [lay, ratE.csize, ratE.isAgg], by rw [h1]; exact LV.pure_ne_any (ratE.pure _), by rw [h1]; exact LV.pure_ne_tup (ratE.pure _)⟩)
  simp only [buildL, List.map, List.foldl, List.set, h0, h1] at this
  exact this
end
/-- the knots while the second half is being made -/
def knL (d : Nat) (T : Rat) : Nat → List Rat
  | 0 => List.replicate (d + 1) T
  | i + 1 => knL d T i ++ [T + 1]
theorem knL_eq (d : Nat) (T : Rat) : ∀ i, knL d T i = List.replicate (d + 1) T ++ List.replicate i (T + 1)
  | 0 => by rw [knL, List.replicate_zero, List.append_nil]
  | i + 1 => by rw [knL, knL_eq d T i, List.append_assoc, List.replicate_succ' (n := i)]
theorem knL_len (d : Nat) (T : Rat) (i : Nat) : (knL d T i).length = d + 1 + i := by rw [knL_eq]; simp
theorem knL_end (d : Nat) (T : Rat) : knL d T (d + 1) = kn0 d T := knL_eq d T (d + 1)
theorem retMCf {P : Program} {L : St} {a : Nat} {T : TypeId} {b sz : Nat} {x y : LV} {m : Bool} {n : Nat} {ag : Bool} {blk : Blk} (bs : List Nat) (h0 : bs.contains 0 = false) (h : L.slot a = .eptr b sz 0 0) (hb : L.heap b = some ⟨sz, [x], m⟩)
    (hx : x.csize = sz) (hat : x.at 0 n ag = some x) (hT : TyIs P T n ag) (hi : Imm (L.frz bs).heap x y) (hc : (L.frz bs).heap 0 = some blk) (hm : blk.mt = true) (hp : pures blk.vals = true) : RetM P [.cell a T] L y blk :=
  ⟨[x], [y], (L.frz bs).heap, .cons ⟨b, sz, 0, 0, _, x, n, ag, h, hb, rfl, rfl, hx, hat, hT⟩ .nil, frz_le bs h0, .cons (.imm hi) .nil, hc, hm, hp, rfl⟩
namespace H_c_DPoint
theorem zSm {p q : Prop} (k : q) (e : p = q := by simp only [e1, e2, e3, e4, p1, p2, p3, q1, q2, q3, l1, t0, t1, r1, r2, r3, r4, Nat.zero_add, Nat.reduceMul, Nat.reduceAdd, b1, b2, b3, b4, b5, b6, i1, i2, i3, i4, i5, i6, Nat.reduceBEq, l1, List.set_cons_zero, List.set_cons_succ, Nat.reduceEqDiff, reduceIte, if_true, if_false, ptL_kill, poL_kill, kills_map poE, kills_map ratE, ratL_kill, spL_kill, LV.kill, kills, dice_kill]; exact rfl) : p := e.mpr k
end H_c_DPoint
open H_c_DPoint in
theorem c_DPoint (l : List Int) (k : Nat) (hl : l.length ≤ 500) (hk : k ≤ 500) : CallOKM Tryz.prog 17 ⟨2, [diceL l k], true⟩ [.eptr 0 2 0 0] (ptL (d3V l k)) ⟨2, [diceL l (d3K l k)], true⟩ := by
  have k1 := nbK_le (l := l) hl hk
  have k2 := nbK_le (l := l) hl k1
  refine fnM Tryz.func17 ?_
  refine zg8 ?_
  refine st_callMp 0 rfl rfl rfl (dice_pure l _) (.cons .ptr .nil) .ptr (c_number l k (by omega) (by omega)) rfl (dice_pure l _) (ratE.pure _) ?_
  refine zg1 ?_
  refine st_callMp 0 rfl rfl rfl (dice_pure l _) (.cons .ptr .nil) .ptr (c_number l (nbV l k).2 (by omega) (by omega)) rfl (dice_pure l _) (ratE.pure _) ?_
  refine zg1 ?_
  refine st_callMp 0 rfl rfl rfl (dice_pure l _) (.cons .ptr .nil) .ptr (c_number l (nbV l (nbV l k).2).2 (by omega) (by omega)) rfl (dice_pure l _) (ratE.pure _) ?_
  refine zg5 ?_
  exact retMC rfl rfl cs (at_all cs rfl) T31 (.pure pu) rfl rfl (dice_pure l _)
namespace H_c_Dpole
theorem zSm {p q : Prop} (k : q) (e : p = q := by simp only [e1, e2, e3, e4, p1, p2, p3, q1, q2, q3, l1, t0, t1, r1, r2, r3, r4, Nat.zero_add, Nat.reduceMul, Nat.reduceAdd, b1, b2, b3, b4, b5, b6, i1, i2, i3, i4, i5, i6, Nat.reduceBEq, l1, List.set_cons_zero, List.set_cons_succ, Nat.reduceEqDiff, reduceIte, if_true, if_false, ptL_kill, poL_kill, kills_map poE, kills_map ratE, ratL_kill, spL_kill, LV.kill, kills, dice_kill]; exact rfl) : p := e.mpr k
end H_c_Dpole
open H_c_Dpole in
theorem c_Dpole (l : List Int) (k : Nat) (hl : l.length ≤ 500) (hk : k ≤ 500) : CallOKM Tryz.prog 102 ⟨2, [diceL l k], true⟩ [.eptr 0 2 0 0, bL false] (poL (dpV l k)) ⟨2, [diceL l (dpK l k)], true⟩ := by
  have k1 := d3K_le (l := l) hl hk
  have hb := nxV_lt (l := l) (k := d3K l k) (n := 3) (by decide)
  have hd := dw_in l (d3K l k)
  refine fnM Tryz.func102 ?_
  refine zg8 ?_
  refine st_callMp 0 rfl rfl rfl (dice_pure l _) (.cons .ptr .nil) .ptr (c_DPoint l k (by omega) (by omega)) rfl (dice_pure l _) (ptE.pure _) ?_
  refine zg10 ?_
  refine wl_if rfl (fun h8r h8 => ?_) (fun h8r h8 => ?_)
  · first | exact h8.elim | cases h8r
  · refine zg3 ?_
    refine wl_regA ?_
    refine any_2 0 1 _ _ (by decide +kernel) rfl rfl ?_ ?_
    · refine zg1 ?_
      refine st_nil ?_
      refine any_1 1 _ (by decide +kernel) rfl ?_
      refine zg1 ?_
      refine st_nil ?_
      refine any_1 2 _ (by decide +kernel) rfl ?_
      refine st_callMp 0 rfl rfl rfl (dice_pure l _) (.cons .ptr (.cons (.imm (.pure rfl)) .nil)) .ptr (c_Next l (d3K l k) 3 (by omega) (by omega) (by omega) (by omega)) rfl (dice_pure l _) rfl ?_
      refine st_nil ?_
      refine any_1 3 _ (by decide +kernel) rfl ?_
      refine st_pure rfl (.bin rfl rfl (rem64 (by decide))) ?_
      refine st_nil ?_
      refine any_1 4 _ (by decide +kernel) rfl ?_
      refine st_pure rfl (.bin rfl rfl (add64 (by omega) (by omega))) ?_
      refine st_nil ?_
      refine any_1 5 _ (by decide +kernel) rfl ?_
      refine cp am1 (c_FInt (1 + (nxV l (d3K l k) 3).tmod 3) (by omega) (by omega)) ?_
      refine st_nil ?_
      refine any_1 6 _ (by decide +kernel) rfl ?_
      refine s0bd (bdPo rfl rfl) ?_
      refine st_nil ?_
      refine any_1 7 _ (by decide +kernel) rfl ?_
      refine zg1 ?_
      refine st_nil ?_
      refine any_0 (by decide +kernel) ?_
      refine zg2 ?_
      exact retMC rfl rfl cs (at_all cs rfl) T100 (.pure pu) rfl rfl (dice_pure l _)
    · refine zg1 ?_
      refine st_nil ?_
      refine any_2 0 2 _ _ (by decide +kernel) rfl rfl ?_ ?_
      · refine zg1 ?_
        refine st_nil ?_
        refine any_1 2 _ (by decide +kernel) rfl ?_
        refine st_callMp 0 rfl rfl rfl (dice_pure l _) (.cons .ptr (.cons (.imm (.pure rfl)) .nil)) .ptr (c_Next l (d3K l k) 3 (by omega) (by omega) (by omega) (by omega)) rfl (dice_pure l _) rfl ?_
        refine st_nil ?_
        refine any_1 3 _ (by decide +kernel) rfl ?_
        refine st_pure rfl (.bin rfl rfl (rem64 (by decide))) ?_
        refine st_nil ?_
        refine any_1 4 _ (by decide +kernel) rfl ?_
        refine st_pure rfl (.bin rfl rfl (add64 (by omega) (by omega))) ?_
        refine st_nil ?_
        refine any_1 5 _ (by decide +kernel) rfl ?_
        refine cp am1 (c_FInt (1 + (nxV l (d3K l k) 3).tmod 3) (by omega) (by omega)) ?_
        refine st_nil ?_
        refine any_1 6 _ (by decide +kernel) rfl ?_
        refine s0bd (bdPo rfl rfl) ?_
        refine st_nil ?_
        refine any_1 7 _ (by decide +kernel) rfl ?_
        refine zg1 ?_
        refine st_nil ?_
        refine any_0 (by decide +kernel) ?_
        refine zg2 ?_
        exact retMC rfl rfl cs (at_all cs rfl) T100 (.pure pu) rfl rfl (dice_pure l _)
      · refine st_callMp 0 rfl rfl rfl (dice_pure l _) (.cons .ptr (.cons (.imm (.pure rfl)) .nil)) .ptr (c_Next l (d3K l k) 3 (by omega) (by omega) (by omega) (by omega)) rfl (dice_pure l _) rfl ?_
        refine st_nil ?_
        refine any_2 0 3 _ _ (by decide +kernel) rfl rfl ?_ ?_
        · refine zg1 ?_
          refine st_nil ?_
          refine any_1 3 _ (by decide +kernel) rfl ?_
          refine st_pure rfl (.bin rfl rfl (rem64 (by decide))) ?_
          refine st_nil ?_
          refine any_1 4 _ (by decide +kernel) rfl ?_
          refine st_pure rfl (.bin rfl rfl (add64 (by omega) (by omega))) ?_
          refine st_nil ?_
          refine any_1 5 _ (by decide +kernel) rfl ?_
          refine cp am1 (c_FInt (1 + (nxV l (d3K l k) 3).tmod 3) (by omega) (by omega)) ?_
          refine st_nil ?_
          refine any_1 6 _ (by decide +kernel) rfl ?_
          refine s0bd (bdPo rfl rfl) ?_
          refine st_nil ?_
          refine any_1 7 _ (by decide +kernel) rfl ?_
          refine zg1 ?_
          refine st_nil ?_
          refine any_0 (by decide +kernel) ?_
          refine zg2 ?_
          exact retMC rfl rfl cs (at_all cs rfl) T100 (.pure pu) rfl rfl (dice_pure l _)
        · refine st_pure rfl (.bin rfl rfl (rem64 (by decide))) ?_
          refine st_nil ?_
          refine any_2 0 4 _ _ (by decide +kernel) rfl rfl ?_ ?_
          · refine zg1 ?_
            refine st_nil ?_
            refine any_1 4 _ (by decide +kernel) rfl ?_
            refine st_pure rfl (.bin rfl rfl (add64 (by omega) (by omega))) ?_
            refine st_nil ?_
            refine any_1 5 _ (by decide +kernel) rfl ?_
            refine cp am1 (c_FInt (1 + (nxV l (d3K l k) 3).tmod 3) (by omega) (by omega)) ?_
            refine st_nil ?_
            refine any_1 6 _ (by decide +kernel) rfl ?_
            refine s0bd (bdPo rfl rfl) ?_
            refine st_nil ?_
            refine any_1 7 _ (by decide +kernel) rfl ?_
            refine zg1 ?_
            refine st_nil ?_
            refine any_0 (by decide +kernel) ?_
            refine zg2 ?_
            exact retMC rfl rfl cs (at_all cs rfl) T100 (.pure pu) rfl rfl (dice_pure l _)
          · refine st_pure rfl (.bin rfl rfl (add64 (by omega) (by omega))) ?_
            refine st_nil ?_
            refine any_2 0 5 _ _ (by decide +kernel) rfl rfl ?_ ?_
            · refine zg1 ?_
              refine st_nil ?_
              refine any_1 5 _ (by decide +kernel) rfl ?_
              refine cp am1 (c_FInt (1 + (nxV l (d3K l k) 3).tmod 3) (by omega) (by omega)) ?_
              refine st_nil ?_
              refine any_1 6 _ (by decide +kernel) rfl ?_
              refine s0bd (bdPo rfl rfl) ?_
              refine st_nil ?_
              refine any_1 7 _ (by decide +kernel) rfl ?_
              refine zg1 ?_
              refine st_nil ?_
              refine any_0 (by decide +kernel) ?_
              refine zg2 ?_
              exact retMC rfl rfl cs (at_all cs rfl) T100 (.pure pu) rfl rfl (dice_pure l _)
            · refine cp am1 (c_FInt (1 + (nxV l (d3K l k) 3).tmod 3) (by omega) (by omega)) ?_
              refine st_nil ?_
              refine any_1 0 _ (by decide +kernel) rfl ?_
              refine zg1 ?_
              refine st_nil ?_
              refine any_1 6 _ (by decide +kernel) rfl ?_
              refine s0bd (bdPo rfl rfl) ?_
              refine st_nil ?_
              refine any_1 7 _ (by decide +kernel) rfl ?_
              refine zg1 ?_
              refine st_nil ?_
              refine any_0 (by decide +kernel) ?_
              refine zg2 ?_
              exact retMC rfl rfl cs (at_all cs rfl) T100 (.pure pu) rfl rfl (dice_pure l _)
namespace H_c_DKnots0
theorem zSm {p q : Prop} (k : q) (e : p = q := by simp only [e1, e2, e3, e4, p1, p2, p3, q1, q2, q3, l1, t0, t1, r1, r2, r3, r4, Nat.zero_add, Nat.reduceMul, Nat.reduceAdd, b1, b2, b3, b4, b5, b6, i1, i2, i3, i4, i5, i6, Nat.reduceBEq, l1, etkA, etkB, ers, ers2, dfq, List.replicate_zero, Nat.add_zero, take_map_len, map_snoc, len_snoc, List.length_cons, List.length_nil, List.nil_append, List.length_append, List.length_replicate, List.set_cons_zero, List.set_cons_succ, Nat.reduceEqDiff, reduceIte, if_true, if_false, ptL_kill, poL_kill, kills_map poE, kills_map ratE, ratL_kill, spL_kill, LV.kill, kills, dice_kill]; exact rfl) : p := e.mpr k
end H_c_DKnots0
open H_c_DKnots0 in
theorem c_DKnots0 (l : List Int) (k : Nat) (hl : l.length ≤ 500) (d : Nat) (hd : d ≤ 6) (hk : k ≤ 500) : CallOKM Tryz.prog 101 ⟨2, [diceL l k], true⟩ [.eptr 0 2 0 0, nI64 d, iL 0] (.list 3 ((kn0 d (dtV l k)).map ratL)) ⟨2, [diceL l (nxK l (nxK l k))], true⟩ := by
  have k1 := nxK_le (l := l) hl hk
  have hb := nxV_lt (l := l) (k := k) (n := 4) (by decide)
  have hn1 := nxV1 l (nxK l k)
  obtain ⟨ht1, ht2⟩ := dt_rl l k
  have h1r : rl 1 = 1 := rfl
  refine fnM Tryz.func101 ?_
  have etkA : True := trivial
  have etkB : True := trivial
  have ers : True := trivial
  have ers2 : True := trivial
  refine zg8 ?_
  refine st_callMp 0 rfl rfl rfl (dice_pure l _) (.cons .ptr (.cons (.imm (.pure rfl)) .nil)) .ptr (c_Next l k 4 (by omega) (by omega) (by omega) (by omega)) rfl (dice_pure l _) rfl ?_
  refine st_pure rfl (.bin rfl rfl (sub64 (by omega) (by omega))) ?_
  refine cp am1 (c_FInt (nxV l k 4 - 2) (by omega) (by omega)) ?_
  refine zg16 ?_
  refine wl_weak (Weak.own (t := 8) 24 3 rfl rfl) ?_
  refine lp1 (fun (i : Nat) L => (((((((St.mk L.slot (hp [(0, ⟨2, [diceL l (nxK l k)], true⟩), (7, ⟨3, [ratL (dtV l k)], true⟩), (24, ⟨3, (List.replicate i (dtV l k)).map ratL, true⟩)])).put (some 0) (.eptr 0 2 0 0)).put (some 2) (iL 0)).put (some 1) (nI64 d)).put (some 7) (.eptr 7 3 0 0)).put (some 8) (.ref 24 3 0 i)).put (some 9) (nI64 i))) (fun i => i ≤ d + 1) (fun i => d + 1 - i) 0 (Nat.zero_le _) ?_
  rintro i L1 hi
  refine zg8 ?_
  refine wl_if rfl (fun h18r h18 => ?_) (fun h18r h18 => ?_)
  · have hi2 : i ≤ d := by omega
    have ers := rep_snoc i (dtV l k)
    have etkA : ((List.replicate i (dtV l k)).map ratL).take i = (List.replicate i (dtV l k)).map ratL := List.take_of_length_le (by simp)
    refine zg8 ?_
    refine st_store rfl (.appX (d := 24) (news := [ratL ((dtV l k))]) rfl rfl rfl rfl (by simp [knL_len]) (.inl rfl) (by decide) Tryz.underlying33 Tryz.underlying33 Z29a T29 rfl B29 (.inl ⟨23, 0, _, rfl, by decide, rfl, rfl, by simp, rfl, by simp [pures, ratE.pure]⟩) (by simp; omega) (by simp; omega) (by decide)) ?_
    refine zg4 ?_
    refine wl_regW (Weak.kill _ 23) ?_
    refine zg1 ?_
    refine st_pure rfl (.bin rfl rfl (add1N (by omega))) ?_
    refine zg3 ?_
    exact nx1 (i + 1) (by omega)
  · obtain rfl : i = d + 1 := by omega
    refine zg10 ?_
    refine st_pure rfl (.bin rfl rfl (add64 (by omega) (by omega))) ?_
    refine st_callMp 0 rfl rfl rfl (dice_pure l _) (.cons .ptr (.cons (.imm (.pure rfl)) .nil)) .ptr (c_Next l (nxK l k) 1 (by omega) (by omega) (by omega) (by omega)) rfl (dice_pure l _) rfl ?_
    refine zg4 ?_
    refine wl_unroll ?_
    refine zg7 ?_
    refine wl_condY (b := _) rfl (decide_eq_false (by omega)) ?_
    refine zg6 ?_
    refine wl_regD 3 (by decide +kernel) ?_
    refine zg1 ?_
    refine cp am1 (c_FInt 1 (by decide) (by decide)) ?_
    refine cp am2 (c_FRAdd (dtV l k) 1 (by omega)) ?_
    refine zg10 ?_
    refine lp1 (fun (i : Nat) L => (((((St.mk L.slot (hp [(0, ⟨2, [diceL l (nxK l (nxK l k))], true⟩), (7, ⟨3, [ratL ((dtV l k) + 1)], true⟩), (24, ⟨3, (knL d (dtV l k) i).map ratL, true⟩)])).put (some 1) (nI64 d)).put (some 7) (.eptr 7 3 0 0)).put (some 8) (.ref 24 3 0 (d + 1 + i))).put (some 11) (nI64 i))) (fun i => i ≤ d + 1) (fun i => d + 1 - i) 0 (Nat.zero_le _) ?_
    rintro i L3 hi
    refine zg8 ?_
    refine wl_if rfl (fun h72r h72 => ?_) (fun h72r h72 => ?_)
    · have hi2 : i ≤ d := by omega
      have ers2 : knL d (dtV l k) i ++ [(dtV l k) + 1] = knL d (dtV l k) (i + 1) := rfl
      have hkL := knL_len d (dtV l k) i
      have etkB : ((knL d (dtV l k) i).map ratL).take (d + 1 + i) = (knL d (dtV l k) i).map ratL := List.take_of_length_le (by simp; omega)
      refine zg8 ?_
      refine st_store rfl (.appX (d := 24) (news := [ratL ((dtV l k) + 1)]) rfl rfl rfl rfl (by simp [knL_len]) (.inl rfl) (by decide) Tryz.underlying33 Tryz.underlying33 Z29a T29 rfl B29 (.inl ⟨77, 0, _, rfl, by decide, rfl, rfl, by simp, rfl, by simp [pures, ratE.pure]⟩) (by simp; omega) (by simp; omega) (by decide)) ?_
      refine zg4 ?_
      refine wl_regW (Weak.kill _ 77) ?_
      refine zg1 ?_
      refine st_pure rfl (.bin rfl rfl (add1N (by omega))) ?_
      refine zg3 ?_
      exact nx1 (i + 1) (by omega)
    · obtain rfl : i = d + 1 := by omega
      refine zg12 ?_
      rw [← knL_end]
      exact retMf [24] rfl rfl (imm_refm ratE rfl rfl (knL_len _ _ _).symm) rfl rfl (dice_pure l _)
namespace H_c_DCurve
theorem zSm {p q : Prop} (k : q) (e : p = q := by simp only [e1, e2, e3, e4, p1, p2, p3, q1, q2, q3, l1, t0, t1, r1, r2, r3, r4, Nat.zero_add, Nat.reduceMul, Nat.reduceAdd, b1, b2, b3, b4, b5, b6, i1, i2, i3, i4, i5, i6, Nat.reduceBEq, l1, frz_nil, kn0_len, take_map_len, map_snoc, len_snoc, List.length_cons, List.length_nil, List.length_map, List.set_cons_zero, List.set_cons_succ, Nat.reduceEqDiff, reduceIte, if_true, if_false, ptL_kill, poL_kill, kills_map poE, kills_map ratE, ratL_kill, spL_kill, LV.kill, kills, dice_kill]; exact rfl) : p := e.mpr k
end H_c_DCurve
open H_c_DCurve in
theorem c_DCurve (l : List Int) (k : Nat) (hl : l.length ≤ 500) (n : Nat) (hn : 0 < n) (hn6 : n ≤ 6) (hk : k ≤ 500) : CallOKM Tryz.prog 18 ⟨2, [diceL l k], true⟩ [.eptr 0 2 0 0, nI64 n, iL 0, bL false] (.agg [nI64 (cD l k n), .list 3 ((kn0 (cD l k n) (cT l k)).map ratL), .list 12 ((cP l k n).map poL)]) ⟨2, [diceL l (cK l k n)], true⟩ := by
  have k1 := nxK_le (l := l) hl hk
  have k2 := nxK_le (l := l) hl k1
  have k3 := nxK_le (l := l) hl k2
  obtain ⟨hd1, hd2, hd3⟩ := cD_in l k hn
  have hb := nxV_lt (l := l) (k := k) (n := (n : Int)) (by omega)
  have gD : 1 + nxV l k (n : Int) = (((cD l k n) : Nat) : Int) := hd3.symm
  have hA : binI .add .i64 1 (nxV l k (n : Int)) = some (.int .i64 (((cD l k n) : Nat) : Int)) := by rw [← gD]; exact add64 (by omega) (by omega)
  have hkl := kn0_len (cD l k n) (cT l k)
  have hkp := pure_lst ratE 3 (kn0 (cD l k n) (cT l k))
  refine fnM Tryz.func18 ?_
  refine zg9 ?_
  refine st_callMp 0 rfl rfl rfl (dice_pure l _) (.cons .ptr (.cons (.imm (.pure rfl)) .nil)) .ptr (c_Next l k n (by omega) (by omega) (by omega) (by omega)) rfl (dice_pure l _) rfl ?_
  refine st_pure rfl (.bin rfl rfl (hA)) ?_
  refine zg11 ?_
  refine st_callMp 0 rfl rfl rfl (dice_pure l _) (.cons .ptr (.cons (.imm (.pure rfl)) (.cons (.imm (.pure rfl)) .nil))) .ptr (c_DKnots0 l (nxK l k) (by omega) (cD l k n) (by omega) (by omega)) rfl (dice_pure l _) hkp ?_
  refine zg11 ?_
  refine wl_weak ((Weak.cell 9 rfl (fun Z μ w cs h => rep_net 39 12 _ _ Z μ w cs h)).trans (Weak.newB _ 39 12 rfl)) ?_
  refine lp3 (fun (c j : Nat) (o : List PoR) L => ((((((St.mk L.slot (hp [(0, ⟨2, [diceL l j], true⟩), (8, ⟨3, [.agg [.v (.int .i64 0), .v (.slice none 0 0), .v (.slice none 0 0)]], true⟩), (9, ⟨3, [.agg [nI64 (cD l k n), .list 3 ((kn0 (cD l k n) (cT l k)).map ratL), .ref 39 12 0 o.length]], true⟩), (39, ⟨12, o.map poL, true⟩)])).put (some 0) (.eptr 0 2 0 0)).put (some 3) (bL false)).put (some 8) (.eptr 8 3 0 0)).put (some 9) (.eptr 9 3 0 0)).put (some 10) (nI64 o.length))) (fun c j o => j ≤ 500 ∧ o.length + c = (cD l k n) + 1 ∧ o ++ dqV l j c = cP l k n ∧ dqK l j c = cK l k n) (fun c j o => c) ((cD l k n) + 1) (nxK l (nxK l (nxK l k))) ([]) ⟨k3, by simp, rfl, rfl⟩ ?_
  rintro c j o L1 ⟨hj, ho, hV, hK⟩
  refine zg9 ?_
  refine st_pure rfl (.bin rfl rfl (sub64 (by omega) (by omega))) ?_
  refine st_pure rfl (.bin rfl rfl (sub64 (by omega) (by omega))) ?_
  refine zg3 ?_
  refine wl_if rfl (fun h30r h30 => ?_) (fun h30r h30 => ?_)
  · obtain ⟨e, rfl⟩ : ∃ e, c = e + 1 := ⟨c - 1, by omega⟩
    refine zg4 ?_
    refine wl_cut (fun L => ∃  (L1 : St), (True) ∧ L = ((((((St.mk L1.slot (hp [(0, ⟨2, [diceL l (dpK l j)], true⟩), (8, ⟨3, [.agg [.v (.int .i64 0), .v (.slice none 0 0), .v (.slice none 0 0)]], true⟩), (9, ⟨3, [.agg [nI64 (cD l k n), .list 3 ((kn0 (cD l k n) (cT l k)).map ratL), .ref 39 12 0 (o.length + 1)]], true⟩), (38, ⟨12, [dpV l j].map poL, true⟩), (39, ⟨12, (o ++ [dpV l j]).map poL, true⟩)])).put (some 0) (.eptr 0 2 0 0)).put (some 3) (bL false)).put (some 8) (.eptr 8 3 0 0)).put (some 9) (.eptr 9 3 0 0)).put (some 10) (nI64 o.length))) ?_ ?_
    · refine wl_regA ?_
      refine any_3 0 2 3 _ _ _ (by decide +kernel) rfl rfl rfl ?_ ?_ ?_
      · refine zg1 ?_
        refine st_nil ?_
        refine any_3 1 2 3 _ _ _ (by decide +kernel) rfl rfl rfl ?_ ?_ ?_
        · refine zg1 ?_
          refine st_nil ?_
          refine any_2 2 3 _ _ (by decide +kernel) rfl rfl ?_ ?_
          · refine zg1 ?_
            refine st_nil ?_
            refine any_1 3 _ (by decide +kernel) rfl ?_
            refine zg1 ?_
            refine st_nil ?_
            refine any_1 4 _ (by decide +kernel) rfl ?_
            refine st_callMp 0 rfl rfl rfl (dice_pure l _) (.cons .ptr (.cons (.imm (.pure rfl)) .nil)) .ptr (c_Dpole l j (by omega) (by omega)) rfl (dice_pure l _) (poE.pure _) ?_
            refine st_nil ?_
            refine any_1 5 _ (by decide +kernel) rfl ?_
            refine zg1 ?_
            refine st_nil ?_
            refine any_1 6 _ (by decide +kernel) rfl ?_
            refine st_store rfl (.appX (d := 39) (news := [poL (dpV l j)]) rfl rfl rfl rfl (by simp) (.inl rfl) (by decide) Tryz.underlying34 Tryz.underlying34 Z100 T100 cs B100 (.inl ⟨38, 0, _, rfl, by decide, rfl, rfl, by simp, rfl, by simp [pures, poE.pure]⟩) (by simp; omega) (by simp; omega) (by decide)) ?_
            refine st_nil ?_
            refine any_1 7 _ (by decide +kernel) rfl ?_
            refine zg1 ?_
            refine st_nil ?_
            refine any_1 8 _ (by decide +kernel) rfl ?_
            refine zg1 ?_
            refine st_nil ?_
            refine any_0 (by decide +kernel) ?_
            refine zg1 ?_
            exact ⟨_, trivial, ((put_id' (put_id' (put_id' (put_id' (put_id' (mk_id' cl) cl) cl) cl) cl) cl)).symm⟩
          · refine zg1 ?_
            refine st_nil ?_
            refine any_1 2 _ (by decide +kernel) rfl ?_
            refine zg1 ?_
            refine st_nil ?_
            refine any_1 4 _ (by decide +kernel) rfl ?_
            refine st_callMp 0 rfl rfl rfl (dice_pure l _) (.cons .ptr (.cons (.imm (.pure rfl)) .nil)) .ptr (c_Dpole l j (by omega) (by omega)) rfl (dice_pure l _) (poE.pure _) ?_
            refine st_nil ?_
            refine any_1 5 _ (by decide +kernel) rfl ?_
            refine zg1 ?_
            refine st_nil ?_
            refine any_1 6 _ (by decide +kernel) rfl ?_
            refine st_store rfl (.appX (d := 39) (news := [poL (dpV l j)]) rfl rfl rfl rfl (by simp) (.inl rfl) (by decide) Tryz.underlying34 Tryz.underlying34 Z100 T100 cs B100 (.inl ⟨38, 0, _, rfl, by decide, rfl, rfl, by simp, rfl, by simp [pures, poE.pure]⟩) (by simp; omega) (by simp; omega) (by decide)) ?_
            refine st_nil ?_
            refine any_1 7 _ (by decide +kernel) rfl ?_
            refine zg1 ?_
            refine st_nil ?_
            refine any_1 8 _ (by decide +kernel) rfl ?_
            refine zg1 ?_
            refine st_nil ?_
            refine any_0 (by decide +kernel) ?_
            refine zg1 ?_
            exact ⟨_, trivial, ((put_id' (put_id' (put_id' (put_id' (put_id' (mk_id' cl) cl) cl) cl) cl) cl)).symm⟩
        · refine zg1 ?_
          refine st_nil ?_
          refine any_2 1 3 _ _ (by decide +kernel) rfl rfl ?_ ?_
          · refine zg1 ?_
            refine st_nil ?_
            refine any_1 3 _ (by decide +kernel) rfl ?_
            refine zg1 ?_
            refine st_nil ?_
            refine any_1 4 _ (by decide +kernel) rfl ?_
            refine st_callMp 0 rfl rfl rfl (dice_pure l _) (.cons .ptr (.cons (.imm (.pure rfl)) .nil)) .ptr (c_Dpole l j (by omega) (by omega)) rfl (dice_pure l _) (poE.pure _) ?_
            refine st_nil ?_
            refine any_1 5 _ (by decide +kernel) rfl ?_
            refine zg1 ?_
            refine st_nil ?_
            refine any_1 6 _ (by decide +kernel) rfl ?_
            refine st_store rfl (.appX (d := 39) (news := [poL (dpV l j)]) rfl rfl rfl rfl (by simp) (.inl rfl) (by decide) Tryz.underlying34 Tryz.underlying34 Z100 T100 cs B100 (.inl ⟨38, 0, _, rfl, by decide, rfl, rfl, by simp, rfl, by simp [pures, poE.pure]⟩) (by simp; omega) (by simp; omega) (by decide)) ?_
            refine st_nil ?_
            refine any_1 7 _ (by decide +kernel) rfl ?_
            refine zg1 ?_
            refine st_nil ?_
            refine any_1 8 _ (by decide +kernel) rfl ?_
            refine zg1 ?_
            refine st_nil ?_
            refine any_0 (by decide +kernel) ?_
            refine zg1 ?_
            exact ⟨_, trivial, ((put_id' (put_id' (put_id' (put_id' (put_id' (mk_id' cl) cl) cl) cl) cl) cl)).symm⟩
          · refine zg1 ?_
            refine st_nil ?_
            refine any_2 1 4 _ _ (by decide +kernel) rfl rfl ?_ ?_
            · refine zg1 ?_
              refine st_nil ?_
              refine any_1 4 _ (by decide +kernel) rfl ?_
              refine st_callMp 0 rfl rfl rfl (dice_pure l _) (.cons .ptr (.cons (.imm (.pure rfl)) .nil)) .ptr (c_Dpole l j (by omega) (by omega)) rfl (dice_pure l _) (poE.pure _) ?_
              refine st_nil ?_
              refine any_1 5 _ (by decide +kernel) rfl ?_
              refine zg1 ?_
              refine st_nil ?_
              refine any_1 6 _ (by decide +kernel) rfl ?_
              refine st_store rfl (.appX (d := 39) (news := [poL (dpV l j)]) rfl rfl rfl rfl (by simp) (.inl rfl) (by decide) Tryz.underlying34 Tryz.underlying34 Z100 T100 cs B100 (.inl ⟨38, 0, _, rfl, by decide, rfl, rfl, by simp, rfl, by simp [pures, poE.pure]⟩) (by simp; omega) (by simp; omega) (by decide)) ?_
              refine st_nil ?_
              refine any_1 7 _ (by decide +kernel) rfl ?_
              refine zg1 ?_
              refine st_nil ?_
              refine any_1 8 _ (by decide +kernel) rfl ?_
              refine zg1 ?_
              refine st_nil ?_
              refine any_0 (by decide +kernel) ?_
              refine zg1 ?_
              exact ⟨_, trivial, ((put_id' (put_id' (put_id' (put_id' (put_id' (mk_id' cl) cl) cl) cl) cl) cl)).symm⟩
            · refine st_callMp 0 rfl rfl rfl (dice_pure l _) (.cons .ptr (.cons (.imm (.pure rfl)) .nil)) .ptr (c_Dpole l j (by omega) (by omega)) rfl (dice_pure l _) (poE.pure _) ?_
              refine st_nil ?_
              refine any_2 1 5 _ _ (by decide +kernel) rfl rfl ?_ ?_
              · refine zg1 ?_
                refine st_nil ?_
                refine any_1 5 _ (by decide +kernel) rfl ?_
                refine zg1 ?_
                refine st_nil ?_
                refine any_1 6 _ (by decide +kernel) rfl ?_
                refine st_store rfl (.appX (d := 39) (news := [poL (dpV l j)]) rfl rfl rfl rfl (by simp) (.inl rfl) (by decide) Tryz.underlying34 Tryz.underlying34 Z100 T100 cs B100 (.inl ⟨38, 0, _, rfl, by decide, rfl, rfl, by simp, rfl, by simp [pures, poE.pure]⟩) (by simp; omega) (by simp; omega) (by decide)) ?_
                refine st_nil ?_
                refine any_1 7 _ (by decide +kernel) rfl ?_
                refine zg1 ?_
                refine st_nil ?_
                refine any_1 8 _ (by decide +kernel) rfl ?_
                refine zg1 ?_
                refine st_nil ?_
                refine any_0 (by decide +kernel) ?_
                refine zg1 ?_
                exact ⟨_, trivial, ((put_id' (put_id' (put_id' (put_id' (put_id' (mk_id' cl) cl) cl) cl) cl) cl)).symm⟩
              · refine zg1 ?_
                refine st_nil ?_
                refine any_1 1 _ (by decide +kernel) rfl ?_
                refine zg1 ?_
                refine st_nil ?_
                refine any_1 6 _ (by decide +kernel) rfl ?_
                refine st_store rfl (.appX (d := 39) (news := [poL (dpV l j)]) rfl rfl rfl rfl (by simp) (.inl rfl) (by decide) Tryz.underlying34 Tryz.underlying34 Z100 T100 cs B100 (.inl ⟨38, 0, _, rfl, by decide, rfl, rfl, by simp, rfl, by simp [pures, poE.pure]⟩) (by simp; omega) (by simp; omega) (by decide)) ?_
                refine st_nil ?_
                refine any_1 7 _ (by decide +kernel) rfl ?_
                refine zg1 ?_
                refine st_nil ?_
                refine any_1 8 _ (by decide +kernel) rfl ?_
                refine zg1 ?_
                refine st_nil ?_
                refine any_0 (by decide +kernel) ?_
                refine zg1 ?_
                exact ⟨_, trivial, ((put_id' (put_id' (put_id' (put_id' (put_id' (mk_id' cl) cl) cl) cl) cl) cl)).symm⟩
        · refine zg1 ?_
          refine st_nil ?_
          refine any_2 1 2 _ _ (by decide +kernel) rfl rfl ?_ ?_
          · refine zg1 ?_
            refine st_nil ?_
            refine any_1 2 _ (by decide +kernel) rfl ?_
            refine zg1 ?_
            refine st_nil ?_
            refine any_1 4 _ (by decide +kernel) rfl ?_
            refine st_callMp 0 rfl rfl rfl (dice_pure l _) (.cons .ptr (.cons (.imm (.pure rfl)) .nil)) .ptr (c_Dpole l j (by omega) (by omega)) rfl (dice_pure l _) (poE.pure _) ?_
            refine st_nil ?_
            refine any_1 5 _ (by decide +kernel) rfl ?_
            refine zg1 ?_
            refine st_nil ?_
            refine any_1 6 _ (by decide +kernel) rfl ?_
            refine st_store rfl (.appX (d := 39) (news := [poL (dpV l j)]) rfl rfl rfl rfl (by simp) (.inl rfl) (by decide) Tryz.underlying34 Tryz.underlying34 Z100 T100 cs B100 (.inl ⟨38, 0, _, rfl, by decide, rfl, rfl, by simp, rfl, by simp [pures, poE.pure]⟩) (by simp; omega) (by simp; omega) (by decide)) ?_
            refine st_nil ?_
            refine any_1 7 _ (by decide +kernel) rfl ?_
            refine zg1 ?_
            refine st_nil ?_
            refine any_1 8 _ (by decide +kernel) rfl ?_
            refine zg1 ?_
            refine st_nil ?_
            refine any_0 (by decide +kernel) ?_
            refine zg1 ?_
            exact ⟨_, trivial, ((put_id' (put_id' (put_id' (put_id' (put_id' (mk_id' cl) cl) cl) cl) cl) cl)).symm⟩
          · refine zg1 ?_
            refine st_nil ?_
            refine any_2 1 4 _ _ (by decide +kernel) rfl rfl ?_ ?_
            · refine zg1 ?_
              refine st_nil ?_
              refine any_1 4 _ (by decide +kernel) rfl ?_
              refine st_callMp 0 rfl rfl rfl (dice_pure l _) (.cons .ptr (.cons (.imm (.pure rfl)) .nil)) .ptr (c_Dpole l j (by omega) (by omega)) rfl (dice_pure l _) (poE.pure _) ?_
              refine st_nil ?_
              refine any_1 5 _ (by decide +kernel) rfl ?_
              refine zg1 ?_
              refine st_nil ?_
              refine any_1 6 _ (by decide +kernel) rfl ?_
              refine st_store rfl (.appX (d := 39) (news := [poL (dpV l j)]) rfl rfl rfl rfl (by simp) (.inl rfl) (by decide) Tryz.underlying34 Tryz.underlying34 Z100 T100 cs B100 (.inl ⟨38, 0, _, rfl, by decide, rfl, rfl, by simp, rfl, by simp [pures, poE.pure]⟩) (by simp; omega) (by simp; omega) (by decide)) ?_
              refine st_nil ?_
              refine any_1 7 _ (by decide +kernel) rfl ?_
              refine zg1 ?_
              refine st_nil ?_
              refine any_1 8 _ (by decide +kernel) rfl ?_
              refine zg1 ?_
              refine st_nil ?_
              refine any_0 (by decide +kernel) ?_
              refine zg1 ?_
              exact ⟨_, trivial, ((put_id' (put_id' (put_id' (put_id' (put_id' (mk_id' cl) cl) cl) cl) cl) cl)).symm⟩
            · refine st_callMp 0 rfl rfl rfl (dice_pure l _) (.cons .ptr (.cons (.imm (.pure rfl)) .nil)) .ptr (c_Dpole l j (by omega) (by omega)) rfl (dice_pure l _) (poE.pure _) ?_
              refine st_nil ?_
              refine any_2 1 5 _ _ (by decide +kernel) rfl rfl ?_ ?_
              · refine zg1 ?_
                refine st_nil ?_
                refine any_1 5 _ (by decide +kernel) rfl ?_
                refine zg1 ?_
                refine st_nil ?_
                refine any_1 6 _ (by decide +kernel) rfl ?_
                refine st_store rfl (.appX (d := 39) (news := [poL (dpV l j)]) rfl rfl rfl rfl (by simp) (.inl rfl) (by decide) Tryz.underlying34 Tryz.underlying34 Z100 T100 cs B100 (.inl ⟨38, 0, _, rfl, by decide, rfl, rfl, by simp, rfl, by simp [pures, poE.pure]⟩) (by simp; omega) (by simp; omega) (by decide)) ?_
                refine st_nil ?_
                refine any_1 7 _ (by decide +kernel) rfl ?_
                refine zg1 ?_
                refine st_nil ?_
                refine any_1 8 _ (by decide +kernel) rfl ?_
                refine zg1 ?_
                refine st_nil ?_
                refine any_0 (by decide +kernel) ?_
                refine zg1 ?_
                exact ⟨_, trivial, ((put_id' (put_id' (put_id' (put_id' (put_id' (mk_id' cl) cl) cl) cl) cl) cl)).symm⟩
              · refine zg1 ?_
                refine st_nil ?_
                refine any_1 1 _ (by decide +kernel) rfl ?_
                refine zg1 ?_
                refine st_nil ?_
                refine any_1 6 _ (by decide +kernel) rfl ?_
                refine st_store rfl (.appX (d := 39) (news := [poL (dpV l j)]) rfl rfl rfl rfl (by simp) (.inl rfl) (by decide) Tryz.underlying34 Tryz.underlying34 Z100 T100 cs B100 (.inl ⟨38, 0, _, rfl, by decide, rfl, rfl, by simp, rfl, by simp [pures, poE.pure]⟩) (by simp; omega) (by simp; omega) (by decide)) ?_
                refine st_nil ?_
                refine any_1 7 _ (by decide +kernel) rfl ?_
                refine zg1 ?_
                refine st_nil ?_
                refine any_1 8 _ (by decide +kernel) rfl ?_
                refine zg1 ?_
                refine st_nil ?_
                refine any_0 (by decide +kernel) ?_
                refine zg1 ?_
                exact ⟨_, trivial, ((put_id' (put_id' (put_id' (put_id' (put_id' (mk_id' cl) cl) cl) cl) cl) cl)).symm⟩
      · refine zg1 ?_
        refine st_nil ?_
        refine any_2 0 3 _ _ (by decide +kernel) rfl rfl ?_ ?_
        · refine zg1 ?_
          refine st_nil ?_
          refine any_2 1 3 _ _ (by decide +kernel) rfl rfl ?_ ?_
          · refine zg1 ?_
            refine st_nil ?_
            refine any_1 3 _ (by decide +kernel) rfl ?_
            refine zg1 ?_
            refine st_nil ?_
            refine any_1 4 _ (by decide +kernel) rfl ?_
            refine st_callMp 0 rfl rfl rfl (dice_pure l _) (.cons .ptr (.cons (.imm (.pure rfl)) .nil)) .ptr (c_Dpole l j (by omega) (by omega)) rfl (dice_pure l _) (poE.pure _) ?_
            refine st_nil ?_
            refine any_1 5 _ (by decide +kernel) rfl ?_
            refine zg1 ?_
            refine st_nil ?_
            refine any_1 6 _ (by decide +kernel) rfl ?_
            refine st_store rfl (.appX (d := 39) (news := [poL (dpV l j)]) rfl rfl rfl rfl (by simp) (.inl rfl) (by decide) Tryz.underlying34 Tryz.underlying34 Z100 T100 cs B100 (.inl ⟨38, 0, _, rfl, by decide, rfl, rfl, by simp, rfl, by simp [pures, poE.pure]⟩) (by simp; omega) (by simp; omega) (by decide)) ?_
            refine st_nil ?_
            refine any_1 7 _ (by decide +kernel) rfl ?_
            refine zg1 ?_
            refine st_nil ?_
            refine any_1 8 _ (by decide +kernel) rfl ?_
            refine zg1 ?_
            refine st_nil ?_
            refine any_0 (by decide +kernel) ?_
            refine zg1 ?_
            exact ⟨_, trivial, ((put_id' (put_id' (put_id' (put_id' (put_id' (mk_id' cl) cl) cl) cl) cl) cl)).symm⟩
          · refine zg1 ?_
            refine st_nil ?_
            refine any_2 1 4 _ _ (by decide +kernel) rfl rfl ?_ ?_
            · refine zg1 ?_
              refine st_nil ?_
              refine any_1 4 _ (by decide +kernel) rfl ?_
              refine st_callMp 0 rfl rfl rfl (dice_pure l _) (.cons .ptr (.cons (.imm (.pure rfl)) .nil)) .ptr (c_Dpole l j (by omega) (by omega)) rfl (dice_pure l _) (poE.pure _) ?_
              refine st_nil ?_
              refine any_1 5 _ (by decide +kernel) rfl ?_
              refine zg1 ?_
              refine st_nil ?_
              refine any_1 6 _ (by decide +kernel) rfl ?_
              refine st_store rfl (.appX (d := 39) (news := [poL (dpV l j)]) rfl rfl rfl rfl (by simp) (.inl rfl) (by decide) Tryz.underlying34 Tryz.underlying34 Z100 T100 cs B100 (.inl ⟨38, 0, _, rfl, by decide, rfl, rfl, by simp, rfl, by simp [pures, poE.pure]⟩) (by simp; omega) (by simp; omega) (by decide)) ?_
              refine st_nil ?_
              refine any_1 7 _ (by decide +kernel) rfl ?_
              refine zg1 ?_
              refine st_nil ?_
              refine any_1 8 _ (by decide +kernel) rfl ?_
              refine zg1 ?_
              refine st_nil ?_
              refine any_0 (by decide +kernel) ?_
              refine zg1 ?_
              exact ⟨_, trivial, ((put_id' (put_id' (put_id' (put_id' (put_id' (mk_id' cl) cl) cl) cl) cl) cl)).symm⟩
            · refine st_callMp 0 rfl rfl rfl (dice_pure l _) (.cons .ptr (.cons (.imm (.pure rfl)) .nil)) .ptr (c_Dpole l j (by omega) (by omega)) rfl (dice_pure l _) (poE.pure _) ?_
              refine st_nil ?_
              refine any_2 1 5 _ _ (by decide +kernel) rfl rfl ?_ ?_
              · refine zg1 ?_
                refine st_nil ?_
                refine any_1 5 _ (by decide +kernel) rfl ?_
                refine zg1 ?_
                refine st_nil ?_
                refine any_1 6 _ (by decide +kernel) rfl ?_
                refine st_store rfl (.appX (d := 39) (news := [poL (dpV l j)]) rfl rfl rfl rfl (by simp) (.inl rfl) (by decide) Tryz.underlying34 Tryz.underlying34 Z100 T100 cs B100 (.inl ⟨38, 0, _, rfl, by decide, rfl, rfl, by simp, rfl, by simp [pures, poE.pure]⟩) (by simp; omega) (by simp; omega) (by decide)) ?_
                refine st_nil ?_
                refine any_1 7 _ (by decide +kernel) rfl ?_
                refine zg1 ?_
                refine st_nil ?_
                refine any_1 8 _ (by decide +kernel) rfl ?_
                refine zg1 ?_
                refine st_nil ?_
                refine any_0 (by decide +kernel) ?_
                refine zg1 ?_
                exact ⟨_, trivial, ((put_id' (put_id' (put_id' (put_id' (put_id' (mk_id' cl) cl) cl) cl) cl) cl)).symm⟩
              · refine zg1 ?_
                refine st_nil ?_
                refine any_1 1 _ (by decide +kernel) rfl ?_
                refine zg1 ?_
                refine st_nil ?_
                refine any_1 6 _ (by decide +kernel) rfl ?_
                refine st_store rfl (.appX (d := 39) (news := [poL (dpV l j)]) rfl rfl rfl rfl (by simp) (.inl rfl) (by decide) Tryz.underlying34 Tryz.underlying34 Z100 T100 cs B100 (.inl ⟨38, 0, _, rfl, by decide, rfl, rfl, by simp, rfl, by simp [pures, poE.pure]⟩) (by simp; omega) (by simp; omega) (by decide)) ?_
                refine st_nil ?_
                refine any_1 7 _ (by decide +kernel) rfl ?_
                refine zg1 ?_
                refine st_nil ?_
                refine any_1 8 _ (by decide +kernel) rfl ?_
                refine zg1 ?_
                refine st_nil ?_
                refine any_0 (by decide +kernel) ?_
                refine zg1 ?_
                exact ⟨_, trivial, ((put_id' (put_id' (put_id' (put_id' (put_id' (mk_id' cl) cl) cl) cl) cl) cl)).symm⟩
        · refine zg1 ?_
          refine st_nil ?_
          refine any_2 0 4 _ _ (by decide +kernel) rfl rfl ?_ ?_
          · refine zg1 ?_
            refine st_nil ?_
            refine any_2 1 4 _ _ (by decide +kernel) rfl rfl ?_ ?_
            · refine zg1 ?_
              refine st_nil ?_
              refine any_1 4 _ (by decide +kernel) rfl ?_
              refine st_callMp 0 rfl rfl rfl (dice_pure l _) (.cons .ptr (.cons (.imm (.pure rfl)) .nil)) .ptr (c_Dpole l j (by omega) (by omega)) rfl (dice_pure l _) (poE.pure _) ?_
              refine st_nil ?_
              refine any_1 5 _ (by decide +kernel) rfl ?_
              refine zg1 ?_
              refine st_nil ?_
              refine any_1 6 _ (by decide +kernel) rfl ?_
              refine st_store rfl (.appX (d := 39) (news := [poL (dpV l j)]) rfl rfl rfl rfl (by simp) (.inl rfl) (by decide) Tryz.underlying34 Tryz.underlying34 Z100 T100 cs B100 (.inl ⟨38, 0, _, rfl, by decide, rfl, rfl, by simp, rfl, by simp [pures, poE.pure]⟩) (by simp; omega) (by simp; omega) (by decide)) ?_
              refine st_nil ?_
              refine any_1 7 _ (by decide +kernel) rfl ?_
              refine zg1 ?_
              refine st_nil ?_
              refine any_1 8 _ (by decide +kernel) rfl ?_
              refine zg1 ?_
              refine st_nil ?_
              refine any_0 (by decide +kernel) ?_
              refine zg1 ?_
              exact ⟨_, trivial, ((put_id' (put_id' (put_id' (put_id' (put_id' (mk_id' cl) cl) cl) cl) cl) cl)).symm⟩
            · refine st_callMp 0 rfl rfl rfl (dice_pure l _) (.cons .ptr (.cons (.imm (.pure rfl)) .nil)) .ptr (c_Dpole l j (by omega) (by omega)) rfl (dice_pure l _) (poE.pure _) ?_
              refine st_nil ?_
              refine any_2 1 5 _ _ (by decide +kernel) rfl rfl ?_ ?_
              · refine zg1 ?_
                refine st_nil ?_
                refine any_1 5 _ (by decide +kernel) rfl ?_
                refine zg1 ?_
                refine st_nil ?_
                refine any_1 6 _ (by decide +kernel) rfl ?_
                refine st_store rfl (.appX (d := 39) (news := [poL (dpV l j)]) rfl rfl rfl rfl (by simp) (.inl rfl) (by decide) Tryz.underlying34 Tryz.underlying34 Z100 T100 cs B100 (.inl ⟨38, 0, _, rfl, by decide, rfl, rfl, by simp, rfl, by simp [pures, poE.pure]⟩) (by simp; omega) (by simp; omega) (by decide)) ?_
                refine st_nil ?_
                refine any_1 7 _ (by decide +kernel) rfl ?_
                refine zg1 ?_
                refine st_nil ?_
                refine any_1 8 _ (by decide +kernel) rfl ?_
                refine zg1 ?_
                refine st_nil ?_
                refine any_0 (by decide +kernel) ?_
                refine zg1 ?_
                exact ⟨_, trivial, ((put_id' (put_id' (put_id' (put_id' (put_id' (mk_id' cl) cl) cl) cl) cl) cl)).symm⟩
              · refine zg1 ?_
                refine st_nil ?_
                refine any_1 1 _ (by decide +kernel) rfl ?_
                refine zg1 ?_
                refine st_nil ?_
                refine any_1 6 _ (by decide +kernel) rfl ?_
                refine st_store rfl (.appX (d := 39) (news := [poL (dpV l j)]) rfl rfl rfl rfl (by simp) (.inl rfl) (by decide) Tryz.underlying34 Tryz.underlying34 Z100 T100 cs B100 (.inl ⟨38, 0, _, rfl, by decide, rfl, rfl, by simp, rfl, by simp [pures, poE.pure]⟩) (by simp; omega) (by simp; omega) (by decide)) ?_
                refine st_nil ?_
                refine any_1 7 _ (by decide +kernel) rfl ?_
                refine zg1 ?_
                refine st_nil ?_
                refine any_1 8 _ (by decide +kernel) rfl ?_
                refine zg1 ?_
                refine st_nil ?_
                refine any_0 (by decide +kernel) ?_
                refine zg1 ?_
                exact ⟨_, trivial, ((put_id' (put_id' (put_id' (put_id' (put_id' (mk_id' cl) cl) cl) cl) cl) cl)).symm⟩
          · refine st_callMp 0 rfl rfl rfl (dice_pure l _) (.cons .ptr (.cons (.imm (.pure rfl)) .nil)) .ptr (c_Dpole l j (by omega) (by omega)) rfl (dice_pure l _) (poE.pure _) ?_
            refine st_nil ?_
            refine any_2 0 5 _ _ (by decide +kernel) rfl rfl ?_ ?_
            · refine zg1 ?_
              refine st_nil ?_
              refine any_2 1 5 _ _ (by decide +kernel) rfl rfl ?_ ?_
              · refine zg1 ?_
                refine st_nil ?_
                refine any_1 5 _ (by decide +kernel) rfl ?_
                refine zg1 ?_
                refine st_nil ?_
                refine any_1 6 _ (by decide +kernel) rfl ?_
                refine st_store rfl (.appX (d := 39) (news := [poL (dpV l j)]) rfl rfl rfl rfl (by simp) (.inl rfl) (by decide) Tryz.underlying34 Tryz.underlying34 Z100 T100 cs B100 (.inl ⟨38, 0, _, rfl, by decide, rfl, rfl, by simp, rfl, by simp [pures, poE.pure]⟩) (by simp; omega) (by simp; omega) (by decide)) ?_
                refine st_nil ?_
                refine any_1 7 _ (by decide +kernel) rfl ?_
                refine zg1 ?_
                refine st_nil ?_
                refine any_1 8 _ (by decide +kernel) rfl ?_
                refine zg1 ?_
                refine st_nil ?_
                refine any_0 (by decide +kernel) ?_
                refine zg1 ?_
                exact ⟨_, trivial, ((put_id' (put_id' (put_id' (put_id' (put_id' (mk_id' cl) cl) cl) cl) cl) cl)).symm⟩
              · refine zg1 ?_
                refine st_nil ?_
                refine any_1 1 _ (by decide +kernel) rfl ?_
                refine zg1 ?_
                refine st_nil ?_
                refine any_1 6 _ (by decide +kernel) rfl ?_
                refine st_store rfl (.appX (d := 39) (news := [poL (dpV l j)]) rfl rfl rfl rfl (by simp) (.inl rfl) (by decide) Tryz.underlying34 Tryz.underlying34 Z100 T100 cs B100 (.inl ⟨38, 0, _, rfl, by decide, rfl, rfl, by simp, rfl, by simp [pures, poE.pure]⟩) (by simp; omega) (by simp; omega) (by decide)) ?_
                refine st_nil ?_
                refine any_1 7 _ (by decide +kernel) rfl ?_
                refine zg1 ?_
                refine st_nil ?_
                refine any_1 8 _ (by decide +kernel) rfl ?_
                refine zg1 ?_
                refine st_nil ?_
                refine any_0 (by decide +kernel) ?_
                refine zg1 ?_
                exact ⟨_, trivial, ((put_id' (put_id' (put_id' (put_id' (put_id' (mk_id' cl) cl) cl) cl) cl) cl)).symm⟩
            · refine zg1 ?_
              refine st_nil ?_
              refine any_1 0 _ (by decide +kernel) rfl ?_
              refine zg1 ?_
              refine st_nil ?_
              refine any_1 1 _ (by decide +kernel) rfl ?_
              refine zg1 ?_
              refine st_nil ?_
              refine any_1 6 _ (by decide +kernel) rfl ?_
              refine st_store rfl (.appX (d := 39) (news := [poL (dpV l j)]) rfl rfl rfl rfl (by simp) (.inl rfl) (by decide) Tryz.underlying34 Tryz.underlying34 Z100 T100 cs B100 (.inl ⟨38, 0, _, rfl, by decide, rfl, rfl, by simp, rfl, by simp [pures, poE.pure]⟩) (by simp; omega) (by simp; omega) (by decide)) ?_
              refine st_nil ?_
              refine any_1 7 _ (by decide +kernel) rfl ?_
              refine zg1 ?_
              refine st_nil ?_
              refine any_1 8 _ (by decide +kernel) rfl ?_
              refine zg1 ?_
              refine st_nil ?_
              refine any_0 (by decide +kernel) ?_
              refine zg1 ?_
              exact ⟨_, trivial, ((put_id' (put_id' (put_id' (put_id' (put_id' (mk_id' cl) cl) cl) cl) cl) cl)).symm⟩
      · refine zg1 ?_
        refine st_nil ?_
        refine any_2 0 2 _ _ (by decide +kernel) rfl rfl ?_ ?_
        · refine zg1 ?_
          refine st_nil ?_
          refine any_2 1 2 _ _ (by decide +kernel) rfl rfl ?_ ?_
          · refine zg1 ?_
            refine st_nil ?_
            refine any_1 2 _ (by decide +kernel) rfl ?_
            refine zg1 ?_
            refine st_nil ?_
            refine any_1 4 _ (by decide +kernel) rfl ?_
            refine st_callMp 0 rfl rfl rfl (dice_pure l _) (.cons .ptr (.cons (.imm (.pure rfl)) .nil)) .ptr (c_Dpole l j (by omega) (by omega)) rfl (dice_pure l _) (poE.pure _) ?_
            refine st_nil ?_
            refine any_1 5 _ (by decide +kernel) rfl ?_
            refine zg1 ?_
            refine st_nil ?_
            refine any_1 6 _ (by decide +kernel) rfl ?_
            refine st_store rfl (.appX (d := 39) (news := [poL (dpV l j)]) rfl rfl rfl rfl (by simp) (.inl rfl) (by decide) Tryz.underlying34 Tryz.underlying34 Z100 T100 cs B100 (.inl ⟨38, 0, _, rfl, by decide, rfl, rfl, by simp, rfl, by simp [pures, poE.pure]⟩) (by simp; omega) (by simp; omega) (by decide)) ?_
            refine st_nil ?_
            refine any_1 7 _ (by decide +kernel) rfl ?_
            refine zg1 ?_
            refine st_nil ?_
            refine any_1 8 _ (by decide +kernel) rfl ?_
            refine zg1 ?_
            refine st_nil ?_
            refine any_0 (by decide +kernel) ?_
            refine zg1 ?_
            exact ⟨_, trivial, ((put_id' (put_id' (put_id' (put_id' (put_id' (mk_id' cl) cl) cl) cl) cl) cl)).symm⟩
          · refine zg1 ?_
            refine st_nil ?_
            refine any_2 1 4 _ _ (by decide +kernel) rfl rfl ?_ ?_
            · refine zg1 ?_
              refine st_nil ?_
              refine any_1 4 _ (by decide +kernel) rfl ?_
              refine st_callMp 0 rfl rfl rfl (dice_pure l _) (.cons .ptr (.cons (.imm (.pure rfl)) .nil)) .ptr (c_Dpole l j (by omega) (by omega)) rfl (dice_pure l _) (poE.pure _) ?_
              refine st_nil ?_
              refine any_1 5 _ (by decide +kernel) rfl ?_
              refine zg1 ?_
              refine st_nil ?_
              refine any_1 6 _ (by decide +kernel) rfl ?_
              refine st_store rfl (.appX (d := 39) (news := [poL (dpV l j)]) rfl rfl rfl rfl (by simp) (.inl rfl) (by decide) Tryz.underlying34 Tryz.underlying34 Z100 T100 cs B100 (.inl ⟨38, 0, _, rfl, by decide, rfl, rfl, by simp, rfl, by simp [pures, poE.pure]⟩) (by simp; omega) (by simp; omega) (by decide)) ?_
              refine st_nil ?_
              refine any_1 7 _ (by decide +kernel) rfl ?_
              refine zg1 ?_
              refine st_nil ?_
              refine any_1 8 _ (by decide +kernel) rfl ?_
              refine zg1 ?_
              refine st_nil ?_
              refine any_0 (by decide +kernel) ?_
              refine zg1 ?_
              exact ⟨_, trivial, ((put_id' (put_id' (put_id' (put_id' (put_id' (mk_id' cl) cl) cl) cl) cl) cl)).symm⟩
            · refine st_callMp 0 rfl rfl rfl (dice_pure l _) (.cons .ptr (.cons (.imm (.pure rfl)) .nil)) .ptr (c_Dpole l j (by omega) (by omega)) rfl (dice_pure l _) (poE.pure _) ?_
              refine st_nil ?_
              refine any_2 1 5 _ _ (by decide +kernel) rfl rfl ?_ ?_
              · refine zg1 ?_
                refine st_nil ?_
                refine any_1 5 _ (by decide +kernel) rfl ?_
                refine zg1 ?_
                refine st_nil ?_
                refine any_1 6 _ (by decide +kernel) rfl ?_
                refine st_store rfl (.appX (d := 39) (news := [poL (dpV l j)]) rfl rfl rfl rfl (by simp) (.inl rfl) (by decide) Tryz.underlying34 Tryz.underlying34 Z100 T100 cs B100 (.inl ⟨38, 0, _, rfl, by decide, rfl, rfl, by simp, rfl, by simp [pures, poE.pure]⟩) (by simp; omega) (by simp; omega) (by decide)) ?_
                refine st_nil ?_
                refine any_1 7 _ (by decide +kernel) rfl ?_
                refine zg1 ?_
                refine st_nil ?_
                refine any_1 8 _ (by decide +kernel) rfl ?_
                refine zg1 ?_
                refine st_nil ?_
                refine any_0 (by decide +kernel) ?_
                refine zg1 ?_
                exact ⟨_, trivial, ((put_id' (put_id' (put_id' (put_id' (put_id' (mk_id' cl) cl) cl) cl) cl) cl)).symm⟩
              · refine zg1 ?_
                refine st_nil ?_
                refine any_1 1 _ (by decide +kernel) rfl ?_
                refine zg1 ?_
                refine st_nil ?_
                refine any_1 6 _ (by decide +kernel) rfl ?_
                refine st_store rfl (.appX (d := 39) (news := [poL (dpV l j)]) rfl rfl rfl rfl (by simp) (.inl rfl) (by decide) Tryz.underlying34 Tryz.underlying34 Z100 T100 cs B100 (.inl ⟨38, 0, _, rfl, by decide, rfl, rfl, by simp, rfl, by simp [pures, poE.pure]⟩) (by simp; omega) (by simp; omega) (by decide)) ?_
                refine st_nil ?_
                refine any_1 7 _ (by decide +kernel) rfl ?_
                refine zg1 ?_
                refine st_nil ?_
                refine any_1 8 _ (by decide +kernel) rfl ?_
                refine zg1 ?_
                refine st_nil ?_
                refine any_0 (by decide +kernel) ?_
                refine zg1 ?_
                exact ⟨_, trivial, ((put_id' (put_id' (put_id' (put_id' (put_id' (mk_id' cl) cl) cl) cl) cl) cl)).symm⟩
        · refine zg1 ?_
          refine st_nil ?_
          refine any_2 0 4 _ _ (by decide +kernel) rfl rfl ?_ ?_
          · refine zg1 ?_
            refine st_nil ?_
            refine any_2 1 4 _ _ (by decide +kernel) rfl rfl ?_ ?_
            · refine zg1 ?_
              refine st_nil ?_
              refine any_1 4 _ (by decide +kernel) rfl ?_
              refine st_callMp 0 rfl rfl rfl (dice_pure l _) (.cons .ptr (.cons (.imm (.pure rfl)) .nil)) .ptr (c_Dpole l j (by omega) (by omega)) rfl (dice_pure l _) (poE.pure _) ?_
              refine st_nil ?_
              refine any_1 5 _ (by decide +kernel) rfl ?_
              refine zg1 ?_
              refine st_nil ?_
              refine any_1 6 _ (by decide +kernel) rfl ?_
              refine st_store rfl (.appX (d := 39) (news := [poL (dpV l j)]) rfl rfl rfl rfl (by simp) (.inl rfl) (by decide) Tryz.underlying34 Tryz.underlying34 Z100 T100 cs B100 (.inl ⟨38, 0, _, rfl, by decide, rfl, rfl, by simp, rfl, by simp [pures, poE.pure]⟩) (by simp; omega) (by simp; omega) (by decide)) ?_
              refine st_nil ?_
              refine any_1 7 _ (by decide +kernel) rfl ?_
              refine zg1 ?_
              refine st_nil ?_
              refine any_1 8 _ (by decide +kernel) rfl ?_
              refine zg1 ?_
              refine st_nil ?_
              refine any_0 (by decide +kernel) ?_
              refine zg1 ?_
              exact ⟨_, trivial, ((put_id' (put_id' (put_id' (put_id' (put_id' (mk_id' cl) cl) cl) cl) cl) cl)).symm⟩
            · refine st_callMp 0 rfl rfl rfl (dice_pure l _) (.cons .ptr (.cons (.imm (.pure rfl)) .nil)) .ptr (c_Dpole l j (by omega) (by omega)) rfl (dice_pure l _) (poE.pure _) ?_
              refine st_nil ?_
              refine any_2 1 5 _ _ (by decide +kernel) rfl rfl ?_ ?_
              · refine zg1 ?_
                refine st_nil ?_
                refine any_1 5 _ (by decide +kernel) rfl ?_
                refine zg1 ?_
                refine st_nil ?_
                refine any_1 6 _ (by decide +kernel) rfl ?_
                refine st_store rfl (.appX (d := 39) (news := [poL (dpV l j)]) rfl rfl rfl rfl (by simp) (.inl rfl) (by decide) Tryz.underlying34 Tryz.underlying34 Z100 T100 cs B100 (.inl ⟨38, 0, _, rfl, by decide, rfl, rfl, by simp, rfl, by simp [pures, poE.pure]⟩) (by simp; omega) (by simp; omega) (by decide)) ?_
                refine st_nil ?_
                refine any_1 7 _ (by decide +kernel) rfl ?_
                refine zg1 ?_
                refine st_nil ?_
                refine any_1 8 _ (by decide +kernel) rfl ?_
                refine zg1 ?_
                refine st_nil ?_
                refine any_0 (by decide +kernel) ?_
                refine zg1 ?_
                exact ⟨_, trivial, ((put_id' (put_id' (put_id' (put_id' (put_id' (mk_id' cl) cl) cl) cl) cl) cl)).symm⟩
              · refine zg1 ?_
                refine st_nil ?_
                refine any_1 1 _ (by decide +kernel) rfl ?_
                refine zg1 ?_
                refine st_nil ?_
                refine any_1 6 _ (by decide +kernel) rfl ?_
                refine st_store rfl (.appX (d := 39) (news := [poL (dpV l j)]) rfl rfl rfl rfl (by simp) (.inl rfl) (by decide) Tryz.underlying34 Tryz.underlying34 Z100 T100 cs B100 (.inl ⟨38, 0, _, rfl, by decide, rfl, rfl, by simp, rfl, by simp [pures, poE.pure]⟩) (by simp; omega) (by simp; omega) (by decide)) ?_
                refine st_nil ?_
                refine any_1 7 _ (by decide +kernel) rfl ?_
                refine zg1 ?_
                refine st_nil ?_
                refine any_1 8 _ (by decide +kernel) rfl ?_
                refine zg1 ?_
                refine st_nil ?_
                refine any_0 (by decide +kernel) ?_
                refine zg1 ?_
                exact ⟨_, trivial, ((put_id' (put_id' (put_id' (put_id' (put_id' (mk_id' cl) cl) cl) cl) cl) cl)).symm⟩
          · refine st_callMp 0 rfl rfl rfl (dice_pure l _) (.cons .ptr (.cons (.imm (.pure rfl)) .nil)) .ptr (c_Dpole l j (by omega) (by omega)) rfl (dice_pure l _) (poE.pure _) ?_
            refine st_nil ?_
            refine any_2 0 5 _ _ (by decide +kernel) rfl rfl ?_ ?_
            · refine zg1 ?_
              refine st_nil ?_
              refine any_2 1 5 _ _ (by decide +kernel) rfl rfl ?_ ?_
              · refine zg1 ?_
                refine st_nil ?_
                refine any_1 5 _ (by decide +kernel) rfl ?_
                refine zg1 ?_
                refine st_nil ?_
                refine any_1 6 _ (by decide +kernel) rfl ?_
                refine st_store rfl (.appX (d := 39) (news := [poL (dpV l j)]) rfl rfl rfl rfl (by simp) (.inl rfl) (by decide) Tryz.underlying34 Tryz.underlying34 Z100 T100 cs B100 (.inl ⟨38, 0, _, rfl, by decide, rfl, rfl, by simp, rfl, by simp [pures, poE.pure]⟩) (by simp; omega) (by simp; omega) (by decide)) ?_
                refine st_nil ?_
                refine any_1 7 _ (by decide +kernel) rfl ?_
                refine zg1 ?_
                refine st_nil ?_
                refine any_1 8 _ (by decide +kernel) rfl ?_
                refine zg1 ?_
                refine st_nil ?_
                refine any_0 (by decide +kernel) ?_
                refine zg1 ?_
                exact ⟨_, trivial, ((put_id' (put_id' (put_id' (put_id' (put_id' (mk_id' cl) cl) cl) cl) cl) cl)).symm⟩
              · refine zg1 ?_
                refine st_nil ?_
                refine any_1 1 _ (by decide +kernel) rfl ?_
                refine zg1 ?_
                refine st_nil ?_
                refine any_1 6 _ (by decide +kernel) rfl ?_
                refine st_store rfl (.appX (d := 39) (news := [poL (dpV l j)]) rfl rfl rfl rfl (by simp) (.inl rfl) (by decide) Tryz.underlying34 Tryz.underlying34 Z100 T100 cs B100 (.inl ⟨38, 0, _, rfl, by decide, rfl, rfl, by simp, rfl, by simp [pures, poE.pure]⟩) (by simp; omega) (by simp; omega) (by decide)) ?_
                refine st_nil ?_
                refine any_1 7 _ (by decide +kernel) rfl ?_
                refine zg1 ?_
                refine st_nil ?_
                refine any_1 8 _ (by decide +kernel) rfl ?_
                refine zg1 ?_
                refine st_nil ?_
                refine any_0 (by decide +kernel) ?_
                refine zg1 ?_
                exact ⟨_, trivial, ((put_id' (put_id' (put_id' (put_id' (put_id' (mk_id' cl) cl) cl) cl) cl) cl)).symm⟩
            · refine zg1 ?_
              refine st_nil ?_
              refine any_1 0 _ (by decide +kernel) rfl ?_
              refine zg1 ?_
              refine st_nil ?_
              refine any_1 1 _ (by decide +kernel) rfl ?_
              refine zg1 ?_
              refine st_nil ?_
              refine any_1 6 _ (by decide +kernel) rfl ?_
              refine st_store rfl (.appX (d := 39) (news := [poL (dpV l j)]) rfl rfl rfl rfl (by simp) (.inl rfl) (by decide) Tryz.underlying34 Tryz.underlying34 Z100 T100 cs B100 (.inl ⟨38, 0, _, rfl, by decide, rfl, rfl, by simp, rfl, by simp [pures, poE.pure]⟩) (by simp; omega) (by simp; omega) (by decide)) ?_
              refine st_nil ?_
              refine any_1 7 _ (by decide +kernel) rfl ?_
              refine zg1 ?_
              refine st_nil ?_
              refine any_1 8 _ (by decide +kernel) rfl ?_
              refine zg1 ?_
              refine st_nil ?_
              refine any_0 (by decide +kernel) ?_
              refine zg1 ?_
              exact ⟨_, trivial, ((put_id' (put_id' (put_id' (put_id' (put_id' (mk_id' cl) cl) cl) cl) cl) cl)).symm⟩
    · rintro _ ⟨LR6, -, rfl⟩
      refine zg2 ?_
      refine wl_regW (Weak.kill _ 38) ?_
      refine zg1 ?_
      refine st_pure rfl (.bin rfl rfl (add1N (by omega))) ?_
      refine zg3 ?_
      exact nx3 e (dpK l j) (o ++ [dpV l j]) ⟨dpK_le hl hj, by simp; omega, by rw [List.append_assoc]; exact hV, hK⟩
  · obtain rfl : c = 0 := by omega
    rw [dqV, List.append_nil] at hV
    rw [dqK] at hK
    refine zg12 ?_
    rw [← hV, ← hK]
    exact retMCf [39] rfl rfl rfl rfl rfl T36 (.agg (.cons (.pure rfl) (.cons (.pure hkp) (.cons (imm_refm poE rfl rfl rfl) .nil)))) rfl rfl (dice_pure l _)
end Go.Proofs.YtgfbghoihhnahaaGreat
end
section
set_option linter.unusedVariables false
set_option linter.unusedSimpArgs false
set_option maxHeartbeats 8000000
set_option maxRecDepth 100000
attribute [local irreducible] Go.Lg.opsL Go.Lg.wpL Go.Lg.thenL Go.Lg.blockL
namespace Go.Proofs.YtgfbghoihhnahaaGreat
open Go.Lg
theorem gD1 {a b : List Rat} {i : Nat} (h : i < a.length) : (a ++ b).getD i 0 = a.getD i 0 := by
  rw [List.getD_eq_getElem?_getD, List.getD_eq_getElem?_getD, List.getElem?_append_left h]
theorem gD2 {a b : List Rat} {i : Nat} (h : a.length ≤ i) : (a ++ b).getD i 0 = b.getD (i - a.length) 0 := by
  rw [List.getD_eq_getElem?_getD, List.getD_eq_getElem?_getD, List.getElem?_append_right h]
theorem getD_rep {n i : Nat} {T : Rat} (h : i < n) : (List.replicate n T).getD i 0 = T := by
  rw [List.getD_eq_getElem?_getD, List.getElem?_eq_getElem (by simpa using h)]; simp
/-- the numbers of a curve: knots, then poles -/
def cvN (kn : List Rat) (po : List PoR) : Nat → List Rat
  | 0 => kn
  | i + 1 => cvN kn po i ++ [(po.getD i default).p.x, (po.getD i default).p.y, (po.getD i default).p.z, (po.getD i default).w]
theorem cvN_len (kn : List Rat) (po : List PoR) : ∀ i, (cvN kn po i).length = kn.length + 4 * i
  | 0 => rfl
  | i + 1 => by rw [cvN, List.length_append, cvN_len kn po i]; simp; omega
theorem cvN_rl {kn : List Rat} {po : List PoR} {R : Nat} (hk : ∀ x ∈ kn, rl x ≤ R) (hp : ∀ q ∈ po, okP R q) : ∀ i, i ≤ po.length → ∀ x ∈ cvN kn po i, rl x ≤ R
  | 0, _, x, hx => hk x hx
  | i + 1, hi, x, hx => by
    rw [cvN] at hx
    rcases List.mem_append.1 hx with hx | hx
    · exact cvN_rl hk hp i (by omega) x hx
    · obtain ⟨⟨h1, h2, h3⟩, h4, _⟩ := hp _ (getD_memP (po := po) (j := i) (by omega))
      simp only [List.mem_cons, List.not_mem_nil, or_false] at hx
      rcases hx with rfl | rfl | rfl | rfl <;> assumption
/-- a curve without inner knots has valid knots -/
theorem tm_rep (a b : List Rat) (t : Rat) : ∀ i, i ≤ a.length → tmN (a ++ b) t i = tmN a t i
  | 0, _ => rfl
  | i + 1, h => by rw [tmN, tmN, tm_rep a b t i (by omega), gD1 (by omega)]
theorem tm_app (a b : List Rat) (t : Rat) : ∀ i, tmN (a ++ b) t (a.length + i) = tmN a t a.length + tmN b t i
  | 0 => by rw [Nat.add_zero, tm_rep _ _ _ _ (Nat.le_refl _)]; rfl
  | i + 1 => by
    rw [← Nat.add_assoc, tmN, tm_app a b t i, tmN, gD2 (by omega), Nat.add_sub_cancel_left]; omega
theorem tm_const (n : Nat) (T t : Rat) : ∀ i, i ≤ n → tmN (List.replicate n T) t i = if T = t then i else 0
  | 0, _ => by split <;> rfl
  | i + 1, h => by
    rw [tmN, tm_const n T t i (by omega), getD_rep (by omega)]
    split <;> rfl
theorem kn0_tm (d : Nat) (T t : Rat) : tmN (kn0 d T) t (kn0 d T).length = (if T = t then d + 1 else 0) + (if T + 1 = t then d + 1 else 0) := by
  have h := tm_app (List.replicate (d + 1) T) (List.replicate (d + 1) (T + 1)) t (d + 1)
  rw [List.length_replicate] at h
  have e : (kn0 d T).length = d + 1 + (d + 1) := by rw [kn0_len]; omega
  rw [e]
  show tmN (List.replicate (d + 1) T ++ _) t _ = _
  rw [h, tm_const _ _ _ _ (Nat.le_refl _), tm_const _ _ _ _ (Nat.le_refl _)]
theorem kn0_get (d : Nat) (T : Rat) (i : Nat) (h : i < 2 * (d + 1)) : (kn0 d T).getD i 0 = if i < d + 1 then T else T + 1 := by
  unfold kn0
  split
  · rw [gD1 (by simp; omega), getD_rep (by omega)]
  · rw [gD2 (by simp; omega), List.length_replicate, getD_rep (by omega)]
theorem kn0_ok {d : Nat} {T : Rat} (h1 : 1 ≤ d) (h6 : d ≤ 6) (hT : rl T ≤ 64) (hT1 : rl (T + 1) ≤ 64) : kOK (kn0 d T) d := by
  have hl := kn0_len d T
  have hne : T ≠ T + 1 := by grind
  have e0 : (kn0 d T).getD 0 0 = T := by rw [kn0_get _ _ _ (by omega), if_pos (by omega)]
  have e1 : (kn0 d T).getD ((kn0 d T).length - 1) 0 = T + 1 := by rw [hl, kn0_get _ _ _ (by omega), if_neg (by omega)]
  have hm : ∀ x ∈ kn0 d T, x = T ∨ x = T + 1 := fun x hx => by
    rcases List.mem_append.1 hx with h | h
    · exact .inl (List.mem_replicate.1 h).2
    · exact .inr (List.mem_replicate.1 h).2
  refine ⟨h1, h6, by omega, by omega, fun i hi => ?_, by rw [e0, e1]; exact hne, fun t ht he => ?_, fun t ht g0 g1 => ?_, fun x hx => ?_⟩
  · rw [kn0_get _ _ _ (by omega), kn0_get _ _ _ (by omega)]
    split <;> split
    · exact Rat.le_refl
    · grind
    · omega
    · exact Rat.le_refl
  · rw [kn0_tm]
    rcases hm t ht with rfl | rfl
    · rw [if_pos rfl, if_neg (fun e => hne e.symm)]
    · rw [if_neg hne, if_pos rfl, Nat.zero_add]
  · rw [e0] at g0; rw [e1] at g1
    rcases hm t ht with h | h
    · exact absurd h g0
    · exact absurd h g1
  · rcases hm x hx with rfl | rfl <;> assumption
theorem any_ff {α : Type} (l : List α) : l.any (fun _ => false) = false := by simp
namespace H_c_numbers
theorem zSm {p q : Prop} (k : q) (e : p = q := by simp only [e1, e2, e3, e4, p1, p2, p3, q1, q2, q3, l1, t0, t1, r1, r2, r3, r4, Nat.zero_add, Nat.reduceMul, Nat.reduceAdd, b1, b2, b3, b4, b5, b6, i1, i2, i3, i4, i5, i6, Nat.reduceBEq, ers, etk, map4, take_map_len, map_snoc, len_snoc, List.length_cons, List.length_nil, List.nil_append, List.map_nil, List.take_nil, List.append_nil, List.set_cons_zero, List.set_cons_succ, Nat.reduceEqDiff, reduceIte, if_true, if_false, ptL_kill, poL_kill, kills_map ptE, kills_map poE, kills_map ratE, ratL_kill, spL_kill, LV.kill, kills]; exact rfl) : p := e.mpr k
end H_c_numbers
open H_c_numbers in
theorem c_numbers (d : Nat) (kn : List Rat) (po : List PoR) (h0 : 0 < kn.length) (hk : kn.length ≤ 1000) (hpo : po.length ≤ 1000) : CallP Tryz.prog 240 [.agg [nI64 d, .list 3 (kn.map ratL), .list 12 (po.map poL)]] (.list 3 ((cvN kn po po.length).map ratL)) := by
  have hcp : LV.pure (.agg [nI64 d, .list 3 (kn.map ratL), .list 12 (po.map poL)]) = true := by simp [LV.pure, pures, pures_map ratE, pures_map poE]
  refine fnP Tryz.func240 ?_
  have ers : True := trivial
  have etk : True := trivial
  refine zg10 ?_
  refine st_call1 [] rfl rfl (.cons (.pure (pure_lst ratE _ _)) .nil) (c_CloneR kn h0 (by omega)) (pures_map ratE _) rfl ?_
  refine zg13 ?_
  refine lp1 (fun (i : Nat) L => ((((((St.mk L.slot (hp [(1, ⟨3, [.agg [nI64 d, .list 3 (kn.map ratL), .list 12 (po.map poL)]], true⟩), (1000129, ⟨3, (cvN kn po i).map ratL, true⟩)])).put (some 1) (.eptr 1 3 0 0)).put (some 3) (.ref 1000129 3 0 (kn.length + 4 * i))).put (some 10) (.list 12 (po.map poL))).put (some 11) (nI64 po.length)).put (some 12) (nI64 i))) (fun i => i ≤ po.length) (fun i => po.length - i) 0 (Nat.zero_le _) ?_
  rintro i L1 hi
  refine zg6 ?_
  refine wl_if rfl (fun h13r h13 => ?_) (fun h13r h13 => ?_)
  · have hi2 : i < po.length := by omega
    have hlc := cvN_len kn po i
    have ers : cvN kn po i ++ [(po.getD i default).p.x, (po.getD i default).p.y, (po.getD i default).p.z, (po.getD i default).w] = cvN kn po (i + 1) := rfl
    have etk : ((cvN kn po i).map ratL).take (kn.length + 4 * i) = (cvN kn po i).map ratL := List.take_of_length_le (by rw [List.length_map]; omega)
    refine zg26 ?_
    refine st_store rfl (.appX (d := 1000129) (news := [ratL (po.getD i default).p.x, ratL (po.getD i default).p.y, ratL (po.getD i default).p.z, ratL (po.getD i default).w]) rfl rfl rfl rfl (by simp; omega) (.inl rfl) (by decide) Tryz.underlying33 Tryz.underlying33 Z29a T29 rfl B29 (.inl ⟨28, 0, _, rfl, by decide, rfl, rfl, by simp, rfl, by simp [pures, ratE.pure]⟩) (by simp; omega) (by simp; omega) (by decide)) ?_
    refine zg4 ?_
    refine wl_regW ((Weak.kill _ 5).trans (Weak.kill _ 28)) ?_
    refine st_pure rfl (.bin rfl rfl (add1N (by omega))) ?_
    refine zg3 ?_
    exact nx1 (i + 1) (by omega)
  · obtain rfl : i = po.length := by omega
    refine zg12 ?_
    exact ret1f [1000129] rfl rfl (imm_refm ratE rfl rfl (by rw [cvN_len]))
open H0 in
theorem c_CChk1 (q : Rat) (h : rl q ≤ 1000) : CallP Tryz.prog 242 [ratL q] (bL false) := by
  refine fnP Tryz.func242 ?_
  refine zg9 ?_
  refine cp am1 (c_RValid _ (by omega)) ?_
  refine zg5 ?_
  exact ret1 rfl (.pure rfl)
namespace H_c_CChk2
theorem zSm {p q : Prop} (k : q) (e : p = q := by simp only [e1, e2, e3, e4, p1, p2, p3, q1, q2, q3, l1, t0, t1, r1, r2, r3, r4, Nat.zero_add, Nat.reduceMul, Nat.reduceAdd, b1, b2, b3, b4, b5, b6, i1, i2, i3, i4, i5, i6, Nat.reduceBEq, hsg]; exact rfl) : p := e.mpr k
end H_c_CChk2
open H_c_CChk2 in
theorem c_CChk2 (q : PoR) (h : okP 1000 q) : CallP Tryz.prog 247 [poL q] (bL false) := by
  obtain ⟨_, hw, hp⟩ := h
  have hsg : sgnR q.w = 1 := sgn_pos hp
  refine fnP Tryz.func247 ?_
  refine zg10 ?_
  refine cp am1 (c_RSign q.w (by omega)) ?_
  refine zg5 ?_
  exact ret1 rfl (.pure rfl)
open H0 in
theorem c_CChk3 (q : Rat) (h : rl q ≤ 64) : CallP Tryz.prog 248 [ratL q] (bL false) := by
  have hb := bitR_le h
  refine fnP Tryz.func248 ?_
  refine zg9 ?_
  refine cp am1 (c_RBits q (by omega)) ?_
  refine zg5 ?_
  refine ret1 (x := bL (decide ((bitR q : Int) > 2048))) rfl ?_
  rw [decide_eq_false (by omega)]
  exact .pure rfl
namespace H_c_CCheck
theorem zSm {p q : Prop} (k : q) (e : p = q := by simp only [e1, e2, e3, e4, p1, p2, p3, q1, q2, q3, l1, t0, t1, r1, r2, r3, r4, Nat.zero_add, Nat.reduceMul, Nat.reduceAdd, b1, b2, b3, b4, b5, b6, i1, i2, i3, i4, i5, i6, Nat.reduceBEq, any_ff, List.set_cons_zero, List.set_cons_succ, Nat.reduceEqDiff, reduceIte, if_true, if_false, ptL_kill, poL_kill, kills_map ptE, kills_map poE, kills_map ratE, ratL_kill, spL_kill, LV.kill, kills]; exact rfl) : p := e.mpr k
end H_c_CCheck
open H_c_CCheck in
theorem c_CCheck (d : Nat) (kn : List Rat) (po : List PoR) (hk : kOK kn d) (hpo : po.length = kn.length - d - 1) (hq : ∀ q ∈ po, okP 64 q) : CallP Tryz.prog 155 [.agg [nI64 d, .list 3 (kn.map ratL), .list 12 (po.map poL)]] (iL 0) := by
  have hcp : LV.pure (.agg [nI64 d, .list 3 (kn.map ratL), .list 12 (po.map poL)]) = true := by simp [LV.pure, pures, pures_map ratE, pures_map poE]
  have hd1 := hk.d1
  have hd6 := hk.d6
  have hlen := hk.len
  have hmax := hk.max
  have hN := cvN_len kn po po.length
  have hR := cvN_rl hk.sz hq po.length (Nat.le_refl _)
  refine fnP Tryz.func155 ?_
  refine zg9 ?_
  refine cp am1 (c_numbers d kn po (by omega) (by omega) (by omega)) ?_
  refine zg7 ?_
  refine cp am2 (c_HasR 242 (fun _ => false) (cvN kn po po.length) (by omega) (fun x hx => c_CChk1 x (Nat.le_trans (hR x hx) (by decide)))) ?_
  refine zg2 ?_
  refine wl_condY (b := _) rfl (by first | rfl | exact any_ff _) ?_
  refine zg9 ?_
  refine cp am2 (c_KCheck kn d hk) ?_
  refine zg9 ?_
  refine wl_if rfl (fun h15r h15 => ?_) (fun h15r h15 => ?_)
  · refine zg8 ?_
    exact ret1 rfl (.pure rfl)
  · refine zg5 ?_
    refine wl_regD 10 (by decide +kernel) ?_
    refine zg7 ?_
    refine cp am2 (c_KPoles kn d (by omega) (by omega)) ?_
    refine zg4 ?_
    refine wl_if rfl (fun h17r h17 => ?_) (fun h17r h17 => ?_)
    · omega
    · refine zg4 ?_
      refine cp am2 (c_HasP 247 (fun _ => false) po (by omega) (fun q hx => c_CChk2 q (by obtain ⟨a, b, c⟩ := hq q hx; exact ⟨a.le (by decide), by omega, c⟩))) ?_
      refine zg3 ?_
      refine wl_condY (b := _) rfl (by first | rfl | exact any_ff _) ?_
      refine zg3 ?_
      refine cp am2 (c_HasR 248 (fun _ => false) (cvN kn po po.length) (by omega) (fun x hx => c_CChk3 x (hR x hx))) ?_
      refine zg3 ?_
      refine wl_condY (b := _) rfl (by first | rfl | exact any_ff _) ?_
      refine zg9 ?_
      exact ret1 rfl (.pure rfl)
namespace H_c_BzCheck
theorem zSm {p q : Prop} (k : q) (e : p = q := by simp only [e1, e2, e3, e4, p1, p2, p3, q1, q2, q3, l1, t0, t1, r1, r2, r3, r4, Nat.zero_add, Nat.reduceMul, Nat.reduceAdd, b1, b2, b3, b4, b5, b6, i1, i2, i3, i4, i5, i6, Nat.reduceBEq, List.set_cons_zero, List.set_cons_succ, Nat.reduceEqDiff, reduceIte, if_true, if_false, ptL_kill, poL_kill, kills_map ptE, kills_map poE, kills_map ratE, ratL_kill, spL_kill, LV.kill, kills]; exact rfl) : p := e.mpr k
end H_c_BzCheck
open H_c_BzCheck in
theorem c_BzCheck (d : Nat) (kn : List Rat) (po : List PoR) (h : cvF po d) (hk : kOK kn d) (hkl : kn.length = 2 * (d + 1)) : CallP Tryz.prog 57 [.agg [nI64 d, .list 3 (kn.map ratL), .list 12 (po.map poL)]] (iL 0) := by
  have hl := h.hl
  have hd := h.hd
  have h6 := h.h6
  have hcp : LV.pure (.agg [nI64 d, .list 3 (kn.map ratL), .list 12 (po.map poL)]) = true := by simp [LV.pure, pures, pures_map ratE, pures_map poE]
  have hq : ∀ q ∈ po, okP 64 q := fun q hx => by obtain ⟨a, b, c⟩ := h.ok q hx; exact ⟨a.le (by decide), by omega, c⟩
  refine fnP Tryz.func57 ?_
  refine zg10 ?_
  refine cp am1 (c_CCheck d kn po hk (by omega) hq) ?_
  refine zg9 ?_
  refine wl_if rfl (fun h7r h7 => ?_) (fun h7r h7 => ?_)
  · refine zg8 ?_
    exact ret1 rfl (.pure rfl)
  · refine zg10 ?_
    refine st_pure rfl (.bin rfl rfl (add64 (by omega) (by omega))) ?_
    refine zg3 ?_
    refine wl_if rfl (fun h15r h15 => ?_) (fun h15r h15 => ?_)
    · omega
    · refine zg8 ?_
      exact ret1 rfl (.pure rfl)
end Go.Proofs.YtgfbghoihhnahaaGreat
end
section
set_option linter.unusedVariables false
set_option linter.unusedSimpArgs false
set_option maxHeartbeats 8000000
set_option maxRecDepth 100000
attribute [local irreducible] Go.Lg.opsL Go.Lg.wpL Go.Lg.thenL Go.Lg.blockL
namespace Go.Proofs.YtgfbghoihhnahaaGreat
open Go.Lg
theorem knB_lo (d : Nat) (T : Rat) : (kn0 d T).getD 0 0 = T := by rw [kn0_get _ _ _ (by omega), if_pos (by omega)]
theorem knB_hi (d : Nat) (T : Rat) : (kn0 d T).getD (2 * (d + 1) - 1) 0 = T + 1 := by rw [kn0_get _ _ _ (by omega), if_neg (by omega)]
theorem mn_lt1 (T : Rat) : mnR T (T + 1) = T := by unfold mnR; rw [if_neg (by grind)]
theorem mx_lt1 (T : Rat) : mxR T (T + 1) = T + 1 := by unfold mxR; rw [if_pos (by grind)]
theorem wid1 (T : Rat) : T + 1 - T = 1 := by grind
theorem div1 (x : Rat) : x / 1 = x := by grind
/-- the derivative -/
def tanV (po : List PoR) (x : Rat) : V3 := v3m (1 / (evP (wtP po) x * evP (wtP po) x)) ⟨evP (trP po 0) x, evP (trP po 1) x, evP (trP po 2) x⟩
theorem retCCT {P : Program} {L : St} {a u v : Nat} {T U : TypeId} {b c sz sy : Nat} {x y x' y' z z' : LV} {m m' : Bool} {n n' : Nat} {ag ag' : Bool} (bs : List Nat) (h0 : bs.contains 0 = false) (h : L.slot a = .eptr b sz 0 0) (hb : L.heap b = some ⟨sz, [x], m⟩)
    (hx : x.csize = sz) (hat : x.at 0 n ag = some x) (hT : TyIs P T n ag) (hi : Imm (L.frz bs).heap x y) (h' : L.slot u = .eptr c sy 0 0) (hc : L.heap c = some ⟨sy, [x'], m'⟩)
    (hx' : x'.csize = sy) (hat' : x'.at 0 n' ag' = some x') (hT' : TyIs P U n' ag') (hi' : Imm (L.frz bs).heap x' y') (hz : L.slot v = z) (hiz : Imm (L.frz bs).heap z z') : RetL P [.cell a T, .cell u U, .tmp v] L (.tup [y, y', z']) [] :=
  ⟨[x, x', z], [y, y', z'], (L.frz bs).heap, [], .cons ⟨b, sz, 0, 0, _, x, n, ag, h, hb, rfl, rfl, hx, hat, hT⟩ (.cons ⟨c, sy, 0, 0, _, x', n', ag', h', hc, rfl, rfl, hx', hat', hT'⟩ (.cons hz .nil)), frz_le bs h0, .cons (.imm hi) (.cons (.imm hi') (.cons (.imm hiz) .nil)), List.nodup_nil, rfl, fun k b h => by simp at h, rfl⟩
theorem hs_ofK {p : List Rat} {x : Rat} (hl : p.length ≤ 10) (hp : ∀ y ∈ p, rl y ≤ 700000) (hx : rl x ≤ 100000) : HS p x := by
  have h1 := rl_sub 1 x
  have h0 : rl 1 = 1 := rfl
  refine ⟨rl (1 - x) + rl x + 1, Nat.le_refl _, by omega, fun y hy => ?_⟩
  have h2 := hp y hy
  have h3 : 2 ^ p.length ≤ 2 ^ 10 := Nat.pow_le_pow_right (by decide) hl
  have h4 : (rl y + (rl (1 - x) + rl x + 1)) * 2 ^ p.length ≤ 1000000 * 2 ^ 10 := Nat.mul_le_mul (by omega) h3
  omega
open H0 in
theorem c_SWidth (s : Rat × Rat) (h : rl s.2 + rl s.1 ≤ 549755813888) : CallP Tryz.prog 140 [spL s] (ratL (s.2 - s.1)) := by
  refine fnP Tryz.func140 ?_
  refine zg12 ?_
  refine cp am2 (c_RSub s.2 s.1 h) ?_
  refine zg4 ?_
  exact retC [] rfl rfl rfl (ratE.csize _) (ratL_all _) T29 (.pure (ratE.pure _))
open H0 in
theorem c_FWidth (s : Rat × Rat) (h : rl s.2 + rl s.1 ≤ 34359738368) : CallP Tryz.prog 38 [spL s] (ratL (s.2 - s.1)) := by
  refine fnP Tryz.func38 ?_
  refine zg12 ?_
  refine cp am2 (c_FRSub s.2 s.1 h) ?_
  refine zg4 ?_
  exact retC [] rfl rfl rfl (ratE.csize _) (ratL_all _) T29 (.pure (ratE.pure _))
namespace H_c_Dom
theorem zSm {p q : Prop} (k : q) (e : p = q := by simp only [e1, e2, e3, e4, p1, p2, p3, q1, q2, q3, l1, t0, t1, r1, r2, r3, r4, Nat.zero_add, Nat.reduceMul, Nat.reduceAdd, b1, b2, b3, b4, b5, b6, i1, i2, i3, i4, i5, i6, Nat.reduceBEq, dfq, hkl, hlo, hhi, List.length_map, List.set_cons_zero, List.set_cons_succ, Nat.reduceEqDiff, reduceIte, if_true, if_false, ptL_kill, poL_kill, kills_map ptE, kills_map poE, kills_map ratE, ratL_kill, spL_kill, LV.kill, kills]; exact rfl) : p := e.mpr k
end H_c_Dom
open H_c_Dom in
theorem c_Dom (d : Nat) (T : Rat) (po : List PoR) (hT : rl T ≤ 1) (hT1 : rl (T + 1) ≤ 1) (h9 : d ≤ 6) : CallP Tryz.prog 141 [.agg [nI64 d, .list 3 ((kn0 d T).map ratL), .list 12 (po.map poL)]] (spL (T, T + 1)) := by
  have hpu : ∀ l : List Rat, pures (l.map ratL) = true := fun l => pures_map ratE l
  have hkl := kn0_len d T
  have hlo := knB_lo d T
  have hhi := knB_hi d T
  have hcp : LV.pure (.agg [nI64 d, .list 3 ((kn0 d T).map ratL), .list 12 (po.map poL)]) = true := by simp [LV.pure, pures, pures_map ratE, pures_map poE]
  have hS := c_SOf T (T + 1) (by omega)
  rw [mn_lt1, mx_lt1] at hS
  refine fnP Tryz.func141 ?_
  refine zg15 ?_
  refine wl_if rfl (fun h6r h6 => ?_) (fun h6r h6 => ?_)
  · omega
  · refine zg3 ?_
    refine wl_regD 13 (by decide +kernel) ?_
    refine zg9 ?_
    refine st_pure rfl (.bin rfl rfl (sub1N (by omega) (by omega))) ?_
    refine zg2 ?_
    try simp only [t1, dfq, hkl, hlo, hhi, List.length_map]
    refine cp am2 (hS) ?_
    refine zg4 ?_
    exact retC [] rfl rfl rfl (spE.csize _) (spL_all _) T42 (.pure (spE.pure _))
namespace H_c_FDom
theorem zSm {p q : Prop} (k : q) (e : p = q := by simp only [e1, e2, e3, e4, p1, p2, p3, q1, q2, q3, l1, t0, t1, r1, r2, r3, r4, Nat.zero_add, Nat.reduceMul, Nat.reduceAdd, b1, b2, b3, b4, b5, b6, i1, i2, i3, i4, i5, i6, Nat.reduceBEq, dfq, hkl, hlo, hhi, List.length_map, List.set_cons_zero, List.set_cons_succ, Nat.reduceEqDiff, reduceIte, if_true, if_false, ptL_kill, poL_kill, kills_map ptE, kills_map poE, kills_map ratE, ratL_kill, spL_kill, LV.kill, kills]; exact rfl) : p := e.mpr k
end H_c_FDom
open H_c_FDom in
theorem c_FDom (d : Nat) (T : Rat) (po : List PoR) (hT : rl T ≤ 1) (hT1 : rl (T + 1) ≤ 1) (h9 : d ≤ 6) : CallP Tryz.prog 24 [.agg [nI64 d, .list 3 ((kn0 d T).map ratL), .list 12 (po.map poL)]] (spL (T, T + 1)) := by
  have hpu : ∀ l : List Rat, pures (l.map ratL) = true := fun l => pures_map ratE l
  have hkl := kn0_len d T
  have hlo := knB_lo d T
  have hhi := knB_hi d T
  have hcp : LV.pure (.agg [nI64 d, .list 3 ((kn0 d T).map ratL), .list 12 (po.map poL)]) = true := by simp [LV.pure, pures, pures_map ratE, pures_map poE]
  refine fnP Tryz.func24 ?_
  refine zg7 ?_
  refine wl_regD 13 (by decide +kernel) ?_
  refine zg9 ?_
  refine st_pure rfl (.bin rfl rfl (sub1N (by omega) (by omega))) ?_
  refine zg7 ?_
  exact retC [] rfl rfl rfl (spE.csize _) (spL_all _) T42 (.pure (spE.pure _))
namespace H_c_own
theorem zSm {p q : Prop} (k : q) (e : p = q := by simp only [e1, e2, e3, e4, p1, p2, p3, q1, q2, q3, l1, t0, t1, r1, r2, r3, r4, Nat.zero_add, Nat.reduceMul, Nat.reduceAdd, b1, b2, b3, b4, b5, b6, i1, i2, i3, i4, i5, i6, Nat.reduceBEq, List.set_cons_zero, List.set_cons_succ, Nat.reduceEqDiff, reduceIte, if_true, if_false, ptL_kill, poL_kill, kills_map ptE, kills_map poE, kills_map ratE, ratL_kill, spL_kill, LV.kill, kills]; exact rfl) : p := e.mpr k
end H_c_own
open H_c_own in
theorem c_own (d : Nat) (T : Rat) (po : List PoR) (hT : rl T ≤ 1) (hT1 : rl (T + 1) ≤ 1) (h9 : d ≤ 6) (t : Rat) (ht : rl t ≤ 1000) (hin : hasR (T, T + 1) t = true) (hp0 : 0 < po.length) : CallP Tryz.prog 123 [.agg [nI64 d, .list 3 ((kn0 d T).map ratL), .list 12 (po.map poL)], ratL t] (.tup [ratL (t - T), ratL 1, bL true]) := by
  have hpu : ∀ l : List Rat, pures (l.map ratL) = true := fun l => pures_map ratE l
  have hkl := kn0_len d T
  have hlo := knB_lo d T
  have hhi := knB_hi d T
  have hcp : LV.pure (.agg [nI64 d, .list 3 ((kn0 d T).map ratL), .list 12 (po.map poL)]) = true := by simp [LV.pure, pures, pures_map ratE, pures_map poE]
  have hz1 := rl_sub t T
  have hr1 : rl 1 = 1 := rfl
  have hD := c_Dom d T po hT hT1 h9
  have hW : CallP Tryz.prog 140 [spL (T, T + 1)] (ratL 1) := by
    have := c_SWidth (T, T + 1) (by show rl (T + 1) + rl T ≤ _; omega)
    simp only [wid1] at this
    exact this
  have hQ : CallP Tryz.prog 125 [ratL (t - T), ratL 1] (.tup [ratL (t - T), iL 0]) := by
    have := c_RQuo (t - T) 1 (by omega)
    rw [div1, if_neg (by decide)] at this
    exact this
  have hH : CallP Tryz.prog 216 [spL (T, T + 1), ratL t] (bL true) := by
    have := c_SHas (T, T + 1) t (by show rl T + rl t ≤ _; omega) (by show rl t + rl (T + 1) ≤ _; omega)
    rwa [hin] at this
  refine fnP Tryz.func123 (ht := (tame3 (ratE.pure _) (ratE.pure _) rfl)) ?_
  refine zg12 ?_
  refine cp am1 (hD) ?_
  refine zg12 ?_
  refine op_if 15 rfl (fun h15r h15 => ?_) (fun h15r h15 => ?_)
  · omega
  · refine zg2 ?_
    refine cp am2 (hH) ?_
    refine zg4 ?_
    refine wl_if rfl (fun h20r h20 => ?_) (fun h20r h20 => ?_)
    · first | exact h20.elim | cases h20r
    · refine zg5 ?_
      refine cp am1 (hW) ?_
      refine zg4 ?_
      refine wl_regF 9 [8] (by decide +kernel) ?_
      refine zg3 ?_
      refine cp am2 (c_RSub t T (by omega)) ?_
      refine zg1 ?_
      refine cp am2 (hQ) ?_
      refine zg8 ?_
      refine wl_regA ?_
      refine any_3 0 1 2 _ _ _ (by decide +kernel) rfl rfl rfl ?_ ?_ ?_
      · refine zg1 ?_
        refine st_nil ?_
        refine any_3 1 2 4 _ _ _ (by decide +kernel) rfl rfl rfl ?_ ?_ ?_
        · refine zg1 ?_
          refine st_nil ?_
          refine any_2 2 4 _ _ (by decide +kernel) rfl rfl ?_ ?_
          · refine zg1 ?_
            refine st_nil ?_
            refine any_2 3 4 _ _ (by decide +kernel) rfl rfl ?_ ?_
            · refine zg1 ?_
              refine st_nil ?_
              refine any_1 4 _ (by decide +kernel) rfl ?_
              refine zg1 ?_
              refine st_nil ?_
              refine any_1 5 _ (by decide +kernel) rfl ?_
              refine zg1 ?_
              refine st_nil ?_
              refine any_1 6 _ (by decide +kernel) rfl ?_
              refine zg1 ?_
              refine st_nil ?_
              refine any_0 (by decide +kernel) ?_
              refine zg2 ?_
              exact retCCT [] rfl rfl rfl (ratE.csize _) (ratL_all _) T29 (.pure (ratE.pure _)) rfl rfl (ratE.csize _) (ratL_all _) T29 (.pure (ratE.pure _)) rfl (.pure rfl)
            · refine zg1 ?_
              refine st_nil ?_
              refine any_2 3 5 _ _ (by decide +kernel) rfl rfl ?_ ?_
              · refine zg1 ?_
                refine st_nil ?_
                refine any_1 5 _ (by decide +kernel) rfl ?_
                refine zg1 ?_
                refine st_nil ?_
                refine any_1 6 _ (by decide +kernel) rfl ?_
                refine zg1 ?_
                refine st_nil ?_
                refine any_0 (by decide +kernel) ?_
                refine zg2 ?_
                exact retCCT [] rfl rfl rfl (ratE.csize _) (ratL_all _) T29 (.pure (ratE.pure _)) rfl rfl (ratE.csize _) (ratL_all _) T29 (.pure (ratE.pure _)) rfl (.pure rfl)
              · refine zg1 ?_
                refine st_nil ?_
                refine any_1 3 _ (by decide +kernel) rfl ?_
                refine zg1 ?_
                refine st_nil ?_
                refine any_1 6 _ (by decide +kernel) rfl ?_
                refine zg1 ?_
                refine st_nil ?_
                refine any_0 (by decide +kernel) ?_
                refine zg2 ?_
                exact retCCT [] rfl rfl rfl (ratE.csize _) (ratL_all _) T29 (.pure (ratE.pure _)) rfl rfl (ratE.csize _) (ratL_all _) T29 (.pure (ratE.pure _)) rfl (.pure rfl)
          · refine zg1 ?_
            refine st_nil ?_
            refine any_2 2 5 _ _ (by decide +kernel) rfl rfl ?_ ?_
            · refine zg1 ?_
              refine st_nil ?_
              refine any_2 3 5 _ _ (by decide +kernel) rfl rfl ?_ ?_
              · refine zg1 ?_
                refine st_nil ?_
                refine any_1 5 _ (by decide +kernel) rfl ?_
                refine zg1 ?_
                refine st_nil ?_
                refine any_1 6 _ (by decide +kernel) rfl ?_
                refine zg1 ?_
                refine st_nil ?_
                refine any_0 (by decide +kernel) ?_
                refine zg2 ?_
                exact retCCT [] rfl rfl rfl (ratE.csize _) (ratL_all _) T29 (.pure (ratE.pure _)) rfl rfl (ratE.csize _) (ratL_all _) T29 (.pure (ratE.pure _)) rfl (.pure rfl)
              · refine zg1 ?_
                refine st_nil ?_
                refine any_1 3 _ (by decide +kernel) rfl ?_
                refine zg1 ?_
                refine st_nil ?_
                refine any_1 6 _ (by decide +kernel) rfl ?_
                refine zg1 ?_
                refine st_nil ?_
                refine any_0 (by decide +kernel) ?_
                refine zg2 ?_
                exact retCCT [] rfl rfl rfl (ratE.csize _) (ratL_all _) T29 (.pure (ratE.pure _)) rfl rfl (ratE.csize _) (ratL_all _) T29 (.pure (ratE.pure _)) rfl (.pure rfl)
            · refine zg1 ?_
              refine st_nil ?_
              refine any_1 2 _ (by decide +kernel) rfl ?_
              refine zg1 ?_
              refine st_nil ?_
              refine any_1 3 _ (by decide +kernel) rfl ?_
              refine zg1 ?_
              refine st_nil ?_
              refine any_1 6 _ (by decide +kernel) rfl ?_
              refine zg1 ?_
              refine st_nil ?_
              refine any_0 (by decide +kernel) ?_
              refine zg2 ?_
              exact retCCT [] rfl rfl rfl (ratE.csize _) (ratL_all _) T29 (.pure (ratE.pure _)) rfl rfl (ratE.csize _) (ratL_all _) T29 (.pure (ratE.pure _)) rfl (.pure rfl)
        · refine zg1 ?_
          refine st_nil ?_
          refine any_3 1 3 4 _ _ _ (by decide +kernel) rfl rfl rfl ?_ ?_ ?_
          · refine zg1 ?_
            refine st_nil ?_
            refine any_2 3 4 _ _ (by decide +kernel) rfl rfl ?_ ?_
            · refine zg1 ?_
              refine st_nil ?_
              refine any_1 4 _ (by decide +kernel) rfl ?_
              refine zg1 ?_
              refine st_nil ?_
              refine any_1 5 _ (by decide +kernel) rfl ?_
              refine zg1 ?_
              refine st_nil ?_
              refine any_1 6 _ (by decide +kernel) rfl ?_
              refine zg1 ?_
              refine st_nil ?_
              refine any_0 (by decide +kernel) ?_
              refine zg2 ?_
              exact retCCT [] rfl rfl rfl (ratE.csize _) (ratL_all _) T29 (.pure (ratE.pure _)) rfl rfl (ratE.csize _) (ratL_all _) T29 (.pure (ratE.pure _)) rfl (.pure rfl)
            · refine zg1 ?_
              refine st_nil ?_
              refine any_2 3 5 _ _ (by decide +kernel) rfl rfl ?_ ?_
              · refine zg1 ?_
                refine st_nil ?_
                refine any_1 5 _ (by decide +kernel) rfl ?_
                refine zg1 ?_
                refine st_nil ?_
                refine any_1 6 _ (by decide +kernel) rfl ?_
                refine zg1 ?_
                refine st_nil ?_
                refine any_0 (by decide +kernel) ?_
                refine zg2 ?_
                exact retCCT [] rfl rfl rfl (ratE.csize _) (ratL_all _) T29 (.pure (ratE.pure _)) rfl rfl (ratE.csize _) (ratL_all _) T29 (.pure (ratE.pure _)) rfl (.pure rfl)
              · refine zg1 ?_
                refine st_nil ?_
                refine any_1 3 _ (by decide +kernel) rfl ?_
                refine zg1 ?_
                refine st_nil ?_
                refine any_1 6 _ (by decide +kernel) rfl ?_
                refine zg1 ?_
                refine st_nil ?_
                refine any_0 (by decide +kernel) ?_
                refine zg2 ?_
                exact retCCT [] rfl rfl rfl (ratE.csize _) (ratL_all _) T29 (.pure (ratE.pure _)) rfl rfl (ratE.csize _) (ratL_all _) T29 (.pure (ratE.pure _)) rfl (.pure rfl)
          · refine zg1 ?_
            refine st_nil ?_
            refine any_2 1 4 _ _ (by decide +kernel) rfl rfl ?_ ?_
            · refine zg1 ?_
              refine st_nil ?_
              refine any_1 4 _ (by decide +kernel) rfl ?_
              refine zg1 ?_
              refine st_nil ?_
              refine any_1 5 _ (by decide +kernel) rfl ?_
              refine zg1 ?_
              refine st_nil ?_
              refine any_1 6 _ (by decide +kernel) rfl ?_
              refine zg1 ?_
              refine st_nil ?_
              refine any_0 (by decide +kernel) ?_
              refine zg2 ?_
              exact retCCT [] rfl rfl rfl (ratE.csize _) (ratL_all _) T29 (.pure (ratE.pure _)) rfl rfl (ratE.csize _) (ratL_all _) T29 (.pure (ratE.pure _)) rfl (.pure rfl)
            · refine zg1 ?_
              refine st_nil ?_
              refine any_1 1 _ (by decide +kernel) rfl ?_
              refine zg1 ?_
              refine st_nil ?_
              refine any_1 5 _ (by decide +kernel) rfl ?_
              refine zg1 ?_
              refine st_nil ?_
              refine any_1 6 _ (by decide +kernel) rfl ?_
              refine zg1 ?_
              refine st_nil ?_
              refine any_0 (by decide +kernel) ?_
              refine zg2 ?_
              exact retCCT [] rfl rfl rfl (ratE.csize _) (ratL_all _) T29 (.pure (ratE.pure _)) rfl rfl (ratE.csize _) (ratL_all _) T29 (.pure (ratE.pure _)) rfl (.pure rfl)
          · refine zg1 ?_
            refine st_nil ?_
            refine any_2 1 3 _ _ (by decide +kernel) rfl rfl ?_ ?_
            · refine zg1 ?_
              refine st_nil ?_
              refine any_2 3 5 _ _ (by decide +kernel) rfl rfl ?_ ?_
              · refine zg1 ?_
                refine st_nil ?_
                refine any_1 5 _ (by decide +kernel) rfl ?_
                refine zg1 ?_
                refine st_nil ?_
                refine any_1 6 _ (by decide +kernel) rfl ?_
                refine zg1 ?_
                refine st_nil ?_
                refine any_0 (by decide +kernel) ?_
                refine zg2 ?_
                exact retCCT [] rfl rfl rfl (ratE.csize _) (ratL_all _) T29 (.pure (ratE.pure _)) rfl rfl (ratE.csize _) (ratL_all _) T29 (.pure (ratE.pure _)) rfl (.pure rfl)
              · refine zg1 ?_
                refine st_nil ?_
                refine any_1 3 _ (by decide +kernel) rfl ?_
                refine zg1 ?_
                refine st_nil ?_
                refine any_1 6 _ (by decide +kernel) rfl ?_
                refine zg1 ?_
                refine st_nil ?_
                refine any_0 (by decide +kernel) ?_
                refine zg2 ?_
                exact retCCT [] rfl rfl rfl (ratE.csize _) (ratL_all _) T29 (.pure (ratE.pure _)) rfl rfl (ratE.csize _) (ratL_all _) T29 (.pure (ratE.pure _)) rfl (.pure rfl)
            · refine zg1 ?_
              refine st_nil ?_
              refine any_1 1 _ (by decide +kernel) rfl ?_
              refine zg1 ?_
              refine st_nil ?_
              refine any_1 5 _ (by decide +kernel) rfl ?_
              refine zg1 ?_
              refine st_nil ?_
              refine any_1 6 _ (by decide +kernel) rfl ?_
              refine zg1 ?_
              refine st_nil ?_
              refine any_0 (by decide +kernel) ?_
              refine zg2 ?_
              exact retCCT [] rfl rfl rfl (ratE.csize _) (ratL_all _) T29 (.pure (ratE.pure _)) rfl rfl (ratE.csize _) (ratL_all _) T29 (.pure (ratE.pure _)) rfl (.pure rfl)
        · refine zg1 ?_
          refine st_nil ?_
          refine any_2 1 2 _ _ (by decide +kernel) rfl rfl ?_ ?_
          · refine zg1 ?_
            refine st_nil ?_
            refine any_2 2 5 _ _ (by decide +kernel) rfl rfl ?_ ?_
            · refine zg1 ?_
              refine st_nil ?_
              refine any_2 3 5 _ _ (by decide +kernel) rfl rfl ?_ ?_
              · refine zg1 ?_
                refine st_nil ?_
                refine any_1 5 _ (by decide +kernel) rfl ?_
                refine zg1 ?_
                refine st_nil ?_
                refine any_1 6 _ (by decide +kernel) rfl ?_
                refine zg1 ?_
                refine st_nil ?_
                refine any_0 (by decide +kernel) ?_
                refine zg2 ?_
                exact retCCT [] rfl rfl rfl (ratE.csize _) (ratL_all _) T29 (.pure (ratE.pure _)) rfl rfl (ratE.csize _) (ratL_all _) T29 (.pure (ratE.pure _)) rfl (.pure rfl)
              · refine zg1 ?_
                refine st_nil ?_
                refine any_1 3 _ (by decide +kernel) rfl ?_
                refine zg1 ?_
                refine st_nil ?_
                refine any_1 6 _ (by decide +kernel) rfl ?_
                refine zg1 ?_
                refine st_nil ?_
                refine any_0 (by decide +kernel) ?_
                refine zg2 ?_
                exact retCCT [] rfl rfl rfl (ratE.csize _) (ratL_all _) T29 (.pure (ratE.pure _)) rfl rfl (ratE.csize _) (ratL_all _) T29 (.pure (ratE.pure _)) rfl (.pure rfl)
            · refine zg1 ?_
              refine st_nil ?_
              refine any_1 2 _ (by decide +kernel) rfl ?_
              refine zg1 ?_
              refine st_nil ?_
              refine any_1 3 _ (by decide +kernel) rfl ?_
              refine zg1 ?_
              refine st_nil ?_
              refine any_1 6 _ (by decide +kernel) rfl ?_
              refine zg1 ?_
              refine st_nil ?_
              refine any_0 (by decide +kernel) ?_
              refine zg2 ?_
              exact retCCT [] rfl rfl rfl (ratE.csize _) (ratL_all _) T29 (.pure (ratE.pure _)) rfl rfl (ratE.csize _) (ratL_all _) T29 (.pure (ratE.pure _)) rfl (.pure rfl)
          · refine zg1 ?_
            refine st_nil ?_
            refine any_2 1 3 _ _ (by decide +kernel) rfl rfl ?_ ?_
            · refine zg1 ?_
              refine st_nil ?_
              refine any_2 3 5 _ _ (by decide +kernel) rfl rfl ?_ ?_
              · refine zg1 ?_
                refine st_nil ?_
                refine any_1 5 _ (by decide +kernel) rfl ?_
                refine zg1 ?_
                refine st_nil ?_
                refine any_1 6 _ (by decide +kernel) rfl ?_
                refine zg1 ?_
                refine st_nil ?_
                refine any_0 (by decide +kernel) ?_
                refine zg2 ?_
                exact retCCT [] rfl rfl rfl (ratE.csize _) (ratL_all _) T29 (.pure (ratE.pure _)) rfl rfl (ratE.csize _) (ratL_all _) T29 (.pure (ratE.pure _)) rfl (.pure rfl)
              · refine zg1 ?_
                refine st_nil ?_
                refine any_1 3 _ (by decide +kernel) rfl ?_
                refine zg1 ?_
                refine st_nil ?_
                refine any_1 6 _ (by decide +kernel) rfl ?_
                refine zg1 ?_
                refine st_nil ?_
                refine any_0 (by decide +kernel) ?_
                refine zg2 ?_
                exact retCCT [] rfl rfl rfl (ratE.csize _) (ratL_all _) T29 (.pure (ratE.pure _)) rfl rfl (ratE.csize _) (ratL_all _) T29 (.pure (ratE.pure _)) rfl (.pure rfl)
            · refine zg1 ?_
              refine st_nil ?_
              refine any_1 1 _ (by decide +kernel) rfl ?_
              refine zg1 ?_
              refine st_nil ?_
              refine any_1 5 _ (by decide +kernel) rfl ?_
              refine zg1 ?_
              refine st_nil ?_
              refine any_1 6 _ (by decide +kernel) rfl ?_
              refine zg1 ?_
              refine st_nil ?_
              refine any_0 (by decide +kernel) ?_
              refine zg2 ?_
              exact retCCT [] rfl rfl rfl (ratE.csize _) (ratL_all _) T29 (.pure (ratE.pure _)) rfl rfl (ratE.csize _) (ratL_all _) T29 (.pure (ratE.pure _)) rfl (.pure rfl)
      · refine zg1 ?_
        refine st_nil ?_
        refine any_2 0 2 _ _ (by decide +kernel) rfl rfl ?_ ?_
        · refine zg1 ?_
          refine st_nil ?_
          refine any_2 2 4 _ _ (by decide +kernel) rfl rfl ?_ ?_
          · refine zg1 ?_
            refine st_nil ?_
            refine any_2 3 4 _ _ (by decide +kernel) rfl rfl ?_ ?_
            · refine zg1 ?_
              refine st_nil ?_
              refine any_1 4 _ (by decide +kernel) rfl ?_
              refine zg1 ?_
              refine st_nil ?_
              refine any_1 5 _ (by decide +kernel) rfl ?_
              refine zg1 ?_
              refine st_nil ?_
              refine any_1 6 _ (by decide +kernel) rfl ?_
              refine zg1 ?_
              refine st_nil ?_
              refine any_0 (by decide +kernel) ?_
              refine zg2 ?_
              exact retCCT [] rfl rfl rfl (ratE.csize _) (ratL_all _) T29 (.pure (ratE.pure _)) rfl rfl (ratE.csize _) (ratL_all _) T29 (.pure (ratE.pure _)) rfl (.pure rfl)
            · refine zg1 ?_
              refine st_nil ?_
              refine any_2 3 5 _ _ (by decide +kernel) rfl rfl ?_ ?_
              · refine zg1 ?_
                refine st_nil ?_
                refine any_1 5 _ (by decide +kernel) rfl ?_
                refine zg1 ?_
                refine st_nil ?_
                refine any_1 6 _ (by decide +kernel) rfl ?_
                refine zg1 ?_
                refine st_nil ?_
                refine any_0 (by decide +kernel) ?_
                refine zg2 ?_
                exact retCCT [] rfl rfl rfl (ratE.csize _) (ratL_all _) T29 (.pure (ratE.pure _)) rfl rfl (ratE.csize _) (ratL_all _) T29 (.pure (ratE.pure _)) rfl (.pure rfl)
              · refine zg1 ?_
                refine st_nil ?_
                refine any_1 3 _ (by decide +kernel) rfl ?_
                refine zg1 ?_
                refine st_nil ?_
                refine any_1 6 _ (by decide +kernel) rfl ?_
                refine zg1 ?_
                refine st_nil ?_
                refine any_0 (by decide +kernel) ?_
                refine zg2 ?_
                exact retCCT [] rfl rfl rfl (ratE.csize _) (ratL_all _) T29 (.pure (ratE.pure _)) rfl rfl (ratE.csize _) (ratL_all _) T29 (.pure (ratE.pure _)) rfl (.pure rfl)
          · refine zg1 ?_
            refine st_nil ?_
            refine any_2 2 5 _ _ (by decide +kernel) rfl rfl ?_ ?_
            · refine zg1 ?_
              refine st_nil ?_
              refine any_2 3 5 _ _ (by decide +kernel) rfl rfl ?_ ?_
              · refine zg1 ?_
                refine st_nil ?_
                refine any_1 5 _ (by decide +kernel) rfl ?_
                refine zg1 ?_
                refine st_nil ?_
                refine any_1 6 _ (by decide +kernel) rfl ?_
                refine zg1 ?_
                refine st_nil ?_
                refine any_0 (by decide +kernel) ?_
                refine zg2 ?_
                exact retCCT [] rfl rfl rfl (ratE.csize _) (ratL_all _) T29 (.pure (ratE.pure _)) rfl rfl (ratE.csize _) (ratL_all _) T29 (.pure (ratE.pure _)) rfl (.pure rfl)
              · refine zg1 ?_
                refine st_nil ?_
                refine any_1 3 _ (by decide +kernel) rfl ?_
                refine zg1 ?_
                refine st_nil ?_
                refine any_1 6 _ (by decide +kernel) rfl ?_
                refine zg1 ?_
                refine st_nil ?_
                refine any_0 (by decide +kernel) ?_
                refine zg2 ?_
                exact retCCT [] rfl rfl rfl (ratE.csize _) (ratL_all _) T29 (.pure (ratE.pure _)) rfl rfl (ratE.csize _) (ratL_all _) T29 (.pure (ratE.pure _)) rfl (.pure rfl)
            · refine zg1 ?_
              refine st_nil ?_
              refine any_1 2 _ (by decide +kernel) rfl ?_
              refine zg1 ?_
              refine st_nil ?_
              refine any_1 3 _ (by decide +kernel) rfl ?_
              refine zg1 ?_
              refine st_nil ?_
              refine any_1 6 _ (by decide +kernel) rfl ?_
              refine zg1 ?_
              refine st_nil ?_
              refine any_0 (by decide +kernel) ?_
              refine zg2 ?_
              exact retCCT [] rfl rfl rfl (ratE.csize _) (ratL_all _) T29 (.pure (ratE.pure _)) rfl rfl (ratE.csize _) (ratL_all _) T29 (.pure (ratE.pure _)) rfl (.pure rfl)
        · refine zg1 ?_
          refine st_nil ?_
          refine any_2 0 3 _ _ (by decide +kernel) rfl rfl ?_ ?_
          · refine zg1 ?_
            refine st_nil ?_
            refine any_2 3 4 _ _ (by decide +kernel) rfl rfl ?_ ?_
            · refine zg1 ?_
              refine st_nil ?_
              refine any_1 4 _ (by decide +kernel) rfl ?_
              refine zg1 ?_
              refine st_nil ?_
              refine any_1 5 _ (by decide +kernel) rfl ?_
              refine zg1 ?_
              refine st_nil ?_
              refine any_1 6 _ (by decide +kernel) rfl ?_
              refine zg1 ?_
              refine st_nil ?_
              refine any_0 (by decide +kernel) ?_
              refine zg2 ?_
              exact retCCT [] rfl rfl rfl (ratE.csize _) (ratL_all _) T29 (.pure (ratE.pure _)) rfl rfl (ratE.csize _) (ratL_all _) T29 (.pure (ratE.pure _)) rfl (.pure rfl)
            · refine zg1 ?_
              refine st_nil ?_
              refine any_2 3 5 _ _ (by decide +kernel) rfl rfl ?_ ?_
              · refine zg1 ?_
                refine st_nil ?_
                refine any_1 5 _ (by decide +kernel) rfl ?_
                refine zg1 ?_
                refine st_nil ?_
                refine any_1 6 _ (by decide +kernel) rfl ?_
                refine zg1 ?_
                refine st_nil ?_
                refine any_0 (by decide +kernel) ?_
                refine zg2 ?_
                exact retCCT [] rfl rfl rfl (ratE.csize _) (ratL_all _) T29 (.pure (ratE.pure _)) rfl rfl (ratE.csize _) (ratL_all _) T29 (.pure (ratE.pure _)) rfl (.pure rfl)
              · refine zg1 ?_
                refine st_nil ?_
                refine any_1 3 _ (by decide +kernel) rfl ?_
                refine zg1 ?_
                refine st_nil ?_
                refine any_1 6 _ (by decide +kernel) rfl ?_
                refine zg1 ?_
                refine st_nil ?_
                refine any_0 (by decide +kernel) ?_
                refine zg2 ?_
                exact retCCT [] rfl rfl rfl (ratE.csize _) (ratL_all _) T29 (.pure (ratE.pure _)) rfl rfl (ratE.csize _) (ratL_all _) T29 (.pure (ratE.pure _)) rfl (.pure rfl)
          · refine zg1 ?_
            refine st_nil ?_
            refine any_1 0 _ (by decide +kernel) rfl ?_
            refine zg1 ?_
            refine st_nil ?_
            refine any_1 4 _ (by decide +kernel) rfl ?_
            refine zg1 ?_
            refine st_nil ?_
            refine any_1 5 _ (by decide +kernel) rfl ?_
            refine zg1 ?_
            refine st_nil ?_
            refine any_1 6 _ (by decide +kernel) rfl ?_
            refine zg1 ?_
            refine st_nil ?_
            refine any_0 (by decide +kernel) ?_
            refine zg2 ?_
            exact retCCT [] rfl rfl rfl (ratE.csize _) (ratL_all _) T29 (.pure (ratE.pure _)) rfl rfl (ratE.csize _) (ratL_all _) T29 (.pure (ratE.pure _)) rfl (.pure rfl)
      · refine zg1 ?_
        refine st_nil ?_
        refine any_3 0 1 3 _ _ _ (by decide +kernel) rfl rfl rfl ?_ ?_ ?_
        · refine zg1 ?_
          refine st_nil ?_
          refine any_3 1 3 4 _ _ _ (by decide +kernel) rfl rfl rfl ?_ ?_ ?_
          · refine zg1 ?_
            refine st_nil ?_
            refine any_2 3 4 _ _ (by decide +kernel) rfl rfl ?_ ?_
            · refine zg1 ?_
              refine st_nil ?_
              refine any_1 4 _ (by decide +kernel) rfl ?_
              refine zg1 ?_
              refine st_nil ?_
              refine any_1 5 _ (by decide +kernel) rfl ?_
              refine zg1 ?_
              refine st_nil ?_
              refine any_1 6 _ (by decide +kernel) rfl ?_
              refine zg1 ?_
              refine st_nil ?_
              refine any_0 (by decide +kernel) ?_
              refine zg2 ?_
              exact retCCT [] rfl rfl rfl (ratE.csize _) (ratL_all _) T29 (.pure (ratE.pure _)) rfl rfl (ratE.csize _) (ratL_all _) T29 (.pure (ratE.pure _)) rfl (.pure rfl)
            · refine zg1 ?_
              refine st_nil ?_
              refine any_2 3 5 _ _ (by decide +kernel) rfl rfl ?_ ?_
              · refine zg1 ?_
                refine st_nil ?_
                refine any_1 5 _ (by decide +kernel) rfl ?_
                refine zg1 ?_
                refine st_nil ?_
                refine any_1 6 _ (by decide +kernel) rfl ?_
                refine zg1 ?_
                refine st_nil ?_
                refine any_0 (by decide +kernel) ?_
                refine zg2 ?_
                exact retCCT [] rfl rfl rfl (ratE.csize _) (ratL_all _) T29 (.pure (ratE.pure _)) rfl rfl (ratE.csize _) (ratL_all _) T29 (.pure (ratE.pure _)) rfl (.pure rfl)
              · refine zg1 ?_
                refine st_nil ?_
                refine any_1 3 _ (by decide +kernel) rfl ?_
                refine zg1 ?_
                refine st_nil ?_
                refine any_1 6 _ (by decide +kernel) rfl ?_
                refine zg1 ?_
                refine st_nil ?_
                refine any_0 (by decide +kernel) ?_
                refine zg2 ?_
                exact retCCT [] rfl rfl rfl (ratE.csize _) (ratL_all _) T29 (.pure (ratE.pure _)) rfl rfl (ratE.csize _) (ratL_all _) T29 (.pure (ratE.pure _)) rfl (.pure rfl)
          · refine zg1 ?_
            refine st_nil ?_
            refine any_2 1 4 _ _ (by decide +kernel) rfl rfl ?_ ?_
            · refine zg1 ?_
              refine st_nil ?_
              refine any_1 4 _ (by decide +kernel) rfl ?_
              refine zg1 ?_
              refine st_nil ?_
              refine any_1 5 _ (by decide +kernel) rfl ?_
              refine zg1 ?_
              refine st_nil ?_
              refine any_1 6 _ (by decide +kernel) rfl ?_
              refine zg1 ?_
              refine st_nil ?_
              refine any_0 (by decide +kernel) ?_
              refine zg2 ?_
              exact retCCT [] rfl rfl rfl (ratE.csize _) (ratL_all _) T29 (.pure (ratE.pure _)) rfl rfl (ratE.csize _) (ratL_all _) T29 (.pure (ratE.pure _)) rfl (.pure rfl)
            · refine zg1 ?_
              refine st_nil ?_
              refine any_1 1 _ (by decide +kernel) rfl ?_
              refine zg1 ?_
              refine st_nil ?_
              refine any_1 5 _ (by decide +kernel) rfl ?_
              refine zg1 ?_
              refine st_nil ?_
              refine any_1 6 _ (by decide +kernel) rfl ?_
              refine zg1 ?_
              refine st_nil ?_
              refine any_0 (by decide +kernel) ?_
              refine zg2 ?_
              exact retCCT [] rfl rfl rfl (ratE.csize _) (ratL_all _) T29 (.pure (ratE.pure _)) rfl rfl (ratE.csize _) (ratL_all _) T29 (.pure (ratE.pure _)) rfl (.pure rfl)
          · refine zg1 ?_
            refine st_nil ?_
            refine any_2 1 3 _ _ (by decide +kernel) rfl rfl ?_ ?_
            · refine zg1 ?_
              refine st_nil ?_
              refine any_2 3 5 _ _ (by decide +kernel) rfl rfl ?_ ?_
              · refine zg1 ?_
                refine st_nil ?_
                refine any_1 5 _ (by decide +kernel) rfl ?_
                refine zg1 ?_
                refine st_nil ?_
                refine any_1 6 _ (by decide +kernel) rfl ?_
                refine zg1 ?_
                refine st_nil ?_
                refine any_0 (by decide +kernel) ?_
                refine zg2 ?_
                exact retCCT [] rfl rfl rfl (ratE.csize _) (ratL_all _) T29 (.pure (ratE.pure _)) rfl rfl (ratE.csize _) (ratL_all _) T29 (.pure (ratE.pure _)) rfl (.pure rfl)
              · refine zg1 ?_
                refine st_nil ?_
                refine any_1 3 _ (by decide +kernel) rfl ?_
                refine zg1 ?_
                refine st_nil ?_
                refine any_1 6 _ (by decide +kernel) rfl ?_
                refine zg1 ?_
                refine st_nil ?_
                refine any_0 (by decide +kernel) ?_
                refine zg2 ?_
                exact retCCT [] rfl rfl rfl (ratE.csize _) (ratL_all _) T29 (.pure (ratE.pure _)) rfl rfl (ratE.csize _) (ratL_all _) T29 (.pure (ratE.pure _)) rfl (.pure rfl)
            · refine zg1 ?_
              refine st_nil ?_
              refine any_1 1 _ (by decide +kernel) rfl ?_
              refine zg1 ?_
              refine st_nil ?_
              refine any_1 5 _ (by decide +kernel) rfl ?_
              refine zg1 ?_
              refine st_nil ?_
              refine any_1 6 _ (by decide +kernel) rfl ?_
              refine zg1 ?_
              refine st_nil ?_
              refine any_0 (by decide +kernel) ?_
              refine zg2 ?_
              exact retCCT [] rfl rfl rfl (ratE.csize _) (ratL_all _) T29 (.pure (ratE.pure _)) rfl rfl (ratE.csize _) (ratL_all _) T29 (.pure (ratE.pure _)) rfl (.pure rfl)
        · refine zg1 ?_
          refine st_nil ?_
          refine any_2 0 3 _ _ (by decide +kernel) rfl rfl ?_ ?_
          · refine zg1 ?_
            refine st_nil ?_
            refine any_2 3 4 _ _ (by decide +kernel) rfl rfl ?_ ?_
            · refine zg1 ?_
              refine st_nil ?_
              refine any_1 4 _ (by decide +kernel) rfl ?_
              refine zg1 ?_
              refine st_nil ?_
              refine any_1 5 _ (by decide +kernel) rfl ?_
              refine zg1 ?_
              refine st_nil ?_
              refine any_1 6 _ (by decide +kernel) rfl ?_
              refine zg1 ?_
              refine st_nil ?_
              refine any_0 (by decide +kernel) ?_
              refine zg2 ?_
              exact retCCT [] rfl rfl rfl (ratE.csize _) (ratL_all _) T29 (.pure (ratE.pure _)) rfl rfl (ratE.csize _) (ratL_all _) T29 (.pure (ratE.pure _)) rfl (.pure rfl)
            · refine zg1 ?_
              refine st_nil ?_
              refine any_2 3 5 _ _ (by decide +kernel) rfl rfl ?_ ?_
              · refine zg1 ?_
                refine st_nil ?_
                refine any_1 5 _ (by decide +kernel) rfl ?_
                refine zg1 ?_
                refine st_nil ?_
                refine any_1 6 _ (by decide +kernel) rfl ?_
                refine zg1 ?_
                refine st_nil ?_
                refine any_0 (by decide +kernel) ?_
                refine zg2 ?_
                exact retCCT [] rfl rfl rfl (ratE.csize _) (ratL_all _) T29 (.pure (ratE.pure _)) rfl rfl (ratE.csize _) (ratL_all _) T29 (.pure (ratE.pure _)) rfl (.pure rfl)
              · refine zg1 ?_
                refine st_nil ?_
                refine any_1 3 _ (by decide +kernel) rfl ?_
                refine zg1 ?_
                refine st_nil ?_
                refine any_1 6 _ (by decide +kernel) rfl ?_
                refine zg1 ?_
                refine st_nil ?_
                refine any_0 (by decide +kernel) ?_
                refine zg2 ?_
                exact retCCT [] rfl rfl rfl (ratE.csize _) (ratL_all _) T29 (.pure (ratE.pure _)) rfl rfl (ratE.csize _) (ratL_all _) T29 (.pure (ratE.pure _)) rfl (.pure rfl)
          · refine zg1 ?_
            refine st_nil ?_
            refine any_1 0 _ (by decide +kernel) rfl ?_
            refine zg1 ?_
            refine st_nil ?_
            refine any_1 4 _ (by decide +kernel) rfl ?_
            refine zg1 ?_
            refine st_nil ?_
            refine any_1 5 _ (by decide +kernel) rfl ?_
            refine zg1 ?_
            refine st_nil ?_
            refine any_1 6 _ (by decide +kernel) rfl ?_
            refine zg1 ?_
            refine st_nil ?_
            refine any_0 (by decide +kernel) ?_
            refine zg2 ?_
            exact retCCT [] rfl rfl rfl (ratE.csize _) (ratL_all _) T29 (.pure (ratE.pure _)) rfl rfl (ratE.csize _) (ratL_all _) T29 (.pure (ratE.pure _)) rfl (.pure rfl)
        · refine zg1 ?_
          refine st_nil ?_
          refine any_2 0 1 _ _ (by decide +kernel) rfl rfl ?_ ?_
          · refine zg1 ?_
            refine st_nil ?_
            refine any_2 1 4 _ _ (by decide +kernel) rfl rfl ?_ ?_
            · refine zg1 ?_
              refine st_nil ?_
              refine any_1 4 _ (by decide +kernel) rfl ?_
              refine zg1 ?_
              refine st_nil ?_
              refine any_1 5 _ (by decide +kernel) rfl ?_
              refine zg1 ?_
              refine st_nil ?_
              refine any_1 6 _ (by decide +kernel) rfl ?_
              refine zg1 ?_
              refine st_nil ?_
              refine any_0 (by decide +kernel) ?_
              refine zg2 ?_
              exact retCCT [] rfl rfl rfl (ratE.csize _) (ratL_all _) T29 (.pure (ratE.pure _)) rfl rfl (ratE.csize _) (ratL_all _) T29 (.pure (ratE.pure _)) rfl (.pure rfl)
            · refine zg1 ?_
              refine st_nil ?_
              refine any_1 1 _ (by decide +kernel) rfl ?_
              refine zg1 ?_
              refine st_nil ?_
              refine any_1 5 _ (by decide +kernel) rfl ?_
              refine zg1 ?_
              refine st_nil ?_
              refine any_1 6 _ (by decide +kernel) rfl ?_
              refine zg1 ?_
              refine st_nil ?_
              refine any_0 (by decide +kernel) ?_
              refine zg2 ?_
              exact retCCT [] rfl rfl rfl (ratE.csize _) (ratL_all _) T29 (.pure (ratE.pure _)) rfl rfl (ratE.csize _) (ratL_all _) T29 (.pure (ratE.pure _)) rfl (.pure rfl)
          · refine zg1 ?_
            refine st_nil ?_
            refine any_1 0 _ (by decide +kernel) rfl ?_
            refine zg1 ?_
            refine st_nil ?_
            refine any_1 4 _ (by decide +kernel) rfl ?_
            refine zg1 ?_
            refine st_nil ?_
            refine any_1 5 _ (by decide +kernel) rfl ?_
            refine zg1 ?_
            refine st_nil ?_
            refine any_1 6 _ (by decide +kernel) rfl ?_
            refine zg1 ?_
            refine st_nil ?_
            refine any_0 (by decide +kernel) ?_
            refine zg2 ?_
            exact retCCT [] rfl rfl rfl (ratE.csize _) (ratL_all _) T29 (.pure (ratE.pure _)) rfl rfl (ratE.csize _) (ratL_all _) T29 (.pure (ratE.pure _)) rfl (.pure rfl)
namespace H_c_Tan
theorem zSm {p q : Prop} (k : q) (e : p = q := by simp only [e1, e2, e3, e4, p1, p2, p3, q1, q2, q3, l1, t0, t1, r1, r2, r3, r4, Nat.zero_add, Nat.reduceMul, Nat.reduceAdd, b1, b2, b3, b4, b5, b6, i1, i2, i3, i4, i5, i6, Nat.reduceBEq, List.set_cons_zero, List.set_cons_succ, Nat.reduceEqDiff, reduceIte, if_true, if_false, ptL_kill, poL_kill, kills_map ptE, kills_map poE, kills_map ratE, ratL_kill, spL_kill, LV.kill, kills]; exact rfl) : p := e.mpr k
end H_c_Tan
open H_c_Tan in
theorem c_Tan (d : Nat) (T : Rat) (po : List PoR) (hT : rl T ≤ 1) (hT1 : rl (T + 1) ≤ 1) (h9 : d ≤ 6) (t : Rat) (ht : rl t ≤ 1000) (hin : hasR (T, T + 1) t = true) (h : cvF po d) (hd5 : d ≤ 5) : CallP Tryz.prog 31 [.agg [nI64 d, .list 3 ((kn0 d T).map ratL), .list 12 (po.map poL)], ratL t] (.tup [ptL (tanV po (t - T)), iL 0]) := by
  have hp0 : 0 < po.length := by have := h.hl; omega
  have hpu : ∀ l : List Rat, pures (l.map ratL) = true := fun l => pures_map ratE l
  have hkl := kn0_len d T
  have hlo := knB_lo d T
  have hhi := knB_hi d T
  have hcp : LV.pure (.agg [nI64 d, .list 3 ((kn0 d T).map ratL), .list 12 (po.map poL)]) = true := by simp [LV.pure, pures, pures_map ratE, pures_map poE]
  have hz1 := rl_sub t T
  have hr1 : rl 1 = 1 := rfl
  have hD := c_Dom d T po hT hT1 h9
  have hW : CallP Tryz.prog 140 [spL (T, T + 1)] (ratL 1) := by
    have := c_SWidth (T, T + 1) (by show rl (T + 1) + rl T ≤ _; omega)
    simp only [wid1] at this
    exact this
  have hQ : CallP Tryz.prog 125 [ratL (t - T), ratL 1] (.tup [ratL (t - T), iL 0]) := by
    have := c_RQuo (t - T) 1 (by omega)
    rw [div1, if_neg (by decide)] at this
    exact this
  have hH : CallP Tryz.prog 216 [spL (T, T + 1), ratL t] (bL true) := by
    have := c_SHas (T, T + 1) t (by show rl T + rl t ≤ _; omega) (by show rl t + rl (T + 1) ≤ _; omega)
    rwa [hin] at this
  have hl := h.hl
  have w1 := h.w
  have hs0 : HS (wtP po) (t - T) := hs_ofK (by omega) (fun x hx => Nat.le_trans (w1.2 x hx) (by decide)) (by omega)
  have q0 := hs0.ev
  have m0 := rl_mul (evP (wtP po) (t - T)) (evP (wtP po) (t - T))
  have m1 := rl_div 1 ((evP (wtP po) (t - T)) * (evP (wtP po) (t - T)))
  have u0 := h.t 0
  have v0 : HS (trP po 0) (t - T) := hs_ofK (by omega) (fun x hx => Nat.le_trans (u0.2 x hx) (by decide)) (by omega)
  have y0 := v0.ev
  have u1 := h.t 1
  have v1 : HS (trP po 1) (t - T) := hs_ofK (by omega) (fun x hx => Nat.le_trans (u1.2 x hx) (by decide)) (by omega)
  have y1 := v1.ev
  have u2 := h.t 2
  have v2 : HS (trP po 2) (t - T) := hs_ofK (by omega) (fun x hx => Nat.le_trans (u2.2 x hx) (by decide)) (by omega)
  have y2 := v2.ev
  have h1c : CallP Tryz.prog 126 [iL 1] (ratL 1) := c_RInt 1 (by decide) (by decide)
  have hM : CallP Tryz.prog 127 [ratL 1, ratL ((evP (wtP po) (t - T)) * (evP (wtP po) (t - T)))] (ratL ((evP (wtP po) (t - T)) * (evP (wtP po) (t - T)))) := by
    have := c_RMul 1 ((evP (wtP po) (t - T)) * (evP (wtP po) (t - T))) (by omega)
    rwa [Rat.one_mul] at this
  refine fnP Tryz.func31 (ht := (tame2 (ptE.pure _) rfl)) ?_
  refine zg12 ?_
  refine cp am2 (c_own d T po hT hT1 h9 t ht hin hp0) ?_
  refine zg18 ?_
  refine wl_if rfl (fun h23r h23 => ?_) (fun h23r h23 => ?_)
  · first | exact h23.elim | cases h23r
  · refine zg3 ?_
    refine wl_regD 6 (by decide +kernel) ?_
    refine zg1 ?_
    refine cp am1 (c_BNum d (kn0 d T) po h) ?_
    refine zg2 ?_
    refine cp am2 (c_BEval (wtP po) (t - T) hs0 (by omega)) ?_
    refine zg5 ?_
    refine wl_regF 11 [9] (by decide +kernel) ?_
    refine cp am1 (h1c) ?_
    refine zg3 ?_
    refine cp am2 (c_RMul (evP (wtP po) (t - T)) (evP (wtP po) (t - T)) (by omega)) ?_
    refine cp am2 (hM) ?_
    refine cp am2 (c_RQuo 1 ((evP (wtP po) (t - T)) * (evP (wtP po) (t - T))) (by omega)) ?_
    refine zg17 ?_
    refine cp am1 (c_turns d (kn0 d T) po h) ?_
    refine zg4 ?_
    refine wl_unroll ?_
    refine zg6 ?_
    refine wl_condX (b := _) rfl (by decide) ?_
    refine zg12 ?_
    refine wl_regD 7 (by decide +kernel) ?_
    refine zg4 ?_
    refine cp am2 (c_BEval (trP po 0) (t - T) v0 (by omega)) ?_
    refine cp am2 (c_RMul (1 / ((evP (wtP po) (t - T)) * (evP (wtP po) (t - T)))) (evP (trP po 0) (t - T)) (by omega)) ?_
    refine zg10 ?_
    refine wl_unroll ?_
    refine zg6 ?_
    refine wl_condX (b := _) rfl (by decide) ?_
    refine zg12 ?_
    refine wl_regD 7 (by decide +kernel) ?_
    refine zg4 ?_
    refine cp am2 (c_BEval (trP po 1) (t - T) v1 (by omega)) ?_
    refine cp am2 (c_RMul (1 / ((evP (wtP po) (t - T)) * (evP (wtP po) (t - T)))) (evP (trP po 1) (t - T)) (by omega)) ?_
    refine zg10 ?_
    refine wl_unroll ?_
    refine zg6 ?_
    refine wl_condX (b := _) rfl (by decide) ?_
    refine zg12 ?_
    refine wl_regD 7 (by decide +kernel) ?_
    refine zg4 ?_
    refine cp am2 (c_BEval (trP po 2) (t - T) v2 (by omega)) ?_
    refine cp am2 (c_RMul (1 / ((evP (wtP po) (t - T)) * (evP (wtP po) (t - T)))) (evP (trP po 2) (t - T)) (by omega)) ?_
    refine zg10 ?_
    refine wl_unroll ?_
    refine zg6 ?_
    refine wl_condY (b := _) rfl (by decide) ?_
    refine zg13 ?_
    exact retCT [] rfl rfl rfl cs (at_all cs rfl) T31 (.pure pu) rfl (.pure rfl)
end Go.Proofs.YtgfbghoihhnahaaGreat
end
section
set_option linter.unusedVariables false
set_option linter.unusedSimpArgs false
set_option maxHeartbeats 8000000
set_option maxRecDepth 100000
attribute [local irreducible] Go.Lg.opsL Go.Lg.wpL Go.Lg.thenL Go.Lg.blockL
namespace Go.Proofs.YtgfbghoihhnahaaGreat
open Go.Lg
namespace H_c_Adv
theorem zSm {p q : Prop} (k : q) (e : p = q := by simp only [e1, e2, e3, e4, p1, p2, p3, q1, q2, q3, l1, t0, t1, r1, r2, r3, r4, Nat.zero_add, Nat.reduceMul, Nat.reduceAdd, b1, b2, b3, b4, b5, b6, i1, i2, i3, i4, i5, i6, Nat.reduceBEq, List.set_cons_zero, List.set_cons_succ, Nat.reduceEqDiff, reduceIte, if_true, if_false, ptL_kill, poL_kill, kills_map ptE, kills_map poE, kills_map ratE, ratL_kill, spL_kill, LV.kill, kills]; exact rfl) : p := e.mpr k
end H_c_Adv
open H_c_Adv in
theorem c_Adv (d : Nat) (kn : List Rat) (po : List PoR) (h : cvF po d) (v : V3) (hv : bd3 1 v) : CallP Tryz.prog 22 [.agg [nI64 d, .list 3 (kn.map ratL), .list 12 (po.map poL)], ptL v] (iL (advV (bndP (smA po v)))) := by
  have hl := h.hl
  have hd := h.hd
  have h6 := h.h6
  have hcp : LV.pure (.agg [nI64 d, .list 3 (kn.map ratL), .list 12 (po.map poL)]) = true := by simp [LV.pure, pures, pures_map ratE, pures_map poE]
  have hpu : ∀ l : List Rat, pures (l.map ratL) = true := fun l => pures_map ratE l
  obtain ⟨v0, v1, v2⟩ := hv
  have tt0 := h.t 0
  have s0 := scP_rl v0 tt0.2
  have g0 : (scP v.x (trP po 0)).length = 2 * d - 1 + 1 := by rw [scP_len]; exact tt0.1
  have tt1 := h.t 1
  have s1 := scP_rl v1 tt1.2
  have g1 : (scP v.y (trP po 1)).length = 2 * d - 1 + 1 := by rw [scP_len]; exact tt1.1
  have tt2 := h.t 2
  have s2 := scP_rl v2 tt2.2
  have g2 : (scP v.z (trP po 2)).length = 2 * d - 1 + 1 := by rw [scP_len]; exact tt2.1
  have z1 := zipK_rl2 add_rlK (by decide) (by decide) s0 s1
  have z2 := zipK_rl2 add_rlK (by decide) (by decide) z1 s2
  have gz : (zipG (· + ·) (scP v.x (trP po 0)) (scP v.y (trP po 1))).length = 2 * d - 1 + 1 := by rw [zipG_len]; exact g0
  have hbd := bnd_rl (by decide) z2
  have gs : (smA po v).length = 2 * d - 1 + 1 := by rw [smA, zipG_len]; exact gz
  refine fnP Tryz.func22 ?_
  refine zg9 ?_
  refine st_pure rfl (.build0 SL29 Z29a) ?_
  refine zg8 ?_
  refine cp am1 (c_turns d kn po h) ?_
  refine zg4 ?_
  refine wl_unroll ?_
  refine zg6 ?_
  refine wl_condX (b := _) rfl (by decide) ?_
  refine zg18 ?_
  refine cp am2 (c_BScale v.x (trP po 0) (by omega) (fun x hx => by have := tt0.2 x hx; omega)) ?_
  refine st_callPf [10] rfl rfl (.cons (imm_refm (l := [0]) ratE rfl rfl rfl) (.cons (.pure (pure_lst ratE _ _)) .nil)) (c_BAdd0 (scP v.x (trP po 0)) (2 * d - 1) (by omega) g0 (fun x hx => Nat.le_trans (s0 x hx) (by decide))) ?_
  refine zg9 ?_
  refine wl_unroll ?_
  refine zg6 ?_
  refine wl_condX (b := _) rfl (by decide) ?_
  refine zg18 ?_
  refine cp am2 (c_BScale v.y (trP po 1) (by omega) (fun x hx => by have := tt1.2 x hx; omega)) ?_
  refine cp am2 (c_BAdds (scP v.x (trP po 0)) (scP v.y (trP po 1)) (2 * d - 1) (by omega) g0 g1 (fun x hx => Nat.le_trans (s0 x hx) (by decide)) (fun x hx => Nat.le_trans (s1 x hx) (by decide))) ?_
  refine zg9 ?_
  refine wl_unroll ?_
  refine zg6 ?_
  refine wl_condX (b := _) rfl (by decide) ?_
  refine zg18 ?_
  refine cp am2 (c_BScale v.z (trP po 2) (by omega) (fun x hx => by have := tt2.2 x hx; omega)) ?_
  refine cp am2 (c_BAdds (zipG (· + ·) (scP v.x (trP po 0)) (scP v.y (trP po 1))) (scP v.z (trP po 2)) (2 * d - 1) (by omega) gz g2 (fun x hx => Nat.le_trans (z1 x hx) (by decide)) (fun x hx => Nat.le_trans (s2 x hx) (by decide))) ?_
  refine zg9 ?_
  refine wl_unroll ?_
  refine zg6 ?_
  refine wl_condY (b := _) rfl (by decide) ?_
  refine zg9 ?_
  refine cp am1 (c_Bounds (smA po v) (by omega) (fun x hx => Nat.le_trans (z2 x hx) (by decide))) ?_
  refine zg9 ?_
  refine cp am1 (c_RSign (bndP (smA po v)).1 (Nat.le_trans hbd.1 (by decide))) ?_
  refine zg4 ?_
  refine wl_if rfl (fun h27r h27 => ?_) (fun h27r h27 => ?_)
  · have hV : advV (bndP (smA po v)) = 1 := by unfold advV; rw [if_pos (by omega)]
    refine zg8 ?_
    rw [hV]
    exact ret1 rfl (.pure rfl)
  · refine zg4 ?_
    refine cp am1 (c_RSign (bndP (smA po v)).2 (Nat.le_trans hbd.2 (by decide))) ?_
    refine zg4 ?_
    refine wl_if rfl (fun h32r h32 => ?_) (fun h32r h32 => ?_)
    · have hV : advV (bndP (smA po v)) = 0 := by unfold advV; rw [if_neg (by omega), if_pos (by omega)]
      refine zg8 ?_
      rw [hV]
      exact ret1 rfl (.pure rfl)
    · have hV : advV (bndP (smA po v)) = 2 := by unfold advV; rw [if_neg (by omega), if_neg (by omega)]
      refine zg9 ?_
      rw [hV]
      exact ret1 rfl (.pure rfl)
end Go.Proofs.YtgfbghoihhnahaaGreat
end
section
set_option linter.unusedVariables false
set_option linter.unusedSimpArgs false
set_option maxHeartbeats 8000000
set_option maxRecDepth 100000
attribute [local irreducible] Go.Lg.opsL Go.Lg.wpL Go.Lg.thenL Go.Lg.blockL
namespace Go.Proofs.YtgfbghoihhnahaaGreat
open Go.Lg
section
variable {P : Program} {H : Heap} {ρ : Operand → LV} {T E : TypeId}
theorem bdW {o1 : Operand} {r : Rat} [z : ZI P T (.agg [.agg [ratL 0, ratL 0, ratL 0], ratL 0])] [s : SI P T [(9, true), (3, true)]] (h1 : ρ o1 = ratL r) :
    OpP P H ρ (.build T #[(1, o1)]) (poL ⟨⟨0, 0, 0⟩, r⟩) := by
  have := OpP.bd (H := H) (ρ := ρ) (ps := #[(1, o1)]) (z := z) (s := s) (by simp [lay, LV.csize, csizes, ratE.csize, ratE.isAgg, isAgg_agg]) (by
    intro q hq
    simp only [List.mem_cons, List.not_mem_nil, or_false] at hq
    subst hq
    exact ⟨_, rfl, by rw [h1]; simp [lay, ratE.csize, ratE.isAgg], by rw [h1]; exact LV.pure_ne_any (ratE.pure _), by rw [h1]; exact LV.pure_ne_tup (ratE.pure _)⟩)
  simp only [buildL, List.map, List.foldl, List.set, h1] at this
  exact this
theorem bdP1 {o0 : Operand} {a : Rat} [u : UN P T (.array 3 E)] [t : TI P E 3 true] [z : ZI P T (.agg [ratL 0, ratL 0, ratL 0])] (h0 : ρ o0 = ratL a) : OpP P H ρ (.build T #[(0, o0)]) (ptL ⟨a, 0, 0⟩) := by
  have := OpP.bda (H := H) (ρ := ρ) (ps := #[(0, o0)]) (u := u) (t := t) (z := z) (by simp [lay, ratE.csize, ratE.isAgg]) (by
    intro q hq
    simp only [List.mem_cons, List.not_mem_nil, or_false] at hq
    subst hq
    exact ⟨_, rfl, by rw [h0]; simp [lay, ratE.csize, ratE.isAgg], by rw [h0]; exact LV.pure_ne_any (ratE.pure _), by rw [h0]; exact LV.pure_ne_tup (ratE.pure _)⟩)
  simp only [buildL, List.map, List.foldl, List.set, h0] at this
  exact this
theorem bdP2 {o0 o1 : Operand} {a b : Rat} [u : UN P T (.array 3 E)] [t : TI P E 3 true] [z : ZI P T (.agg [ratL 0, ratL 0, ratL 0])] (h0 : ρ o0 = ratL a) (h1 : ρ o1 = ratL b) : OpP P H ρ (.build T #[(0, o0), (1, o1)]) (ptL ⟨a, b, 0⟩) := by
  have := OpP.bda (H := H) (ρ := ρ) (ps := #[(0, o0), (1, o1)]) (u := u) (t := t) (z := z) (by simp [lay, ratE.csize, ratE.isAgg]) (by
    intro q hq
    simp only [List.mem_cons, List.not_mem_nil, or_false] at hq
    rcases hq with rfl | rfl
    · exact ⟨_, rfl, by rw [h0]; simp [lay, ratE.csize, ratE.isAgg], by rw [h0]; exact LV.pure_ne_any (ratE.pure _), by rw [h0]; exact LV.pure_ne_tup (ratE.pure _)⟩
    · exact ⟨_, rfl, by rw [h1]; simp [lay, ratE.csize, ratE.isAgg], by rw [h1]; exact LV.pure_ne_any (ratE.pure _), by rw [h1]; exact LV.pure_ne_tup (ratE.pure _)⟩)
  simp only [buildL, List.map, List.foldl, List.set, h0, h1] at this
  exact this
end
def paK : List Rat := [0, 0, 0, 1, 1, 1]
def paP : List PoR := [⟨⟨0, 0, 0⟩, 1⟩, ⟨⟨1, 1, 0⟩, 1⟩, ⟨⟨2, 0, 0⟩, 1⟩]
theorem paK_eq : kn0 2 0 = paK := by decide +kernel
theorem pa_ok : cvF paP 2 := ⟨rfl, by decide, by decide, fun q hq => by
  simp only [paP, List.mem_cons, List.not_mem_nil, or_false] at hq
  rcases hq with rfl | rfl | rfl <;> exact ⟨⟨by decide +kernel, by decide +kernel, by decide +kernel⟩, by decide +kernel, by decide +kernel⟩⟩
theorem pa_kn : kOK paK 2 := paK_eq ▸ kn0_ok (by decide) (by decide) (by decide +kernel) (by decide +kernel)
theorem pa_chd : chdP paP = 1 := by decide +kernel
theorem pa_adv0 : advV (bndP (smA paP ⟨1, 0, 0⟩)) = 1 := by decide +kernel
theorem pa_adv1 : advV (bndP (smA paP ⟨0, 1, 0⟩)) = 2 := by decide +kernel
theorem pa_tan : tanV paP (0 - 0) = ⟨2, 2, 0⟩ := by
  have h1 : (tanV paP (0 - 0)).x = 2 := by decide +kernel
  have h2 : (tanV paP (0 - 0)).y = 2 := by decide +kernel
  have h3 : (tanV paP (0 - 0)).z = 0 := by decide +kernel
  generalize tanV paP (0 - 0) = v at *
  obtain ⟨a, b, c⟩ := v
  simp only at h1 h2 h3
  rw [h1, h2, h3]
theorem c_tx1 : CallP Tryz.prog 97 [ratL 1] (.v (.string ⟨#[49]⟩)) := by
  have := c_FText 1 (by decide +kernel) (by decide +kernel) (by decide +kernel)
  exact this
theorem c_tx2 : CallP Tryz.prog 97 [ratL 2] (.v (.string ⟨#[50]⟩)) := by
  have := c_FText 2 (by decide +kernel) (by decide +kernel) (by decide +kernel)
  exact this
namespace H_c_parab
theorem zSm {p q : Prop} (k : q) (e : p = q := by simp only [e1, e2, e3, e4, p1, p2, p3, q1, q2, q3, l1, t0, t1, r1, r2, r3, r4, Nat.zero_add, Nat.reduceMul, Nat.reduceAdd, b1, b2, b3, b4, b5, b6, i1, i2, i3, i4, i5, i6, Nat.reduceBEq, List.set_cons_zero, List.set_cons_succ, Nat.reduceEqDiff, reduceIte, if_true, if_false, ptL_kill, poL_kill, kills_map ptE, kills_map poE, kills_map ratE, ratL_kill, spL_kill, LV.kill, kills]; exact rfl) : p := e.mpr k
end H_c_parab
open H_c_parab in
theorem c_parab  : CallP Tryz.prog 96 [] (.agg [nI64 2, .list 3 (paK.map ratL), .list 12 (paP.map poL)]) := by
  have h1 : CallP Tryz.prog 136 [iL 1] (ratL 1) := c_FInt 1 (by decide) (by decide)
  have h2 : CallP Tryz.prog 136 [iL 2] (ratL 2) := c_FInt 2 (by decide) (by decide)
  refine fnP Tryz.func96 (ht := (fun g => LV.ren_pure g _ (by simp [LV.pure, pures, pures_map ratE, pures_map poE]))) ?_
  refine zg7 ?_
  refine cp am1 (h1) ?_
  refine cp am1 (h2) ?_
  refine zg8 ?_
  refine st_pure rfl (.build0 SL29 Z29a) ?_
  refine st_pure rfl (.build0 SL29 Z29a) ?_
  refine st_pure rfl (.build0 SL29 Z29a) ?_
  refine zg3 ?_
  refine st_alloc rfl rfl (lit6 (a0 := 0) (a1 := 0) (a2 := 0) (a3 := 1) (a4 := 1) (a5 := 1) ratE Tryz.underlying33 (ratL_zero ▸ Z29a) T29 rfl rfl rfl rfl rfl rfl (by decide) (by decide)) ?_
  refine zg1 ?_
  refine s0bd (bdW rfl) ?_
  refine zg2 ?_
  refine s0bd (bdP2 rfl rfl) ?_
  refine zg1 ?_
  refine s0bd (bdPo (p := ⟨1, 1, 0⟩) (r := 1) rfl rfl) ?_
  refine zg1 ?_
  refine s0bd (bdP1 rfl) ?_
  refine zg1 ?_
  refine s0bd (bdPo (p := ⟨2, 0, 0⟩) (r := 1) rfl rfl) ?_
  refine st_alloc rfl rfl (.lit3 (a := ⟨⟨0, 0, 0⟩, 1⟩) (b := ⟨⟨1, 1, 0⟩, 1⟩) (c := ⟨⟨2, 0, 0⟩, 1⟩) (z := ⟨⟨0, 0, 0⟩, 0⟩) poE Tryz.underlying34 (show ZeroOK _ _ (poL ⟨⟨0, 0, 0⟩, 0⟩) from Z100) T100 rfl rfl rfl (by decide) (by decide)) ?_
  refine zg5 ?_
  exact retC [11, 23] rfl rfl rfl cs (at_all cs rfl) T36 (.agg (.cons (.pure rfl) (.cons (imm_refm (l := paK) ratE rfl rfl rfl) (.cons (imm_refm (l := paP) poE rfl rfl rfl) .nil))))
namespace H_c_Unit0
theorem zSm {p q : Prop} (k : q) (e : p = q := by simp only [e1, e2, e3, e4, p1, p2, p3, q1, q2, q3, l1, t0, t1, r1, r2, r3, r4, Nat.zero_add, Nat.reduceMul, Nat.reduceAdd, b1, b2, b3, b4, b5, b6, i1, i2, i3, i4, i5, i6, Nat.reduceBEq, List.set_cons_zero, List.set_cons_succ, Nat.reduceEqDiff, reduceIte, if_true, if_false, ptL_kill, poL_kill, kills_map ptE, kills_map poE, kills_map ratE, ratL_kill, spL_kill, LV.kill, kills]; exact rfl) : p := e.mpr k
end H_c_Unit0
open H_c_Unit0 in
theorem c_Unit0  : CallP Tryz.prog 98 [iL 0] (ptL ⟨1, 0, 0⟩) := by
  have h1 : CallP Tryz.prog 136 [iL 1] (ratL 1) := c_FInt 1 (by decide) (by decide)
  refine fnP Tryz.func98 (ht := (fun r => LV.ren_pure r _ (ptE.pure _))) ?_
  refine zg13 ?_
  refine cp am1 (h1) ?_
  refine zg11 ?_
  exact retC [] rfl rfl rfl cs (at_all cs rfl) T31 (.pure pu)
namespace H_c_Unit1
theorem zSm {p q : Prop} (k : q) (e : p = q := by simp only [e1, e2, e3, e4, p1, p2, p3, q1, q2, q3, l1, t0, t1, r1, r2, r3, r4, Nat.zero_add, Nat.reduceMul, Nat.reduceAdd, b1, b2, b3, b4, b5, b6, i1, i2, i3, i4, i5, i6, Nat.reduceBEq, List.set_cons_zero, List.set_cons_succ, Nat.reduceEqDiff, reduceIte, if_true, if_false, ptL_kill, poL_kill, kills_map ptE, kills_map poE, kills_map ratE, ratL_kill, spL_kill, LV.kill, kills]; exact rfl) : p := e.mpr k
end H_c_Unit1
open H_c_Unit1 in
theorem c_Unit1  : CallP Tryz.prog 98 [iL 1] (ptL ⟨0, 1, 0⟩) := by
  have h1 : CallP Tryz.prog 136 [iL 1] (ratL 1) := c_FInt 1 (by decide) (by decide)
  refine fnP Tryz.func98 (ht := (fun r => LV.ren_pure r _ (ptE.pure _))) ?_
  refine zg13 ?_
  refine cp am1 (h1) ?_
  refine zg11 ?_
  exact retC [] rfl rfl rfl cs (at_all cs rfl) T31 (.pure pu)
namespace H_c_awake11
theorem zSm {p q : Prop} (k : q) (e : p = q := by simp only [e1, e2, e3, e4, p1, p2, p3, q1, q2, q3, l1, t0, t1, r1, r2, r3, r4, Nat.zero_add, Nat.reduceMul, Nat.reduceAdd, b1, b2, b3, b4, b5, b6, i1, i2, i3, i4, i5, i6, Nat.reduceBEq, List.set_cons_zero, List.set_cons_succ, Nat.reduceEqDiff, reduceIte, if_true, if_false, ptL_kill, poL_kill, kills_map ptE, kills_map poE, kills_map ratE, ratL_kill, spL_kill, LV.kill, kills]; exact rfl) : p := e.mpr k
end H_c_awake11
open H_c_awake11 in
theorem c_awake11  : CallP Tryz.prog 15 [] (bL true) := by
  have hcp : LV.pure (.agg [nI64 2, .list 3 (paK.map ratL), .list 12 (paP.map poL)]) = true := by simp [LV.pure, pures, pures_map ratE, pures_map poE]
  have hT : CallP Tryz.prog 31 [.agg [nI64 2, .list 3 (paK.map ratL), .list 12 (paP.map poL)], ratL 0] (.tup [ptL ⟨2, 2, 0⟩, iL 0]) := by
    have := c_Tan 2 0 paP (by decide) (by decide +kernel) (by decide) 0 (by decide +kernel) (by decide +kernel) pa_ok (by decide)
    rwa [pa_tan, paK_eq] at this
  have hC : CallP Tryz.prog 20 [.agg [nI64 2, .list 3 (paK.map ratL), .list 12 (paP.map poL)]] (ratL 1) := by
    have := c_Chord 2 paK paP pa_ok
    rwa [pa_chd] at this
  have hA0 : CallP Tryz.prog 22 [.agg [nI64 2, .list 3 (paK.map ratL), .list 12 (paP.map poL)], ptL ⟨1, 0, 0⟩] (iL 1) := by
    have := c_Adv 2 paK paP pa_ok ⟨1, 0, 0⟩ ⟨by decide +kernel, by decide +kernel, by decide +kernel⟩
    rwa [pa_adv0] at this
  have hA1 : CallP Tryz.prog 22 [.agg [nI64 2, .list 3 (paK.map ratL), .list 12 (paP.map poL)], ptL ⟨0, 1, 0⟩] (iL 2) := by
    have := c_Adv 2 paK paP pa_ok ⟨0, 1, 0⟩ ⟨by decide +kernel, by decide +kernel, by decide +kernel⟩
    rwa [pa_adv1] at this
  have hB : CallP Tryz.prog 57 [.agg [nI64 2, .list 3 (paK.map ratL), .list 12 (paP.map poL)]] (iL 0) := c_BzCheck 2 paK paP pa_ok pa_kn rfl
  refine fnP Tryz.func15 ?_
  refine zg7 ?_
  refine cp am0 (c_parab) ?_
  refine zg7 ?_
  refine st_pure rfl (.build0 SL29 Z29a) ?_
  refine cp am2 (hT) ?_
  refine zg9 ?_
  refine wl_regD 38 (by decide +kernel) ?_
  refine zg1 ?_
  refine cp am1 (hB) ?_
  refine zg2 ?_
  refine st_pure (guardX (v := true) rfl rfl ((by decide +kernel)) rfl) ldA ?_
  refine st_callP (guardX (v := true) rfl rfl ((by decide +kernel)) rfl) (.cons im0 .nil) (hC) ?_
  refine st_callP (guardX (v := true) rfl rfl ((by decide +kernel)) rfl) (.cons im0 .nil) (c_tx1) ?_
  refine st_pure (guardX (v := true) rfl rfl ((by decide +kernel)) rfl) (.eqS rfl rfl) ?_
  refine st_pure rfl (.pickT rfl ((by decide +kernel))) ?_
  refine zg1 ?_
  refine st_pure (guardX (v := true) rfl rfl ((by decide +kernel)) rfl) ldA ?_
  refine st_callP (guardX (v := true) rfl rfl ((by decide +kernel)) rfl) (.cons im0 .nil) (c_Unit0) ?_
  refine st_callP (guardX (v := true) rfl rfl ((by decide +kernel)) rfl) (.cons im0 (.cons im0 .nil)) (hA0) ?_
  refine st_pure (guardX (v := true) rfl rfl ((by decide +kernel)) rfl) (.bin rfl rfl rfl) ?_
  refine st_pure rfl (.pickT rfl ((by decide +kernel))) ?_
  refine zg1 ?_
  refine st_pure (guardX (v := true) rfl rfl ((by decide +kernel)) rfl) ldA ?_
  refine st_callP (guardX (v := true) rfl rfl ((by decide +kernel)) rfl) (.cons im0 .nil) (c_Unit1) ?_
  refine st_callP (guardX (v := true) rfl rfl ((by decide +kernel)) rfl) (.cons im0 (.cons im0 .nil)) (hA1) ?_
  refine st_pure (guardX (v := true) rfl rfl ((by decide +kernel)) rfl) (.bin rfl rfl rfl) ?_
  refine st_pure rfl (.pickT rfl ((by decide +kernel))) ?_
  refine zg1 ?_
  refine st_pure (guardX (v := true) rfl rfl ((by decide +kernel)) rfl) (.move _) ?_
  refine st_pure (guardX (v := true) rfl rfl ((by decide +kernel)) rfl) (.bin rfl rfl rfl) ?_
  refine st_pure rfl (.pickT rfl ((by decide +kernel))) ?_
  refine zg1 ?_
  refine st_pure (guardX (v := true) rfl rfl ((by decide +kernel)) rfl) ixA ?_
  refine st_pure (guardX (v := true) rfl rfl ((by decide +kernel)) rfl) ldA ?_
  refine st_callP (guardX (v := true) rfl rfl ((by decide +kernel)) rfl) (.cons im0 .nil) (c_tx2) ?_
  refine st_pure (guardX (v := true) rfl rfl ((by decide +kernel)) rfl) (.eqS rfl rfl) ?_
  refine st_pure rfl (.pickT rfl ((by decide +kernel))) ?_
  refine zg1 ?_
  refine st_pure (guardX (v := true) rfl rfl ((by decide +kernel)) rfl) ixA ?_
  refine st_pure (guardX (v := true) rfl rfl ((by decide +kernel)) rfl) ldA ?_
  refine st_callP (guardX (v := true) rfl rfl ((by decide +kernel)) rfl) (.cons im0 .nil) (c_tx2) ?_
  refine st_pure (guardX (v := true) rfl rfl ((by decide +kernel)) rfl) (.eqS rfl rfl) ?_
  refine st_pure rfl (.pickT rfl ((by decide +kernel))) ?_
  refine zg4 ?_
  refine ret1 (x := bL ((⟨#[50]⟩ : ByteArray).toList == (⟨#[50]⟩ : ByteArray).toList)) rfl ?_
  have hbb : ((⟨#[50]⟩ : ByteArray).toList == (⟨#[50]⟩ : ByteArray).toList) = true := beq_self_eq_true _
  rw [hbb]
  exact .pure rfl
end Go.Proofs.YtgfbghoihhnahaaGreat
end
section
set_option linter.unusedVariables false
set_option linter.unusedSimpArgs false
set_option maxHeartbeats 8000000
set_option maxRecDepth 100000
attribute [local irreducible] Go.Lg.opsL Go.Lg.wpL Go.Lg.thenL Go.Lg.blockL
namespace Go.Proofs.YtgfbghoihhnahaaGreat
open Go.Lg
theorem wt_lo {po : List PoR} {d : Nat} (h : cvF po d) : 0 < (bndP (wtP po)).1 := by
  have hl := wtP_len po
  have h0 : 0 < (wtP po).length := by rw [hl, h.hl]; omega
  obtain ⟨i, hi, e⟩ := ((bk_spec (wtP po) (wtP po).length).2 h0).1
  show 0 < (bkP (wtP po) (wtP po).length).1
  rw [e]
  obtain ⟨q, hq, hw⟩ := List.mem_map.1 (getD_mem (p := wtP po) hi)
  rw [← hw]
  exact (h.ok q hq).2.2
section
variable {po : List PoR} {d : Nat} (h : cvF po d)
include h
end
/-- a number of a span -/
def wiV (s : Rat × Rat) (n : Int) : Rat := s.1 + ptV n * (s.2 - s.1)
theorem wi_one (T : Rat) (n : Int) : wiV (T, T + 1) n = T + ptV n := by show T + ptV n * (T + 1 - T) = _; rw [wid1, Rat.mul_one]
theorem wi_rl {T : Rat} (h : rl T ≤ 1) (n : Int) : rl (T + ptV n) ≤ 3 := by
  have := rl_add T (ptV n)
  have := ptV_rl n
  omega
namespace H_c_Within
theorem zSm {p q : Prop} (k : q) (e : p = q := by simp only [e1, e2, e3, e4, p1, p2, p3, q1, q2, q3, l1, t0, t1, r1, r2, r3, r4, Nat.zero_add, Nat.reduceMul, Nat.reduceAdd, b1, b2, b3, b4, b5, b6, i1, i2, i3, i4, i5, i6, Nat.reduceBEq, List.set_cons_zero, List.set_cons_succ, Nat.reduceEqDiff, reduceIte, if_true, if_false, ptL_kill, poL_kill, kills_map ptE, kills_map poE, kills_map ratE, ratL_kill, spL_kill, LV.kill, kills]; exact rfl) : p := e.mpr k
end H_c_Within
open H_c_Within in
theorem c_Within (s : Rat × Rat) (n : Int) (R : Nat) (hR : R ≤ 1000000) (hs : bdS R s) (hn : -9223372036854775808 ≤ n ∧ n ≤ 9223372036854775807) : CallP Tryz.prog 25 [spL s, iL n] (ratL (wiV s n)) := by
  obtain ⟨a1, a2⟩ := hs
  have hp := ptV_rl n
  have m1 := rl_sub s.2 s.1
  have m2 := rl_mul (ptV n) (s.2 - s.1)
  refine fnP Tryz.func25 ?_
  refine zg7 ?_
  refine wl_regD 11 (by decide +kernel) ?_
  refine zg3 ?_
  refine cp am1 (c_MPart n hn) ?_
  refine zg4 ?_
  refine cp am2 (c_FRSub s.2 s.1 (by omega)) ?_
  refine cp am2 (c_FRMul (ptV n) (s.2 - s.1) (by omega)) ?_
  refine cp am2 (c_FRAdd s.1 (ptV n * (s.2 - s.1)) (by omega)) ?_
  refine zg4 ?_
  exact retC [] rfl rfl rfl (ratE.csize _) (ratL_all _) T29 (.pure (ratE.pure _))
end Go.Proofs.YtgfbghoihhnahaaGreat
end
section
set_option linter.unusedVariables false
set_option linter.unusedSimpArgs false
set_option maxHeartbeats 8000000
set_option maxRecDepth 100000
attribute [local irreducible] Go.Lg.opsL Go.Lg.wpL Go.Lg.thenL Go.Lg.blockL
namespace Go.Proofs.YtgfbghoihhnahaaGreat
open Go.Lg
theorem ev_sub {p q : List Rat} {t : Rat} (h : 0 < p.length) (hl : p.length = q.length) : evP (zipG (· - ·) p q) t = evP p t - evP q t := by
  have hz := zipG_len (· - ·) p q
  rw [ev_fE (by omega), ev_fE h, ev_fE (by omega), hz, ← hl]
  have e := fE_lin (1 - t) t 1 (-1) (p.length - 1) (fun i => p.getD i 0) (fun i => q.getD i 0)
  have e2 : ∀ a b : Rat, 1 * a + -1 * b = a - b := fun a b => by grind
  rw [e2] at e
  rw [← e]
  refine fE_congr _ _ _ _ _ fun i hi => ?_
  rw [zipG_get (by omega), e2]
section
variable {po : List PoR} {d : Nat} (h : cvF po d)
include h
theorem tr_ev (k : Nat) (s : Rat) : evP (trP po k) s = evP (difP (nmP po k)) s * evP (wtP po) s - evP (nmP po k) s * evP (difP (wtP po)) s := by
  have n1 := h.n k
  have n2 := h.w
  have n3 := h.dn k
  have n4 := h.dw
  have m1 := h.m1 k
  have m2 := h.m2 k
  have hd := h.hd
  unfold trP
  rw [ev_sub (by rw [m1.1]; omega) (by rw [m1.1, m2.1]), ev_mul (by rw [n3.1]; omega) (by rw [n2.1]; omega), ev_mul (by rw [n1.1]; omega) (by rw [n4.1]; omega)]
theorem wt_in {s : Rat} (h0 : 0 ≤ s) (h1 : s ≤ 1) : (bndP (wtP po)).1 ≤ evP (wtP po) s ∧ evP (wtP po) s ≤ (bndP (wtP po)).2 := by
  have hb := ev_bnd (p := wtP po) h0 h1 (by rw [wtP_len, h.hl]; omega)
  unfold hasR at hb
  simp only [Bool.and_eq_true, decide_eq_true_eq] at hb
  exact hb
end
end Go.Proofs.YtgfbghoihhnahaaGreat
end
section
set_option linter.unusedVariables false
set_option linter.unusedSimpArgs false
set_option maxHeartbeats 8000000
set_option maxRecDepth 100000
attribute [local irreducible] Go.Lg.opsL Go.Lg.wpL Go.Lg.thenL Go.Lg.blockL
namespace Go.Proofs.YtgfbghoihhnahaaGreat
open Go.Lg
theorem lt_le_trans {a b c : Rat} (h : a < b) (k : b ≤ c) : a < c := by grind
section
variable {po : List PoR} {d : Nat} (h : cvF po d)
include h
theorem ww_pos {s : Rat} (h0 : 0 ≤ s) (h1 : s ≤ 1) : 0 < evP (wtP po) s * evP (wtP po) s ∧ evP (wtP po) s * evP (wtP po) s ≤ (bndP (wtP po)).2 * (bndP (wtP po)).2 := by
  obtain ⟨a1, a2⟩ := wt_in h h0 h1
  have hw : 0 < evP (wtP po) s := lt_le_trans (wt_lo h) a1
  have m1 := Rat.mul_le_mul_of_nonneg_left a2 (Rat.le_of_lt hw)
  have m2 := Rat.mul_le_mul_of_nonneg_right a2 (Rat.le_trans (Rat.le_of_lt hw) a2)
  exact ⟨Rat.mul_pos hw hw, Rat.le_trans m1 m2⟩
end
end Go.Proofs.YtgfbghoihhnahaaGreat
end
section
set_option linter.unusedVariables false
set_option linter.unusedSimpArgs false
set_option maxHeartbeats 8000000
set_option maxRecDepth 100000
attribute [local irreducible] Go.Lg.opsL Go.Lg.wpL Go.Lg.thenL Go.Lg.blockL
namespace Go.Proofs.YtgfbghoihhnahaaGreat
open Go.Lg
namespace H_c_FZero0
theorem zSm {p q : Prop} (k : q) (e : p = q := by simp only [e1, e2, e3, e4, p1, p2, p3, q1, q2, q3, l1, t0, t1, r1, r2, r3, r4, Nat.zero_add, Nat.reduceMul, Nat.reduceAdd, b1, b2, b3, b4, b5, b6, i1, i2, i3, i4, i5, i6, Nat.reduceBEq, List.set_cons_zero, List.set_cons_succ, Nat.reduceEqDiff, reduceIte, if_true, if_false, ptL_kill, poL_kill, kills_map ptE, kills_map poE, kills_map ratE, ratL_kill, spL_kill, LV.kill, kills]; exact rfl) : p := e.mpr k
end H_c_FZero0
open H_c_FZero0 in
theorem c_FZero0  : CallP Tryz.prog 42 [ptL ⟨0, 0, 0⟩] (bL true) := by
  refine fnP Tryz.func42 ?_
  refine zg10 ?_
  refine cp am2 (c_FPtSame ⟨0, 0, 0⟩ ⟨by decide +kernel, by decide +kernel, by decide +kernel⟩) ?_
  refine zg4 ?_
  exact ret1 rfl (.pure rfl)
end Go.Proofs.YtgfbghoihhnahaaGreat
end
section
set_option linter.unusedVariables false
set_option linter.unusedSimpArgs false
set_option maxHeartbeats 8000000
set_option maxRecDepth 100000
attribute [local irreducible] Go.Lg.opsL Go.Lg.wpL Go.Lg.thenL Go.Lg.blockL
namespace Go.Proofs.YtgfbghoihhnahaaGreat
open Go.Lg
theorem fE_rl {a b : Rat} : ∀ (n : Nat) (c : Nat → Rat) (R : Nat), (∀ i, rl (c i) ≤ R) → rl (fE a b n c) ≤ (R + (rl a + rl b + 1)) * 2 ^ n
  | 0, c, R, h => by
    have := h 0
    show rl (c 0) ≤ _
    omega
  | n + 1, c, R, h => by
    have := fE_rl (a := a) (b := b) n (fun i => a * c i + b * c (i + 1)) (2 * R + (rl a + rl b + 1)) (fun i => by
      have h0 := h i
      have h1 := h (i + 1)
      have m0 := rl_mul a (c i)
      have m1 := rl_mul b (c (i + 1))
      have s0 := rl_add (a * c i) (b * c (i + 1))
      omega)
    rw [fE]
    refine Nat.le_trans this ?_
    rw [Nat.pow_succ, Nat.mul_comm (2 ^ n) 2, ← Nat.mul_assoc]
    exact Nat.mul_le_mul_right _ (by omega)
theorem ev_rl {p : List Rat} {t : Rat} {R : Nat} (hl : 0 < p.length) (hR : 1 ≤ R) (h : ∀ x ∈ p, rl x ≤ R) : rl (evP p t) ≤ (R + (rl (1 - t) + rl t + 1)) * 2 ^ (p.length - 1) := by
  rw [ev_fE hl]
  exact fE_rl _ _ R (fun i => getD_rl hR h i)
theorem tan_bd {po : List PoR} {d : Nat} (h : cvF po d) (hd : d ≤ 5) {x : Rat} (hx : rl x ≤ 100) : bd3 400000000 (tanV po x) := by
  have hr1 : rl 1 = 1 := rfl
  have s1 := rl_sub 1 x
  have w1 := h.w
  have hd1 := h.hd
  have hp : ∀ n, n ≤ 9 → 2 ^ n ≤ 512 := fun n hn => Nat.pow_le_pow_right (n := 2) (by decide) hn
  have hp5 : ∀ n, n ≤ 5 → 2 ^ n ≤ 32 := fun n hn => Nat.pow_le_pow_right (n := 2) (by decide) hn
  have hw := ev_rl (t := x) (by omega) (by decide) w1.2
  have hw2 : (2 + (rl (1 - x) + rl x + 1)) * 2 ^ ((wtP po).length - 1) ≤ 210 * 32 := Nat.mul_le_mul (by omega) (hp5 _ (by omega))
  have m0 := rl_mul (evP (wtP po) x) (evP (wtP po) x)
  have m1 := rl_div 1 (evP (wtP po) x * evP (wtP po) x)
  have g : ∀ k, rl (1 / (evP (wtP po) x * evP (wtP po) x) * evP (trP po k) x) ≤ 400000000 := fun k => by
    have u := h.t k
    have y := ev_rl (t := x) (by omega) (by decide) u.2
    have y2 : (689401 + (rl (1 - x) + rl x + 1)) * 2 ^ ((trP po k).length - 1) ≤ 689700 * 512 := Nat.mul_le_mul (by omega) (hp _ (by omega))
    have m2 := rl_mul (1 / (evP (wtP po) x * evP (wtP po) x)) (evP (trP po k) x)
    omega
  exact ⟨g 0, g 1, g 2⟩
theorem wi_in (T : Rat) (n : Int) : T ≤ T + ptV n ∧ T + ptV n ≤ T + 1 := by
  have := ptV_in n
  constructor <;> grind
theorem has_in {T t : Rat} (h1 : T ≤ t) (h2 : t ≤ T + 1) : hasR (T, T + 1) t = true := by
  unfold hasR
  rw [decide_eq_true h1, decide_eq_true h2]; rfl
theorem fz0 (bs : List Nat) : frzH bs [] = [] := rfl
end Go.Proofs.YtgfbghoihhnahaaGreat
end
section
set_option linter.unusedVariables false
set_option linter.unusedSimpArgs false
set_option maxHeartbeats 8000000
set_option maxRecDepth 100000
attribute [local irreducible] Go.Lg.opsL Go.Lg.wpL Go.Lg.thenL Go.Lg.blockL
namespace Go.Proofs.YtgfbghoihhnahaaGreat
open Go.Lg
namespace H_c_made11
theorem zSm {p q : Prop} (k : q) (e : p = q := by simp only [e1, e2, e3, e4, p1, p2, p3, q1, q2, q3, l1, t0, t1, r1, r2, r3, r4, Nat.zero_add, Nat.reduceMul, Nat.reduceAdd, b1, b2, b3, b4, b5, b6, i1, i2, i3, i4, i5, i6, Nat.reduceBEq, List.set_cons_zero, List.set_cons_succ, Nat.reduceEqDiff, reduceIte, if_true, if_false, ptL_kill, poL_kill, kills_map ptE, kills_map poE, kills_map ratE, ratL_kill, spL_kill, LV.kill, kills, dice_kill]; exact rfl) : p := e.mpr k
end H_c_made11
open H_c_made11 in
theorem c_made11 (l : List Int) (hl5 : l.length ≤ 500) : CallP Tryz.prog 32 [.list 1 (l.map i64L)] (.agg [nI64 (cD l 0 5), .list 3 ((kn0 (cD l 0 5) (cT l 0)).map ratL), .list 12 ((cP l 0 5).map poL)]) := by
  have hcp : LV.pure (.agg [nI64 (cD l 0 5), .list 3 ((kn0 (cD l 0 5) (cT l 0)).map ratL), .list 12 ((cP l 0 5).map poL)]) = true := by simp [LV.pure, pures, pures_map ratE, pures_map poE]
  refine fnP Tryz.func32 (ht := (fun g => LV.ren_pure g _ (by simp [LV.pure, pures, pures_map ratE, pures_map poE]))) ?_
  refine zg8 ?_
  refine st_call1 [] rfl rfl (.cons im0 .nil) (c_Roll l) (dice_pure l 0) rfl ?_
  refine st_callMp 1000065 rfl rfl rfl (dice_pure l _) (.cons .ptr (.cons (.imm (.pure rfl)) (.cons (.imm (.pure rfl)) (.cons (.imm (.pure rfl)) .nil)))) .ptr (c_DCurve l 0 hl5 5 (by decide) (by decide) (Nat.zero_le _)) rfl (dice_pure l _) hcp ?_
  refine zg4 ?_
  exact retC [] rfl rfl rfl cs (at_all cs rfl) T36 (.pure hcp)
end Go.Proofs.YtgfbghoihhnahaaGreat
end
section
set_option linter.unusedVariables false
set_option linter.unusedSimpArgs false
set_option maxHeartbeats 8000000
set_option maxRecDepth 100000
attribute [local irreducible] Go.Lg.opsL Go.Lg.wpL Go.Lg.thenL Go.Lg.blockL
namespace Go.Proofs.YtgfbghoihhnahaaGreat
open Go.Lg
theorem ev_rev {p : List Rat} (h : 0 < p.length) (x : Rat) : evP p.reverse (1 - x) = evP p x := by
  rw [ev_fE (by rw [List.length_reverse]; exact h), ev_fE h, List.length_reverse, show 1 - (1 - x) = x by grind, fE_rev (1 - x) x]
  exact fE_congr _ _ _ _ _ fun i hi => by rw [getD_rev p (by omega)]
theorem dif_rev {p : List Rat} (h : 0 < p.length) (x : Rat) : evP (difP p.reverse) (1 - x) = - evP (difP p) x := by
  rw [ev_dif (by rw [List.length_reverse]; exact h), ev_dif h, List.length_reverse]
  unfold fD
  rw [show 1 - (1 - x) = x by grind]
  rcases Nat.lt_or_ge p.length 2 with h2 | h2
  · rw [show p.length - 1 = 0 by omega]
    show (((0 : Nat) : Int) : Rat) * _ = - ((((0 : Nat) : Int) : Rat) * _)
    rw [show (((0 : Nat) : Int) : Rat) = 0 from rfl, Rat.zero_mul, Rat.zero_mul]; rfl
  · have e : fE x (1 - x) (p.length - 1 - 1) (dF fun i => p.reverse.getD i 0) = - fE (1 - x) x (p.length - 1 - 1) (dF fun i => p.getD i 0) := by
      rw [fE_rev (1 - x) x]
      have h1 := fE_lin x (1 - x) (-1) 0 (p.length - 1 - 1) (fun i => dF (fun i => p.getD i 0) (p.length - 1 - 1 - i)) (fun i => 0)
      have h3 : -fE x (1 - x) (p.length - 1 - 1) (fun i => dF (fun i => p.getD i 0) (p.length - 1 - 1 - i)) = -1 * fE x (1 - x) (p.length - 1 - 1) (fun i => dF (fun i => p.getD i 0) (p.length - 1 - 1 - i)) + 0 * fE x (1 - x) (p.length - 1 - 1) (fun i => 0) := by grind
      rw [h3, ← h1]
      refine fE_congr _ _ _ _ _ fun i hi => ?_
      unfold dF
      simp only
      rw [getD_rev p (by omega), getD_rev p (by omega), show p.length - 1 - (i + 1) = p.length - 1 - 1 - i by omega, show p.length - 1 - i = p.length - 1 - 1 - i + 1 by omega]
      grind
    rw [e]; grind
theorem nm_rev (po : List PoR) (k : Nat) : nmP po.reverse k = (nmP po k).reverse := List.map_reverse
theorem wt_rev (po : List PoR) : wtP po.reverse = (wtP po).reverse := List.map_reverse
theorem cv_rev {po : List PoR} {d : Nat} (h : cvF po d) : cvF po.reverse d := ⟨by rw [List.length_reverse]; exact h.hl, h.hd, h.h6, fun q hq => h.ok q (List.mem_reverse.1 hq)⟩
section
variable {po : List PoR} {d : Nat} (h : cvF po d)
include h
theorem tr_rev (k : Nat) (x : Rat) : evP (trP po.reverse k) (1 - x) = - evP (trP po k) x := by
  have hn := (h.n k).1
  have hw := h.w.1
  rw [tr_ev (cv_rev h), tr_ev h, nm_rev, wt_rev, dif_rev (by omega), dif_rev (by omega), ev_rev (by omega), ev_rev (by omega)]
  grind
theorem tan_rev (x : Rat) : v3a (tanV po x) (tanV po.reverse (1 - x)) = ⟨0, 0, 0⟩ := by
  have hw := h.w.1
  unfold tanV
  rw [tr_rev h, tr_rev h, tr_rev h, wt_rev, ev_rev (by omega)]
  unfold v3a v3m
  simp only
  generalize 1 / (evP (wtP po) x * evP (wtP po) x) = r
  congr 1 <;> grind
/-- the derivative times the squared weight -/
theorem slope_eq (k : Nat) {x : Rat} (h0 : 0 ≤ x) (h1 : x ≤ 1) : evP (difP (nmP po k)) x * evP (wtP po) x - evP (nmP po k) x * evP (difP (wtP po)) x = 1 / (evP (wtP po) x * evP (wtP po) x) * evP (trP po k) x * (evP (wtP po) x * evP (wtP po) x) * 1 := by
  rw [← tr_ev h]
  have hw := (ww_pos h h0 h1).1
  have hr : 1 / (evP (wtP po) x * evP (wtP po) x) * (evP (wtP po) x * evP (wtP po) x) = 1 := Rat.div_mul_cancel (by grind)
  generalize 1 / (evP (wtP po) x * evP (wtP po) x) = r at *
  generalize evP (wtP po) x * evP (wtP po) x = w at *
  generalize evP (trP po k) x = y at *
  rw [Rat.mul_one, Rat.mul_assoc, Rat.mul_comm y w, ← Rat.mul_assoc, hr, Rat.one_mul]
end
theorem kn_rev (d : Nat) (T : Rat) : ((kn0 d T).reverse.map fun x => T + (T + 1) - x) = kn0 d T := by
  unfold kn0
  rw [List.reverse_append, List.reverse_replicate, List.reverse_replicate, List.map_append, List.map_replicate, List.map_replicate, show T + (T + 1) - (T + 1) = T by grind, show T + (T + 1) - T = T + 1 by grind]
theorem isz (a : Int) : a - ((0 : Nat) : Int) = a := by omega
theorem subS {a : Int} {m : Nat} (h1 : -9223372036854775807 ≤ a - m) (h2 : a - m ≤ 9223372036854775807) : binI .sub .i64 (a - (m : Int)) 1 = some (.int .i64 (a - ((m + 1 : Nat) : Int))) := by
  rw [sub64 (by omega) (by omega)]; congr 2; omega
def mirL (k : List Rat) : List Rat := k.reverse.map fun x => k.getD 0 0 + k.getD (k.length - 1) 0 - x
theorem mirL_len (k : List Rat) : (mirL k).length = k.length := by simp [mirL]
theorem mirL_get {k : List Rat} {m : Nat} (h : m < k.length) : (mirL k).getD m 0 = k.getD 0 0 + k.getD (k.length - 1) 0 - k.getD (k.length - (m + 1)) 0 := by
  have e := getD_rev k h
  unfold mirL
  rw [List.getD_eq_getElem?_getD, List.getElem?_map, List.getElem?_eq_getElem (by simpa using h)] at *
  simp only [Option.map_some, Option.getD_some] at *
  rw [e, show k.length - 1 - m = k.length - (m + 1) by omega]
theorem mirL_0 (d : Nat) (T : Rat) : mirL (kn0 d T) = kn0 d T := by
  unfold mirL
  rw [knB_lo, kn0_len, knB_hi]
  exact kn_rev d T
theorem rev_take {po : List PoR} {m : Nat} (h : m < po.length) : po.reverse.take m ++ [po.getD (po.length - (m + 1)) default] = po.reverse.take (m + 1) := by
  rw [List.take_add_one, List.getElem?_eq_getElem (by simpa using h), List.getElem_reverse, List.getD_eq_getElem?_getD, List.getElem?_eq_getElem (by omega)]
  simp only [Option.getD_some, Option.toList]
  congr 3; omega
namespace H_c_KMirror
theorem zSm {p q : Prop} (k : q) (e : p = q := by simp only [e1, e2, e3, e4, p1, p2, p3, q1, q2, q3, l1, t0, t1, r1, r2, r3, r4, Nat.zero_add, Nat.reduceMul, Nat.reduceAdd, b1, b2, b3, b4, b5, b6, i1, i2, i3, i4, i5, i6, Nat.reduceBEq, dfq, isz, eix, hix, etk, ers, List.length_map, take_map_len, map_snoc, len_snoc, List.length_cons, List.length_nil, List.nil_append, List.map_nil, List.take_nil, List.append_nil, List.set_cons_zero, List.set_cons_succ, Nat.reduceEqDiff, reduceIte, if_true, if_false, ptL_kill, poL_kill, kills_map ptE, kills_map poE, kills_map ratE, ratL_kill, spL_kill, LV.kill, kills]; exact rfl) : p := e.mpr k
end H_c_KMirror
open H_c_KMirror in
theorem c_KMirror (k : List Rat) (h0 : 0 < k.length) (hl : k.length ≤ 1000) (hr : ∀ x ∈ k, rl x ≤ 1000) : CallP Tryz.prog 128 [.list 3 (k.map ratL)] (.list 3 ((mirL k).map ratL)) := by
  have hix : ((k.length : Int) - 1).toNat = k.length - 1 := by omega
  have hml := mirL_len k
  have hr0 := hr _ (getD_mem (i := 0) h0)
  have hr1 := hr _ (getD_mem (i := k.length - 1) (by omega))
  refine fnP Tryz.func128 ?_
  have eix : True := trivial
  have etk : True := trivial
  have ers : True := trivial
  refine zg15 ?_
  refine st_pure rfl (.bin rfl rfl (sub64 (by omega) (by omega))) ?_
  refine zg4 ?_
  refine wl_weak (Weak.own (t := 3) 29 3 rfl rfl) ?_
  refine lp1 (fun (m : Nat) L => ((((St.mk L.slot (hp [(29, ⟨3, ((mirL k).take m).map ratL, true⟩)])).put (some 0) (.list 3 (k.map ratL))).put (some 3) (.ref 29 3 0 m)).put (some 4) (.v (.int .i64 ((k.length : Int) - 1 - (m : Int)))))) (fun m => m ≤ k.length) (fun m => k.length - m) 0 (Nat.zero_le _) ?_
  rintro m L1 hm
  refine zg7 ?_
  refine wl_if rfl (fun h9r h9 => ?_) (fun h9r h9 => ?_)
  · have hm2 : m < k.length := by omega
    have eix : ((k.length : Int) - 1 - (m : Int)).toNat = k.length - (m + 1) := by omega
    have hrm := hr _ (getD_mem (p := k) (i := k.length - (m + 1)) (by omega))
    have ha := rl_add (k.getD 0 0) (k.getD (k.length - 1) 0)
    have hdt : ((mirL k).take m).length = m := by rw [List.length_take]; omega
    have etk : (((mirL k).take m).map ratL).take m = ((mirL k).take m).map ratL := List.take_of_length_le (by rw [List.length_map]; omega)
    have ers : (mirL k).take m ++ [(k.getD 0 0 + k.getD (k.length - 1) 0 - k.getD (k.length - (m + 1)) 0)] = (mirL k).take (m + 1) := by rw [← mirL_get hm2]; exact take_snocL (by omega)
    refine zg4 ?_
    refine wl_regD 17 (by decide +kernel) ?_
    refine zg7 ?_
    refine st_pure rfl (.bin rfl rfl (sub64 (by omega) (by omega))) ?_
    refine zg2 ?_
    try simp only [t1, dfq, hix, List.length_map]
    refine cp am2 (c_FRAdd (k.getD 0 0) (k.getD (k.length - 1) 0) (by omega)) ?_
    refine zg4 ?_
    try simp only [t1, dfq, eix]
    refine cp am2 (c_FRSub (k.getD 0 0 + k.getD (k.length - 1) 0) (k.getD (k.length - (m + 1)) 0) (by omega)) ?_
    refine zg1 ?_
    refine st_store rfl (.app (news := [ratL (k.getD 0 0 + k.getD (k.length - 1) 0 - k.getD (k.length - (m + 1)) 0)]) rfl rfl rfl rfl rfl (by rw [List.length_map]; omega) (.inl rfl) (by decide) Tryz.underlying33 Tryz.underlying33 Z29a T29 rfl B29 (.inl ⟨28, 0, _, rfl, by decide, rfl, rfl, by simp, rfl, by simp [pures, ratE.pure]⟩) (by simp; omega) (by simp; omega) (by decide)) ?_
    refine zg4 ?_
    refine wl_regW (Weak.kill _ 28) ?_
    refine zg1 ?_
    refine st_pure rfl (.bin rfl rfl (subS (by omega) (by omega))) ?_
    refine zg3 ?_
    exact nx1 (m + 1) (by omega)
  · obtain rfl : m = k.length := by omega
    have hE : (mirL k).take k.length = mirL k := List.take_of_length_le (by omega)
    refine zg12 ?_
    rw [hE]
    exact ret1f [29] rfl rfl (imm_refm ratE rfl rfl hml.symm)
namespace H_c_CMirror
theorem zSm {p q : Prop} (k : q) (e : p = q := by simp only [e1, e2, e3, e4, p1, p2, p3, q1, q2, q3, l1, t0, t1, r1, r2, r3, r4, Nat.zero_add, Nat.reduceMul, Nat.reduceAdd, b1, b2, b3, b4, b5, b6, i1, i2, i3, i4, i5, i6, Nat.reduceBEq, dfq, isz, eix, etk, ers, List.length_map, take_map_len, map_snoc, len_snoc, List.length_cons, List.length_nil, List.nil_append, List.map_nil, List.take_nil, List.append_nil, List.set_cons_zero, List.set_cons_succ, Nat.reduceEqDiff, reduceIte, if_true, if_false, ptL_kill, poL_kill, kills_map ptE, kills_map poE, kills_map ratE, ratL_kill, spL_kill, LV.kill, kills]; exact rfl) : p := e.mpr k
end H_c_CMirror
open H_c_CMirror in
theorem c_CMirror (d : Nat) (T : Rat) (po : List PoR) (h : cvF po d) (hT : rl T ≤ 1) (hT1 : rl (T + 1) ≤ 1) : CallP Tryz.prog 33 [.agg [nI64 d, .list 3 ((kn0 d T).map ratL), .list 12 (po.map poL)]] (.agg [nI64 d, .list 3 ((kn0 d T).map ratL), .list 12 (po.reverse.map poL)]) := by
  have hl := h.hl
  have hd := h.hd
  have h6 := h.h6
  have hcp : LV.pure (.agg [nI64 d, .list 3 ((kn0 d T).map ratL), .list 12 (po.map poL)]) = true := by simp [LV.pure, pures, pures_map ratE, pures_map poE]
  have hkl := kn0_len d T
  have hkp := pure_lst ratE 3 (kn0 d T)
  have hM : CallP Tryz.prog 128 [.list 3 ((kn0 d T).map ratL)] (.list 3 ((kn0 d T).map ratL)) := by
    have := c_KMirror (kn0 d T) (by omega) (by omega) (fun x hx => by
      rcases List.mem_append.1 hx with g | g
      · rw [(List.mem_replicate.1 g).2]; omega
      · rw [(List.mem_replicate.1 g).2]; omega)
    rwa [mirL_0] at this
  refine fnP Tryz.func33 (ht := (fun g => LV.ren_pure g _ (by simp [-List.map_reverse, LV.pure, pures, pures_map ratE, pures_map poE]))) ?_
  have eix : True := trivial
  have etk : True := trivial
  have ers : True := trivial
  refine zg7 ?_
  refine wl_regD 7 (by decide +kernel) ?_
  refine zg4 ?_
  refine cp am1 (hM) ?_
  refine zg11 ?_
  refine st_pure rfl (.bin rfl rfl (sub64 (by omega) (by omega))) ?_
  refine zg4 ?_
  refine wl_weak ((Weak.cell 3 rfl (fun Z μ w cs h => rep_net 27 12 _ _ Z μ w cs h)).trans (Weak.newB _ 27 12 rfl)) ?_
  refine lp1 (fun (m : Nat) L => (((((St.mk L.slot (hp [(1, ⟨3, [.agg [nI64 d, .list 3 ((kn0 d T).map ratL), .list 12 (po.map poL)]], true⟩), (2, ⟨3, [.agg [.v (.int .i64 0), .v (.slice none 0 0), .v (.slice none 0 0)]], true⟩), (3, ⟨3, [.agg [nI64 d, .list 3 ((kn0 d T).map ratL), .ref 27 12 0 m]], true⟩), (27, ⟨12, (po.reverse.take m).map poL, true⟩)])).put (some 1) (.eptr 1 3 0 0)).put (some 2) (.eptr 2 3 0 0)).put (some 3) (.eptr 3 3 0 0)).put (some 4) (.v (.int .i64 ((po.length : Int) - 1 - (m : Int)))))) (fun m => m ≤ po.length) (fun m => po.length - m) 0 (Nat.zero_le _) ?_
  rintro m L1 hm
  refine zg7 ?_
  refine wl_if rfl (fun h16r h16 => ?_) (fun h16r h16 => ?_)
  · have hm2 : m < po.length := by omega
    have eix : ((po.length : Int) - 1 - (m : Int)).toNat = po.length - (m + 1) := by omega
    have hdt : (po.reverse.take m).length = m := by rw [List.length_take, List.length_reverse]; omega
    have etk : ((po.reverse.take m).map poL).take m = (po.reverse.take m).map poL := List.take_of_length_le (by rw [List.length_map]; omega)
    have ers : po.reverse.take m ++ [(po.getD (po.length - (m + 1)) default)] = po.reverse.take (m + 1) := rev_take hm2
    refine zg4 ?_
    refine wl_regD 8 (by decide +kernel) ?_
    refine zg7 ?_
    try simp only [t1, dfq, eix]
    refine zg1 ?_
    refine st_store rfl (.app (news := [poL (po.getD (po.length - (m + 1)) default)]) rfl rfl rfl rfl rfl (by rw [List.length_map]; omega) (.inl rfl) (by decide) Tryz.underlying34 Tryz.underlying34 Z100 T100 cs B100 (.inl ⟨26, 0, _, rfl, by decide, rfl, rfl, by simp, rfl, by simp [pures, poE.pure]⟩) (by simp; omega) (by simp; omega) (by decide)) ?_
    refine zg5 ?_
    refine wl_regW (Weak.kill _ 26) ?_
    refine zg1 ?_
    refine st_pure rfl (.bin rfl rfl (subS (by omega) (by omega))) ?_
    refine zg3 ?_
    exact nx1 (m + 1) (by omega)
  · obtain rfl : m = po.length := by omega
    have hE : po.reverse.take po.length = po.reverse := List.take_of_length_le (by simp)
    refine zg12 ?_
    simp only [hE]
    exact retC [27] rfl rfl rfl cs (at_all cs rfl) T36 (.agg (.cons (.pure rfl) (.cons (.pure hkp) (.cons (imm_refm (l := po.reverse) poE rfl rfl (by simp)) .nil))))
theorem ev_b {p : List Rat} {x : Rat} (hl : 0 < p.length) (hl6 : p.length ≤ 6) (h : ∀ y ∈ p, rl y ≤ 8) (hx : rl x ≤ 100) : rl (evP p x) ≤ 7000 := by
  have hr1 : rl 1 = 1 := rfl
  have s1 := rl_sub 1 x
  have e := ev_rl (t := x) hl (by decide) h
  have hp : 2 ^ (p.length - 1) ≤ 32 := Nat.pow_le_pow_right (n := 2) (by decide) (show p.length - 1 ≤ 5 by omega)
  have : (8 + (rl (1 - x) + rl x + 1)) * 2 ^ (p.length - 1) ≤ 211 * 32 := Nat.mul_le_mul (by omega) hp
  omega
theorem mir_par (T t : Rat) : T + (T + 1) - t - T = 1 - (t - T) := by grind
theorem mir_in {T t : Rat} (h1 : T ≤ t) (h2 : t ≤ T + 1) : T ≤ T + (T + 1) - t ∧ T + (T + 1) - t ≤ T + 1 := by constructor <;> grind
namespace H_c_BezierSlope
theorem zSm {p q : Prop} (k : q) (e : p = q := by simp only [e1, e2, e3, e4, p1, p2, p3, q1, q2, q3, l1, t0, t1, r1, r2, r3, r4, Nat.zero_add, Nat.reduceMul, Nat.reduceAdd, b1, b2, b3, b4, b5, b6, i1, i2, i3, i4, i5, i6, Nat.reduceBEq, fz0, dfq, wid1, List.length_map, nmP_len, wtP_len, List.set_cons_zero, List.set_cons_succ, Nat.reduceEqDiff, reduceIte, if_true, if_false, ptL_kill, poL_kill, kills_map ptE, kills_map poE, kills_map ratE, ratL_kill, spL_kill, LV.kill, kills]; exact rfl) : p := e.mpr k
end H_c_BezierSlope
open H_c_BezierSlope in
theorem c_BezierSlope (l : List Int) (i : Int) (hl : l.length ≤ 9223372036854775807 ∧ ∀ n ∈ l, -9223372036854775808 ≤ n ∧ n ≤ 9223372036854775807) (hi : -9223372036854775808 ≤ i ∧ i ≤ 9223372036854775807) : CallP Tryz.prog 5 [.list 1 (l.map i64L), iL i] (bL true) := by
  have hlt := hl.1
  obtain ⟨hd1, hd2, hd3⟩ := cD_in (n := 5) l 0 (by decide)
  obtain ⟨hT, hT1⟩ : rl (cT l 0) ≤ 1 ∧ rl ((cT l 0) + 1) ≤ 1 := dt_rl l (nxK l 0)
  have hcv : cvF (cP l 0 5) (cD l 0 5) := ⟨cP_len l 0 5, hd1, by omega, cP_ok l 0 5⟩
  have hcr := cv_rev hcv
  have hcp : LV.pure (.agg [nI64 (cD l 0 5), .list 3 ((kn0 (cD l 0 5) (cT l 0)).map ratL), .list 12 ((cP l 0 5).map poL)]) = true := by simp [LV.pure, pures, pures_map ratE, pures_map poE]
  have hcpr : LV.pure (.agg [nI64 (cD l 0 5), .list 3 ((kn0 (cD l 0 5) (cT l 0)).map ratL), .list 12 ((cP l 0 5).reverse.map poL)]) = true := by simp [-List.map_reverse, LV.pure, pures, pures_map ratE, pures_map poE]
  have h9 : (cD l 0 5) ≤ 6 := by omega
  have hFW : CallP Tryz.prog 38 [spL ((cT l 0), (cT l 0) + 1)] (ratL 1) := by
    have := c_FWidth ((cT l 0), (cT l 0) + 1) (by show rl ((cT l 0) + 1) + rl (cT l 0) ≤ _; omega)
    simp only [wid1] at this
    exact this
  have hr1 : rl 1 = 1 := rfl
  have hS3 : bdS 1 ((cT l 0), (cT l 0) + 1) := ⟨hT, hT1⟩
  have hpi : rl ((cT l 0) + ptV i) ≤ 3 := wi_rl hT i
  have hwi := wi_in (cT l 0) i
  refine fnP Tryz.func5 ?_
  refine zg9 ?_
  refine cp am1 (c_Light l hlt) ?_
  refine zg3 ?_
  refine wl_if rfl (fun h21r h21 => ?_) (fun h21r h21 => ?_)
  · refine zg2 ?_
    refine cp am0 (c_awake11) ?_
    refine zg5 ?_
    exact ret1 rfl (.pure rfl)
  · have hl5 : l.length ≤ 500 := by simpa using h21
    have hWi : CallP Tryz.prog 25 [spL ((cT l 0), (cT l 0) + 1), iL i] (ratL ((cT l 0) + ptV i)) := by
      have := c_Within ((cT l 0), (cT l 0) + 1) i 1 (by decide) hS3 hi
      rwa [wi_one] at this
    generalize (cT l 0) + ptV i = t at *
    obtain ⟨g1, g2⟩ := hwi
    have hs := rl_sub t (cT l 0)
    have hs1 := rl_add (cT l 0) ((cT l 0) + 1)
    have hs2 := rl_sub ((cT l 0) + ((cT l 0) + 1)) t
    obtain ⟨y1, y2⟩ := mir_in g1 g2
    have hTm := c_Tan (cD l 0 5) (cT l 0) (cP l 0 5).reverse hT hT1 h9 ((cT l 0) + ((cT l 0) + 1) - t) (by omega) (has_in y1 y2) hcr hd2
    have hT0 := c_Tan (cD l 0 5) (cT l 0) (cP l 0 5) hT hT1 h9 t (by omega) (has_in g1 g2) hcv hd2
    rw [mir_par] at hTm
    obtain ⟨x0, x1⟩ : 0 ≤ t - (cT l 0) ∧ t - (cT l 0) ≤ 1 := ⟨by grind, by grind⟩
    have hO : CallP Tryz.prog 37 [ratL (t - (cT l 0)), ratL 1] (ratL (t - (cT l 0))) := by
      have := c_FOver (t - (cT l 0)) 1 (by omega)
      rwa [div1] at this
    have hSB := c_FRSub t (cT l 0) (by omega)
    have hx : rl (t - (cT l 0)) ≤ 100 := by omega
    generalize t - (cT l 0) = x at *
    have tb := tan_bd hcv hd2 hx
    have tb2 := tan_bd hcr hd2 (x := 1 - x) (by have := rl_sub 1 x; omega)
    have hAd : CallP Tryz.prog 43 [ptL (tanV (cP l 0 5) x), ptL (tanV (cP l 0 5).reverse (1 - x))] (ptL ⟨0, 0, 0⟩) := by
      have := c_FVAdd (tanV (cP l 0 5) x) (tanV (cP l 0 5).reverse (1 - x)) 400000000 (by decide) tb tb2
      rwa [tan_rev hcv] at this
    have w1 := hcv.w
    have dw1 := hcv.dw
    have hpl := hcv.hl
    have hb0 : rl (evP (wtP (cP l 0 5)) x) ≤ 7000 := ev_b (by omega) (by omega) (fun y hy => Nat.le_trans ((w1).2 y hy) (by decide)) hx
    have hb1 : rl (evP (difP (wtP (cP l 0 5))) x) ≤ 7000 := ev_b (by omega) (by omega) (fun y hy => Nat.le_trans ((dw1).2 y hy) (by decide)) hx
    have hsw : HS (wtP (cP l 0 5)) x := hs_ofK (by omega) (fun y hy => Nat.le_trans ((w1).2 y hy) (by decide)) (by omega)
    have hsd : HS (difP (wtP (cP l 0 5))) x := hs_ofK (by omega) (fun y hy => Nat.le_trans ((dw1).2 y hy) (by decide)) (by omega)
    have mw := rl_mul (evP (wtP (cP l 0 5)) x) (evP (wtP (cP l 0 5)) x)
    obtain ⟨tb0, tb1, tb3⟩ := tb
    have n0 := hcv.n 0
    have dn0 := hcv.dn 0
    have a0 : rl (evP (nmP (cP l 0 5) 0) x) ≤ 7000 := ev_b (by omega) (by omega) (fun y hy => Nat.le_trans ((n0).2 y hy) (by decide)) hx
    have c0 : rl (evP (difP (nmP (cP l 0 5) 0)) x) ≤ 7000 := ev_b (by omega) (by omega) (fun y hy => Nat.le_trans ((dn0).2 y hy) (by decide)) hx
    have hsn0 : HS (nmP (cP l 0 5) 0) x := hs_ofK (by omega) (fun y hy => Nat.le_trans ((n0).2 y hy) (by decide)) (by omega)
    have hdn0 : HS (difP (nmP (cP l 0 5) 0)) x := hs_ofK (by omega) (fun y hy => Nat.le_trans ((dn0).2 y hy) (by decide)) (by omega)
    have m0 := rl_mul (evP (difP (nmP (cP l 0 5) 0)) x) (evP (wtP (cP l 0 5)) x)
    have o0 := rl_mul (evP (nmP (cP l 0 5) 0) x) (evP (difP (wtP (cP l 0 5))) x)
    have u0 := rl_sub ((evP (difP (nmP (cP l 0 5) 0)) x) * (evP (wtP (cP l 0 5)) x)) ((evP (nmP (cP l 0 5) 0) x) * (evP (difP (wtP (cP l 0 5))) x))
    have v0 := rl_mul (tanV (cP l 0 5) x).x ((evP (wtP (cP l 0 5)) x) * (evP (wtP (cP l 0 5)) x))
    have z0 := rl_mul ((tanV (cP l 0 5) x).x * ((evP (wtP (cP l 0 5)) x) * (evP (wtP (cP l 0 5)) x))) 1
    have n1 := hcv.n 1
    have dn1 := hcv.dn 1
    have a1 : rl (evP (nmP (cP l 0 5) 1) x) ≤ 7000 := ev_b (by omega) (by omega) (fun y hy => Nat.le_trans ((n1).2 y hy) (by decide)) hx
    have c1 : rl (evP (difP (nmP (cP l 0 5) 1)) x) ≤ 7000 := ev_b (by omega) (by omega) (fun y hy => Nat.le_trans ((dn1).2 y hy) (by decide)) hx
    have hsn1 : HS (nmP (cP l 0 5) 1) x := hs_ofK (by omega) (fun y hy => Nat.le_trans ((n1).2 y hy) (by decide)) (by omega)
    have hdn1 : HS (difP (nmP (cP l 0 5) 1)) x := hs_ofK (by omega) (fun y hy => Nat.le_trans ((dn1).2 y hy) (by decide)) (by omega)
    have m1 := rl_mul (evP (difP (nmP (cP l 0 5) 1)) x) (evP (wtP (cP l 0 5)) x)
    have o1 := rl_mul (evP (nmP (cP l 0 5) 1) x) (evP (difP (wtP (cP l 0 5))) x)
    have u1 := rl_sub ((evP (difP (nmP (cP l 0 5) 1)) x) * (evP (wtP (cP l 0 5)) x)) ((evP (nmP (cP l 0 5) 1) x) * (evP (difP (wtP (cP l 0 5))) x))
    have v1 := rl_mul (tanV (cP l 0 5) x).y ((evP (wtP (cP l 0 5)) x) * (evP (wtP (cP l 0 5)) x))
    have z1 := rl_mul ((tanV (cP l 0 5) x).y * ((evP (wtP (cP l 0 5)) x) * (evP (wtP (cP l 0 5)) x))) 1
    have n2 := hcv.n 2
    have dn2 := hcv.dn 2
    have a2 : rl (evP (nmP (cP l 0 5) 2) x) ≤ 7000 := ev_b (by omega) (by omega) (fun y hy => Nat.le_trans ((n2).2 y hy) (by decide)) hx
    have c2 : rl (evP (difP (nmP (cP l 0 5) 2)) x) ≤ 7000 := ev_b (by omega) (by omega) (fun y hy => Nat.le_trans ((dn2).2 y hy) (by decide)) hx
    have hsn2 : HS (nmP (cP l 0 5) 2) x := hs_ofK (by omega) (fun y hy => Nat.le_trans ((n2).2 y hy) (by decide)) (by omega)
    have hdn2 : HS (difP (nmP (cP l 0 5) 2)) x := hs_ofK (by omega) (fun y hy => Nat.le_trans ((dn2).2 y hy) (by decide)) (by omega)
    have m2 := rl_mul (evP (difP (nmP (cP l 0 5) 2)) x) (evP (wtP (cP l 0 5)) x)
    have o2 := rl_mul (evP (nmP (cP l 0 5) 2) x) (evP (difP (wtP (cP l 0 5))) x)
    have u2 := rl_sub ((evP (difP (nmP (cP l 0 5) 2)) x) * (evP (wtP (cP l 0 5)) x)) ((evP (nmP (cP l 0 5) 2) x) * (evP (difP (wtP (cP l 0 5))) x))
    have v2 := rl_mul (tanV (cP l 0 5) x).z ((evP (wtP (cP l 0 5)) x) * (evP (wtP (cP l 0 5)) x))
    have z2 := rl_mul ((tanV (cP l 0 5) x).z * ((evP (wtP (cP l 0 5)) x) * (evP (wtP (cP l 0 5)) x))) 1
    refine zg5 ?_
    refine cp am1 (c_made11 l hl5) ?_
    refine zg7 ?_
    refine cp am1 (c_FDom (cD l 0 5) (cT l 0) (cP l 0 5) hT hT1 h9) ?_
    refine zg8 ?_
    refine cp am2 (hWi) ?_
    refine zg8 ?_
    refine cp am2 (hT0) ?_
    refine zg9 ?_
    refine wl_regF 14 [12] (by decide +kernel) ?_
    refine zg1 ?_
    refine cp am1 (c_CMirror (cD l 0 5) (cT l 0) (cP l 0 5) hcv hT hT1) ?_
    refine zg4 ?_
    refine cp am2 (c_FRAdd (cT l 0) ((cT l 0) + 1) (by omega)) ?_
    refine zg1 ?_
    refine cp am2 (c_FRSub ((cT l 0) + ((cT l 0) + 1)) t (by omega)) ?_
    refine cp am2 (hTm) ?_
    refine zg11 ?_
    refine cp am1 (c_BNum (cD l 0 5) (kn0 (cD l 0 5) (cT l 0)) (cP l 0 5) hcv) ?_
    refine zg5 ?_
    refine wl_regD 8 (by decide +kernel) ?_
    refine zg3 ?_
    refine cp am2 (hSB) ?_
    refine zg1 ?_
    refine cp am1 (hFW) ?_
    refine cp am2 (hO) ?_
    refine zg11 ?_
    refine wl_unroll ?_
    refine zg7 ?_
    refine wl_condX (b := _) rfl (by decide) ?_
    refine zg5 ?_
    refine wl_regD 8 (by decide +kernel) ?_
    refine zg10 ?_
    refine wl_if rfl (fun h69r h69 => ?_) (fun h69r h69 => ?_)
    · first | exact absurd rfl h69 | (simp at h69; done)
    · refine zg9 ?_
      refine wl_unroll ?_
      refine zg7 ?_
      refine wl_condX (b := _) rfl (by decide) ?_
      refine zg5 ?_
      refine wl_regD 8 (by decide +kernel) ?_
      refine zg10 ?_
      refine wl_if rfl (fun h69r h69 => ?_) (fun h69r h69 => ?_)
      · first | exact absurd rfl h69 | (simp at h69; done)
      · refine zg9 ?_
        refine wl_unroll ?_
        refine zg7 ?_
        refine wl_condX (b := _) rfl (by decide) ?_
        refine zg5 ?_
        refine wl_regD 8 (by decide +kernel) ?_
        refine zg10 ?_
        refine wl_if rfl (fun h69r h69 => ?_) (fun h69r h69 => ?_)
        · first | exact absurd rfl h69 | (simp at h69; done)
        · refine zg9 ?_
          refine wl_unroll ?_
          refine zg7 ?_
          refine wl_condX (b := _) rfl (by decide) ?_
          refine zg5 ?_
          refine wl_regD 8 (by decide +kernel) ?_
          refine zg10 ?_
          refine wl_if rfl (fun h69r h69 => ?_) (fun h69r h69 => ?_)
          · first | exact absurd rfl h69 | (simp at h69; done)
          · refine zg9 ?_
            refine wl_unroll ?_
            refine zg7 ?_
            refine wl_condY (b := _) rfl (by decide) ?_
            refine zg6 ?_
            refine wl_regD 11 (by decide +kernel) ?_
            refine zg3 ?_
            refine cp am2 (c_FEval (wtP (cP l 0 5)) x hsw (by omega)) ?_
            refine zg2 ?_
            refine cp am1 (c_FDiff5 (wtP (cP l 0 5)) (by omega) (by omega) (fun y hy => Nat.le_trans ((w1).2 y hy) (by decide))) ?_
            refine zg1 ?_
            refine cp am2 (c_FEval (difP (wtP (cP l 0 5))) x hsd (by omega)) ?_
            refine zg13 ?_
            refine wl_unroll ?_
            refine zg7 ?_
            refine wl_condX (b := _) rfl (by decide) ?_
            refine zg5 ?_
            refine wl_regD 17 (by decide +kernel) ?_
            refine zg3 ?_
            refine cp am1 (c_FDiff5 (nmP (cP l 0 5) 0) (by omega) (by omega) (fun y hy => Nat.le_trans ((n0).2 y hy) (by decide))) ?_
            refine zg1 ?_
            refine cp am2 (c_FEval (difP (nmP (cP l 0 5) 0)) x hdn0 (by omega)) ?_
            refine zg1 ?_
            refine cp am2 (c_FRMul (evP (difP (nmP (cP l 0 5) 0)) x) (evP (wtP (cP l 0 5)) x) (by omega)) ?_
            refine zg4 ?_
            refine cp am2 (c_FEval (nmP (cP l 0 5) 0) x hsn0 (by omega)) ?_
            refine zg1 ?_
            refine cp am2 (c_FRMul (evP (nmP (cP l 0 5) 0) x) (evP (difP (wtP (cP l 0 5))) x) (by omega)) ?_
            refine cp am2 (c_FRSub ((evP (difP (nmP (cP l 0 5) 0)) x) * (evP (wtP (cP l 0 5)) x)) ((evP (nmP (cP l 0 5) 0) x) * (evP (difP (wtP (cP l 0 5))) x)) (by omega)) ?_
            refine zg5 ?_
            refine wl_regD 13 (by decide +kernel) ?_
            refine zg6 ?_
            refine cp am2 (c_FRMul (evP (wtP (cP l 0 5)) x) (evP (wtP (cP l 0 5)) x) (by omega)) ?_
            refine cp am2 (c_FRMul (tanV (cP l 0 5) x).x ((evP (wtP (cP l 0 5)) x) * (evP (wtP (cP l 0 5)) x)) (by omega)) ?_
            refine zg1 ?_
            refine cp am1 (hFW) ?_
            refine cp am2 (c_FRMul ((tanV (cP l 0 5) x).x * ((evP (wtP (cP l 0 5)) x) * (evP (wtP (cP l 0 5)) x))) 1 (by omega)) ?_
            refine cp am2 (c_FSame ((evP (difP (nmP (cP l 0 5) 0)) x) * (evP (wtP (cP l 0 5)) x) - (evP (nmP (cP l 0 5) 0) x) * (evP (difP (wtP (cP l 0 5))) x)) ((tanV (cP l 0 5) x).x * ((evP (wtP (cP l 0 5)) x) * (evP (wtP (cP l 0 5)) x)) * 1) (by omega)) ?_
            refine zg3 ?_
            refine wl_if rfl (fun h111r h111 => ?_) (fun h111r h111 => ?_)
            · first | exact absurd (slope_eq hcv 0 x0 x1) h111 | exact absurd (slope_eq hcv 1 x0 x1) h111 | exact absurd (slope_eq hcv 2 x0 x1) h111
            · refine zg3 ?_
              refine wl_regW (Weak.kill _ 18) ?_
              refine zg5 ?_
              refine wl_unroll ?_
              refine zg7 ?_
              refine wl_condX (b := _) rfl (by decide) ?_
              refine zg5 ?_
              refine wl_regD 17 (by decide +kernel) ?_
              refine zg3 ?_
              refine cp am1 (c_FDiff5 (nmP (cP l 0 5) 1) (by omega) (by omega) (fun y hy => Nat.le_trans ((n1).2 y hy) (by decide))) ?_
              refine zg1 ?_
              refine cp am2 (c_FEval (difP (nmP (cP l 0 5) 1)) x hdn1 (by omega)) ?_
              refine zg1 ?_
              refine cp am2 (c_FRMul (evP (difP (nmP (cP l 0 5) 1)) x) (evP (wtP (cP l 0 5)) x) (by omega)) ?_
              refine zg4 ?_
              refine cp am2 (c_FEval (nmP (cP l 0 5) 1) x hsn1 (by omega)) ?_
              refine zg1 ?_
              refine cp am2 (c_FRMul (evP (nmP (cP l 0 5) 1) x) (evP (difP (wtP (cP l 0 5))) x) (by omega)) ?_
              refine cp am2 (c_FRSub ((evP (difP (nmP (cP l 0 5) 1)) x) * (evP (wtP (cP l 0 5)) x)) ((evP (nmP (cP l 0 5) 1) x) * (evP (difP (wtP (cP l 0 5))) x)) (by omega)) ?_
              refine zg5 ?_
              refine wl_regD 13 (by decide +kernel) ?_
              refine zg6 ?_
              refine cp am2 (c_FRMul (evP (wtP (cP l 0 5)) x) (evP (wtP (cP l 0 5)) x) (by omega)) ?_
              refine cp am2 (c_FRMul (tanV (cP l 0 5) x).y ((evP (wtP (cP l 0 5)) x) * (evP (wtP (cP l 0 5)) x)) (by omega)) ?_
              refine zg1 ?_
              refine cp am1 (hFW) ?_
              refine cp am2 (c_FRMul ((tanV (cP l 0 5) x).y * ((evP (wtP (cP l 0 5)) x) * (evP (wtP (cP l 0 5)) x))) 1 (by omega)) ?_
              refine cp am2 (c_FSame ((evP (difP (nmP (cP l 0 5) 1)) x) * (evP (wtP (cP l 0 5)) x) - (evP (nmP (cP l 0 5) 1) x) * (evP (difP (wtP (cP l 0 5))) x)) ((tanV (cP l 0 5) x).y * ((evP (wtP (cP l 0 5)) x) * (evP (wtP (cP l 0 5)) x)) * 1) (by omega)) ?_
              refine zg3 ?_
              refine wl_if rfl (fun h111r h111 => ?_) (fun h111r h111 => ?_)
              · first | exact absurd (slope_eq hcv 0 x0 x1) h111 | exact absurd (slope_eq hcv 1 x0 x1) h111 | exact absurd (slope_eq hcv 2 x0 x1) h111
              · refine zg3 ?_
                refine wl_regW (Weak.kill _ 18) ?_
                refine zg5 ?_
                refine wl_unroll ?_
                refine zg7 ?_
                refine wl_condX (b := _) rfl (by decide) ?_
                refine zg5 ?_
                refine wl_regD 17 (by decide +kernel) ?_
                refine zg3 ?_
                refine cp am1 (c_FDiff5 (nmP (cP l 0 5) 2) (by omega) (by omega) (fun y hy => Nat.le_trans ((n2).2 y hy) (by decide))) ?_
                refine zg1 ?_
                refine cp am2 (c_FEval (difP (nmP (cP l 0 5) 2)) x hdn2 (by omega)) ?_
                refine zg1 ?_
                refine cp am2 (c_FRMul (evP (difP (nmP (cP l 0 5) 2)) x) (evP (wtP (cP l 0 5)) x) (by omega)) ?_
                refine zg4 ?_
                refine cp am2 (c_FEval (nmP (cP l 0 5) 2) x hsn2 (by omega)) ?_
                refine zg1 ?_
                refine cp am2 (c_FRMul (evP (nmP (cP l 0 5) 2) x) (evP (difP (wtP (cP l 0 5))) x) (by omega)) ?_
                refine cp am2 (c_FRSub ((evP (difP (nmP (cP l 0 5) 2)) x) * (evP (wtP (cP l 0 5)) x)) ((evP (nmP (cP l 0 5) 2) x) * (evP (difP (wtP (cP l 0 5))) x)) (by omega)) ?_
                refine zg5 ?_
                refine wl_regD 13 (by decide +kernel) ?_
                refine zg6 ?_
                refine cp am2 (c_FRMul (evP (wtP (cP l 0 5)) x) (evP (wtP (cP l 0 5)) x) (by omega)) ?_
                refine cp am2 (c_FRMul (tanV (cP l 0 5) x).z ((evP (wtP (cP l 0 5)) x) * (evP (wtP (cP l 0 5)) x)) (by omega)) ?_
                refine zg1 ?_
                refine cp am1 (hFW) ?_
                refine cp am2 (c_FRMul ((tanV (cP l 0 5) x).z * ((evP (wtP (cP l 0 5)) x) * (evP (wtP (cP l 0 5)) x))) 1 (by omega)) ?_
                refine cp am2 (c_FSame ((evP (difP (nmP (cP l 0 5) 2)) x) * (evP (wtP (cP l 0 5)) x) - (evP (nmP (cP l 0 5) 2) x) * (evP (difP (wtP (cP l 0 5))) x)) ((tanV (cP l 0 5) x).z * ((evP (wtP (cP l 0 5)) x) * (evP (wtP (cP l 0 5)) x)) * 1) (by omega)) ?_
                refine zg3 ?_
                refine wl_if rfl (fun h111r h111 => ?_) (fun h111r h111 => ?_)
                · first | exact absurd (slope_eq hcv 0 x0 x1) h111 | exact absurd (slope_eq hcv 1 x0 x1) h111 | exact absurd (slope_eq hcv 2 x0 x1) h111
                · refine zg3 ?_
                  refine wl_regW (Weak.kill _ 18) ?_
                  refine zg5 ?_
                  refine wl_unroll ?_
                  refine zg7 ?_
                  refine wl_condY (b := _) rfl (by decide) ?_
                  refine zg10 ?_
                  refine st_pure (guardX (v := true) rfl rfl ((rfl)) rfl) (.move _) ?_
                  refine st_pure (guardX (v := true) rfl rfl ((rfl)) rfl) (.bin rfl rfl rfl) ?_
                  refine st_pure rfl (.pickT rfl ((rfl))) ?_
                  refine zg1 ?_
                  refine st_pure (guardX (v := true) rfl rfl ((rfl)) rfl) ldA ?_
                  refine st_pure (guardX (v := true) rfl rfl ((rfl)) rfl) ldA ?_
                  refine st_callP (guardX (v := true) rfl rfl ((rfl)) rfl) (.cons im0 (.cons im0 .nil)) (hAd) ?_
                  refine st_callP (guardX (v := true) rfl rfl ((rfl)) rfl) (.cons im0 .nil) (c_FZero0) ?_
                  refine st_pure rfl (.pickT rfl ((rfl))) ?_
                  refine zg1 ?_
                  refine st_callP (guardX (v := true) rfl rfl ((rfl)) rfl) .nil (c_awake11) ?_
                  refine st_pure rfl (.pickT rfl ((rfl))) ?_
                  refine zg4 ?_
                  exact ret1 rfl (.pure rfl)
end Go.Proofs.YtgfbghoihhnahaaGreat
end
