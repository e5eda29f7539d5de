/- More arithmetic of machine integers; a slice compared with nil. -/
import Derived.Test.YthhdcfhaldcheaaLgX
import Derived.Laws.Cover3
set_option linter.unusedVariables false
set_option linter.unusedSimpArgs false
namespace Go.Lg

section
variable {a b s x c : Nat}
theorem shlV (hs : s < 64) (h : a * 2 ^ s < 18446744073709551616) : shI .shl .u64 (a : Nat) (s : Nat) = some (.int .u64 ((a * 2 ^ s : Nat) : Int)) := by
  have e : min ((s : Int)).toNat IntKind.u64.bits = s := by show min s 64 = s; omega
  have e2 : (a : Int) * 2 ^ s = ((a * 2 ^ s : Nat) : Int) := by simp
  simp only [shI]
  rw [if_neg (by omega), e, e2, IntWalk.u64_in _ (by omega)]
theorem shrC {k : IntKind} {m : Nat} (hm : m ≤ k.bits) : shI .shr k (a : Nat) (m : Nat) = some (.int k ((a / 2 ^ m : Nat) : Int)) := by
  have e : min ((m : Int)).toNat k.bits = m := by show min m k.bits = m; omega
  simp only [shI]
  rw [if_neg (by omega), e, Int.fdiv_eq_ediv_of_nonneg _ (Int.pow_nonneg (by omega))]
  congr 2
theorem orV (hc : c < 2 ^ s) (h : x * 2 ^ s + c < 18446744073709551616) : binI .or .u64 (c : Nat) ((x * 2 ^ s : Nat) : Int) = some (.int .u64 ((x * 2 ^ s + c : Nat) : Int)) := by
  have e : (BitVec.ofInt IntKind.u64.bits (c : Int) ||| BitVec.ofInt IntKind.u64.bits ((x * 2 ^ s : Nat) : Int)).toNat = x * 2 ^ s + c := by
    rw [bv_nat, bv_nat, BitVec.toNat_or, BitVec.toNat_ofNat, BitVec.toNat_ofNat]
    have e1 : x * 2 ^ s % 2 ^ IntKind.u64.bits = x * 2 ^ s := Nat.mod_eq_of_lt (by show _ < 18446744073709551616; omega)
    have e2 : c % 2 ^ IntKind.u64.bits = c := Nat.mod_eq_of_lt (by show _ < 18446744073709551616; omega)
    rw [e1, e2, Nat.or_comm]
    have := Nat.shiftLeft_add_eq_or_of_lt (i := s) (b := c) hc x
    rw [Nat.shiftLeft_eq] at this
    exact this.symm
  simp only [binI, e]
  rw [IntWalk.u64_in _ (by omega)]
theorem orV' (hc : c < 2 ^ s) (h : x * 2 ^ s + c < 18446744073709551616) : binI .or .u64 ((x * 2 ^ s : Nat) : Int) (c : Nat) = some (.int .u64 ((x * 2 ^ s + c : Nat) : Int)) := by
  rw [← orV hc h]
  simp only [binI]
  rw [BitVec.or_comm]
theorem tbl {s : ByteArray} (h : (List.range 256).all (fun n => s[n]? == some (UInt8.ofNat (blen n))) = true) {n : Nat} (hn : n < 256) : s[n]? = some (UInt8.ofNat (blen n)) := by
  rw [List.all_eq_true] at h
  simpa using h n (by simpa using hn)
end

/-- the limbs of a number, so many of them -/
def padL : Nat → Nat → List Nat
  | 0, _ => []
  | k + 1, m => m % 4294967296 :: padL k (m / 4294967296)
theorem padL_len : ∀ k m, (padL k m).length = k
  | 0, _ => rfl
  | k + 1, m => by simp [padL, padL_len k]
theorem padL_lim : ∀ k m, Lim (padL k m)
  | 0, _ => fun x h => by simp [padL] at h
  | k + 1, m => fun x h => by
      simp only [padL, List.mem_cons] at h
      rcases h with rfl | h
      · omega
      · exact padL_lim k _ x h
theorem padL_eq : ∀ {o : List Nat} {k : Nat}, Lim o → o.length = k → o = padL k (val o)
  | [], k, _, h => by subst h; rfl
  | x :: xs, k, hl, h => by
      subst h
      have hx := hl x (by simp)
      have ih := padL_eq (o := xs) (k := xs.length) (fun y hy => hl y (by simp [hy])) rfl
      simp only [List.length_cons, padL, val]
      have e1 : (x + 4294967296 * val xs) % 4294967296 = x := by omega
      have e2 : (x + 4294967296 * val xs) / 4294967296 = val xs := by omega
      rw [e1, e2, ← ih]
theorem padL_val : ∀ {k m : Nat}, m < 4294967296 ^ k → val (padL k m) = m
  | 0, m, h => by simp at h; subst h; rfl
  | k + 1, m, h => by
      simp only [padL, val]
      rw [padL_val (k := k) (by rw [Nat.div_lt_iff_lt_mul (by omega)]; rwa [Nat.pow_succ] at h)]
      omega

section
variable {P : Program} {ρ : Operand → LV} {α : Type} {e : α → LV}
theorem OpA.lit2 {T E : TypeId} {x y : Operand} {d sz : Nat} {ag : Bool} {z a b : α} (he : EncOK e sz ag) (hT : P.underlying T = some (.slice E)) (hz : ZeroOK P E (e z)) (hE : TyIs P E sz ag) (hx : ρ x = e a) (hy : ρ y = e b) (hs0 : 0 < sz) (hs1 : sz ≤ 1000) :
    OpA P ρ d (.buildSlice T 2 #[(0, x), (1, y)]) (.ref d sz 0 2) ⟨sz, [a, b].map e, true⟩ := by
  have := OpA.lit (P := P) (ρ := ρ) (d := d) (T := T) (n := 2) (ps := #[(0, x), (1, y)]) hT hz (by rw [he.isAgg]; exact hE) (he.csize z) (by omega) (by omega) hs0 (by
    intro p hp
    simp only [List.mem_cons, List.not_mem_nil, or_false] at hp
    rcases hp with rfl | rfl
    · refine ⟨by simp, ?_, by rw [hx]; exact LV.pure_ne_any (he.pure _), by rw [hx]; exact LV.pure_ne_tup (he.pure _)⟩
      simp [lay, hx, he.csize, he.isAgg]
    · refine ⟨by simp, ?_, by rw [hy]; exact LV.pure_ne_any (he.pure _), by rw [hy]; exact LV.pure_ne_tup (he.pure _)⟩
      simp [lay, hy, he.csize, he.isAgg])
  simpa [buildL, hx, hy, List.replicate] using this
end

section
variable {P : Program} {n : Nat} {W w : World} {X Z0 : Nat → Prop} {L : St} {a : Act} {K : St → Prop} {Q : LEx → St → Prop}
/-- a list compared with nil: either way, but where it says so the list is empty -/
theorem nil_reg {s0 d1 d2 sz : Nat} {l : List LV} {T E ty ty' U : TypeId} {pos pos' : String} {af af' : Array Edge} (h0 : L.slot s0 = .list sz l) (hT : P.underlying T = some (.slice E))
    (hK : ∀ b : Bool, (b = true → l = []) → Q .normal ((L.put (some d1) (.list sz l)).put (some d2) (.v (.bool b)))) :
    ∀ n W X Z0 a w, Sim n W X Z0 L a w → dstsOk n (.region 0 [Oper.mk (some d1) (.move (.tmp s0)) ty pos af none, Oper.mk (some d2) (.binOp .eql T (.tmp d1) (.const (.slice none 0 0)) U) ty' pos' af' none].toArray false) = true →
      ∀ id, (Code.region id [Oper.mk (some d1) (.move (.tmp s0)) ty pos af none, Oper.mk (some d2) (.binOp .eql T (.tmp d1) (.const (.slice none 0 0)) U) ty' pos' af' none].toArray false).wp P (PostL n W X Z0 Q) a w := by
  intro n W X Z0 a w hs hd id
  simp only [dstsOk, List.all_cons, List.all_nil, Bool.and_true, Bool.and_eq_true, decide_eq_true_eq] at hd
  refine wp_region_list ?_
  have h1 := step_sound (P := P) (dr := false) (ops := [Oper.mk (some d1) (.move (.tmp s0)) ty pos af none, Oper.mk (some d2) (.binOp .eql T (.tmp d1) (.const (.slice none 0 0)) U) ty' pos' af' none].toArray)
    (o := Oper.mk (some d1) (.move (.tmp s0)) ty pos af none) hs (L' := L.put (some d1) (.list sz l))
    (.val (r := .list sz l) (fr := []) (H1 := L.heap) rfl (Heap.le_refl _) (fun _ _ h => by cases h) (.pure (by have := OpP.move (P := P) (H := L.heap) (ρ := L.ev) (.tmp s0); rwa [show L.ev (.tmp s0) = LV.list sz l from h0] at this)) rfl)
    (fun t ht => by cases ht; exact hd.1)
    (K := wpList P [Oper.mk (some d1) (.move (.tmp s0)) ty pos af none, Oper.mk (some d2) (.binOp .eql T (.tmp d1) (.const (.slice none 0 0)) U) ty' pos' af' none].toArray (PostL n W X Z0 Q)
      [Oper.mk (some d2) (.binOp .eql T (.tmp d1) (.const (.slice none 0 0)) U) ty' pos' af' none]) (Q := PostL n W X Z0 Q) (fun a' w' hs' => ?_)
  · unfold wpList
    split
    · rename_i h; rw [if_pos h] at h1; exact .inl h1
    · rename_i h; rw [if_neg h] at h1; exact h1
  · obtain ⟨hdf, hsz, μ, Z, hc, hr⟩ := hs'
    have e1 := hr d1
    rw [put_slot, if_pos rfl] at e1
    have e2 := e1.2 rfl
    simp only [Rep] at e2
    obtain ⟨ad, len, cap, q1, q2, q3, q4, q5⟩ := e2
    simp only [List.cons.injEq, and_true] at q1
    have hev : a'.eval (.tmp d1) = .slice ad len cap := q1
    have hw : Region.wanted (Oper.mk (some d2) (.binOp .eql T (.tmp d1) (.const (.slice none 0 0)) U) ty' pos' af' none) (yielded [Oper.mk (some d1) (.move (.tmp s0)) ty pos af none, Oper.mk (some d2) (.binOp .eql T (.tmp d1) (.const (.slice none 0 0)) U) ty' pos' af' none].toArray a'.tmps) = true := rfl
    unfold wpList
    rw [if_pos hw]
    left
    have hrun : (execOp a'.eval (Oper.mk (some d2) (.binOp .eql T (.tmp d1) (.const (.slice none 0 0)) U) ty' pos' af' none)).run P w' = .ok (.value (.bool ad.isNone)) w' := by
      have hv : a'.eval (.const (.slice none 0 0)) = .slice none 0 0 := rfl
      simp only [execOp, hev, hv]
      simp [eqGuard, binOp, run_equal_slice_nil w' T E ad len cap hT]
    unfold Oper.wp
    rw [hrun, Oper.upon_value]
    refine ⟨_, hK ad.isNone ?_, by rw [put_defers]; exact hdf, by rw [put_size]; exact hsz, μ, Z, by rw [put_heap]; exact hc, put_rep (fun t ht => by cases ht; rw [hsz]; exact hd.2) hr RepV.bool⟩
    intro hb
    rcases q4 with q4 | ⟨blk, off, c, T', fz, part, rest, g1, _⟩
    · exact q4
    · rw [g1] at hb; cases hb
end
end Go.Lg
