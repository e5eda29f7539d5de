/- The operations that leave memory alone, over logical values. -/
import Derived.Test.YthhdcfhaldcheaaLgB
set_option linter.unusedVariables false
set_option linter.unusedSimpArgs false
namespace Go.Lg

def binI (op : BinOp) (k : IntKind) (a b : Int) : Option Value :=
  match op with
  | .add => some (.int k (k.wrap (a + b)))
  | .sub => some (.int k (k.wrap (a - b)))
  | .mul => some (.int k (k.wrap (a * b)))
  | .quo => if b = 0 then none else some (.int k (k.wrap (a.tdiv b)))
  | .rem => if b = 0 then none else some (.int k (a.tmod b))
  | .and => some (.int k (k.wrap (BitVec.ofInt k.bits a &&& BitVec.ofInt k.bits b).toNat))
  | .or => some (.int k (k.wrap (BitVec.ofInt k.bits a ||| BitVec.ofInt k.bits b).toNat))
  | .eql => some (.bool (a == b))
  | .neq => some (.bool (a != b))
  | .lss => some (.bool (a < b))
  | .leq => some (.bool (a ≤ b))
  | .gtr => some (.bool (a > b))
  | .geq => some (.bool (a ≥ b))
  | _ => none
def shI (op : BinOp) (k : IntKind) (a b : Int) : Option Value :=
  if b < 0 then none else
  match op with
  | .shl => some (.int k (k.wrap (a * 2 ^ min b.toNat k.bits)))
  | .shr => some (.int k (a.fdiv (2 ^ min b.toNat k.bits)))
  | _ => none

/-- A struct's zero value. -/
def ZeroOK (P : Program) (T : TypeId) (z : LV) : Prop :=
  ∃ i zv, P.info? T = some i ∧ i.zero = some zv ∧ z.pure = true ∧ ∀ (Z : Nat → Prop) (μ : Nat → Option Nat) (w : World), Rep Z μ w z zv.cells.toList

def buildL (zs : List LV) (ps : List (Nat × LV)) : List LV := ps.foldl (fun acc p => acc.set p.1 p.2) zs

inductive OpP (P : Program) (H : Heap) (ρ : Operand → LV) : Op → LV → Prop
  | move (x) : OpP P H ρ (.move x) (ρ x)
  | assign (x) : OpP P H ρ (.assign x) (ρ x)
  | pick {c x y t} (h : ρ c = .v (.bool t)) : OpP P H ρ (.pick c x y) (if t then ρ x else ρ y)
  | bin {op T x y U k a b r} (hx : ρ x = .v (.int k a)) (hy : ρ y = .v (.int k b)) (h : binI op k a b = some r) : OpP P H ρ (.binOp op T x y U) (.v r)
  | sh {op T x y U k k' a b r} (hx : ρ x = .v (.int k a)) (hy : ρ y = .v (.int k' b)) (h : shI op k a b = some r) : OpP P H ρ (.binOp op T x y U) (.v r)
  | beq {T x y U a b} (hx : ρ x = .v (.bool a)) (hy : ρ y = .v (.bool b)) (hT : P.underlying T = some .bool) : OpP P H ρ (.binOp .eql T x y U) (.v (.bool (a == b)))
  | bne {T x y U a b} (hx : ρ x = .v (.bool a)) (hy : ρ y = .v (.bool b)) (hT : P.underlying T = some .bool) : OpP P H ρ (.binOp .neq T x y U) (.v (.bool (!(a == b))))
  | not {T x a} (hx : ρ x = .v (.bool a)) : OpP P H ρ (.unOp .not T x) (.v (.bool !a))
  | neg {T x k a} (hx : ρ x = .v (.int k a)) : OpP P H ρ (.unOp .neg T x) (.v (.int k (k.wrap (0 - a))))
  | conv {S D x k k' n d} (hS : P.underlying S = some d) (hD : P.underlying D = some (.int k)) (hx : ρ x = .v (.int k' n)) : OpP P H ρ (.convert S D x) (.v (.int k (k.wrap n)))
  | extract {t i l r} (ht : ρ t = .tup l) (hr : l[i]? = some r) (hne : ∀ m, r ≠ .tup m) : OpP P H ρ (.extract t i) r
  | field {T x k fs r} (hx : ρ x = .agg fs) (hT : StructLay P T (fs.map lay)) (hr : fs[k]? = some r) (hne : r.pure = true) : OpP P H ρ (.field T x k) r
  | fieldAddrB {T p k fs r} (hp : ρ p = .boxp (.agg fs)) (hT : StructLay P T (fs.map lay)) (hr : fs[k]? = some r) : OpP P H ρ (.fieldAddr T p k) (.boxp r)
  | fieldAddrE {T p k b sz i o ls} (hp : ρ p = .eptr b sz i o) (hT : StructLay P T ls) (hk : k < ls.length) : OpP P H ρ (.fieldAddr T p k) (.eptr b sz i (o + sumL (ls.take k)))
  | loadB {T p c} (hp : ρ p = .boxp c) (hT : TyIs P T c.csize c.isAgg) (hc : c.pure = true) : OpP P H ρ (.load T p) c
  | loadE {T p b sz i o blk x r n ag} (hp : ρ p = .eptr b sz i o) (hb : H b = some blk) (hs : blk.sz = sz) (hi : blk.vals[i]? = some x) (hx : x.csize = sz) (hr : x.at o n ag = some r)
      (hT : TyIs P T n ag) : OpP P H ρ (.load T p) r
  | nilChkE {x b sz i o} (hx : ρ x = .eptr b sz i o) : OpP P H ρ (.nilCheck x) (.eptr b sz i o)
  | nilChkB {x c} (hx : ρ x = .boxp c) : OpP P H ρ (.nilCheck x) (.boxp c)
  | idxL {T E x i sz l k n r ag} (hx : ρ x = .list sz l) (hT : P.underlying T = some (.slice E)) (hE : TyIs P E sz ag) (hi : ρ i = .v (.int k n)) (h0 : 0 ≤ n)
      (hr : l[n.toNat]? = some r) (hc : r.csize = sz) : OpP P H ρ (.indexAddr T x i) (.boxp r)
  | idxR {T E x i b sz off len k n ag} (hx : ρ x = .ref b sz off len) (hT : P.underlying T = some (.slice E)) (hE : TyIs P E sz ag) (hi : ρ i = .v (.int k n)) (h0 : 0 ≤ n)
      (hn : n < len) : OpP P H ρ (.indexAddr T x i) (.eptr b sz (off + n.toNat) 0)
  | sliceL {T E x sz ag l a h la ha} (hx : ρ x = .list sz l) (hT : P.underlying T = some (.slice E)) (hE : TyIs P E sz ag) (hlo : ∀ y, la = some y → ∃ k, ρ y = .v (.int k (a : Nat)))
      (hlo0 : la = none → a = 0) (hhi : ∀ y, ha = some y → ∃ k, ρ y = .v (.int k (h : Nat))) (hhi0 : ha = none → h = l.length) (h1 : a ≤ h) (h2 : h ≤ l.length) :
      OpP P H ρ (.slice T x la ha none) (.list sz ((l.take h).drop a))
  | sliceR {T E x b sz off len ag a h la ha} (hx : ρ x = .ref b sz off len) (hT : P.underlying T = some (.slice E)) (hE : TyIs P E sz ag) (hlo : ∀ y, la = some y → ∃ k, ρ y = .v (.int k (a : Nat)))
      (hlo0 : la = none → a = 0) (hhi : ∀ y, ha = some y → ∃ k, ρ y = .v (.int k (h : Nat))) (hhi0 : ha = none → h = len) (h1 : a ≤ h) (h2 : h ≤ len) (hpos : a < len) :
      OpP P H ρ (.slice T x la ha none) (.ref b sz (off + a) (h - a))
  | sliceR3 {T E x b sz off len ag a h mx la z zm k k'} (hx : ρ x = .ref b sz off len) (hT : P.underlying T = some (.slice E)) (hE : TyIs P E sz ag) (hlo : ∀ y, la = some y → ∃ k, ρ y = .v (.int k (a : Nat)))
      (hlo0 : la = none → a = 0) (hhi : ρ z = .v (.int k (h : Nat))) (hmx : ρ zm = .v (.int k' (mx : Nat))) (h1 : a ≤ h) (h2 : h ≤ mx) (h3 : mx ≤ len) (hpos : a < mx) :
      OpP P H ρ (.slice T x la (some z) (some zm)) (.ref b sz (off + a) (h - a))
  | lenL {T x sz l d as} (hx : ρ x = .list sz l) (has : as = #[T]) (hT : P.underlying T = some (.slice d)) : OpP P H ρ (.call ⟨.builtin .len, #[x], as⟩) (.v (.int .i64 (l.length : Nat))) 
  | lenR {T x b sz off len d as} (hx : ρ x = .ref b sz off len) (has : as = #[T]) (hT : P.underlying T = some (.slice d)) : OpP P H ρ (.call ⟨.builtin .len, #[x], as⟩) (.v (.int .i64 (len : Nat)))
  | lenN {T x d as} (hx : ρ x = .v (.slice none 0 0)) (has : as = #[T]) (hT : P.underlying T = some (.slice d)) : OpP P H ρ (.call ⟨.builtin .len, #[x], as⟩) (.v (.int .i64 (0 : Nat)))
  | min2 {x y k a b as} (hx : ρ x = .v (.int k a)) (hy : ρ y = .v (.int k b)) : OpP P H ρ (.call ⟨.builtin .min, #[x, y], as⟩) (.v (.int k (if b < a then b else a)))
  | max2 {x y k a b as} (hx : ρ x = .v (.int k a)) (hy : ρ y = .v (.int k b)) : OpP P H ρ (.call ⟨.builtin .max, #[x, y], as⟩) (.v (.int k (if b > a then b else a)))
  | indexS {T x i s k n b} (hx : ρ x = .v (.string s)) (hT : P.underlying T = some .string) (hi : ρ i = .v (.int k n)) (h0 : 0 ≤ n) (hb : s[n.toNat]? = some b) : OpP P H ρ (.index T x i) (.v (.int .u8 b.toNat))
  | ext2 {f xs as fn e} {vs : List Value} {r1 r2} (hf : P.funcs[f]? = some fn) (hname : (fn.name == "runtime.NumGoroutine") = false) (hb : fn.body.isNone = true) (hn : Extern.findNext fn = none) (he : Extern.find fn = some e)
      (hx : xs.toList.map ρ = vs.map LV.v) (hr : ∀ w : World, (e vs.toArray).run P w = .ok (.tuple #[r1, r2]) w) (h1 : r1.oneCell' = true) (h2 : r2.oneCell' = true) :
      OpP P H ρ (.call ⟨.value (.func f), xs, as⟩) (.tup [.v r1, .v r2])
  | addS {T x y U s t} (hx : ρ x = .v (.string s)) (hy : ρ y = .v (.string t)) (h : s.size + t.size ≤ 9223372036854775807) : OpP P H ρ (.binOp .add T x y U) (.v (.string (s ++ t)))
  | eqS {T x y U s t} (hx : ρ x = .v (.string s)) (hy : ρ y = .v (.string t)) : OpP P H ρ (.binOp .eql T x y U) (.v (.bool (s.toList == t.toList)))
  | strR {S D E x b off len blk} {ns : List Nat} (hS : P.underlying S = some (.slice E)) (hE : P.underlying E = some (.int .u8)) (hD : P.underlying D = some .string) (hx : ρ x = .ref b 1 off len) (hb : H b = some blk) (hs : blk.sz = 1)
      (hv : (blk.vals.drop off).take len = ns.map (fun n => LV.v (.int .u8 (n : Nat)))) (hl : off + len ≤ blk.vals.length) :
      OpP P H ρ (.convert S D x) (.v (.string ((ns.map Int.ofNat).foldl (fun r n => r.push (UInt8.ofNat n.toNat)) ByteArray.empty)))
  | build {T zs ps} (hT : StructLay P T (zs.map lay)) (hz : ZeroOK P T (.agg zs)) (hp : ∀ p ∈ ps.toList, ∃ z, zs[p.1]? = some z ∧ lay (ρ p.2) = lay z ∧ ρ p.2 ≠ .any ∧ ∀ m, ρ p.2 ≠ .tup m) :
      OpP P H ρ (.build T ps) (.agg (buildL zs (ps.toList.map fun p => (p.1, ρ p.2))))

section
variable {P : Program} {Z : Nat → Prop} {μ : Nat → Option Nat} {w : World}
theorem RepV.int {k : IntKind} {n : Int} : RepV Z μ w (.v (.int k n)) (.int k n) := ⟨by simp [LV.isAgg], fun _ => by simp [Rep, Value.oneCell']⟩
theorem RepV.bool {b : Bool} : RepV Z μ w (.v (.bool b)) (.bool b) := ⟨by simp [LV.isAgg], fun _ => by simp [Rep, Value.oneCell']⟩
theorem RepV.v_eq {x v : Value} (h : RepV Z μ w (.v x) v) : v = x := by
  have := h.2 rfl
  simp only [Rep] at this
  simpa using this.1
theorem RepV.v {x : Value} (h : x.oneCell' = true) : RepV Z μ w (.v x) x := ⟨by simp [LV.isAgg], fun _ => by simp [Rep, h]⟩
theorem binI_one {op : BinOp} {k : IntKind} {a b : Int} {r : Value} (h : binI op k a b = some r) : r.oneCell' = true := by
  cases op <;> simp [binI] at h <;> first | (subst h; rfl) | (obtain ⟨_, rfl⟩ := h; rfl)
theorem shI_one {op : BinOp} {k : IntKind} {a b : Int} {r : Value} (h : shI op k a b = some r) : r.oneCell' = true := by
  unfold shI at h
  split at h
  · simp at h
  · cases op <;> simp at h <;> (subst h; rfl)
theorem run_binI {op : BinOp} {T : TypeId} {x y : Operand} {k : IntKind} {a b : Int} {r : Value} (h : binI op k a b = some r) :
    (do eqGuard op T x y (.int k a) (.int k b); binOp op T (.int k a) (.int k b) : Sem Value).run P w = .ok r w := by
  cases op <;> simp [binI] at h <;> simp [eqGuard, binOp, Op.intArith, Op.intDiv, Op.intBits, Op.intCmp] <;>
    first
      | (subst h; rfl)
      | (obtain ⟨h1, rfl⟩ := h; simp [h1])
      | skip
theorem run_shI {op : BinOp} {T : TypeId} {x y : Operand} {k k' : IntKind} {a b : Int} {r : Value} (h : shI op k a b = some r) :
    (do eqGuard op T x y (.int k a) (.int k' b); binOp op T (.int k a) (.int k' b) : Sem Value).run P w = .ok r w := by
  unfold shI at h
  split at h
  · simp at h
  · rename_i hb
    cases op <;> simp at h <;> subst h <;> simp [eqGuard, binOp, Op.shift, hb]

theorem zip_fill (off : Nat) : ∀ (vs : List Value) (i : Nat) (cells : Array Value), off + i + vs.length ≤ cells.size →
    ((vs.zipIdx i).foldl (fun cs p => cs.setIfInBounds (off + p.2) p.1) cells).toList = cells.toList.take (off + i) ++ (vs ++ cells.toList.drop (off + i + vs.length))
  | [], i, cells, h => by simp
  | v :: vs, i, cells, h => by
      simp only [List.length_cons] at h
      simp only [List.zipIdx_cons, List.foldl_cons]
      rw [zip_fill off vs (i + 1) _ (by rw [Array.size_setIfInBounds]; omega)]
      have e : off + (i + 1) = (off + i) + 1 := by omega
      rw [e, Array.toList_setIfInBounds, List.take_succ_eq_append_getElem (by simp; omega), List.getElem_set_self, List.take_set_of_le (by omega), List.drop_set_of_lt (by omega)]
      have e2 : off + i + 1 + vs.length = off + i + (vs.length + 1) := by omega
      rw [e2]
      simp

theorem fill_sound {ls : List (Nat × Bool)} (place : Nat → Option (Nat × Nat)) (hpl : ∀ k n, ls[k]? = some n → place k = some (sumL (ls.take k), n.1)) :
    ∀ (ps : List (Nat × Value)) (qs : List (Nat × LV)) (zs : List LV) (cells : Array Value), zs.map lay = ls → RepFs Z μ w zs cells.toList →
      ps.map (·.1) = qs.map (·.1) → (∀ (j : Nat) (p : Nat × Value) (q : Nat × LV), ps[j]? = some p → qs[j]? = some q → RepV1 Z μ w q.2 p.2 ∧ q.2 ≠ LV.any) →
      (∀ q ∈ qs, ∃ n, ls[q.1]? = some n ∧ lay q.2 = n) →
      ∃ cs, Instr.fill place cells ps = some cs ∧ RepFs Z μ w (buildL zs qs) cs.toList
  | [], [], zs, cells, _, hr, _, _, _ => ⟨cells, rfl, hr⟩
  | [], _ :: _, _, _, _, _, h, _, _ => by simp at h
  | _ :: _, [], _, _, _, _, h, _, _ => by simp at h
  | (k, v) :: ps, (k', x) :: qs, zs, cells, hz, hr, hk, hv, hq => by
      simp only [List.map_cons, List.cons.injEq] at hk
      obtain ⟨rfl, hk⟩ := hk
      obtain ⟨n, hn, hxn⟩ := hq (k, x) (by simp)
      obtain ⟨hxv, hxa⟩ := hv 0 (k, v) (k, x) rfl rfl
      obtain ⟨c1, c2, c3, _⟩ := hxv.cells hxa
      have hn' := hn
      simp only at hn hxn
      rw [← hz, List.getElem?_map] at hn
      obtain ⟨z, hzk, hzn⟩ : ∃ z, zs[k]? = some z ∧ lay z = n := by
        cases h : zs[k]? with
        | none => simp [h] at hn
        | some z => exact ⟨z, rfl, by simpa [h] using hn⟩
      obtain ⟨pre, ch, post, e1, e2, e3, e4, e5⟩ := RepFs.get zs cells.toList k z hr hzk
      have hsz : v.cells.size = n.1 := by rw [c2, ← hxn]; rfl
      have hchn : ch.length = n.1 := by rw [e3, ← hzn]; rfl
      have hpre : sumL (ls.take k) = pre.length := by rw [← hz, sumL_lay, e2]
      have hcs : cells.size = pre.length + (ch.length + post.length) := by
        rw [← Array.length_toList, e1]; simp
      simp only [Instr.fill, hpl k n hn', hpre]
      have hcond : ¬ ((decide (v.cells.size ≠ n.1) || decide (pre.length + v.cells.size > cells.size)) = true) := by
        simp only [Bool.or_eq_true, decide_eq_true_eq, not_or, Decidable.not_not]
        omega
      rw [if_neg hcond]
      have hf := zip_fill pre.length v.cells.toList 0 cells (by simp; omega)
      have hnew : (v.cells.zipIdx.foldl (fun cs p => cs.setIfInBounds (pre.length + p.2) p.1) cells).toList = pre ++ (v.cells.toList ++ post) := by
        rw [← Array.foldl_toList, Array.toList_zipIdx]
        rw [hf, e1]
        simp only [Nat.add_zero, Array.length_toList, List.take_left]
        rw [List.drop_append, List.drop_of_length_le (by omega), List.nil_append]
        congr 2
        rw [List.drop_append, List.drop_of_length_le (by omega), List.nil_append]
        have : pre.length + v.cells.size - pre.length - ch.length = 0 := by omega
        rw [this]; rfl
      have hstep := e5 x v.cells.toList c1 (by simp [c2])
      rw [← hnew] at hstep
      refine fill_sound place hpl ps qs (zs.set k x) _ ?_ hstep hk (fun j p q hp hq => hv (j + 1) p q (by simpa using hp) (by simpa using hq)) (fun q h => hq q (by simp [h]))
      rw [List.map_set, hz, hxn]
      refine List.ext_getElem? fun j => ?_
      by_cases hj : k = j
      · subst hj; rw [List.getElem?_set_self (List.getElem?_eq_some_iff.1 hn').1, hn']
      · rw [List.getElem?_set_ne hj]
end
end Go.Lg
