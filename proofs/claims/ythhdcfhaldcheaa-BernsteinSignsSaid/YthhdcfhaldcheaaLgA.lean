/- Logical values: what a value of the machine stands for, and that this survives growth of the memory. -/
import Derived.Orders
import Derived.Below
set_option linter.unusedVariables false
set_option linter.unusedSimpArgs false
namespace Go.Lg

inductive LV where
  | any
  | v (x : Value)
  | list (sz : Nat) (l : List LV)
  | agg (l : List LV)
  | ref (b sz off len : Nat)
  | eptr (b sz i o : Nat)
  | boxp (c : LV)
  | clo (f : FuncId) (cap : List LV)
  | tup (l : List LV)

instance : Inhabited LV := ⟨.any⟩

mutual
def LV.csize : LV → Nat
  | .agg l => csizes l
  | _ => 1
def csizes : List LV → Nat
  | [] => 0
  | x :: xs => x.csize + csizes xs
end

def LV.isAgg : LV → Bool
  | .agg _ => true
  | _ => false

mutual
def LV.pure : LV → Bool
  | .ref .. => false
  | .eptr .. => false
  | .tup _ => false
  | .any => false
  | .v _ => true
  | .list _ l => pures l
  | .agg l => pures l
  | .boxp c => c.pure
  | .clo _ l => pures l
def pures : List LV → Bool
  | [] => true
  | x :: xs => x.pure && pures xs
end

theorem pures_iff (l : List LV) : pures l = true ↔ ∀ x ∈ l, x.pure = true := by
  induction l with
  | nil => simp [pures]
  | cons x xs ih => simp [pures, ih]

mutual
def Rep (Z : Nat → Prop) (μ : Nat → Option Nat) (w : World) : LV → List Value → Prop
  | .any, cs => ∀ u ∈ cs, u.oneCell' = true
  | .v x, cs => cs = [x] ∧ x.oneCell' = true
  | .list sz l, cs => ∃ a len cap, cs = [.slice a len cap] ∧ len = l.length ∧ len ≤ cap ∧
      (l = [] ∨ ∃ blk off c T fz part rest, a = some ⟨blk, off, none⟩ ∧ Z blk ∧ w.heap[blk]? = some (.cells c T fz) ∧
        c.toList.drop off = part ++ rest ∧ RepAll Z μ w sz l part) ∧ pures l = true
  | .agg l, cs => RepFs Z μ w l cs
  | .ref b sz off len, cs => (cs = [.slice none 0 0] ∧ len = 0) ∨ ∃ id cap c T fz, cs = [.slice (some ⟨id, off * sz, none⟩) len cap] ∧ μ b = some id ∧ len ≤ cap ∧
      w.heap[id]? = some (.cells c T fz) ∧ (off + cap) * sz ≤ c.size
  | .eptr b sz i o, cs => ∃ id, cs = [.pointer (some ⟨id, i * sz + o, none⟩)] ∧ μ b = some id
  | .boxp c, cs => ∃ blk off cc T fz part rest, cs = [.pointer (some ⟨blk, off, none⟩)] ∧ Z blk ∧ w.heap[blk]? = some (.cells cc T fz) ∧
      cc.toList.drop off = part ++ rest ∧ part.length = c.csize ∧ Rep Z μ w c part ∧ c.pure = true
  | .clo f cap, cs => ∃ vs, cs = [.func (.func f) #[] vs] ∧ RepAll Z μ w 1 cap vs.toList ∧ pures cap = true
  | .tup _, _ => False
def RepAll (Z : Nat → Prop) (μ : Nat → Option Nat) (w : World) (sz : Nat) : List LV → List Value → Prop
  | [], cs => cs = []
  | x :: xs, cs => ∃ c1 c2, cs = c1 ++ c2 ∧ c1.length = sz ∧ Rep Z μ w x c1 ∧ RepAll Z μ w sz xs c2
def RepFs (Z : Nat → Prop) (μ : Nat → Option Nat) (w : World) : List LV → List Value → Prop
  | [], cs => cs = []
  | x :: xs, cs => ∃ c1 c2, cs = c1 ++ c2 ∧ c1.length = x.csize ∧ Rep Z μ w x c1 ∧ RepFs Z μ w xs c2
end

/-- One value of a slot, not a tuple. -/
def RepV1 (Z : Nat → Prop) (μ : Nat → Option Nat) (w : World) (lv : LV) (v : Value) : Prop :=
  (lv.isAgg = true → ∃ cs, v = .agg cs ∧ Rep Z μ w lv cs.toList) ∧ (lv.isAgg = false → Rep Z μ w lv [v])

def RepVL (Z : Nat → Prop) (μ : Nat → Option Nat) (w : World) : List LV → List Value → Prop
  | [], vs => vs = []
  | x :: xs, vs => ∃ v vs', vs = v :: vs' ∧ RepV1 Z μ w x v ∧ RepVL Z μ w xs vs'

def RepV (Z : Nat → Prop) (μ : Nat → Option Nat) (w : World) : LV → Value → Prop
  | .tup l, v => ∃ vs, v = .tuple vs ∧ RepVL Z μ w l vs.toList
  | .any, _ => True
  | lv, v => RepV1 Z μ w lv v

/-- What may happen to memory between two worlds: blocks of Z stay, blocks that a name stands for keep their size. -/
structure Frame (Z : Nat → Prop) (μ : Nat → Option Nat) (w w' : World) : Prop where
  z : ∀ id, Z id → w'.heap[id]? = w.heap[id]?
  m : ∀ b id, μ b = some id → ∀ c T fz, w.heap[id]? = some (.cells c T fz) → ∃ c', w'.heap[id]? = some (.cells c' T fz) ∧ c'.size = c.size

theorem Frame.refl (Z : Nat → Prop) (μ : Nat → Option Nat) (w : World) : Frame Z μ w w := ⟨fun _ _ => rfl, fun _ _ _ c _ _ h => ⟨c, h, rfl⟩⟩

section
variable {Z Z' : Nat → Prop} {μ μ' : Nat → Option Nat} {w w' : World}
mutual
theorem Rep.mono (hz : ∀ id, Z id → Z' id) (hm : ∀ b id, μ b = some id → μ' b = some id) (hf : Frame Z μ w w') :
    ∀ (lv : LV) (cs : List Value), Rep Z μ w lv cs → Rep Z' μ' w' lv cs
  | .any, _, h => by simpa [Rep] using h
  | .v x, cs, h => by simpa [Rep] using h
  | .list sz l, cs, h => by
      simp only [Rep] at h ⊢
      obtain ⟨a, len, cap, h1, h2, h3, h4, h9⟩ := h
      refine ⟨a, len, cap, h1, h2, h3, ?_, h9⟩
      rcases h4 with h4 | ⟨blk, off, c, T, fz, part, rest, e1, e2, e3, e4, e5⟩
      · exact .inl h4
      · exact .inr ⟨blk, off, c, T, fz, part, rest, e1, hz _ e2, (hf.z _ e2).trans e3, e4, RepAll.mono hz hm hf sz l part e5⟩
  | .agg l, cs, h => by
      simp only [Rep] at h ⊢
      exact RepFs.mono hz hm hf l cs h
  | .ref b sz off len, cs, h => by
      simp only [Rep] at h ⊢
      rcases h with h | ⟨id, cap, c, T, fz, h1, h2, h3, h4, h5⟩
      · exact .inl h
      obtain ⟨c', h6, h7⟩ := hf.m b id h2 c T fz h4
      exact .inr ⟨id, cap, c', T, fz, h1, hm _ _ h2, h3, h6, by omega⟩
  | .eptr b sz i o, cs, h => by
      simp only [Rep] at h ⊢
      obtain ⟨id, h1, h2⟩ := h
      exact ⟨id, h1, hm _ _ h2⟩
  | .boxp c, cs, h => by
      simp only [Rep] at h ⊢
      obtain ⟨blk, off, cc, T, fz, part, rest, h1, h2, h3, h4, h5, h6, h7⟩ := h
      exact ⟨blk, off, cc, T, fz, part, rest, h1, hz _ h2, (hf.z _ h2).trans h3, h4, h5, Rep.mono hz hm hf c part h6, h7⟩
  | .clo f cap, cs, h => by
      simp only [Rep] at h ⊢
      obtain ⟨vs, h1, h2, h3⟩ := h
      exact ⟨vs, h1, RepAll.mono hz hm hf 1 cap vs.toList h2, h3⟩
  | .tup _, _, h => by simp [Rep] at h
theorem RepAll.mono (hz : ∀ id, Z id → Z' id) (hm : ∀ b id, μ b = some id → μ' b = some id) (hf : Frame Z μ w w') (sz : Nat) :
    ∀ (l : List LV) (cs : List Value), RepAll Z μ w sz l cs → RepAll Z' μ' w' sz l cs
  | [], cs, h => by simpa [RepAll] using h
  | x :: xs, cs, h => by
      simp only [RepAll] at h ⊢
      obtain ⟨c1, c2, h1, h2, h3, h4⟩ := h
      exact ⟨c1, c2, h1, h2, Rep.mono hz hm hf x c1 h3, RepAll.mono hz hm hf sz xs c2 h4⟩
theorem RepFs.mono (hz : ∀ id, Z id → Z' id) (hm : ∀ b id, μ b = some id → μ' b = some id) (hf : Frame Z μ w w') :
    ∀ (l : List LV) (cs : List Value), RepFs Z μ w l cs → RepFs Z' μ' w' l cs
  | [], cs, h => by simpa [RepFs] using h
  | x :: xs, cs, h => by
      simp only [RepFs] at h ⊢
      obtain ⟨c1, c2, h1, h2, h3, h4⟩ := h
      exact ⟨c1, c2, h1, h2, Rep.mono hz hm hf x c1 h3, RepFs.mono hz hm hf xs c2 h4⟩
end

/-- A pure value is read the same way whatever the names stand for. -/
theorem pure_cons {x : LV} {xs : List LV} (h : pures (x :: xs) = true) : x.pure = true ∧ pures xs = true := by simpa [pures] using h
mutual
theorem Rep.repure (hz : ∀ id, Z id → Z' id) (hf : ∀ id, Z id → w'.heap[id]? = w.heap[id]?) :
    ∀ (lv : LV) (cs : List Value), lv.pure = true → Rep Z μ w lv cs → Rep Z' μ' w' lv cs
  | .any, _, _, h => by simpa [Rep] using h
  | .v x, cs, _, h => by simpa [Rep] using h
  | .list sz l, cs, hp, h => by
      simp only [Rep] at h ⊢
      obtain ⟨a, len, cap, h1, h2, h3, h4, h9⟩ := h
      refine ⟨a, len, cap, h1, h2, h3, ?_, h9⟩
      rcases h4 with h4 | ⟨blk, off, c, T, fz, part, rest, e1, e2, e3, e4, e5⟩
      · exact .inl h4
      · exact .inr ⟨blk, off, c, T, fz, part, rest, e1, hz _ e2, (hf _ e2).trans e3, e4, RepAll.repure hz hf sz l part (by simpa [LV.pure] using hp) e5⟩
  | .agg l, cs, hp, h => by
      simp only [Rep] at h ⊢
      exact RepFs.repure hz hf l cs (by simpa [LV.pure] using hp) h
  | .ref b sz off len, cs, hp, _ => by simp [LV.pure] at hp
  | .eptr b sz i o, cs, hp, _ => by simp [LV.pure] at hp
  | .boxp c, cs, hp, h => by
      simp only [Rep] at h ⊢
      obtain ⟨blk, off, cc, T, fz, part, rest, h1, h2, h3, h4, h5, h6, h7⟩ := h
      exact ⟨blk, off, cc, T, fz, part, rest, h1, hz _ h2, (hf _ h2).trans h3, h4, h5, Rep.repure hz hf c part (by simpa [LV.pure] using hp) h6, h7⟩
  | .clo f cap, cs, hp, h => by
      simp only [Rep] at h ⊢
      obtain ⟨vs, h1, h2, h3⟩ := h
      exact ⟨vs, h1, RepAll.repure hz hf 1 cap vs.toList (by simpa [LV.pure] using hp) h2, h3⟩
  | .tup _, _, _, h => by simp [Rep] at h
theorem RepAll.repure (hz : ∀ id, Z id → Z' id) (hf : ∀ id, Z id → w'.heap[id]? = w.heap[id]?) (sz : Nat) :
    ∀ (l : List LV) (cs : List Value), pures l = true → RepAll Z μ w sz l cs → RepAll Z' μ' w' sz l cs
  | [], cs, _, h => by simpa [RepAll] using h
  | x :: xs, cs, hp, h => by
      simp only [RepAll] at h ⊢
      obtain ⟨c1, c2, h1, h2, h3, h4⟩ := h
      exact ⟨c1, c2, h1, h2, Rep.repure hz hf x c1 (pure_cons hp).1 h3, RepAll.repure hz hf sz xs c2 (pure_cons hp).2 h4⟩
theorem RepFs.repure (hz : ∀ id, Z id → Z' id) (hf : ∀ id, Z id → w'.heap[id]? = w.heap[id]?) :
    ∀ (l : List LV) (cs : List Value), pures l = true → RepFs Z μ w l cs → RepFs Z' μ' w' l cs
  | [], cs, _, h => by simpa [RepFs] using h
  | x :: xs, cs, hp, h => by
      simp only [RepFs] at h ⊢
      obtain ⟨c1, c2, h1, h2, h3, h4⟩ := h
      exact ⟨c1, c2, h1, h2, Rep.repure hz hf x c1 (pure_cons hp).1 h3, RepFs.repure hz hf xs c2 (pure_cons hp).2 h4⟩
end
theorem RepV1.mono (hz : ∀ id, Z id → Z' id) (hm : ∀ b id, μ b = some id → μ' b = some id) (hf : Frame Z μ w w') {lv : LV} {v : Value}
    (h : RepV1 Z μ w lv v) : RepV1 Z' μ' w' lv v :=
  ⟨fun e => let ⟨cs, h1, h2⟩ := h.1 e; ⟨cs, h1, Rep.mono hz hm hf _ _ h2⟩, fun e => Rep.mono hz hm hf _ _ (h.2 e)⟩
theorem RepVL.mono (hz : ∀ id, Z id → Z' id) (hm : ∀ b id, μ b = some id → μ' b = some id) (hf : Frame Z μ w w') :
    ∀ (l : List LV) (vs : List Value), RepVL Z μ w l vs → RepVL Z' μ' w' l vs
  | [], _, h => h
  | _ :: xs, _, ⟨v, vs', h1, h2, h3⟩ => ⟨v, vs', h1, h2.mono hz hm hf, RepVL.mono hz hm hf xs vs' h3⟩
theorem RepV.mono (hz : ∀ id, Z id → Z' id) (hm : ∀ b id, μ b = some id → μ' b = some id) (hf : Frame Z μ w w') {lv : LV} {v : Value}
    (h : RepV Z μ w lv v) : RepV Z' μ' w' lv v := by
  cases lv with
  | tup l => obtain ⟨vs, h1, h2⟩ := h; exact ⟨vs, h1, h2.mono hz hm hf⟩
  | any => trivial
  | _ => exact RepV1.mono hz hm hf h
theorem RepV1.repure (hz : ∀ id, Z id → Z' id) (hf : ∀ id, Z id → w'.heap[id]? = w.heap[id]?) {lv : LV} {v : Value} (hp : lv.pure = true)
    (h : RepV1 Z μ w lv v) : RepV1 Z' μ' w' lv v :=
  ⟨fun e => let ⟨cs, h1, h2⟩ := h.1 e; ⟨cs, h1, Rep.repure hz hf _ _ hp h2⟩, fun e => Rep.repure hz hf _ _ hp (h.2 e)⟩
theorem RepV.of1 {lv : LV} {v : Value} (hn : ∀ l, lv ≠ .tup l) (h : RepV1 Z μ w lv v) : RepV Z μ w lv v := by
  cases lv with
  | tup l => exact absurd rfl (hn l)
  | any => trivial
  | _ => exact h
theorem RepV.to1 {lv : LV} {v : Value} (hn : ∀ l, lv ≠ .tup l) (ha : lv ≠ .any) (h : RepV Z μ w lv v) : RepV1 Z μ w lv v := by
  cases lv with
  | tup l => exact absurd rfl (hn l)
  | any => exact absurd rfl ha
  | _ => exact h
theorem LV.pure_ne_any {lv : LV} (hp : lv.pure = true) : lv ≠ .any := by
  rintro rfl; simp [LV.pure] at hp
theorem LV.pure_ne_tup {lv : LV} (hp : lv.pure = true) : ∀ l, lv ≠ .tup l := by
  rintro l rfl; simp [LV.pure] at hp

/-! ### Pieces of rows -/
theorem RepAll.length {sz : Nat} : ∀ (l : List LV) (cs : List Value), RepAll Z μ w sz l cs → cs.length = l.length * sz
  | [], cs, h => by simp only [RepAll] at h; simp [h]
  | x :: xs, cs, h => by
      simp only [RepAll] at h
      obtain ⟨c1, c2, rfl, h2, _, h4⟩ := h
      have := RepAll.length xs c2 h4
      simp only [List.length_append, List.length_cons, Nat.add_mul, Nat.one_mul]; omega
theorem RepFs.length : ∀ (l : List LV) (cs : List Value), RepFs Z μ w l cs → cs.length = csizes l
  | [], cs, h => by simp only [RepFs] at h; simp [h, csizes]
  | x :: xs, cs, h => by
      simp only [RepFs] at h
      obtain ⟨c1, c2, rfl, h2, _, h4⟩ := h
      have := RepFs.length xs c2 h4
      simp only [List.length_append, csizes]; omega
theorem RepAll.get {sz : Nat} : ∀ (l : List LV) (cs : List Value) (i : Nat) (x : LV), RepAll Z μ w sz l cs → l[i]? = some x →
    ∃ pre ch post, cs = pre ++ (ch ++ post) ∧ pre.length = i * sz ∧ ch.length = sz ∧ Rep Z μ w x ch ∧
      ∀ y ch', Rep Z μ w y ch' → ch'.length = sz → RepAll Z μ w sz (l.set i y) (pre ++ (ch' ++ post))
  | [], _, _, _, _, h => by simp at h
  | a :: xs, cs, 0, x, h, hi => by
      simp only [RepAll] at h
      obtain ⟨c1, c2, rfl, h2, h3, h4⟩ := h
      simp only [List.getElem?_cons_zero, Option.some.injEq] at hi
      subst hi
      exact ⟨[], c1, c2, by simp, by simp, h2, h3, fun y ch' hy hl => by simpa [RepAll] using ⟨ch', c2, rfl, hl, hy, h4⟩⟩
  | a :: xs, cs, i + 1, x, h, hi => by
      simp only [RepAll] at h
      obtain ⟨c1, c2, rfl, h2, h3, h4⟩ := h
      obtain ⟨pre, ch, post, rfl, e2, e3, e4, e5⟩ := RepAll.get xs c2 i x h4 (by simpa using hi)
      refine ⟨c1 ++ pre, ch, post, by simp, by simp [h2, e2, Nat.add_mul]; omega, e3, e4, fun y ch' hy hl => ?_⟩
      have := e5 y ch' hy hl
      simp only [List.set_cons_succ, RepAll]
      exact ⟨c1, pre ++ (ch' ++ post), by simp, h2, h3, this⟩
theorem RepFs.get : ∀ (l : List LV) (cs : List Value) (i : Nat) (x : LV), RepFs Z μ w l cs → l[i]? = some x →
    ∃ pre ch post, cs = pre ++ (ch ++ post) ∧ pre.length = csizes (l.take i) ∧ ch.length = x.csize ∧ Rep Z μ w x ch ∧
      ∀ y ch', Rep Z μ w y ch' → ch'.length = y.csize → RepFs Z μ w (l.set i y) (pre ++ (ch' ++ post))
  | [], _, _, _, _, h => by simp at h
  | a :: xs, cs, 0, x, h, hi => by
      simp only [RepFs] at h
      obtain ⟨c1, c2, rfl, h2, h3, h4⟩ := h
      simp only [List.getElem?_cons_zero, Option.some.injEq] at hi
      subst hi
      exact ⟨[], c1, c2, by simp, by simp [csizes], h2, h3, fun y ch' hy hl => by simpa [RepFs] using ⟨ch', c2, rfl, hl, hy, h4⟩⟩
  | a :: xs, cs, i + 1, x, h, hi => by
      simp only [RepFs] at h
      obtain ⟨c1, c2, rfl, h2, h3, h4⟩ := h
      obtain ⟨pre, ch, post, rfl, e2, e3, e4, e5⟩ := RepFs.get xs c2 i x h4 (by simpa using hi)
      refine ⟨c1 ++ pre, ch, post, by simp, by simp [h2, e2, csizes], e3, e4, fun y ch' hy hl => ?_⟩
      have := e5 y ch' hy hl
      simp only [List.set_cons_succ, RepFs]
      exact ⟨c1, pre ++ (ch' ++ post), by simp, h2, h3, this⟩
theorem RepAll.append {sz : Nat} : ∀ (l m : List LV) (cs ds : List Value), RepAll Z μ w sz l cs → RepAll Z μ w sz m ds → RepAll Z μ w sz (l ++ m) (cs ++ ds)
  | [], m, cs, ds, h, h' => by simp only [RepAll] at h; simpa [h] using h'
  | x :: xs, m, cs, ds, h, h' => by
      simp only [RepAll] at h
      obtain ⟨c1, c2, rfl, h2, h3, h4⟩ := h
      have := RepAll.append xs m c2 ds h4 h'
      simp only [List.cons_append, RepAll]
      exact ⟨c1, c2 ++ ds, by simp, h2, h3, this⟩
theorem RepAll.split {sz : Nat} : ∀ (l m : List LV) (cs : List Value), RepAll Z μ w sz (l ++ m) cs → ∃ c1 c2, cs = c1 ++ c2 ∧ RepAll Z μ w sz l c1 ∧ RepAll Z μ w sz m c2
  | [], m, cs, h => ⟨[], cs, rfl, by simp [RepAll], h⟩
  | x :: xs, m, cs, h => by
      simp only [List.cons_append, RepAll] at h
      obtain ⟨c1, c2, rfl, h2, h3, h4⟩ := h
      obtain ⟨d1, d2, rfl, e1, e2⟩ := RepAll.split xs m c2 h4
      exact ⟨c1 ++ d1, d2, by simp, by simpa [RepAll] using ⟨c1, d1, rfl, h2, h3, e1⟩, e2⟩
theorem RepAll.mem_pure {sz : Nat} : ∀ (l : List LV) (cs : List Value), RepAll Z μ w sz l cs → ∀ x ∈ l, ∃ ch, ch.length = sz ∧ Rep Z μ w x ch
  | [], _, _, x, hx => by simp at hx
  | a :: xs, cs, h, x, hx => by
      simp only [RepAll] at h
      obtain ⟨c1, c2, rfl, h2, h3, h4⟩ := h
      rcases List.mem_cons.1 hx with rfl | hx
      · exact ⟨c1, h2, h3⟩
      · exact RepAll.mem_pure xs c2 h4 x hx
theorem RepAll.replicate {sz : Nat} {x : LV} {ch : List Value} (h : Rep Z μ w x ch) (hl : ch.length = sz) : ∀ n, RepAll Z μ w sz (List.replicate n x) (List.replicate n ch).flatten
  | 0 => by simp [RepAll]
  | n + 1 => by
      simp only [List.replicate_succ, RepAll, List.flatten_cons]
      exact ⟨ch, _, rfl, hl, h, RepAll.replicate h hl n⟩
end

/-! ### A part of a value that lies at a cell -/
mutual
def LV.at : LV → Nat → Nat → Bool → Option LV
  | .agg l, o, n, ag => if o = 0 ∧ csizes l = n ∧ ag = true then some (.agg l) else atFs l o n ag
  | .any, _, _, _ => none
  | x, o, n, ag => if o = 0 ∧ n = 1 ∧ ag = false then some x else none
def atFs : List LV → Nat → Nat → Bool → Option LV
  | [], _, _, _ => none
  | x :: xs, o, n, ag => if o < x.csize then x.at o n ag else atFs xs (o - x.csize) n ag
end
mutual
/-- y laid over the part of a value that begins at cell o -/
def LV.put : LV → Nat → LV → Option LV
  | .agg l, o, y => if o = 0 ∧ csizes l = y.csize ∧ y.isAgg = true then some y else (putFs l o y).map .agg
  | _, o, y => if o = 0 ∧ y.csize = 1 ∧ y.isAgg = false then some y else none
def putFs : List LV → Nat → LV → Option (List LV)
  | [], _, _ => none
  | x :: xs, o, y => if o < x.csize then (x.put o y).map (· :: xs) else (putFs xs (o - x.csize) y).map (x :: ·)
end
section
variable {Z : Nat → Prop} {μ : Nat → Option Nat} {w : World}
mutual
theorem LV.at_spec : ∀ (x : LV) (o n : Nat) (ag : Bool) (y : LV) (cs : List Value), x.at o n ag = some y → Rep Z μ w x cs → cs.length = x.csize →
    ∃ pre ch post, cs = pre ++ (ch ++ post) ∧ pre.length = o ∧ ch.length = n ∧ Rep Z μ w y ch ∧ y.isAgg = ag ∧ y.csize = n ∧ y ≠ .any ∧ ∀ l, y ≠ .tup l
  | .agg l, o, n, ag, y, cs, h, hr, hl => by
      simp only [LV.at] at h
      split at h
      · rename_i hc
        obtain ⟨rfl, h2, rfl⟩ := hc
        simp only [Option.some.injEq] at h; subst h
        exact ⟨[], cs, [], by simp, rfl, by simpa [LV.csize, h2] using hl, hr, rfl, by simp [LV.csize, h2], by simp, by simp⟩
      · exact atFs_spec l o n ag y cs h (by simpa [Rep] using hr)
  | .any, _, _, _, _, _, h, _, _ => by simp [LV.at] at h
  | .v x, o, n, ag, y, cs, h, hr, hl => by
      simp only [LV.at] at h; split at h
      · rename_i hc; obtain ⟨rfl, rfl, rfl⟩ := hc; simp only [Option.some.injEq] at h; subst h
        exact ⟨[], cs, [], by simp, rfl, by simpa [LV.csize] using hl, hr, rfl, rfl, by simp, by simp⟩
      · simp at h
  | .list sz l, o, n, ag, y, cs, h, hr, hl => by
      simp only [LV.at] at h; split at h
      · rename_i hc; obtain ⟨rfl, rfl, rfl⟩ := hc; simp only [Option.some.injEq] at h; subst h
        exact ⟨[], cs, [], by simp, rfl, by simpa [LV.csize] using hl, hr, rfl, rfl, by simp, by simp⟩
      · simp at h
  | .ref b sz off len, o, n, ag, y, cs, h, hr, hl => by
      simp only [LV.at] at h; split at h
      · rename_i hc; obtain ⟨rfl, rfl, rfl⟩ := hc; simp only [Option.some.injEq] at h; subst h
        exact ⟨[], cs, [], by simp, rfl, by simpa [LV.csize] using hl, hr, rfl, rfl, by simp, by simp⟩
      · simp at h
  | .eptr b sz i o', o, n, ag, y, cs, h, hr, hl => by
      simp only [LV.at] at h; split at h
      · rename_i hc; obtain ⟨rfl, rfl, rfl⟩ := hc; simp only [Option.some.injEq] at h; subst h
        exact ⟨[], cs, [], by simp, rfl, by simpa [LV.csize] using hl, hr, rfl, rfl, by simp, by simp⟩
      · simp at h
  | .boxp c, o, n, ag, y, cs, h, hr, hl => by
      simp only [LV.at] at h; split at h
      · rename_i hc; obtain ⟨rfl, rfl, rfl⟩ := hc; simp only [Option.some.injEq] at h; subst h
        exact ⟨[], cs, [], by simp, rfl, by simpa [LV.csize] using hl, hr, rfl, rfl, by simp, by simp⟩
      · simp at h
  | .clo f cap, o, n, ag, y, cs, h, hr, hl => by
      simp only [LV.at] at h; split at h
      · rename_i hc; obtain ⟨rfl, rfl, rfl⟩ := hc; simp only [Option.some.injEq] at h; subst h
        exact ⟨[], cs, [], by simp, rfl, by simpa [LV.csize] using hl, hr, rfl, rfl, by simp, by simp⟩
      · simp at h
  | .tup _, _, _, _, _, _, _, hr, _ => by simp [Rep] at hr
theorem atFs_spec : ∀ (l : List LV) (o n : Nat) (ag : Bool) (y : LV) (cs : List Value), atFs l o n ag = some y → RepFs Z μ w l cs →
    ∃ pre ch post, cs = pre ++ (ch ++ post) ∧ pre.length = o ∧ ch.length = n ∧ Rep Z μ w y ch ∧ y.isAgg = ag ∧ y.csize = n ∧ y ≠ .any ∧ ∀ l, y ≠ .tup l
  | [], _, _, _, _, _, h, _ => by simp [atFs] at h
  | x :: xs, o, n, ag, y, cs, h, hr => by
      simp only [RepFs] at hr
      obtain ⟨c1, c2, rfl, h2, h3, h4⟩ := hr
      simp only [atFs] at h
      split at h
      · obtain ⟨pre, ch, post, rfl, e2, e3, e4⟩ := LV.at_spec x o n ag y c1 h h3 h2
        exact ⟨pre, ch, post ++ c2, by simp, e2, e3, e4⟩
      · obtain ⟨pre, ch, post, rfl, e2, e3, e4⟩ := atFs_spec xs (o - x.csize) n ag y c2 h h4
        exact ⟨c1 ++ pre, ch, post, by simp, by simp; omega, e3, e4⟩
end
mutual
theorem LV.put_spec (y : LV) (dh : List Value) (hy : Rep Z μ w y dh) (hd : dh.length = y.csize) : ∀ (x : LV) (o : Nat) (x' : LV) (cs : List Value), x.put o y = some x' →
    Rep Z μ w x cs → cs.length = x.csize → ∃ pre ch post, cs = pre ++ (ch ++ post) ∧ pre.length = o ∧ ch.length = dh.length ∧ Rep Z μ w x' (pre ++ (dh ++ post)) ∧ x'.csize = x.csize
  | .agg l, o, x', cs, h, hr, hl => by
      simp only [LV.put] at h
      split at h
      · rename_i hc
        obtain ⟨rfl, h2, _⟩ := hc
        simp only [Option.some.injEq] at h; subst h
        exact ⟨[], cs, [], by simp, rfl, by rw [hl, hd]; simp [LV.csize, h2], by simpa using hy, by simp [LV.csize, h2]⟩
      · simp only [Option.map_eq_some_iff] at h
        obtain ⟨l', h1, rfl⟩ := h
        obtain ⟨pre, ch, post, e1, e2, e3, e4, e5⟩ := putFs_spec y dh hy hd l o l' cs h1 (by simpa [Rep] using hr)
        exact ⟨pre, ch, post, e1, e2, e3, by simpa [Rep] using e4, by simpa [LV.csize] using e5⟩
  | .any, o, x', cs, h, hr, hl => by
      simp only [LV.put] at h; split at h
      · rename_i hc; obtain ⟨rfl, h2, _⟩ := hc; simp only [Option.some.injEq] at h; subst h
        exact ⟨[], cs, [], by simp, rfl, by rw [hl, hd, h2]; rfl, by simpa using hy, by rw [h2]; rfl⟩
      · simp at h
  | .v x, o, x', cs, h, hr, hl => by
      simp only [LV.put] at h; split at h
      · rename_i hc; obtain ⟨rfl, h2, _⟩ := hc; simp only [Option.some.injEq] at h; subst h
        exact ⟨[], cs, [], by simp, rfl, by rw [hl, hd, h2]; rfl, by simpa using hy, by rw [h2]; rfl⟩
      · simp at h
  | .list sz l, o, x', cs, h, hr, hl => by
      simp only [LV.put] at h; split at h
      · rename_i hc; obtain ⟨rfl, h2, _⟩ := hc; simp only [Option.some.injEq] at h; subst h
        exact ⟨[], cs, [], by simp, rfl, by rw [hl, hd, h2]; rfl, by simpa using hy, by rw [h2]; rfl⟩
      · simp at h
  | .ref b sz off len, o, x', cs, h, hr, hl => by
      simp only [LV.put] at h; split at h
      · rename_i hc; obtain ⟨rfl, h2, _⟩ := hc; simp only [Option.some.injEq] at h; subst h
        exact ⟨[], cs, [], by simp, rfl, by rw [hl, hd, h2]; rfl, by simpa using hy, by rw [h2]; rfl⟩
      · simp at h
  | .eptr b sz i o', o, x', cs, h, hr, hl => by
      simp only [LV.put] at h; split at h
      · rename_i hc; obtain ⟨rfl, h2, _⟩ := hc; simp only [Option.some.injEq] at h; subst h
        exact ⟨[], cs, [], by simp, rfl, by rw [hl, hd, h2]; rfl, by simpa using hy, by rw [h2]; rfl⟩
      · simp at h
  | .boxp c, o, x', cs, h, hr, hl => by
      simp only [LV.put] at h; split at h
      · rename_i hc; obtain ⟨rfl, h2, _⟩ := hc; simp only [Option.some.injEq] at h; subst h
        exact ⟨[], cs, [], by simp, rfl, by rw [hl, hd, h2]; rfl, by simpa using hy, by rw [h2]; rfl⟩
      · simp at h
  | .clo f cap, o, x', cs, h, hr, hl => by
      simp only [LV.put] at h; split at h
      · rename_i hc; obtain ⟨rfl, h2, _⟩ := hc; simp only [Option.some.injEq] at h; subst h
        exact ⟨[], cs, [], by simp, rfl, by rw [hl, hd, h2]; rfl, by simpa using hy, by rw [h2]; rfl⟩
      · simp at h
  | .tup _, _, _, _, _, hr, _ => by simp [Rep] at hr
theorem putFs_spec (y : LV) (dh : List Value) (hy : Rep Z μ w y dh) (hd : dh.length = y.csize) : ∀ (l : List LV) (o : Nat) (l' : List LV) (cs : List Value), putFs l o y = some l' →
    RepFs Z μ w l cs → ∃ pre ch post, cs = pre ++ (ch ++ post) ∧ pre.length = o ∧ ch.length = dh.length ∧ RepFs Z μ w l' (pre ++ (dh ++ post)) ∧ csizes l' = csizes l
  | [], _, _, _, h, _ => by simp [putFs] at h
  | x :: xs, o, l', cs, h, hr => by
      simp only [RepFs] at hr
      obtain ⟨c1, c2, rfl, h2, h3, h4⟩ := hr
      simp only [putFs] at h
      split at h
      · simp only [Option.map_eq_some_iff] at h
        obtain ⟨x', h1, rfl⟩ := h
        obtain ⟨pre, ch, post, rfl, e2, e3, e4, e5⟩ := LV.put_spec y dh hy hd x o x' c1 h1 h3 h2
        refine ⟨pre, ch, post ++ c2, by simp, e2, e3, ?_, by simp [csizes, e5]⟩
        simp only [RepFs]
        exact ⟨pre ++ (dh ++ post), c2, by simp, by simp at h2 ⊢; omega, e4, h4⟩
      · simp only [Option.map_eq_some_iff] at h
        obtain ⟨xs', h1, rfl⟩ := h
        obtain ⟨pre, ch, post, rfl, e2, e3, e4, e5⟩ := putFs_spec y dh hy hd xs (o - x.csize) xs' c2 h1 h4
        refine ⟨c1 ++ pre, ch, post, by simp, by simp; omega, e3, ?_, by simp [csizes, e5]⟩
        simp only [RepFs]
        exact ⟨c1, pre ++ (dh ++ post), by simp, h2, h3, e4⟩
end
theorem LV.csize_one {x : LV} (h : x.isAgg = false) : x.csize = 1 := by cases x <;> simp_all [LV.isAgg, LV.csize]
mutual
theorem Rep.one : ∀ (lv : LV) (cs : List Value), Rep Z μ w lv cs → ∀ u ∈ cs, u.oneCell' = true
  | .any, _, h => by simpa [Rep] using h
  | .v x, cs, h => by simp only [Rep] at h; obtain ⟨rfl, h⟩ := h; simpa using h
  | .list sz l, cs, h => by simp only [Rep] at h; obtain ⟨a, len, cap, rfl, _⟩ := h; simp [Value.oneCell']
  | .agg l, cs, h => by simp only [Rep] at h; exact RepFs.one l cs h
  | .ref b sz off len, cs, h => by simp only [Rep] at h; rcases h with ⟨rfl, _⟩ | ⟨id, cap, c, T, fz, rfl, _⟩ <;> simp [Value.oneCell']
  | .eptr b sz i o, cs, h => by simp only [Rep] at h; obtain ⟨id, rfl, _⟩ := h; simp [Value.oneCell']
  | .boxp c, cs, h => by simp only [Rep] at h; obtain ⟨blk, off, cc, T, fz, part, rest, rfl, _⟩ := h; simp [Value.oneCell']
  | .clo f cap, cs, h => by simp only [Rep] at h; obtain ⟨vs, rfl, _⟩ := h; simp [Value.oneCell']
  | .tup _, _, h => by simp [Rep] at h
theorem RepFs.one : ∀ (l : List LV) (cs : List Value), RepFs Z μ w l cs → ∀ u ∈ cs, u.oneCell' = true
  | [], cs, h => by simp only [RepFs] at h; simp [h]
  | x :: xs, cs, h => by
      simp only [RepFs] at h
      obtain ⟨c1, c2, rfl, h2, h3, h4⟩ := h
      intro u hu
      rcases List.mem_append.1 hu with hu | hu
      · exact Rep.one x c1 h3 u hu
      · exact RepFs.one xs c2 h4 u hu
end
theorem Rep.len {lv : LV} {cs : List Value} (h : Rep Z μ w lv cs) (hne : lv ≠ .any) : cs.length = lv.csize := by
  cases lv with
  | any => exact absurd rfl hne
  | agg l => simp only [Rep] at h; exact RepFs.length l cs h
  | v x => simp only [Rep] at h; simp [h.1, LV.csize]
  | list sz l => simp only [Rep] at h; obtain ⟨a, len, cap, rfl, _⟩ := h; rfl
  | ref b sz off len => simp only [Rep] at h; rcases h with ⟨rfl, _⟩ | ⟨id, cap, c, T, fz, rfl, _⟩ <;> rfl
  | eptr b sz i o => simp only [Rep] at h; obtain ⟨id, rfl, _⟩ := h; rfl
  | boxp c => simp only [Rep] at h; obtain ⟨blk, off, cc, T, fz, part, rest, rfl, _⟩ := h; rfl
  | clo f cap => simp only [Rep] at h; obtain ⟨vs, rfl, _⟩ := h; rfl
  | tup l => simp [Rep] at h
/-- the cells of a slot's value -/
theorem RepV1.cells {lv : LV} {v : Value} (h : RepV1 Z μ w lv v) (hne : lv ≠ .any) : Rep Z μ w lv v.cells.toList ∧ v.cells.size = lv.csize ∧
    (∀ u ∈ v.cells.toList, u.oneCell' = true) ∧ ((lv.isAgg = true ∧ v = .agg v.cells) ∨ (lv.isAgg = false ∧ v.cells = #[v] ∧ v.oneCell' = true)) := by
  cases ha : lv.isAgg with
  | true =>
    obtain ⟨cs, rfl, h2⟩ := h.1 ha
    refine ⟨h2, ?_, Rep.one _ _ h2, .inl ⟨rfl, rfl⟩⟩
    have := Rep.len h2 hne
    simpa [Value.cells] using this
  | false =>
    have h2 := h.2 ha
    have h3 := Rep.one _ _ h2 v (by simp)
    have hc : v.cells = #[v] := by cases v <;> simp_all [Value.cells, Value.oneCell']
    rw [hc]
    exact ⟨h2, by simp [LV.csize_one ha], by simpa using h3, .inr ⟨rfl, rfl, h3⟩⟩
theorem RepV1.mk_cells {lv : LV} {cs : List Value} (h : Rep Z μ w lv cs) (hne : lv ≠ .any) : RepV1 Z μ w lv (if lv.isAgg then .agg cs.toArray else cs.headD default) := by
  refine ⟨fun e => ⟨cs.toArray, by simp [e], h⟩, fun e => ?_⟩
  have hl := Rep.len h hne
  rw [LV.csize_one e] at hl
  match cs, hl with
  | [x], _ => simpa [e] using h
end
end Go.Lg
