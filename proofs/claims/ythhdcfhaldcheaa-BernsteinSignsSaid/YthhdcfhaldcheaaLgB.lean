/- Local blocks of a call, the relation between them and memory, and the operations that leave memory alone. -/
import Derived.Test.YthhdcfhaldcheaaLgA
import Derived.Deep.MidRow
import Derived.Deep.AppendSrc
import Derived.Laws.MakeOwn
import Derived.WalkKit
set_option linter.unusedVariables false
set_option linter.unusedSimpArgs false
namespace Go.Lg

structure Blk where
  sz : Nat
  vals : List LV
  mt : Bool

abbrev Heap := Nat → Option Blk

/-- memory below W's size is as it was, but for the blocks X -/
structure Kept (X : Nat → Prop) (W w : World) : Prop where
  os : w.os = W.os
  tape : w.tape = W.tape
  output : w.output = W.output
  size : W.heap.size ≤ w.heap.size
  block : ∀ k, k < W.heap.size → ¬ X k → w.heap[k]? = W.heap[k]?
  xsz : ∀ k, X k → ∀ c T fz, W.heap[k]? = some (.cells c T fz) → ∃ c', w.heap[k]? = some (.cells c' T fz) ∧ c'.size = c.size

theorem Kept.refl (X : Nat → Prop) (W : World) : Kept X W W := ⟨rfl, rfl, rfl, Nat.le_refl _, fun _ _ _ => rfl, fun _ _ c _ _ h => ⟨c, h, rfl⟩⟩
theorem Kept.below {W w : World} (h : Kept (fun _ => False) W w) : RowKit.Below W.heap.size W w :=
  ⟨h.os, h.tape, h.output, h.size, fun k hk => h.block k hk id⟩

def BlkRep (Z : Nat → Prop) (μ : Nat → Option Nat) (w : World) (blk : Blk) (id : Nat) : Prop :=
  ∃ c T part rest, w.heap[id]? = some (.cells c T (0, 0)) ∧ c.toList = part ++ rest ∧ RepAll Z μ w blk.sz blk.vals part

structure Core (W : World) (X Z0 : Nat → Prop) (μ : Nat → Option Nat) (Z : Nat → Prop) (H : Heap) (w : World) : Prop where
  keep : Kept X W w
  zone : ∀ id, Z id → id < w.heap.size
  zsup : ∀ id, Z0 id → Z id
  zsub : ∀ id, Z id → Z0 id ∨ W.heap.size ≤ id
  inj : ∀ b b' id, μ b = some id → μ b' = some id → b = b'
  own : ∀ b id, μ b = some id → W.heap.size ≤ id ∨ X id
  x0 : ∀ b id, μ b = some id → X id → b = 0
  xlt : ∀ id, X id → id < W.heap.size
  x1 : ∀ id, X id → μ 0 = some id
  mutz : ∀ b id blk, μ b = some id → H b = some blk → blk.mt = true → ¬ Z id
  frz : ∀ b id blk, μ b = some id → H b = some blk → blk.mt = false → Z id
  heap : ∀ b id, μ b = some id → ∃ blk, H b = some blk ∧ BlkRep Z μ w blk id

def Oper' (dst : Option Tmp) (op : Op) (ty : TypeId) (pos : String) (after : Array Edge) (g : Option (Nat × Bool)) : Oper := ⟨dst, op, ty, pos, after, g⟩

def TyIs (P : Program) (T : TypeId) (n : Nat) (ag : Bool) : Prop :=
  (P.info? T).map (·.size) = some n ∧ ∃ d, P.underlying T = some d ∧ d.isRow = ag

/-- The fields of a struct's type: sizes in cells, and whether a field is itself a row. -/
def LayOK (P : Program) : Nat → List Field → List (Nat × Bool) → Prop
  | _, [], [] => True
  | off, f :: fs, (n, ag) :: r => f.offset = off ∧ TyIs P f.type n ag ∧ LayOK P (off + n) fs r
  | _, _, _ => False
def StructLay (P : Program) (T : TypeId) (lay : List (Nat × Bool)) : Prop :=
  ∃ fields, P.underlying T = some (.struct fields) ∧ LayOK P 0 fields.toList lay ∧ ∀ n ∈ lay, 0 < n.1
def lay (x : LV) : Nat × Bool := (x.csize, x.isAgg)

section
variable {P : Program} {Z : Nat → Prop} {μ : Nat → Option Nat} {w : World}

theorem range_of {blk off : Nat} {c : Array Value} {T : TypeId} {fz : Nat × Nat} {part rest : List Value}
    (h : w.heap[blk]? = some (.cells c T fz)) (hd : c.toList.drop off = part ++ rest) : w.rangeAt blk off part := by
  intro j v hj
  rw [cell_of_row w blk (off + j) c T fz h]
  have h1 : (c.toList.drop off)[j]? = some v := by
    rw [hd, List.getElem?_append_left (List.getElem?_eq_some_iff.1 hj).1]; exact hj
  rw [List.getElem?_drop] at h1
  simpa using h1

theorem load_sound {T : TypeId} {y : LV} {blk off : Nat} {c : Array Value} {U : TypeId} {fz : Nat × Nat} {part rest : List Value}
    (ht : TyIs P T y.csize y.isAgg) (h : w.heap[blk]? = some (.cells c U fz)) (hd : c.toList.drop off = part ++ rest)
    (hy : Rep Z μ w y part) (hne : y ≠ .any) :
    ∃ v, (Instr.loadAt T (.pointer (some ⟨blk, off, none⟩))).run P w = .ok v w ∧ RepV1 Z μ w y v := by
  have hr := range_of h hd
  have hl := Rep.len hy hne
  obtain ⟨hi, d, hu, hdr⟩ := ht
  refine ⟨_, ?_, RepV1.mk_cells hy hne⟩
  cases ha : y.isAgg with
  | true =>
    have := run_loadAt_mid (P := P) w blk off T part d hr hu (by rw [hdr, ha]) (by rw [hi, hl])
    simpa using this
  | false =>
    rw [LV.csize_one ha] at hl
    match part, hl, hr with
    | [x], _, hr =>
      have hx := hr 0 x rfl
      have hag : (isAgg T).run P w = .ok false w := by
        unfold isAgg
        rw [Sem.run_bind, run_underlying hu w]
        rw [ha] at hdr
        cases d <;> simp_all [TypeDesc.isRow]
      simp [Instr.loadAt, Instr.sureAddr, loadVar, Sem.run_bind, hag, Nat.add_zero] at hx ⊢
      simp [hx]

theorem LayOK_get : ∀ (fs : List Field) (ls : List LV) (off k : Nat) (f : Field) (x : LV), LayOK P off fs (ls.map lay) → fs[k]? = some f → ls[k]? = some x →
    f.offset = off + csizes (ls.take k) ∧ TyIs P f.type x.csize x.isAgg
  | [], _, _, _, _, _, _, h, _ => by simp at h
  | _ :: _, [], _, _, _, _, _, _, h => by simp at h
  | f :: fs, y :: ys, off, 0, g, x, h, h1, h2 => by
      simp only [List.map_cons, lay, LayOK] at h
      simp only [List.getElem?_cons_zero, Option.some.injEq] at h1 h2
      subst h1 h2
      exact ⟨by simp [csizes, h.1], h.2.1⟩
  | f :: fs, y :: ys, off, k + 1, g, x, h, h1, h2 => by
      simp only [List.map_cons, lay, LayOK] at h
      have := LayOK_get fs ys (off + y.csize) k g x h.2.2 (by simpa using h1) (by simpa using h2)
      refine ⟨?_, this.2⟩
      rw [this.1]; simp [csizes]; omega
theorem LayOK_length : ∀ (fs : List Field) (ls : List (Nat × Bool)) (off : Nat), LayOK P off fs ls → fs.length = ls.length
  | [], [], _, _ => rfl
  | [], _ :: _, _, h => by simp [LayOK] at h
  | _ :: _, [], _, h => by simp [LayOK] at h
  | f :: fs, (n, ag) :: r, off, h => by
      simp only [LayOK] at h
      simp [LayOK_length fs r _ h.2.2]

theorem run_isAgg {T : TypeId} {n : Nat} {ag : Bool} (ht : TyIs P T n ag) : (isAgg T).run P w = .ok ag w := by
  obtain ⟨hi, d, hd, rfl⟩ := ht
  unfold isAgg
  rw [Sem.run_bind, run_underlying hd w]
  cases d <;> simp [TypeDesc.isRow]
theorem run_sizeOf {T : TypeId} {n : Nat} {ag : Bool} (ht : TyIs P T n ag) : (sizeOf T).run P w = .ok n w := by
  obtain ⟨hi, _⟩ := ht
  cases hq : P.info? T with
  | none => simp [hq] at hi
  | some i =>
    simp only [hq, Option.map_some, Option.some.injEq] at hi
    subst hi
    simp [sizeOf, typeInfo, hq]
theorem part_sound {T : TypeId} {x : LV} (ht : TyIs P T x.csize x.isAgg) {cs : Array Value} {pre ch post : List Value} (e1 : cs.toList = pre ++ (ch ++ post))
    (h : Rep Z μ w x ch) (hne : x ≠ .any) : ∃ u, (part T cs pre.length).run P w = .ok u w ∧ RepV1 Z μ w x u := by
  have e3 := Rep.len h hne
  have hcs : cs = (pre ++ (ch ++ post)).toArray := by apply Array.ext'; simp [e1]
  refine ⟨_, ?_, RepV1.mk_cells h hne⟩
  unfold part
  rw [Sem.run_bind, run_isAgg ht]
  cases ha : x.isAgg with
  | true =>
    simp only [Result.andThen_ok, if_true, Sem.run_bind, run_sizeOf ht, Sem.run_pure]
    congr 2
    apply Array.ext'
    rw [hcs, ← e3]
    simp
  | false =>
    rw [LV.csize_one ha] at e3
    match ch, e3 with
    | [y], _ =>
      have : cs[pre.length]? = some y := by rw [hcs]; simp
      simp [this]
/-- A field taken out of a struct's value. -/
theorem field_sound {T : TypeId} {fs : List LV} {k : Nat} {x : LV} {v : Value} (ht : StructLay P T (fs.map lay)) (hx : fs[k]? = some x) (hne : x ≠ .any)
    (h : RepV1 Z μ w (.agg fs) v) : ∃ u, (Instr.field T v k).run P w = .ok u w ∧ RepV1 Z μ w x u := by
  obtain ⟨fields, hu, hl, _⟩ := ht
  obtain ⟨cs, rfl, hc⟩ := h.1 rfl
  simp only [Rep] at hc
  obtain ⟨pre, ch, post, e1, e2, e3, e4, _⟩ := RepFs.get fs cs.toList k x hc hx
  have hk : k < fields.toList.length := by
    rw [LayOK_length _ _ _ hl, List.length_map]; exact (List.getElem?_eq_some_iff.1 hx).1
  obtain ⟨f, hfk⟩ : ∃ f, fields.toList[k]? = some f := ⟨_, List.getElem?_eq_getElem hk⟩
  obtain ⟨g1, hty⟩ := LayOK_get fields.toList fs 0 k f x hl hfk hx
  have hfk' : fields[k]? = some f := by rw [← Array.getElem?_toList]; exact hfk
  obtain ⟨u, hu2, hu3⟩ := part_sound (T := f.type) hty e1 e4 hne
  refine ⟨u, ?_, hu3⟩
  have : f.offset = pre.length := by omega
  simp only [Instr.field, Sem.run_bind, run_underlying hu, Result.andThen_ok, hfk', asAgg, Sem.run_pure, this, hu2]

def sumL : List (Nat × Bool) → Nat
  | [] => 0
  | x :: xs => x.1 + sumL xs
theorem sumL_lay : ∀ (fs : List LV) (k : Nat), sumL ((fs.map lay).take k) = csizes (fs.take k)
  | [], k => by simp [sumL, csizes]
  | x :: xs, 0 => by simp [sumL, csizes]
  | x :: xs, k + 1 => by simp [sumL, csizes, lay, ← sumL_lay xs k]
theorem LayOK_getL : ∀ (fs : List Field) (ls : List (Nat × Bool)) (off k : Nat) (f : Field) (x : Nat × Bool), LayOK P off fs ls → fs[k]? = some f → ls[k]? = some x →
    f.offset = off + sumL (ls.take k) ∧ TyIs P f.type x.1 x.2
  | [], _, _, _, _, _, _, h, _ => by simp at h
  | _ :: _, [], _, _, _, _, _, _, h => by simp at h
  | f :: fs, (n, ag) :: ys, off, 0, g, x, h, h1, h2 => by
      simp only [LayOK] at h
      simp only [List.getElem?_cons_zero, Option.some.injEq] at h1 h2
      subst h1 h2
      exact ⟨by simp [sumL, h.1], h.2.1⟩
  | f :: fs, (n, ag) :: ys, off, k + 1, g, x, h, h1, h2 => by
      simp only [LayOK] at h
      have := LayOK_getL fs ys (off + n) k g x h.2.2 (by simpa using h1) (by simpa using h2)
      refine ⟨?_, this.2⟩
      rw [this.1]; simp [sumL]; omega
/-- A field's address. -/
theorem run_fieldAt {T : TypeId} {ls : List (Nat × Bool)} {k : Nat} (ht : StructLay P T ls) (hk' : k < ls.length) (b o : Nat) :
    (Instr.fieldAt T (.pointer (some ⟨b, o, none⟩)) k).run P w = .ok (.pointer (some ⟨b, o + sumL (ls.take k), none⟩)) w := by
  obtain ⟨fields, hu, hl, hpos⟩ := ht
  have hk : k < fields.toList.length := by rw [LayOK_length _ _ _ hl]; exact hk'
  obtain ⟨f, hfk⟩ : ∃ f, fields.toList[k]? = some f := ⟨_, List.getElem?_eq_getElem hk⟩
  have hx : ls[k]? = some ls[k] := List.getElem?_eq_getElem hk'
  obtain ⟨g1, hty⟩ := LayOK_getL fields.toList ls 0 k f _ hl hfk hx
  have hfk' : fields[k]? = some f := by rw [← Array.getElem?_toList]; exact hfk
  have hp : 0 < ls[k].1 := hpos _ (List.mem_of_getElem? hx)
  have hne : ¬ ls[k].1 = 0 := by omega
  simp only [Instr.fieldAt, Sem.run_bind, run_underlying hu, Result.andThen_ok, hfk', Instr.sureAddr, Sem.run_pure, fieldPlace, run_sizeOf hty, Sem.run_ite, if_neg hne, g1, Nat.zero_add, Addr.add_mid]
end
end Go.Lg
