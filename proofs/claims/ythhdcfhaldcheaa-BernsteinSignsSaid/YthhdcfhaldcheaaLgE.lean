/- Blocks that a call makes; arguments handed to a callee; what a callee's contract says; the operations that make memory or call. -/
import Derived.Test.YthhdcfhaldcheaaLgD
set_option linter.unusedVariables false
set_option linter.unusedSimpArgs false
namespace Go.Lg

/-- heap H' tells the same blocks as H, some of them no longer to be written -/
def Heap.le (H H' : Heap) : Prop := ∀ b blk, H b = some blk → ∃ m, H' b = some ⟨blk.sz, blk.vals, m⟩ ∧ (blk.mt = false → m = false) ∧ (blk.mt = true → m = false → b ≠ 0)

def upd (μ : Nat → Option Nat) (d id : Nat) : Nat → Option Nat := fun b => if b = d then some id else μ b

section
variable {P : Program} {W w w' : World} {X Z0 Z : Nat → Prop} {μ : Nat → Option Nat} {H : Heap}

theorem BlkRep.mono {Z' : Nat → Prop} {μ' : Nat → Option Nat} {blk : Blk} {id : Nat} (hz : ∀ id, Z id → Z' id) (hm : ∀ b id, μ b = some id → μ' b = some id) (hf : Frame Z μ w w')
    (hid : w'.heap[id]? = w.heap[id]?) (h : BlkRep Z μ w blk id) : BlkRep Z' μ' w' blk id := by
  obtain ⟨c, T, part, rest, h1, h2, h3⟩ := h
  exact ⟨c, T, part, rest, hid.trans h1, h2, h3.mono hz hm hf⟩

theorem Core.lt (hc : Core W X Z0 μ Z H w) {b id : Nat} (h : μ b = some id) : id < w.heap.size := by
  obtain ⟨blk, _, c, T, part, rest, h1, _⟩ := hc.heap b id h
  exact (Array.getElem?_eq_some_iff.1 h1).1

theorem Core.widen {H' : Heap} (hc : Core W X Z0 μ Z H w) (hle : H.le H') : ∃ Z', Core W X Z0 μ Z' H' w ∧ (∀ id, Z id → Z' id) := by
  refine ⟨fun id => Z id ∨ ∃ b blk, μ b = some id ∧ H' b = some blk ∧ blk.mt = false, ⟨hc.keep, ?_, fun id h => .inl (hc.zsup id h), ?_, hc.inj, hc.own, hc.x0, hc.xlt, hc.x1, ?_, fun b id blk h1 h2 h3 => .inr ⟨b, blk, h1, h2, h3⟩, ?_⟩, fun id h => .inl h⟩
  · rintro id (h | ⟨b, blk, h, _⟩)
    · exact hc.zone id h
    · exact hc.lt h
  · rintro id (h | ⟨b, blk, h, h2, h3⟩)
    · exact hc.zsub id h
    · obtain ⟨blk0, g1, _⟩ := hc.heap b id h
      obtain ⟨m, g2, g3, g4⟩ := hle b blk0 g1
      rw [g2] at h2; cases h2
      simp only at h3; subst h3
      cases hm : blk0.mt with
      | false => exact hc.zsub id (hc.frz b id blk0 h g1 hm)
      | true =>
        rcases hc.own b id h with h | h'
        · exact .inr h
        · exact absurd (hc.x0 b id h h') (g4 hm rfl)
  · rintro b id blk h1 h2 h3 (h | ⟨b', blk', h4, h5, h6⟩)
    · obtain ⟨blk0, g1, _⟩ := hc.heap b id h1
      obtain ⟨m, g2, g3, _⟩ := hle b blk0 g1
      rw [g2] at h2; cases h2
      cases hm : blk0.mt with
      | false => have := g3 hm; subst this; simp at h3
      | true => exact hc.mutz b id blk0 h1 g1 hm h
    · have := hc.inj b b' id h1 h4
      subst this
      rw [h2] at h5; cases h5
      simp [h3] at h6
  · intro b id h
    obtain ⟨blk, g1, g2⟩ := hc.heap b id h
    obtain ⟨m, g3, _⟩ := hle b blk g1
    refine ⟨_, g3, ?_⟩
    obtain ⟨c, T, part, rest, h1, h2, h3⟩ := g2
    exact ⟨c, T, part, rest, h1, h2, h3.mono (fun id h => .inl h) (fun _ _ h => h) (Frame.refl _ _ _) |>.mono (fun _ h => h) (fun _ _ h => h) ⟨fun _ _ => rfl, (Frame.refl Z μ w).m⟩⟩

/-- w' is w with one block more at the end -/
structure Pushed (w w' : World) (o : Obj) : Prop where
  os : w'.os = w.os
  tape : w'.tape = w.tape
  output : w'.output = w.output
  heap : w'.heap = w.heap.push o

theorem Pushed.old {o : Obj} (h : Pushed w w' o) {k : Nat} (hk : k < w.heap.size) : w'.heap[k]? = w.heap[k]? := by
  rw [h.heap, Array.getElem?_push, if_neg (by omega)]
theorem Pushed.new {o : Obj} (h : Pushed w w' o) : w'.heap[w.heap.size]? = some o := by
  rw [h.heap]; simp
theorem Pushed.alloc (w : World) (o : Obj) : Pushed w (w.alloc o) o := ⟨rfl, rfl, rfl, rfl⟩

theorem Core.frame_old (hc : Core W X Z0 μ Z H w) (hold : ∀ k, k < w.heap.size → w'.heap[k]? = w.heap[k]?) : Frame Z μ w w' :=
  ⟨fun id h => hold id (hc.zone id h), fun _ id h c _ _ hh => ⟨c, (hold id (hc.lt h)).trans hh, rfl⟩⟩

theorem Core.push {d : Nat} {blk : Blk} {c : Array Value} {T : TypeId} {part rest : List Value} (hc : Core W X Z0 μ Z H w) (hd : H d = some blk) (hμ : μ d = none)
    (hp : Pushed w w' (.cells c T (0, 0))) (h1 : c.toList = part ++ rest) (h2 : RepAll Z μ w blk.sz blk.vals part) :
    ∃ Z', Core W X Z0 (upd μ d w.heap.size) Z' H w' ∧ (∀ id, Z id → Z' id) ∧ (∀ b id, μ b = some id → upd μ d w.heap.size b = some id) ∧ Frame Z μ w w' ∧
      upd μ d w.heap.size d = some w.heap.size ∧ w'.heap[w.heap.size]? = some (.cells c T (0, 0)) := by
  have hup : ∀ b id, μ b = some id → upd μ d w.heap.size b = some id := fun b id h => by
    unfold upd; split
    · subst_vars; rw [hμ] at h; cases h
    · exact h
  have hfr := hc.frame_old (fun k hk => hp.old hk)
  have hinv : ∀ b id, upd μ d w.heap.size b = some id → (b = d ∧ id = w.heap.size) ∨ (b ≠ d ∧ μ b = some id) := fun b id h => by
    unfold upd at h; split at h
    · cases h; exact .inl ⟨by assumption, rfl⟩
    · exact .inr ⟨by assumption, h⟩
  have hzz : ∀ id, Z id → (Z id ∨ (blk.mt = false ∧ id = w.heap.size)) := fun id h => .inl h
  refine ⟨fun id => Z id ∨ (blk.mt = false ∧ id = w.heap.size), ⟨?_, ?_, fun id h => .inl (hc.zsup id h), ?_, ?_, ?_, ?_, hc.xlt, fun id h => hup 0 id (hc.x1 id h), ?_, ?_, ?_⟩, hzz, hup, hfr, by simp [upd], hp.new⟩
  · exact ⟨hp.os.trans hc.keep.os, hp.tape.trans hc.keep.tape, hp.output.trans hc.keep.output, by rw [hp.heap, Array.size_push]; have := hc.keep.size; omega,
      fun k hk hx => (hp.old (by have := hc.keep.size; omega)).trans (hc.keep.block k hk hx),
      fun k hx c T fz h => let ⟨c', g1, g2⟩ := hc.keep.xsz k hx c T fz h; ⟨c', (hp.old (Array.getElem?_eq_some_iff.1 g1).1).trans g1, g2⟩⟩
  · rintro id (h | ⟨_, rfl⟩)
    · have := hc.zone id h; rw [hp.heap, Array.size_push]; omega
    · rw [hp.heap, Array.size_push]; omega
  · rintro id (h | ⟨_, rfl⟩)
    · exact hc.zsub id h
    · exact .inr hc.keep.size
  · intro b b' id h h'
    rcases hinv b id h with ⟨rfl, rfl⟩ | ⟨n1, h1⟩ <;> rcases hinv b' _ h' with ⟨rfl, e⟩ | ⟨n2, h2⟩
    · rfl
    · have := hc.lt h2; omega
    · have := hc.lt h1; omega
    · exact hc.inj b b' id h1 h2
  · intro b id h
    rcases hinv b id h with ⟨rfl, rfl⟩ | ⟨n1, h1⟩
    · exact .inl hc.keep.size
    · exact hc.own b id h1
  · intro b id h hx
    rcases hinv b id h with ⟨rfl, rfl⟩ | ⟨n1, h1⟩
    · have := hc.xlt _ hx; have := hc.keep.size; omega
    · exact hc.x0 b id h1 hx
  · rintro b id bk h hb hm (hz | ⟨hz1, rfl⟩)
    · rcases hinv b id h with ⟨rfl, rfl⟩ | ⟨n1, h1⟩
      · have := hc.zone _ hz; omega
      · exact hc.mutz b id bk h1 hb hm hz
    · rcases hinv b _ h with ⟨rfl, _⟩ | ⟨n1, h1⟩
      · rw [hd] at hb; cases hb; simp [hm] at hz1
      · have := hc.lt h1; omega
  · intro b id bk h hb hm
    rcases hinv b id h with ⟨rfl, rfl⟩ | ⟨n1, h1⟩
    · rw [hd] at hb; cases hb; exact .inr ⟨hm, rfl⟩
    · exact .inl (hc.frz b id bk h1 hb hm)
  · intro b id h
    rcases hinv b id h with ⟨rfl, rfl⟩ | ⟨n1, h3⟩
    · exact ⟨blk, hd, c, T, part, rest, hp.new, h1, h2.mono hzz hup hfr⟩
    · obtain ⟨bk, g1, g2⟩ := hc.heap b id h3
      exact ⟨bk, g1, g2.mono hzz hup hfr (hp.old (hc.lt h3))⟩
end

/-! ### Arguments handed over -/
mutual
inductive Imm (H : Heap) : LV → LV → Prop
  | pure {x} (h : x.pure = true) : Imm H x x
  | nil (sz) : Imm H (.v (.slice none 0 0)) (.list sz [])
  | ref {b sz off len blk} (hb : H b = some blk) (hs : blk.sz = sz) (hp : pures blk.vals = true) (hl : off + len ≤ blk.vals.length) (hf : blk.mt = false) :
      Imm H (.ref b sz off len) (.list sz ((blk.vals.drop off).take len))
  | eptr {b sz i o blk x y n ag} (hb : H b = some blk) (hs : blk.sz = sz) (hi : blk.vals[i]? = some x) (hx : x.csize = sz) (hy : x.at o n ag = some y) (hp : y.pure = true) (hf : blk.mt = false) :
      Imm H (.eptr b sz i o) (.boxp y)
  | agg {l l'} (h : ImmL H l l') : Imm H (.agg l) (.agg l')
inductive ImmL (H : Heap) : List LV → List LV → Prop
  | nil : ImmL H [] []
  | cons {x y xs ys} (h : Imm H x y) (t : ImmL H xs ys) : ImmL H (x :: xs) (y :: ys)
end

section
variable {W w : World} {X Z0 Z : Nat → Prop} {μ μ' : Nat → Option Nat} {H H' : Heap}
mutual
theorem Imm.lay : ∀ {x y : LV}, Imm H x y → y.isAgg = x.isAgg ∧ y.csize = x.csize ∧ y.pure = true
  | _, _, .pure h => ⟨rfl, rfl, h⟩
  | _, _, .nil _ => ⟨rfl, rfl, rfl⟩
  | _, _, .ref hb hs hp hl hf => ⟨rfl, rfl, by
      simp only [LV.pure]
      rw [pures_iff] at hp ⊢
      exact fun x hx => hp x (List.mem_of_mem_drop (List.mem_of_mem_take hx))⟩
  | _, _, .eptr hb hs hi hx hy hp hf => ⟨rfl, rfl, by simpa [LV.pure] using hp⟩
  | _, _, .agg h => by
      have := ImmL.lay h
      exact ⟨rfl, by simp [LV.csize, this.1], by simp [LV.pure, this.2]⟩
theorem ImmL.lay : ∀ {x y : List LV}, ImmL H x y → csizes y = csizes x ∧ pures y = true
  | _, _, .nil => ⟨rfl, rfl⟩
  | _, _, .cons h t => by
      have h1 := Imm.lay h
      have h2 := ImmL.lay t
      exact ⟨by simp [csizes, h1.2.1, h2.1], by simp [pures, h1.2.2, h2.2]⟩
end
mutual
theorem Imm.sound (hc : Core W X Z0 μ Z H w) : ∀ {x y : LV} {cs : List Value}, Imm H x y → Rep Z μ w x cs → Rep Z μ' w y cs
  | _, _, _, .pure h, hr => Rep.repure (fun _ h => h) (fun _ _ => rfl) _ _ h hr
  | _, _, _, .nil sz, hr => by
      simp only [Rep] at hr ⊢
      exact ⟨none, 0, 0, hr.1, rfl, Nat.le_refl _, .inl trivial, rfl⟩
  | _, _, _, @Imm.ref _ b sz off len blk hb hs hp hl hf, hr => by
      simp only [Rep] at hr ⊢
      rcases hr with ⟨hr, rfl⟩ | ⟨id, cap, c, T, fz, h1, h2, h3, h4, h5⟩
      · exact ⟨none, 0, 0, hr, by simp, Nat.le_refl _, .inl (by simp), by simp [pures]⟩
      obtain ⟨blk', g1, c', T', part, rest, g2, g3, g4⟩ := hc.heap b id h2
      rw [hb] at g1; cases g1
      rw [h4] at g2; cases g2
      refine ⟨_, _, _, h1, by simp; omega, h3, ?_, (pures_iff _).2 fun x hx => (pures_iff _).1 hp x (List.mem_of_mem_drop (List.mem_of_mem_take hx))⟩
      have hz := hc.frz b id blk h2 hb hf
      right
      obtain ⟨c1, c2, d1, d2, d3⟩ := RepAll.split (blk.vals.take off) (blk.vals.drop off) part (by rw [List.take_append_drop]; exact g4)
      obtain ⟨c3, c4, d4, d5, d6⟩ := RepAll.split ((blk.vals.drop off).take len) ((blk.vals.drop off).drop len) c2 (by rw [List.take_append_drop]; exact d3)
      have hl1 := RepAll.length _ _ d2
      rw [List.length_take, Nat.min_eq_left (by omega), hs] at hl1
      refine ⟨id, off * sz, c, T, (0, 0), c3, c4 ++ rest, rfl, hz, h4, ?_, ?_⟩
      · rw [g3, d1, d4, ← hl1]; simp
      · rw [hs] at d5
        refine RepAll.repure (fun _ h => h) (fun _ _ => rfl) _ _ _ ?_ d5
        rw [pures_iff] at hp ⊢
        exact fun x hx => hp x (List.mem_of_mem_drop (List.mem_of_mem_take hx))
  | _, _, _, @Imm.eptr _ b sz i o blk x y n ag hb hs hi hx hy hp hf, hr => by
      simp only [Rep] at hr ⊢
      obtain ⟨id, h1, h2⟩ := hr
      obtain ⟨blk', g1, c, T, part, rest, g2, g3, g4⟩ := hc.heap b id h2
      rw [hb] at g1; cases g1
      have hz := hc.frz b id blk h2 hb hf
      obtain ⟨ch, post, k1, k2, k3⟩ := idx_cells (off := 0) (by simpa using g3) g4 hi
      obtain ⟨pre, ch2, post2, j1, j2, j3, j4, j5, j6, j7, j8⟩ := LV.at_spec x o n ag y ch hy k3 (by rw [k2, hs, hx])
      refine ⟨id, _, c, T, (0, 0), ch2, post2 ++ post, h1, hz, g2, ?_, by rw [j3, j6], Rep.repure (fun _ h => h) (fun _ _ => rfl) _ _ hp j4, hp⟩
      rw [Nat.zero_add, hs] at k1
      rw [← List.drop_drop, k1, j1, ← j2]; simp
  | _, _, _, .agg h, hr => by
      simp only [Rep] at hr ⊢
      exact ImmL.sound hc h hr
theorem ImmL.sound (hc : Core W X Z0 μ Z H w) : ∀ {x y : List LV} {cs : List Value}, ImmL H x y → RepFs Z μ w x cs → RepFs Z μ' w y cs
  | _, _, _, .nil, hr => by simpa [RepFs] using hr
  | _, _, _, .cons h t, hr => by
      simp only [RepFs] at hr ⊢
      obtain ⟨c1, c2, rfl, h2, h3, h4⟩ := hr
      exact ⟨c1, c2, rfl, by rw [h2, (Imm.lay h).2.1], Imm.sound hc h h3, ImmL.sound hc t h4⟩
end
mutual
theorem Imm.le (hle : H.le H') : ∀ {x y : LV}, Imm H x y → Imm H' x y
  | _, _, .pure h => .pure h
  | _, _, .nil sz => .nil sz
  | _, _, .ref hb hs hp hl hf => by
      obtain ⟨m, g1, g2, _⟩ := hle _ _ hb
      exact Imm.ref (blk := ⟨_, _, m⟩) g1 hs hp hl (g2 hf)
  | _, _, .eptr hb hs hi hx hy hp hf => by
      obtain ⟨m, g1, g2, _⟩ := hle _ _ hb
      exact Imm.eptr (blk := ⟨_, _, m⟩) g1 hs hi hx hy hp (g2 hf)
  | _, _, .agg h => .agg (ImmL.le hle h)
theorem ImmL.le (hle : H.le H') : ∀ {x y : List LV}, ImmL H x y → ImmL H' x y
  | _, _, .nil => .nil
  | _, _, .cons h t => .cons (Imm.le hle h) (ImmL.le hle t)
end
theorem Imm.ne {x y : LV} (h : Imm H x y) : x ≠ .any ∧ ∀ l, x ≠ .tup l := by
  cases h with
  | pure h => exact ⟨LV.pure_ne_any h, LV.pure_ne_tup h⟩
  | _ => exact ⟨by simp, by simp⟩
theorem Imm.soundV (hc : Core W X Z0 μ Z H w) {x y : LV} {v : Value} (h : Imm H x y) (hr : RepV Z μ w x v) : RepV1 Z μ' w y v := by
  have h1 := RepV.to1 h.ne.2 h.ne.1 hr
  obtain ⟨e1, _, _⟩ := h.lay
  exact ⟨fun e => let ⟨cs, g1, g2⟩ := h1.1 (e1 ▸ e); ⟨cs, g1, Imm.sound hc h g2⟩, fun e => Imm.sound hc h (h1.2 (e1 ▸ e))⟩
end
end Go.Lg
