/- What a callee's contract says, and what a call does to the caller's blocks. -/
import Derived.Test.YthhdcfhaldcheaaLgE
set_option linter.unusedVariables false
set_option linter.unusedSimpArgs false
namespace Go.Lg

mutual
def LV.ren (f : Nat → Nat) : LV → LV
  | .any => .any
  | .v x => .v x
  | .list sz l => .list sz (rens f l)
  | .agg l => .agg (rens f l)
  | .ref b sz off len => .ref (f b) sz off len
  | .eptr b sz i o => .eptr (f b) sz i o
  | .boxp c => .boxp (c.ren f)
  | .clo g l => .clo g (rens f l)
  | .tup l => .tup (rens f l)
def rens (f : Nat → Nat) : List LV → List LV
  | [] => []
  | x :: xs => x.ren f :: rens f xs
end
mutual
theorem LV.ren_pure (f : Nat → Nat) : ∀ (x : LV), x.pure = true → x.ren f = x
  | .any, _ => rfl
  | .v _, _ => rfl
  | .list sz l, h => by simp only [LV.ren, rens_pure f l (by simpa [LV.pure] using h)]
  | .agg l, h => by simp only [LV.ren, rens_pure f l (by simpa [LV.pure] using h)]
  | .ref .., h => by simp [LV.pure] at h
  | .eptr .., h => by simp [LV.pure] at h
  | .boxp c, h => by simp only [LV.ren, LV.ren_pure f c (by simpa [LV.pure] using h)]
  | .clo g l, h => by simp only [LV.ren, rens_pure f l (by simpa [LV.pure] using h)]
  | .tup l, h => by simp [LV.pure] at h
theorem rens_pure (f : Nat → Nat) : ∀ (l : List LV), pures l = true → rens f l = l
  | [], _ => rfl
  | x :: xs, h => by simp only [rens, LV.ren_pure f x (pure_cons h).1, rens_pure f xs (pure_cons h).2]
end
mutual
theorem LV.ren_csize (f : Nat → Nat) : ∀ (x : LV), (x.ren f).csize = x.csize
  | .any => rfl | .v _ => rfl | .list .. => rfl | .ref .. => rfl | .eptr .. => rfl | .boxp _ => rfl | .clo .. => rfl | .tup _ => rfl
  | .agg l => by simp only [LV.ren, LV.csize, rens_csize f l]
theorem rens_csize (f : Nat → Nat) : ∀ (l : List LV), csizes (rens f l) = csizes l
  | [] => rfl
  | x :: xs => by simp only [rens, csizes, LV.ren_csize f x, rens_csize f xs]
end
theorem LV.ren_isAgg (f : Nat → Nat) (x : LV) : (x.ren f).isAgg = x.isAgg := by cases x <;> rfl

section
variable {Z : Nat → Prop} {μ μ' : Nat → Option Nat} {w : World}
mutual
theorem Rep.ren (f : Nat → Nat) (hm : ∀ b id, μ b = some id → μ' (f b) = some id) : ∀ (lv : LV) (cs : List Value), Rep Z μ w lv cs → Rep Z μ' w (lv.ren f) cs
  | .any, _, h => by simpa [Rep, LV.ren] using h
  | .v x, cs, h => by simpa [Rep, LV.ren] using h
  | .list sz l, cs, h => by
      simp only [Rep, LV.ren] at h ⊢
      obtain ⟨a, len, cap, h1, h2, h3, h4, h9⟩ := h
      have hl : (rens f l).length = l.length := by
        clear h2 h4 h9; induction l with
        | nil => rfl
        | cons x xs ih => simp [rens, ih]
      refine ⟨a, len, cap, h1, by rw [hl]; exact h2, h3, ?_, by rw [rens_pure f l h9]; exact h9⟩
      rcases h4 with h4 | ⟨blk, off, c, T, fz, part, rest, e1, e2, e3, e4, e5⟩
      · left; subst h4; rfl
      · exact .inr ⟨blk, off, c, T, fz, part, rest, e1, e2, e3, e4, RepAll.ren f hm sz l part e5⟩
  | .agg l, cs, h => by
      simp only [Rep, LV.ren] at h ⊢
      exact RepFs.ren f hm l cs h
  | .ref b sz off len, cs, h => by
      simp only [Rep, LV.ren] at h ⊢
      rcases h with h | ⟨id, cap, c, T, fz, h1, h2, h3⟩
      · exact .inl h
      exact .inr ⟨id, cap, c, T, fz, h1, hm _ _ h2, h3⟩
  | .eptr b sz i o, cs, h => by
      simp only [Rep, LV.ren] at h ⊢
      obtain ⟨id, h1, h2⟩ := h
      exact ⟨id, h1, hm _ _ h2⟩
  | .boxp c, cs, h => by
      simp only [Rep, LV.ren] at h ⊢
      obtain ⟨blk, off, cc, T, fz, part, rest, h1, h2, h3, h4, h5, h6, h7⟩ := h
      exact ⟨blk, off, cc, T, fz, part, rest, h1, h2, h3, h4, by rw [LV.ren_csize]; exact h5, Rep.ren f hm c part h6, by rw [LV.ren_pure f c h7]; exact h7⟩
  | .clo g cap, cs, h => by
      simp only [Rep, LV.ren] at h ⊢
      obtain ⟨vs, h1, h2, h3⟩ := h
      exact ⟨vs, h1, RepAll.ren f hm 1 cap vs.toList h2, by rw [rens_pure f cap h3]; exact h3⟩
  | .tup _, _, h => by simp [Rep] at h
theorem RepAll.ren (f : Nat → Nat) (hm : ∀ b id, μ b = some id → μ' (f b) = some id) (sz : Nat) : ∀ (l : List LV) (cs : List Value), RepAll Z μ w sz l cs → RepAll Z μ' w sz (rens f l) cs
  | [], cs, h => by simpa [RepAll, rens] using h
  | x :: xs, cs, h => by
      simp only [RepAll, rens] at h ⊢
      obtain ⟨c1, c2, h1, h2, h3, h4⟩ := h
      exact ⟨c1, c2, h1, h2, Rep.ren f hm x c1 h3, RepAll.ren f hm sz xs c2 h4⟩
theorem RepFs.ren (f : Nat → Nat) (hm : ∀ b id, μ b = some id → μ' (f b) = some id) : ∀ (l : List LV) (cs : List Value), RepFs Z μ w l cs → RepFs Z μ' w (rens f l) cs
  | [], cs, h => by simpa [RepFs, rens] using h
  | x :: xs, cs, h => by
      simp only [RepFs, rens] at h ⊢
      obtain ⟨c1, c2, h1, h2, h3, h4⟩ := h
      exact ⟨c1, c2, h1, by rw [LV.ren_csize]; exact h2, Rep.ren f hm x c1 h3, RepFs.ren f hm xs c2 h4⟩
end
theorem RepV1.ren (f : Nat → Nat) (hm : ∀ b id, μ b = some id → μ' (f b) = some id) {lv : LV} {v : Value} (h : RepV1 Z μ w lv v) : RepV1 Z μ' w (lv.ren f) v :=
  ⟨fun e => let ⟨cs, h1, h2⟩ := h.1 (by rwa [LV.ren_isAgg] at e); ⟨cs, h1, Rep.ren f hm _ _ h2⟩, fun e => Rep.ren f hm _ _ (h.2 (by rwa [LV.ren_isAgg] at e))⟩
theorem RepVL.ren (f : Nat → Nat) (hm : ∀ b id, μ b = some id → μ' (f b) = some id) : ∀ (l : List LV) (vs : List Value), RepVL Z μ w l vs → RepVL Z μ' w (rens f l) vs
  | [], _, h => h
  | _ :: xs, _, ⟨v, vs', h1, h2, h3⟩ => ⟨v, vs', h1, h2.ren f hm, RepVL.ren f hm xs vs' h3⟩
theorem RepV.ren (f : Nat → Nat) (hm : ∀ b id, μ b = some id → μ' (f b) = some id) {lv : LV} {v : Value} (h : RepV Z μ w lv v) : RepV Z μ' w (lv.ren f) v := by
  cases lv with
  | tup l => obtain ⟨vs, h1, h2⟩ := h; exact ⟨vs, h1, RepVL.ren f hm _ _ h2⟩
  | any => trivial
  | _ => exact RepV1.ren f hm h
end

/-- The blocks that a callee hands back: names 1, 2, .. -/
def outHeap (bs : List Blk) : Heap := fun n => if n = 0 then none else bs[n - 1]?

def Callable (P : Program) (f : FuncId) : Prop := ∃ fn, P.funcs[f]? = some fn ∧ fn.body.isNone = false ∧ (fn.name == "runtime.NumGoroutine") = false

/-- A callee's contract: called with values that stand for args it returns a value that stands for r; the blocks bs that r names are new and the caller's own. -/
def CallOK (P : Program) (f : FuncId) (args : List LV) (r : LV) (bs : List Blk) : Prop :=
  Callable P f ∧ ∀ (W : World) (Z0 : Nat → Prop) (vs : List Value), (∀ id, Z0 id → id < W.heap.size) → RepVL Z0 (fun _ => none) W args vs →
    Calls P f vs.toArray W fun e w' => ∃ v μ Z, e = .returned v ∧ Core W (fun _ => False) Z0 μ Z (outHeap bs) w' ∧ RepV Z μ w' r v

def callName (d k : Nat) : Nat := 1000000 + d * 16 + k
def callMap (μ μr : Nat → Option Nat) (d : Nat) : Nat → Option Nat := fun b =>
  if 1000000 + d * 16 ≤ b ∧ b < 1000000 + d * 16 + 16 then (μr (b - (1000000 + d * 16))).or (μ b) else μ b

section
variable {W w w' : World} {X Z0 Z Zr : Nat → Prop} {μ μr : Nat → Option Nat} {H : Heap} {bs : List Blk} {d : Nat}

theorem Core.call (hc : Core W X Z0 μ Z H w) (hr : Core w (fun _ => False) Z μr Zr (outHeap bs) w') (hlen : bs.length < 16) (hpu : ∀ blk ∈ bs, pures blk.vals = true)
    (hH : ∀ i blk, bs[i]? = some blk → ∃ m, H (callName d (i + 1)) = some ⟨blk.sz, blk.vals, m⟩ ∧ (blk.mt = false → m = false) ∧ μ (callName d (i + 1)) = none) :
    ∃ Z', Core W X Z0 (callMap μ μr d) Z' H w' ∧ (∀ id, Zr id → Z' id) ∧ (∀ id, Z id → Z' id) ∧ (∀ b id, μ b = some id → callMap μ μr d b = some id) ∧ Frame Z μ w w' ∧
      (∀ k id, μr k = some id → callMap μ μr d (callName d k) = some id) := by
  have hk : ∀ k id, μr k = some id → ∃ blk, 1 ≤ k ∧ k ≤ bs.length ∧ bs[k - 1]? = some blk ∧ outHeap bs k = some blk := fun k id h => by
    obtain ⟨blk, h1, _⟩ := hr.heap k id h
    have h0 : k ≠ 0 := by rintro rfl; simp [outHeap] at h1
    have h2 : bs[k - 1]? = some blk := by simpa [outHeap, h0] using h1
    have := (List.getElem?_eq_some_iff.1 h2).1
    exact ⟨blk, by omega, by omega, h2, h1⟩
  have hHk : ∀ k id, μr k = some id → ∃ blk m, bs[k - 1]? = some blk ∧ H (callName d k) = some ⟨blk.sz, blk.vals, m⟩ ∧ (blk.mt = false → m = false) ∧ μ (callName d k) = none ∧ outHeap bs k = some blk ∧ k < 16 := fun k id h => by
    obtain ⟨blk, h1, h2, h3, h4⟩ := hk k id h
    obtain ⟨m, g1, g2, g3⟩ := hH (k - 1) blk h3
    have : k - 1 + 1 = k := by omega
    rw [this] at g1 g3
    exact ⟨blk, m, h3, g1, g2, g3, h4, by omega⟩
  have hnew : ∀ k id, μr k = some id → callMap μ μr d (callName d k) = some id := fun k id h => by
    obtain ⟨blk, m, _, _, _, _, _, h6⟩ := hHk k id h
    unfold callMap callName
    rw [if_pos (by omega)]
    have : 1000000 + d * 16 + k - (1000000 + d * 16) = k := by omega
    rw [this, h]; rfl
  have hinv : ∀ b id, callMap μ μr d b = some id → (∃ k, b = callName d k ∧ μr k = some id) ∨ μ b = some id := fun b id h => by
    unfold callMap at h
    split at h
    · rename_i hb
      cases hq : μr (b - (1000000 + d * 16)) with
      | none => rw [hq] at h; exact .inr (by simpa using h)
      | some id' =>
        rw [hq] at h
        simp only [Option.some_or, Option.some.injEq] at h
        subst h
        exact .inl ⟨b - (1000000 + d * 16), by unfold callName; omega, hq⟩
    · exact .inr h
  have hold : ∀ b id, μ b = some id → callMap μ μr d b = some id := fun b id h => by
    unfold callMap
    split
    · rename_i hb
      cases hq : μr (b - (1000000 + d * 16)) with
      | none => simpa using h
      | some id' =>
        obtain ⟨blk, m, _, _, _, g, _⟩ := hHk _ _ hq
        have : callName d (b - (1000000 + d * 16)) = b := by unfold callName; omega
        rw [this, h] at g; cases g
    · exact h
  have hlo : ∀ k id, μr k = some id → w.heap.size ≤ id := fun k id h => (hr.own k id h).resolve_right (fun h => h)
  have hkeep : ∀ k, k < w.heap.size → w'.heap[k]? = w.heap[k]? := fun k hk => hr.keep.block k hk (fun h => h)
  have hfr := hc.frame_old hkeep
  refine ⟨fun id => Zr id ∨ ∃ k blk, μr k = some id ∧ H (callName d k) = some blk ∧ blk.mt = false, ⟨?_, ?_, fun id h => .inl (hr.zsup id (hc.zsup id h)), ?_, ?_, ?_, ?_, hc.xlt, fun id h => hold 0 id (hc.x1 id h), ?_, ?_, ?_⟩,
    fun id h => .inl h, fun id h => .inl (hr.zsup id h), hold, hfr, hnew⟩
  · exact ⟨hr.keep.os.trans hc.keep.os, hr.keep.tape.trans hc.keep.tape, hr.keep.output.trans hc.keep.output, Nat.le_trans hc.keep.size hr.keep.size,
      fun k hk hx => (hkeep k (by have := hc.keep.size; omega)).trans (hc.keep.block k hk hx),
      fun k hx c T fz h => let ⟨c', g1, g2⟩ := hc.keep.xsz k hx c T fz h; ⟨c', (hkeep k (Array.getElem?_eq_some_iff.1 g1).1).trans g1, g2⟩⟩
  · rintro id (h | ⟨k, blk, h, _⟩)
    · exact hr.zone id h
    · exact hr.lt h
  · rintro id (h | ⟨k, blk, h, _⟩)
    · rcases hr.zsub id h with h | h
      · exact hc.zsub id h
      · exact .inr (Nat.le_trans hc.keep.size h)
    · exact .inr (Nat.le_trans hc.keep.size (hlo k id h))
  · intro b b' id h h'
    rcases hinv b id h with ⟨k, rfl, h1⟩ | h1 <;> rcases hinv b' id h' with ⟨k', rfl, h2⟩ | h2
    · rw [hr.inj k k' id h1 h2]
    · have := hlo k id h1; have := hc.lt h2; omega
    · have := hlo k' id h2; have := hc.lt h1; omega
    · exact hc.inj b b' id h1 h2
  · intro b id h
    rcases hinv b id h with ⟨k, rfl, h1⟩ | h1
    · exact .inl (Nat.le_trans hc.keep.size (hlo k id h1))
    · exact hc.own b id h1
  · intro b id h hx
    rcases hinv b id h with ⟨k, rfl, h1⟩ | h1
    · have := hlo k id h1; have := hc.xlt id hx; have := hc.keep.size; omega
    · exact hc.x0 b id h1 hx
  · intro b id blk h hb hm hz
    rcases hinv b id h with ⟨k, rfl, h1⟩ | h1
    · obtain ⟨blk0, m, _, g2, g3, _, g5, _⟩ := hHk k id h1
      rw [g2] at hb; cases hb
      simp only at hm; subst hm
      have hm0 : blk0.mt = true := by
        cases e : blk0.mt with
        | true => rfl
        | false => exact absurd (g3 e) (by simp)
      rcases hz with hz | ⟨k', blk', j1, j2, j3⟩
      · exact hr.mutz k id blk0 h1 g5 hm0 hz
      · have := hr.inj k k' id h1 j1
        subst this
        rw [g2] at j2; cases j2; simp at j3
    · rcases hz with hz | ⟨k', blk', j1, j2, j3⟩
      · rcases hr.zsub id hz with h | h
        · exact hc.mutz b id blk h1 hb hm h
        · have := hc.lt h1; omega
      · have := hlo k' id j1; have := hc.lt h1; omega
  · intro b id blk h hb hm
    rcases hinv b id h with ⟨k, rfl, h1⟩ | h1
    · exact .inr ⟨k, blk, h1, hb, hm⟩
    · exact .inl (hr.zsup id (hc.frz b id blk h1 hb hm))
  · intro b id h
    rcases hinv b id h with ⟨k, rfl, h1⟩ | h1
    · obtain ⟨blk0, m, g1, g2, g3, _, g5, _⟩ := hHk k id h1
      obtain ⟨blk1, j1, c, T, part, rest, j2, j3, j4⟩ := hr.heap k id h1
      rw [g5] at j1; cases j1
      exact ⟨_, g2, c, T, part, rest, j2, j3, RepAll.repure (fun id h => .inl h) (fun _ _ => rfl) _ _ _ (hpu blk0 (List.mem_of_getElem? g1)) j4⟩
    · obtain ⟨blk, g1, g2⟩ := hc.heap b id h1
      exact ⟨blk, g1, g2.mono (fun id h => .inl (hr.zsup id h)) hold hfr (hkeep id (hc.lt h1))⟩
/-! ### A block that is handed over to be written -/
def heapM (blk : Blk) : Heap := fun n => if n = 0 then some blk else none
def mu0 (id : Nat) : Nat → Option Nat := fun n => if n = 0 then some id else none
/-- A contract of a function that writes a block of its caller's: inside, name 0 stands for it. -/
def CallOKM (P : Program) (f : FuncId) (blk : Blk) (args : List LV) (r : LV) (blk' : Blk) : Prop :=
  Callable P f ∧ ∀ (W : World) (Z0 : Nat → Prop) (vs : List Value) (i0 : Nat), (∀ id, Z0 id → id < W.heap.size) → ¬ Z0 i0 → BlkRep Z0 (mu0 i0) W blk i0 → RepVL Z0 (mu0 i0) W args vs →
    Calls P f vs.toArray W fun e w' => ∃ v μ Z, e = .returned v ∧ Core W (fun k => k = i0) Z0 μ Z (heapM blk') w' ∧ RepV Z μ w' r v

theorem Core.callM {b i0 : Nat} {blk blk' : Blk} (hc : Core W X Z0 μ Z H w) (hb : μ b = some i0) (hH : H b = some blk) (hm : blk.mt = true) (hm' : blk'.mt = true) (hp' : pures blk'.vals = true)
    (hr : Core w (fun k => k = i0) Z μr Zr (heapM blk') w') :
    ∃ Z', Core W X Z0 μ Z' (fun k => if k = b then some blk' else H k) w' ∧ (∀ id, Zr id → Z' id) ∧ (∀ id, Z id → Z' id) ∧ Frame Z μ w w' ∧ ∀ k id, μr k = some id → k = 0 ∧ id = i0 := by
  have hr0 := hr.x1 i0 rfl
  have hk0 : ∀ k id, μr k = some id → k = 0 ∧ id = i0 := fun k id h => by
    obtain ⟨blk1, h1, _⟩ := hr.heap k id h
    have : k = 0 := by
      unfold heapM at h1; split at h1
      · assumption
      · cases h1
    subst this
    rw [hr0] at h; cases h
    exact ⟨rfl, rfl⟩
  have hlt0 := hc.lt hb
  have hkeep : ∀ k, k < w.heap.size → k ≠ i0 → w'.heap[k]? = w.heap[k]? := fun k hk hx => hr.keep.block k hk hx
  have hnz : ¬ Z i0 := hc.mutz b i0 blk hb hH hm
  have hfr : Frame Z μ w w' := by
    refine ⟨fun id h => hkeep id (hc.zone id h) (fun e => hnz (e ▸ h)), fun c id h cc T fz hcc => ?_⟩
    by_cases e : id = i0
    · subst e
      exact hr.keep.xsz id rfl cc T fz hcc
    · exact ⟨cc, (hkeep id (hc.lt h) e).trans hcc, rfl⟩
  refine ⟨Zr, ⟨?_, hr.zone, fun id h => hr.zsup id (hc.zsup id h), ?_, hc.inj, hc.own, hc.x0, hc.xlt, hc.x1, ?_, ?_, ?_⟩, fun _ h => h, hr.zsup, hfr, hk0⟩
  · refine ⟨hr.keep.os.trans hc.keep.os, hr.keep.tape.trans hc.keep.tape, hr.keep.output.trans hc.keep.output, Nat.le_trans hc.keep.size hr.keep.size, fun k hk hx => ?_, fun k hx c T fz h => ?_⟩
    · have : k ≠ i0 := by
        rintro rfl
        rcases hc.own b k hb with h | h
        · omega
        · exact hx h
      exact (hkeep k (by have := hc.keep.size; omega) this).trans (hc.keep.block k hk hx)
    · obtain ⟨c', g1, g2⟩ := hc.keep.xsz k hx c T fz h
      by_cases e : k = i0
      · subst e
        obtain ⟨c2, g3, g4⟩ := hr.keep.xsz k rfl c' T fz g1
        exact ⟨c2, g3, g4.trans g2⟩
      · exact ⟨c', (hkeep k (Array.getElem?_eq_some_iff.1 g1).1 e).trans g1, g2⟩
  · intro id h
    rcases hr.zsub id h with h | h
    · exact hc.zsub id h
    · exact .inr (Nat.le_trans hc.keep.size h)
  · intro c id bk h g hmt hz
    rcases hr.zsub id hz with hz' | hz'
    · by_cases e : c = b
      · subst e; rw [hb] at h; cases h; exact hnz hz'
      · rw [if_neg e] at g; exact hc.mutz c id bk h g hmt hz'
    · have := hc.lt h; omega
  · intro c id bk h g hmt
    by_cases e : c = b
    · rw [if_pos e] at g; cases g; rw [hm'] at hmt; cases hmt
    · rw [if_neg e] at g; exact hr.zsup id (hc.frz c id bk h g hmt)
  · intro c id h
    by_cases e : c = b
    · subst e; rw [hb] at h; cases h
      obtain ⟨bk, g1, cc, T, part, rest, g2, g3, g4⟩ := hr.heap 0 i0 hr0
      simp only [heapM, if_true] at g1
      cases g1
      exact ⟨blk', if_pos rfl, cc, T, part, rest, g2, g3, RepAll.repure (fun _ h => h) (fun _ _ => rfl) _ _ _ hp' g4⟩
    · obtain ⟨bk, g1, g2⟩ := hc.heap c id h
      have hne : id ≠ i0 := fun e' => e (hc.inj c b id h (e' ▸ hb))
      exact ⟨bk, by rw [if_neg e]; exact g1, g2.mono hr.zsup (fun _ _ h => h) hfr (hkeep id (hc.lt h) hne)⟩
end
end Go.Lg
