/- What a callee's contract says, and what a call does to the caller's blocks. -/
import Derived.Test.YthhdcfhaldcheaaGreatLgE
import Derived.Deep.Upon
set_option linter.unusedVariables false
set_option linter.unusedSimpArgs false
namespace Go.Lg

mutual
def LV.ren (f : Nat → Nat) : LV → LV
  | .any => .any
  | .v x => .v x
  | .list sz l => .list sz (rens f l)
  | .agg l => .agg (rens f l)
  | .ref b sz off len => .ref (f b) sz off len
  | .eptr b sz i o => .eptr (f b) sz i o
  | .boxp c => .boxp (c.ren f)
  | .clo g l => .clo g (rens f l)
  | .tup l => .tup (rens f l)
def rens (f : Nat → Nat) : List LV → List LV
  | [] => []
  | x :: xs => x.ren f :: rens f xs
end
mutual
theorem LV.ren_pure (f : Nat → Nat) : ∀ (x : LV), x.pure = true → x.ren f = x
  | .any, _ => rfl
  | .v _, _ => rfl
  | .list sz l, h => by simp only [LV.ren, rens_pure f l (by simpa [LV.pure] using h)]
  | .agg l, h => by simp only [LV.ren, rens_pure f l (by simpa [LV.pure] using h)]
  | .ref .., h => by simp [LV.pure] at h
  | .eptr .., h => by simp [LV.pure] at h
  | .boxp c, h => by simp only [LV.ren, LV.ren_pure f c (by simpa [LV.pure] using h)]
  | .clo g l, h => by simp only [LV.ren, rens_pure f l (by simpa [LV.pure] using h)]
  | .tup l, h => by simp [LV.pure] at h
theorem rens_pure (f : Nat → Nat) : ∀ (l : List LV), pures l = true → rens f l = l
  | [], _ => rfl
  | x :: xs, h => by simp only [rens, LV.ren_pure f x (pure_cons h).1, rens_pure f xs (pure_cons h).2]
end
mutual
theorem LV.ren_csize (f : Nat → Nat) : ∀ (x : LV), (x.ren f).csize = x.csize
  | .any => rfl | .v _ => rfl | .list .. => rfl | .ref .. => rfl | .eptr .. => rfl | .boxp _ => rfl | .clo .. => rfl | .tup _ => rfl
  | .agg l => by simp only [LV.ren, LV.csize, rens_csize f l]
theorem rens_csize (f : Nat → Nat) : ∀ (l : List LV), csizes (rens f l) = csizes l
  | [] => rfl
  | x :: xs => by simp only [rens, csizes, LV.ren_csize f x, rens_csize f xs]
end
theorem LV.ren_isAgg (f : Nat → Nat) (x : LV) : (x.ren f).isAgg = x.isAgg := by cases x <;> rfl

section
variable {Z : Nat → Prop} {μ μ' : Nat → Option Nat} {w : World}
mutual
theorem Rep.ren (f : Nat → Nat) (hm : ∀ b id, μ b = some id → μ' (f b) = some id) : ∀ (lv : LV) (cs : List Value), Rep Z μ w lv cs → Rep Z μ' w (lv.ren f) cs
  | .any, _, h => by simpa [Rep, LV.ren] using h
  | .v x, cs, h => by simpa [Rep, LV.ren] using h
  | .list sz l, cs, h => by
      simp only [Rep, LV.ren] at h ⊢
      obtain ⟨a, len, cap, h1, h2, h3, h4, h9⟩ := h
      have hl : (rens f l).length = l.length := by
        clear h2 h4 h9; induction l with
        | nil => rfl
        | cons x xs ih => simp [rens, ih]
      refine ⟨a, len, cap, h1, by rw [hl]; exact h2, h3, ?_, by rw [rens_pure f l h9]; exact h9⟩
      rcases h4 with h4 | ⟨blk, off, c, T, fz, part, rest, e1, e2, e3, e4, e5⟩
      · left; subst h4; rfl
      · exact .inr ⟨blk, off, c, T, fz, part, rest, e1, e2, e3, e4, RepAll.ren f hm sz l part e5⟩
  | .agg l, cs, h => by
      simp only [Rep, LV.ren] at h ⊢
      exact RepFs.ren f hm l cs h
  | .ref b sz off len, cs, h => by
      simp only [Rep, LV.ren] at h ⊢
      rcases h with h | ⟨id, cap, c, T, fz, h1, h2, h3⟩
      · exact .inl h
      exact .inr ⟨id, cap, c, T, fz, h1, hm _ _ h2, h3⟩
  | .eptr b sz i o, cs, h => by
      simp only [Rep, LV.ren] at h ⊢
      obtain ⟨id, h1, h2⟩ := h
      exact ⟨id, h1, hm _ _ h2⟩
  | .boxp c, cs, h => by
      simp only [Rep, LV.ren] at h ⊢
      obtain ⟨blk, off, cc, T, fz, part, rest, h1, h2, h3, h4, h5, h6, h7⟩ := h
      exact ⟨blk, off, cc, T, fz, part, rest, h1, h2, h3, h4, by rw [LV.ren_csize]; exact h5, Rep.ren f hm c part h6, by rw [LV.ren_pure f c h7]; exact h7⟩
  | .clo g cap, cs, h => by
      simp only [Rep, LV.ren] at h ⊢
      obtain ⟨vs, h1, h2, h3⟩ := h
      exact ⟨vs, h1, RepAll.ren f hm 1 cap vs.toList h2, by rw [rens_pure f cap h3]; exact h3⟩
  | .tup _, _, h => by simp [Rep] at h
theorem RepAll.ren (f : Nat → Nat) (hm : ∀ b id, μ b = some id → μ' (f b) = some id) (sz : Nat) : ∀ (l : List LV) (cs : List Value), RepAll Z μ w sz l cs → RepAll Z μ' w sz (rens f l) cs
  | [], cs, h => by simpa [RepAll, rens] using h
  | x :: xs, cs, h => by
      simp only [RepAll, rens] at h ⊢
      obtain ⟨c1, c2, h1, h2, h3, h4⟩ := h
      exact ⟨c1, c2, h1, h2, Rep.ren f hm x c1 h3, RepAll.ren f hm sz xs c2 h4⟩
theorem RepFs.ren (f : Nat → Nat) (hm : ∀ b id, μ b = some id → μ' (f b) = some id) : ∀ (l : List LV) (cs : List Value), RepFs Z μ w l cs → RepFs Z μ' w (rens f l) cs
  | [], cs, h => by simpa [RepFs, rens] using h
  | x :: xs, cs, h => by
      simp only [RepFs, rens] at h ⊢
      obtain ⟨c1, c2, h1, h2, h3, h4⟩ := h
      exact ⟨c1, c2, h1, by rw [LV.ren_csize]; exact h2, Rep.ren f hm x c1 h3, RepFs.ren f hm xs c2 h4⟩
end
theorem RepV1.ren (f : Nat → Nat) (hm : ∀ b id, μ b = some id → μ' (f b) = some id) {lv : LV} {v : Value} (h : RepV1 Z μ w lv v) : RepV1 Z μ' w (lv.ren f) v :=
  ⟨fun e => let ⟨cs, h1, h2⟩ := h.1 (by rwa [LV.ren_isAgg] at e); ⟨cs, h1, Rep.ren f hm _ _ h2⟩, fun e => Rep.ren f hm _ _ (h.2 (by rwa [LV.ren_isAgg] at e))⟩
theorem RepVL.ren (f : Nat → Nat) (hm : ∀ b id, μ b = some id → μ' (f b) = some id) : ∀ (l : List LV) (vs : List Value), RepVL Z μ w l vs → RepVL Z μ' w (rens f l) vs
  | [], _, h => h
  | _ :: xs, _, ⟨v, vs', h1, h2, h3⟩ => ⟨v, vs', h1, h2.ren f hm, RepVL.ren f hm xs vs' h3⟩
theorem RepV.ren (f : Nat → Nat) (hm : ∀ b id, μ b = some id → μ' (f b) = some id) {lv : LV} {v : Value} (h : RepV Z μ w lv v) : RepV Z μ' w (lv.ren f) v := by
  cases lv with
  | tup l => obtain ⟨vs, h1, h2⟩ := h; exact ⟨vs, h1, RepVL.ren f hm _ _ h2⟩
  | any => trivial
  | _ => exact RepV1.ren f hm h
end

/-- The blocks that a callee hands back: names 1, 2, .. -/
def outHeap (bs : List Blk) : Heap := fun n => if n = 0 then none else bs[n - 1]?

def Callable (P : Program) (f : FuncId) : Prop := ∃ fn, P.funcs[f]? = some fn ∧ fn.body.isNone = false ∧ (fn.name == "runtime.NumGoroutine") = false

/-- A callee's contract: called with values that stand for args it returns a value that stands for r; the blocks bs that r names are new and the caller's own. -/
def CallOK (P : Program) (f : FuncId) (args : List LV) (r : LV) (bs : List Blk) : Prop :=
  Callable P f ∧ ∀ (W : World) (Z0 : Nat → Prop) (vs : List Value), (∀ id, Z0 id → id < W.heap.size) → RepVL Z0 (fun _ => none) W args vs →
    Calls P f vs.toArray W fun e w' => ∃ v μ Z, e = .returned v ∧ Core W (fun _ => False) Z0 μ Z (outHeap bs) w' ∧ RepV Z μ w' r v

def callName (d k : Nat) : Nat := 1000000 + d * 16 + k
def callMap (μ μr : Nat → Option Nat) (d : Nat) : Nat → Option Nat := fun b =>
  if 1000000 + d * 16 ≤ b ∧ b < 1000000 + d * 16 + 16 then (μr (b - (1000000 + d * 16))).or (μ b) else μ b

section
variable {W w w' : World} {X Z0 Z Zr : Nat → Prop} {μ μr : Nat → Option Nat} {H : Heap} {bs : List Blk} {d : Nat}

theorem Core.call (hc : Core W X Z0 μ Z H w) (hr : Core w (fun _ => False) Z μr Zr (outHeap bs) w') (hlen : bs.length < 16) (hpu : ∀ blk ∈ bs, pures blk.vals = true)
    (hH : ∀ i blk, bs[i]? = some blk → ∃ m, H (callName d (i + 1)) = some ⟨blk.sz, blk.vals, m⟩ ∧ (blk.mt = false → m = false) ∧ μ (callName d (i + 1)) = none) :
    ∃ Z', Core W X Z0 (callMap μ μr d) Z' H w' ∧ (∀ id, Zr id → Z' id) ∧ (∀ id, Z id → Z' id) ∧ (∀ b id, μ b = some id → callMap μ μr d b = some id) ∧ Frame Z μ w w' ∧
      (∀ k id, μr k = some id → callMap μ μr d (callName d k) = some id) := by
  have hk : ∀ k id, μr k = some id → ∃ blk, 1 ≤ k ∧ k ≤ bs.length ∧ bs[k - 1]? = some blk ∧ outHeap bs k = some blk := fun k id h => by
    obtain ⟨blk, h1, _⟩ := hr.heap k id h
    have h0 : k ≠ 0 := by rintro rfl; simp [outHeap] at h1
    have h2 : bs[k - 1]? = some blk := by simpa [outHeap, h0] using h1
    have := (List.getElem?_eq_some_iff.1 h2).1
    exact ⟨blk, by omega, by omega, h2, h1⟩
  have hHk : ∀ k id, μr k = some id → ∃ blk m, bs[k - 1]? = some blk ∧ H (callName d k) = some ⟨blk.sz, blk.vals, m⟩ ∧ (blk.mt = false → m = false) ∧ μ (callName d k) = none ∧ outHeap bs k = some blk ∧ k < 16 := fun k id h => by
    obtain ⟨blk, h1, h2, h3, h4⟩ := hk k id h
    obtain ⟨m, g1, g2, g3⟩ := hH (k - 1) blk h3
    have : k - 1 + 1 = k := by omega
    rw [this] at g1 g3
    exact ⟨blk, m, h3, g1, g2, g3, h4, by omega⟩
  have hnew : ∀ k id, μr k = some id → callMap μ μr d (callName d k) = some id := fun k id h => by
    obtain ⟨blk, m, _, _, _, _, _, h6⟩ := hHk k id h
    unfold callMap callName
    rw [if_pos (by omega)]
    have : 1000000 + d * 16 + k - (1000000 + d * 16) = k := by omega
    rw [this, h]; rfl
  have hinv : ∀ b id, callMap μ μr d b = some id → (∃ k, b = callName d k ∧ μr k = some id) ∨ μ b = some id := fun b id h => by
    unfold callMap at h
    split at h
    · rename_i hb
      cases hq : μr (b - (1000000 + d * 16)) with
      | none => rw [hq] at h; exact .inr (by simpa using h)
      | some id' =>
        rw [hq] at h
        simp only [Option.some_or, Option.some.injEq] at h
        subst h
        exact .inl ⟨b - (1000000 + d * 16), by unfold callName; omega, hq⟩
    · exact .inr h
  have hold : ∀ b id, μ b = some id → callMap μ μr d b = some id := fun b id h => by
    unfold callMap
    split
    · rename_i hb
      cases hq : μr (b - (1000000 + d * 16)) with
      | none => simpa using h
      | some id' =>
        obtain ⟨blk, m, _, _, _, g, _⟩ := hHk _ _ hq
        have : callName d (b - (1000000 + d * 16)) = b := by unfold callName; omega
        rw [this, h] at g; cases g
    · exact h
  have hlo : ∀ k id, μr k = some id → w.heap.size ≤ id := fun k id h => (hr.own k id h).resolve_right (fun h => h)
  have hkeep : ∀ k, k < w.heap.size → w'.heap[k]? = w.heap[k]? := fun k hk => hr.keep.block k hk (fun h => h)
  have hfr := hc.frame_old hkeep
  refine ⟨fun id => Zr id ∨ ∃ k blk, μr k = some id ∧ H (callName d k) = some blk ∧ blk.mt = false, ⟨?_, ?_, fun id h => .inl (hr.zsup id (hc.zsup id h)), ?_, ?_, ?_, ?_, hc.xlt, fun id h => hold 0 id (hc.x1 id h), ?_, ?_, ?_⟩,
    fun id h => .inl h, fun id h => .inl (hr.zsup id h), hold, hfr, hnew⟩
  · exact ⟨hr.keep.os.trans hc.keep.os, hr.keep.tape.trans hc.keep.tape, hr.keep.output.trans hc.keep.output, Nat.le_trans hc.keep.size hr.keep.size,
      fun k hk hx => (hkeep k (by have := hc.keep.size; omega)).trans (hc.keep.block k hk hx),
      fun k hx c T fz h => let ⟨c', g1, g2⟩ := hc.keep.xsz k hx c T fz h; ⟨c', (hkeep k (Array.getElem?_eq_some_iff.1 g1).1).trans g1, g2⟩⟩
  · rintro id (h | ⟨k, blk, h, _⟩)
    · exact hr.zone id h
    · exact hr.lt h
  · rintro id (h | ⟨k, blk, h, _⟩)
    · rcases hr.zsub id h with h | h
      · exact hc.zsub id h
      · exact .inr (Nat.le_trans hc.keep.size h)
    · exact .inr (Nat.le_trans hc.keep.size (hlo k id h))
  · intro b b' id h h'
    rcases hinv b id h with ⟨k, rfl, h1⟩ | h1 <;> rcases hinv b' id h' with ⟨k', rfl, h2⟩ | h2
    · rw [hr.inj k k' id h1 h2]
    · have := hlo k id h1; have := hc.lt h2; omega
    · have := hlo k' id h2; have := hc.lt h1; omega
    · exact hc.inj b b' id h1 h2
  · intro b id h
    rcases hinv b id h with ⟨k, rfl, h1⟩ | h1
    · exact .inl (Nat.le_trans hc.keep.size (hlo k id h1))
    · exact hc.own b id h1
  · intro b id h hx
    rcases hinv b id h with ⟨k, rfl, h1⟩ | h1
    · have := hlo k id h1; have := hc.xlt id hx; have := hc.keep.size; omega
    · exact hc.x0 b id h1 hx
  · intro b id blk h hb hm hz
    rcases hinv b id h with ⟨k, rfl, h1⟩ | h1
    · obtain ⟨blk0, m, _, g2, g3, _, g5, _⟩ := hHk k id h1
      rw [g2] at hb; cases hb
      simp only at hm; subst hm
      have hm0 : blk0.mt = true := by
        cases e : blk0.mt with
        | true => rfl
        | false => exact absurd (g3 e) (by simp)
      rcases hz with hz | ⟨k', blk', j1, j2, j3⟩
      · exact hr.mutz k id blk0 h1 g5 hm0 hz
      · have := hr.inj k k' id h1 j1
        subst this
        rw [g2] at j2; cases j2; simp at j3
    · rcases hz with hz | ⟨k', blk', j1, j2, j3⟩
      · rcases hr.zsub id hz with h | h
        · exact hc.mutz b id blk h1 hb hm h
        · have := hc.lt h1; omega
      · have := hlo k' id j1; have := hc.lt h1; omega
  · intro b id blk h hb hm
    rcases hinv b id h with ⟨k, rfl, h1⟩ | h1
    · exact .inr ⟨k, blk, h1, hb, hm⟩
    · exact .inl (hr.zsup id (hc.frz b id blk h1 hb hm))
  · intro b id h
    rcases hinv b id h with ⟨k, rfl, h1⟩ | h1
    · obtain ⟨blk0, m, g1, g2, g3, _, g5, _⟩ := hHk k id h1
      obtain ⟨blk1, j1, c, T, part, rest, j2, j3, j4⟩ := hr.heap k id h1
      rw [g5] at j1; cases j1
      exact ⟨_, g2, c, T, part, rest, j2, j3, RepAll.repure (fun id h => .inl h) (fun _ _ => rfl) _ _ _ (hpu blk0 (List.mem_of_getElem? g1)) j4⟩
    · obtain ⟨blk, g1, g2⟩ := hc.heap b id h1
      exact ⟨blk, g1, g2.mono (fun id h => .inl (hr.zsup id h)) hold hfr (hkeep id (hc.lt h1))⟩
/-! ### A block that is handed over to be written -/
def heapM (blk : Blk) : Heap := fun n => if n = 0 then some blk else none
def mu0 (id : Nat) : Nat → Option Nat := fun n => if n = 0 then some id else none
/-- A contract of a function that writes a block of its caller's: inside, name 0 stands for it. -/
def CallOKM (P : Program) (f : FuncId) (blk : Blk) (args : List LV) (r : LV) (blk' : Blk) : Prop :=
  Callable P f ∧ ∀ (W : World) (Z0 : Nat → Prop) (vs : List Value) (i0 : Nat), (∀ id, Z0 id → id < W.heap.size) → ¬ Z0 i0 → BlkRep Z0 (mu0 i0) W blk i0 → RepVL Z0 (mu0 i0) W args vs →
    Calls P f vs.toArray W fun e w' => ∃ v μ Z, e = .returned v ∧ Core W (fun k => k = i0) Z0 μ Z (heapM blk') w' ∧ RepV Z μ w' r v

theorem Core.callM {b i0 : Nat} {blk blk' : Blk} (hc : Core W X Z0 μ Z H w) (hb : μ b = some i0) (hH : H b = some blk) (hm : blk.mt = true) (hm' : blk'.mt = true) (hp' : pures blk'.vals = true)
    (hr : Core w (fun k => k = i0) Z μr Zr (heapM blk') w') :
    ∃ Z', Core W X Z0 μ Z' (fun k => if k = b then some blk' else H k) w' ∧ (∀ id, Zr id → Z' id) ∧ (∀ id, Z id → Z' id) ∧ Frame Z μ w w' ∧ ∀ k id, μr k = some id → k = 0 ∧ id = i0 := by
  have hr0 := hr.x1 i0 rfl
  have hk0 : ∀ k id, μr k = some id → k = 0 ∧ id = i0 := fun k id h => by
    obtain ⟨blk1, h1, _⟩ := hr.heap k id h
    have : k = 0 := by
      unfold heapM at h1; split at h1
      · assumption
      · cases h1
    subst this
    rw [hr0] at h; cases h
    exact ⟨rfl, rfl⟩
  have hlt0 := hc.lt hb
  have hkeep : ∀ k, k < w.heap.size → k ≠ i0 → w'.heap[k]? = w.heap[k]? := fun k hk hx => hr.keep.block k hk hx
  have hnz : ¬ Z i0 := hc.mutz b i0 blk hb hH hm
  have hfr : Frame Z μ w w' := by
    refine ⟨fun id h => hkeep id (hc.zone id h) (fun e => hnz (e ▸ h)), fun c id h cc T fz hcc => ?_⟩
    by_cases e : id = i0
    · subst e
      exact hr.keep.xsz id rfl cc T fz hcc
    · exact ⟨cc, (hkeep id (hc.lt h) e).trans hcc, rfl⟩
  refine ⟨Zr, ⟨?_, hr.zone, fun id h => hr.zsup id (hc.zsup id h), ?_, hc.inj, hc.own, hc.x0, hc.xlt, hc.x1, ?_, ?_, ?_⟩, fun _ h => h, hr.zsup, hfr, hk0⟩
  · refine ⟨hr.keep.os.trans hc.keep.os, hr.keep.tape.trans hc.keep.tape, hr.keep.output.trans hc.keep.output, Nat.le_trans hc.keep.size hr.keep.size, fun k hk hx => ?_, fun k hx c T fz h => ?_⟩
    · have : k ≠ i0 := by
        rintro rfl
        rcases hc.own b k hb with h | h
        · omega
        · exact hx h
      exact (hkeep k (by have := hc.keep.size; omega) this).trans (hc.keep.block k hk hx)
    · obtain ⟨c', g1, g2⟩ := hc.keep.xsz k hx c T fz h
      by_cases e : k = i0
      · subst e
        obtain ⟨c2, g3, g4⟩ := hr.keep.xsz k rfl c' T fz g1
        exact ⟨c2, g3, g4.trans g2⟩
      · exact ⟨c', (hkeep k (Array.getElem?_eq_some_iff.1 g1).1 e).trans g1, g2⟩
  · intro id h
    rcases hr.zsub id h with h | h
    · exact hc.zsub id h
    · exact .inr (Nat.le_trans hc.keep.size h)
  · intro c id bk h g hmt hz
    rcases hr.zsub id hz with hz' | hz'
    · by_cases e : c = b
      · subst e; rw [hb] at h; cases h; exact hnz hz'
      · rw [if_neg e] at g; exact hc.mutz c id bk h g hmt hz'
    · have := hc.lt h; omega
  · intro c id bk h g hmt
    by_cases e : c = b
    · rw [if_pos e] at g; cases g; rw [hm'] at hmt; cases hmt
    · rw [if_neg e] at g; exact hr.zsup id (hc.frz c id bk h g hmt)
  · intro c id h
    by_cases e : c = b
    · subst e; rw [hb] at h; cases h
      obtain ⟨bk, g1, cc, T, part, rest, g2, g3, g4⟩ := hr.heap 0 i0 hr0
      simp only [heapM, if_true] at g1
      cases g1
      exact ⟨blk', if_pos rfl, cc, T, part, rest, g2, g3, RepAll.repure (fun _ h => h) (fun _ _ => rfl) _ _ _ hp' g4⟩
    · obtain ⟨bk, g1, g2⟩ := hc.heap c id h
      have hne : id ≠ i0 := fun e' => e (hc.inj c b id h (e' ▸ hb))
      exact ⟨bk, by rw [if_neg e]; exact g1, g2.mono hr.zsup (fun _ _ h => h) hfr (hkeep id (hc.lt h) hne)⟩
end
end Go.Lg
namespace Go.Lg

def TyBytes (P : Program) (T : TypeId) (n : Nat) : Prop := ∃ i, P.info? T = some i ∧ i.bytes = n

inductive OpA (P : Program) (ρ : Operand → LV) (d : Nat) : Op → LV → Blk → Prop
  | make {T E l c kl kc z sz by_ n m} (hT : P.underlying T = some (.slice E)) (hz : ZeroOK P E z) (hE : TyIs P E sz z.isAgg) (hzs : z.csize = sz) (hb : TyBytes P E by_)
      (hl : ρ l = .v (.int kl (n : Nat))) (hc : ρ c = .v (.int kc (m : Nat))) (hnm : n ≤ m) (hm : by_ * m ≤ 281474976710656) (hm2 : m ≤ 9223372036854775807) :
      OpA P ρ d (.makeSlice T l c) (.ref d sz 0 n) ⟨sz, List.replicate n z, true⟩
  | lit {T E n ps z sz} (hT : P.underlying T = some (.slice E)) (hz : ZeroOK P E z) (hE : TyIs P E sz z.isAgg) (hzs : z.csize = sz) (hn : n * sz ≤ 16777216) (h0 : 0 < n) (hs0 : 0 < sz)
      (hp : ∀ p ∈ ps.toList, p.1 < n ∧ lay (ρ p.2) = lay z ∧ ρ p.2 ≠ .any ∧ ∀ m, ρ p.2 ≠ .tup m) :
      OpA P ρ d (.buildSlice T n ps) (.ref d sz 0 n) ⟨sz, buildL (List.replicate n z) (ps.toList.map fun p => (p.1, ρ p.2)), true⟩
  | lit0 {T E sz ag} (hT : P.underlying T = some (.slice E)) (hE : TyIs P E sz ag) : OpA P ρ d (.buildSlice T 0 #[]) (.ref d sz 0 0) ⟨sz, [], true⟩
  | box {T x} (hne : ρ x ≠ .any ∧ ∀ m, ρ x ≠ .tup m) : OpA P ρ d (.box T x) (.eptr d (ρ x).csize 0 0) ⟨(ρ x).csize, [ρ x], true⟩
  | alloc {T z} (hz : ZeroOK P T z) : OpA P ρ d (.alloc T) (.eptr d z.csize 0 0) ⟨z.csize, [z], true⟩

inductive OpC (P : Program) (H : Heap) (ρ : Operand → LV) (d : Nat) : Op → LV → List Blk → Prop
  | func {f xs as args r bs} (ha : ImmL H (xs.toList.map ρ) args) (hk : CallOK P f args r bs) (hlen : bs.length < 16) (hpu : ∀ blk ∈ bs, pures blk.vals = true) :
      OpC P H ρ d (.call ⟨.value (.func f), xs, as⟩) (r.ren (callName d)) bs
  | clo {t f cap xs as args r bs} (ht : ρ (.tmp t) = .clo f cap) (ha : ImmL H (xs.toList.map ρ) args) (hcap : pures cap = true ∧ ∀ x ∈ cap, x.csize = 1 ∧ x.isAgg = false) (hk : CallOK P f (args ++ cap) r bs)
      (hlen : bs.length < 16) (hpu : ∀ blk ∈ bs, pures blk.vals = true) :
      OpC P H ρ d (.call ⟨.value (.tmp t), xs, as⟩) (r.ren (callName d)) bs
  | mk {f xs caps} (ha : ImmL H (xs.toList.map ρ) caps) (h1 : ∀ x ∈ caps, x.csize = 1 ∧ x.isAgg = false) : OpC P H ρ d (.makeFunc (.func f) #[] xs) (.clo f caps) []

/-- An operation that changes no block that is there: its value, and the blocks that it makes. -/
inductive OpV (P : Program) (H : Heap) (ρ : Operand → LV) (d : Nat) : Op → LV → List (Nat × Blk) → Prop
  | pure {op r} (h : OpP P H ρ op r) : OpV P H ρ d op r []
  | alloc {op r blk} (h : OpA P ρ d op r blk) : OpV P H ρ d op r [(d, blk)]
  | call {op r bs} (h : OpC P H ρ d op r bs) : OpV P H ρ d op r (bs.mapIdx fun i blk => (callName d (i + 1), blk))

section
variable {P : Program} {W w : World} {X Z0 Z : Nat → Prop} {μ : Nat → Option Nat} {H H' : Heap} {ρ : Operand → LV} {a : Act}

theorem OpP.le {op : Op} {r : LV} (hle : H.le H') (h : OpP P H ρ op r) : OpP P H' ρ op r := by
  cases h with
  | loadE hp hb hs hi hx hr hT =>
    obtain ⟨m, g1, _⟩ := hle _ _ hb
    exact .loadE (blk := ⟨_, _, m⟩) hp g1 hs hi hx hr hT
  | move x => exact .move x
  | assign x => exact .assign x
  | pick h => exact .pick h
  | bin hx hy h => exact .bin hx hy h
  | sh hx hy h => exact .sh hx hy h
  | beq hx hy hT => exact .beq hx hy hT
  | bne hx hy hT => exact .bne hx hy hT
  | not hx => exact .not hx
  | neg hx => exact .neg hx
  | conv hS hD hx => exact .conv hS hD hx
  | extract ht hr hne => exact .extract ht hr hne
  | field hx hT hr hne => exact .field hx hT hr hne
  | fieldAddrB hp hT hr => exact .fieldAddrB hp hT hr
  | fieldAddrE hp hT hk => exact .fieldAddrE hp hT hk
  | loadB hp hT hc => exact .loadB hp hT hc
  | nilChkE hx => exact .nilChkE hx
  | nilChkB hx => exact .nilChkB hx
  | idxL hx hT hE hi h0 hr hc => exact .idxL hx hT hE hi h0 hr hc
  | idxR hx hT hE hi h0 hn => exact .idxR hx hT hE hi h0 hn
  | sliceL hx hT hE a b c d e f => exact .sliceL hx hT hE a b c d e f
  | sliceR hx hT hE a b c d e f g => exact .sliceR hx hT hE a b c d e f g
  | sliceR3 hx hT hE a b c d e f g i => exact .sliceR3 hx hT hE a b c d e f g i
  | lenL hx has hT => exact .lenL hx has hT
  | lenR hx has hT => exact .lenR hx has hT
  | lenN hx has hT => exact .lenN hx has hT
  | min2 hx hy => exact .min2 hx hy
  | max2 hx hy => exact .max2 hx hy
  | indexS hx hT hi h0 hb => exact .indexS hx hT hi h0 hb
  | ext2 hf hname hb hn he hx hr h1 h2 => exact .ext2 hf hname hb hn he hx hr h1 h2
  | addS hx hy h => exact .addS hx hy h
  | eqS hx hy => exact .eqS hx hy
  | strR hS hE hD hx hb hs hv hl =>
    obtain ⟨m, h1, _⟩ := hle _ _ hb
    exact .strR hS hE hD hx h1 hs hv hl
  | build hT hz hp => exact .build hT hz hp
theorem OpV.le {op : Op} {r : LV} {d : Nat} {fr : List (Nat × Blk)} (hle : H.le H') (h : OpV P H ρ d op r fr) : OpV P H' ρ d op r fr := by
  cases h with
  | pure h => exact .pure (h.le hle)
  | alloc h => exact .alloc h
  | call h =>
    refine .call ?_
    cases h with
    | func ha hk hlen hpu => exact .func (ImmL.le hle ha) hk hlen hpu
    | clo ht ha hcap hk hlen hpu => exact .clo ht (ImmL.le hle ha) hcap hk hlen hpu
    | mk ha h1 => exact .mk (ImmL.le hle ha) h1

/-- values handed over -/
theorem immL_args (hc : Core W X Z0 μ Z H w) : ∀ (xs : List Operand) (args : List LV), ImmL H (xs.map ρ) args → (∀ x ∈ xs, RepV Z μ w (ρ x) (a.eval x)) →
    RepVL Z (fun _ => none) w args (xs.map a.eval)
  | [], _, h, _ => by cases h; rfl
  | x :: xs, _, h, hr => by
      cases h with
      | cons h t =>
        exact ⟨_, _, rfl, Imm.soundV hc h (hr x (by simp)), immL_args hc xs _ t (fun y hy => hr y (by simp [hy]))⟩
theorem RepVL.append : ∀ (l m : List LV) (vs us : List Value), RepVL Z μ w l vs → RepVL Z μ w m us → RepVL Z μ w (l ++ m) (vs ++ us)
  | [], m, vs, us, h, h' => by cases h; exact h'
  | x :: xs, m, _, us, ⟨v, vs', e, h1, h2⟩, h' => by
      subst e
      exact ⟨v, vs' ++ us, by simp, h1, RepVL.append xs m vs' us h2 h'⟩
theorem repVL_of_all1 {μ' : Nat → Option Nat} : ∀ (l : List LV) (cs : List Value), pures l = true → (∀ x ∈ l, x.csize = 1 ∧ x.isAgg = false) → RepAll Z μ w 1 l cs → RepVL Z μ' w l cs
  | [], cs, _, _, h => by simp only [RepAll] at h; exact h
  | x :: xs, cs, hp, h1, h => by
      simp only [RepAll] at h
      obtain ⟨c1, c2, rfl, h2, h3, h4⟩ := h
      match c1, h2 with
      | [y], _ =>
        refine ⟨y, c2, rfl, ⟨fun e => ?_, fun _ => Rep.repure (fun _ h => h) (fun _ _ => rfl) _ _ (pure_cons hp).1 h3⟩, repVL_of_all1 xs c2 (pure_cons hp).2 (fun z hz => h1 z (by simp [hz])) h4⟩
        rw [(h1 x (by simp)).2] at e; cases e
theorem all1_of_repVL {μ' : Nat → Option Nat} : ∀ (l : List LV) (vs : List Value), pures l = true → (∀ x ∈ l, x.csize = 1 ∧ x.isAgg = false) → RepVL Z μ w l vs → RepAll Z μ' w 1 l vs
  | [], vs, _, _, h => by simp only [RepAll]; exact h
  | x :: xs, _, hp, h1, ⟨v, vs', e, h2, h3⟩ => by
      subst e
      simp only [RepAll]
      exact ⟨[v], vs', rfl, rfl, Rep.repure (fun _ h => h) (fun _ _ => rfl) _ _ (pure_cons hp).1 (h2.2 (h1 x (by simp)).2), all1_of_repVL xs vs' (pure_cons hp).2 (fun z hz => h1 z (by simp [hz])) h3⟩

theorem callFunc_run {f : FuncId} {args : Array Value} (h : Callable P f) : (callFunc f args).run P w = .ok (.enter f args) w := by
  obtain ⟨fn, h1, h2, h3⟩ := h
  simp only [callFunc, Sem.run_bind, run_program, Result.andThen_ok, h1, h3, Bool.false_eq_true, if_false, h2, Sem.run_pure]

theorem made_list (z : Array Value) (hz : 0 < z.size) : ∀ n, (madeCells z (n * z.size)).toList = (List.replicate n z.toList).flatten
  | 0 => by simp [madeCells]
  | n + 1 => by
      have ih := made_list z hz n
      simp only [madeCells, Array.toList_map, Array.toList_range] at ih ⊢
      rw [Nat.succ_mul, List.range_add, List.map_append, ih, List.replicate_succ', List.flatten_append, List.map_map]
      congr 1
      simp only [List.flatten_cons, List.flatten_nil, List.append_nil]
      apply List.ext_getElem
      · simp
      · intro j h1 h2
        simp at h1
        simp [Nat.mod_eq_of_lt h1, h1]
theorem repAll_replicate_split {sz : Nat} {z : LV} {ch : List Value} (h : Rep Z μ w z ch) (hl : ch.length = sz) (n m : Nat) (hnm : n ≤ m) :
    ∃ part rest, (List.replicate m ch).flatten = part ++ rest ∧ RepAll Z μ w sz (List.replicate n z) part := by
  refine ⟨(List.replicate n ch).flatten, (List.replicate (m - n) ch).flatten, ?_, RepAll.replicate h hl n⟩
  rw [← List.flatten_append, List.replicate_append_replicate, Nat.add_sub_cancel' hnm]

theorem callMap_new {μr : Nat → Option Nat} {d : Nat} {b : Nat} (h : callMap μ μr d b ≠ none) : μ b ≠ none ∨ ∃ k, b = callName d k ∧ μr k ≠ none := by
  unfold callMap at h
  split at h
  · cases hq : μr (b - (1000000 + d * 16)) with
    | none => rw [hq] at h; exact .inl (by simpa using h)
    | some id => exact .inr ⟨b - (1000000 + d * 16), by unfold callName; omega, by rw [hq]; simp⟩
  · exact .inl h

/-- What follows an operation that changes no block that is there. -/
structure After (W : World) (X Z0 : Nat → Prop) (μ : Nat → Option Nat) (Z : Nat → Prop) (H : Heap) (w : World) (r : LV) (fr : List (Nat × Blk)) (v : Value) (w' : World) (μ' : Nat → Option Nat) (Z' : Nat → Prop) : Prop where
  core : Core W X Z0 μ' Z' H w'
  hz : ∀ id, Z id → Z' id
  hm : ∀ b id, μ b = some id → μ' b = some id
  hf : Frame Z μ w w'
  rep : RepV Z' μ' w' r v
  new : ∀ b, μ' b ≠ none → μ b ≠ none ∨ b ∈ fr.map (·.1)

theorem call_sound {f : FuncId} {vs : Array Value} {d : Nat} {args : List LV} {r : LV} {bs : List Blk} {o : Oper} {K : Act → World → Prop} {Q : Exit → Act → World → Prop}
    (hc : Core W X Z0 μ Z H w) (hk : CallOK P f args r bs) (hlen : bs.length < 16) (hpu : ∀ blk ∈ bs, pures blk.vals = true)
    (hargs : RepVL Z (fun _ => none) w args vs.toList)
    (hfr : ∀ i blk, bs[i]? = some blk → ∃ m, H (callName d (i + 1)) = some ⟨blk.sz, blk.vals, m⟩ ∧ (blk.mt = false → m = false) ∧ μ (callName d (i + 1)) = none)
    (hrun : (execOp a.eval o).run P w = .ok (.enter f vs) w)
    (hK : ∀ v w' μ' Z', After W X Z0 μ Z H w (r.ren (callName d)) (bs.mapIdx fun i blk => (callName d (i + 1), blk)) v w' μ' Z' → K (a.put o.dst v) w') : o.wp P a w K Q := by
  unfold Oper.wp
  rw [hrun, Oper.upon_enter]
  have := hk.2 w Z vs.toList hc.zone hargs
  rw [Array.toArray_toList] at this
  refine this.mono ?_
  rintro e w' ⟨v, μr, Zr, rfl, hr, hv⟩
  obtain ⟨Z', h1, h2, h3, h4, h5, h6⟩ := hc.call hr hlen hpu hfr
  refine hK v w' _ Z' ⟨h1, h3, h4, h5, ?_, ?_⟩
  · exact (hv.mono h2 (fun _ _ h => h) ⟨fun _ _ => rfl, (Frame.refl Zr μr w').m⟩).ren (callName d) h6
  · intro b hb
    rcases callMap_new hb with h | ⟨k, rfl, h⟩
    · exact .inl h
    · right
      obtain ⟨id, hid⟩ := Option.ne_none_iff_exists'.1 h
      obtain ⟨blk, g1, _⟩ := hr.heap k id hid
      have h0 : k ≠ 0 := by rintro rfl; simp [outHeap] at g1
      have g2 : bs[k - 1]? = some blk := by simpa [outHeap, h0] using g1
      simp only [List.mem_map, List.mem_mapIdx]
      refine ⟨_, ⟨k - 1, (List.getElem?_eq_some_iff.1 g2).1, rfl⟩, ?_⟩
      show callName d (k - 1 + 1) = callName d k
      congr 1; omega

theorem repFs_of_all {sz : Nat} : ∀ (l : List LV) (cs : List Value), (∀ x ∈ l, x.csize = sz) → RepAll Z μ w sz l cs → RepFs Z μ w l cs
  | [], cs, _, h => by simpa [RepAll, RepFs] using h
  | x :: xs, cs, hx, h => by
      simp only [RepAll, RepFs] at h ⊢
      obtain ⟨c1, c2, h1, h2, h3, h4⟩ := h
      exact ⟨c1, c2, h1, by rw [h2, hx x (by simp)], h3, repFs_of_all xs c2 (fun y hy => hx y (by simp [hy])) h4⟩
theorem all_of_repFs {sz : Nat} : ∀ (l : List LV) (cs : List Value), (∀ x ∈ l, x.csize = sz) → RepFs Z μ w l cs → RepAll Z μ w sz l cs
  | [], cs, _, h => by simpa [RepAll, RepFs] using h
  | x :: xs, cs, hx, h => by
      simp only [RepAll, RepFs] at h ⊢
      obtain ⟨c1, c2, h1, h2, h3, h4⟩ := h
      exact ⟨c1, c2, h1, by rw [h2, hx x (by simp)], h3, all_of_repFs xs c2 (fun y hy => hx y (by simp [hy])) h4⟩
theorem sumL_replicate (x : Nat × Bool) : ∀ n, sumL (List.replicate n x) = n * x.1
  | 0 => by simp [sumL]
  | n + 1 => by simp [List.replicate_succ, sumL, sumL_replicate x n, Nat.succ_mul]; omega
theorem buildL_lay : ∀ (qs : List (Nat × LV)) (zs : List LV) (n : Nat × Bool), (∀ x ∈ zs, lay x = n) → (∀ q ∈ qs, lay q.2 = n) → ∀ x ∈ buildL zs qs, lay x = n
  | [], zs, n, h, _ => h
  | q :: qs, zs, n, h, hq => by
      refine buildL_lay qs (zs.set q.1 q.2) n (fun x hx => ?_) (fun q' h' => hq q' (by simp [h']))
      rcases List.mem_or_eq_of_mem_set hx with hx | rfl
      · exact h x hx
      · exact hq q (by simp)
theorem lit_sound {T E : TypeId} {n : Nat} {ps : Array (Nat × Operand)} {z : LV} {sz : Nat} (hT : P.underlying T = some (.slice E)) (hz : ZeroOK P E z) (hE : TyIs P E sz z.isAgg) (hzs : z.csize = sz)
    (hn : n * sz ≤ 16777216) (h0 : 0 < n) (hs0 : 0 < sz) (hp : ∀ p ∈ ps.toList, p.1 < n ∧ lay (ρ p.2) = lay z ∧ ρ p.2 ≠ .any ∧ ∀ m, ρ p.2 ≠ .tup m)
    (hρ : ∀ p ∈ ps.toList, RepV Z μ w (ρ p.2) (a.eval p.2)) :
    ∃ cs, (Instr.buildSlice T n (ps.map fun (i, x) => (i, a.eval x))).run P w = .ok (.slice (some ⟨w.heap.size, 0, none⟩) n n) (w.alloc (.cells cs E)) ∧
      RepAll Z μ w sz (buildL (List.replicate n z) (ps.toList.map fun p => (p.1, ρ p.2))) cs.toList := by
  obtain ⟨i, zv, z1, z2, z3, z4⟩ := hz
  have hne := LV.pure_ne_any z3
  have hsz : i.size = sz := by have := hE.1; rw [z1] at this; simpa using this
  have hzl := Rep.len (z4 Z μ w) hne
  have hzs' : zv.cells.size = sz := by rw [← Array.length_toList, hzl, hzs]
  have hmade : (madeCells zv.cells (n * sz)).toList = (List.replicate n zv.cells.toList).flatten := by
    have := made_list zv.cells (by omega) n
    rwa [hzs'] at this
  have hall : RepAll Z μ w sz (List.replicate n z) (madeCells zv.cells (n * sz)).toList := by
    rw [hmade]; exact RepAll.replicate (z4 Z μ w) (by rw [hzl, hzs]) n
  have hcz : ∀ x ∈ List.replicate n z, x.csize = sz := fun x hx => by rw [(List.mem_replicate.1 hx).2, hzs]
  obtain ⟨cs, f1, f2⟩ := fill_sound (Z := Z) (μ := μ) (w := w) (ls := List.replicate n (lay z)) (fun k => some (k * sz, sz))
    (fun k m hk => by
      obtain ⟨h1, h2⟩ := List.getElem?_eq_some_iff.1 hk
      simp at h1 h2
      subst h2
      rw [List.take_replicate, sumL_replicate, Nat.min_eq_left (by omega)]
      simp [lay, hzs])
    (ps.toList.map fun p => (p.1, a.eval p.2)) (ps.toList.map fun p => (p.1, ρ p.2)) (List.replicate n z) (madeCells zv.cells (n * sz)) (by simp) (repFs_of_all _ _ hcz hall) (by simp)
    (fun j p q hp1 hq1 => by
      simp only [List.getElem?_map, Option.map_eq_some_iff] at hp1 hq1
      obtain ⟨x, hx, rfl⟩ := hp1
      obtain ⟨y, hy, rfl⟩ := hq1
      rw [hx] at hy; cases hy
      have hm := List.mem_of_getElem? hx
      obtain ⟨_, _, h3, h4⟩ := hp x hm
      exact ⟨RepV.to1 h4 h3 (hρ x hm), h3⟩)
    (fun q hq => by
      simp only [List.mem_map] at hq
      obtain ⟨x, hx, rfl⟩ := hq
      obtain ⟨h1, h2, _⟩ := hp x hx
      exact ⟨lay z, by simp [h1], h2⟩)
  refine ⟨cs, ?_, all_of_repFs _ _ (fun x hx => ?_) f2⟩
  · have hzv : (zeroValue E).run P w = .ok zv w := by simp [zeroValue, typeInfo, z1, z2]
    have hso : (sizeOf E).run P w = .ok sz w := run_sizeOf hE
    have hns : ¬ n * sz = 0 := by
      intro h; rcases Nat.mul_eq_zero.1 h with h | h <;> omega
    have hle : ¬ 2 ^ 24 < n * sz := by
      have : (2 : Nat) ^ 24 = 16777216 := by decide
      omega
    have hps : (Array.map (fun x => match x with | (i, x) => (i, a.eval x)) ps).toList = ps.toList.map fun p => (p.1, a.eval p.2) := by simp
    simp only [Instr.buildSlice, Sem.run_bind, run_underlying hT, Result.andThen_ok, hso, gt_iff_lt, hle, if_false, Sem.run_ite, hns, hzv, Sem.run_pure, hps]
    have hmk : (Array.range (n * sz)).map (fun x => zv.cells[x % zv.cells.size]!) = madeCells zv.cells (n * sz) := rfl
    rw [hmk, f1]
    rfl
  · have hb := buildL_lay (ps.toList.map fun p => (p.1, ρ p.2)) (List.replicate n z) (lay z) (fun x hx => by rw [(List.mem_replicate.1 hx).2]) (fun q hq => by
      simp only [List.mem_map] at hq
      obtain ⟨y, hy, rfl⟩ := hq
      exact (hp y hy).2.1) x hx
    have := congrArg Prod.fst hb
    simpa [lay, hzs] using this
theorem opA_sound {op : Op} {r : LV} {d : Nat} {blk : Blk} (hc : Core W X Z0 μ Z H w) (ho : OpA P ρ d op r blk) (hρ : ∀ x ∈ op.operands, RepV Z μ w (ρ x) (a.eval x))
    {m : Bool} (hH : H d = some ⟨blk.sz, blk.vals, m⟩) (hμ : μ d = none) (dst : Option Tmp) (ty : TypeId) (pos : String) (after : Array Edge) (g : Option (Nat × Bool)) :
    ∃ v w' μ' Z', (execOp a.eval ⟨dst, op, ty, pos, after, g⟩).run P w = .ok (.value v) w' ∧ After W X Z0 μ Z H w r [(d, blk)] v w' μ' Z' := by
  have hnew : ∀ id b, upd μ d id b ≠ none → μ b ≠ none ∨ b ∈ [(d, blk)].map (·.1) := fun id b h => by
    unfold upd at h
    split at h
    · subst_vars; right; simp
    · exact .inl h
  cases ho with
  | @make T E l c kl kc z sz by_ n cp hT hz hE hzs hb hl hcp hnm hm1 hm2 =>
    obtain ⟨i, zv, z1, z2, z3, z4⟩ := hz
    have e1 := hρ l (by simp [Op.operands]); rw [hl] at e1; have e1 := e1.v_eq
    have e2 := hρ c (by simp [Op.operands]); rw [hcp] at e2; have e2 := e2.v_eq
    have hne := LV.pure_ne_any z3
    have hsz : i.size = sz := by have := hE.1; rw [z1] at this; simpa using this
    have hby : i.bytes = by_ := by obtain ⟨i', g1, g2⟩ := hb; rw [z1] at g1; cases g1; exact g2
    have hzl := Rep.len (z4 Z μ w) hne
    have hzs' : zv.cells.size = sz := by rw [← Array.length_toList, hzl, hzs]
    have hr := run_make (P := P) w T E i zv hT z1 z2 kl kc (n : Int) (cp : Int) (by omega) (by omega) (by rw [hby]; omega) (by omega)
    simp only [Int.toNat_natCast, hsz] at hr
    obtain ⟨part, rest, p1, p2⟩ := repAll_replicate_split (sz := sz) (z4 Z μ w) (by rw [hzl, hzs]) n cp hnm
    have hcells : (madeCells zv.cells (cp * sz)).toList = part ++ rest := by
      by_cases hpos : 0 < zv.cells.size
      · rw [← hzs', made_list _ hpos, p1]
      · have : sz = 0 := by omega
        rw [← p1, this]
        have h0 : zv.cells.toList = [] := by
          apply List.eq_nil_of_length_eq_zero; rw [Array.length_toList]; omega
        simp [madeCells, h0]
    obtain ⟨Z', h1, h2, h3, h4, h5, h6⟩ := hc.push hH hμ (Pushed.alloc w (.cells (madeCells zv.cells (cp * sz)) E)) hcells p2
    refine ⟨_, _, _, Z', by simp only [execOp, e1, e2]; rw [Sem.run_bind, hr]; rfl, h1, h2, h3, h4, ⟨by simp [LV.isAgg], fun _ => ?_⟩, hnew _⟩
    simp only [Rep]
    exact .inr ⟨w.heap.size, cp, _, E, (0, 0), by simp, h5, hnm, h6, by rw [size_madeCells]; simp⟩
  | @lit T E n ps z sz hT hz hE hzs hn h0 hs0 hp =>
    have hpm : ∀ p ∈ ps.toList, RepV Z μ w (ρ p.2) (a.eval p.2) := fun p hp => hρ p.2 (by simp [Op.operands]; exact ⟨p.1, by simpa using hp⟩)
    obtain ⟨cs, r1, r2⟩ := lit_sound (P := P) (Z := Z) (μ := μ) (w := w) (a := a) hT hz hE hzs hn h0 hs0 hp hpm
    obtain ⟨Z', h1, h2, h3, h4, h5, h6⟩ := hc.push hH hμ (Pushed.alloc w (.cells cs E)) (List.append_nil _).symm r2
    refine ⟨_, _, _, Z', by simp only [execOp]; rw [Sem.run_bind, r1]; rfl, h1, h2, h3, h4, ⟨by simp [LV.isAgg], fun _ => ?_⟩, hnew _⟩
    simp only [Rep]
    have hl := RepAll.length _ _ r2
    have hbl : (buildL (List.replicate n z) (ps.toList.map fun p => (p.1, ρ p.2))).length = n := by
      have : ∀ (qs : List (Nat × LV)) (zs : List LV), (buildL zs qs).length = zs.length := fun qs => by
        induction qs with
        | nil => intro zs; rfl
        | cons q qs ih => intro zs; exact (ih _).trans (by simp)
      rw [this]; simp
    exact .inr ⟨w.heap.size, n, cs, E, (0, 0), by simp, h5, Nat.le_refl _, h6, by rw [← Array.length_toList, hl, hbl]; simp⟩
  | @lit0 T E sz ag hT hE =>
    obtain ⟨Z', h1, h2, h3, h4, h5, h6⟩ := hc.push hH hμ (Pushed.alloc w (.cells #[] E)) (part := []) (rest := []) rfl (by simp [RepAll])
    refine ⟨_, _, _, Z', by simp [execOp, Instr.buildSlice, run_underlying hT, run_sizeOf hE, Instr.fill, newRow, show (Array.map (fun _ : Nat => (default : Value)) (Array.range 0)) = #[] from by apply Array.ext'; simp]; exact rfl, h1, h2, h3, h4, ⟨by simp [LV.isAgg], fun _ => ?_⟩, hnew _⟩
    simp only [Rep]
    exact .inr ⟨w.heap.size, 0, #[], E, (0, 0), by rw [Nat.zero_mul], h5, Nat.le_refl _, h6, by simp⟩
  | @box T x hne =>
    have e1 := hρ x (by simp [Op.operands])
    obtain ⟨c1, c2, _, _⟩ := (RepV.to1 hne.2 hne.1 e1).cells hne.1
    have hrep : RepAll Z μ w (ρ x).csize [ρ x] (a.eval x).cells.toList := by
      simp only [RepAll]
      exact ⟨_, [], by simp, by simp [c2], c1, rfl⟩
    obtain ⟨Z', h1, h2, h3, h4, h5, h6⟩ := hc.push (T := T) (c := (a.eval x).cells) hH hμ (Pushed.alloc w _) (List.append_nil _).symm hrep
    refine ⟨_, _, _, Z', by simp only [execOp, Instr.box, newVar, newRow, Sem.run_bind, run_newObj, Result.andThen_ok, Sem.run_pure]; rfl, h1, h2, h3, h4, ⟨by simp [LV.isAgg], fun _ => ?_⟩, hnew _⟩
    simp only [Rep]
    exact ⟨w.heap.size, by simp, h5⟩
  | @alloc T z hz =>
    obtain ⟨i, zv, z1, z2, z3, z4⟩ := hz
    have hne := LV.pure_ne_any z3
    have hzl := Rep.len (z4 Z μ w) hne
    have hrep : RepAll Z μ w z.csize [z] zv.cells.toList := by
      simp only [RepAll]
      exact ⟨_, [], by simp, by simpa using hzl, z4 Z μ w, rfl⟩
    obtain ⟨Z', h1, h2, h3, h4, h5, h6⟩ := hc.push (T := T) (c := zv.cells) hH hμ (Pushed.alloc w _) (List.append_nil _).symm hrep
    have hzv : (zeroValue T).run P w = .ok zv w := by simp [zeroValue, typeInfo, z1, z2]
    refine ⟨_, _, _, Z', by simp only [execOp, Instr.alloc, newVar, newRow, Sem.run_bind, hzv, run_newObj, Result.andThen_ok, Sem.run_pure]; rfl, h1, h2, h3, h4, ⟨by simp [LV.isAgg], fun _ => ?_⟩, hnew _⟩
    simp only [Rep]
    exact ⟨w.heap.size, by simp, h5⟩

theorem opC_sound {op : Op} {r : LV} {d : Nat} {bs : List Blk} (hc : Core W X Z0 μ Z H w) (ho : OpC P H ρ d op r bs) (hρ : ∀ x ∈ op.operands, RepV Z μ w (ρ x) (a.eval x))
    (hfr : ∀ i blk, bs[i]? = some blk → ∃ m, H (callName d (i + 1)) = some ⟨blk.sz, blk.vals, m⟩ ∧ (blk.mt = false → m = false) ∧ μ (callName d (i + 1)) = none)
    (dst : Option Tmp) (ty : TypeId) (pos : String) (after : Array Edge) (g : Option (Nat × Bool)) {K : Act → World → Prop} {Q : Exit → Act → World → Prop}
    (hK : ∀ v w' μ' Z', After W X Z0 μ Z H w r (bs.mapIdx fun i blk => (callName d (i + 1), blk)) v w' μ' Z' → K (a.put dst v) w') :
    (⟨dst, op, ty, pos, after, g⟩ : Oper).wp P a w K Q := by
  cases ho with
  | @func f xs as args r bs ha hk hlen hpu =>
    have hargs := immL_args (a := a) hc xs.toList args ha (fun x hx => hρ x (by simp [Op.operands, Call.operands]; right; simpa using hx))
    refine call_sound (vs := xs.map a.eval) hc hk hlen hpu (by simpa using hargs) hfr ?_ hK
    simp only [execOp, resolve, Act.eval, Deferred.ofValue, Sem.run_bind, Sem.run_pure, Result.andThen_ok, invoke]
    have := callFunc_run (P := P) (w := w) (args := xs.map a.eval) hk.1
    simpa using this
  | @clo t f cap xs as args r bs ht ha hcap hk hlen hpu =>
    have hargs := immL_args (a := a) hc xs.toList args ha (fun x hx => hρ x (by simp [Op.operands, Call.operands]; right; simpa using hx))
    have e1 := hρ (.tmp t) (by simp [Op.operands, Call.operands])
    rw [ht] at e1
    have e2 := e1.2 rfl
    simp only [Rep] at e2
    obtain ⟨cv, q1, q2, _⟩ := e2
    simp only [List.cons.injEq, and_true] at q1
    have hcv := repVL_of_all1 (μ' := fun _ => none) cap cv.toList hcap.1 hcap.2 q2
    refine call_sound (vs := xs.map a.eval ++ cv) hc hk hlen hpu (by simpa using RepVL.append _ _ _ _ hargs hcv) hfr ?_ hK
    have := callFunc_run (P := P) (w := w) (args := xs.map a.eval ++ cv) hk.1
    simp only [execOp, resolve, q1, Deferred.ofValue, Sem.run_bind, Sem.run_pure, Result.andThen_ok, invoke]
    simpa using this
  | @mk f xs caps ha h1 =>
    have hargs := immL_args (a := a) hc xs.toList caps ha (fun x hx => hρ x (by simp [Op.operands]; simpa using hx))
    have hp := (ImmL.lay ha).2
    have hrun : (execOp a.eval ⟨dst, .makeFunc (.func f) #[] xs, ty, pos, after, g⟩).run P w = .ok (.value (.func (.func f) #[] (xs.map a.eval))) w := by
      simp [execOp, Instr.makeFunc]
    unfold Oper.wp
    rw [hrun, Oper.upon_value]
    refine hK _ w μ Z ⟨hc, fun _ h => h, fun _ _ h => h, Frame.refl _ _ _, ⟨by simp [LV.isAgg], fun _ => ?_⟩, fun b h => .inl h⟩
    simp only [Rep]
    exact ⟨_, rfl, all1_of_repVL caps _ hp h1 (by simpa using hargs), hp⟩

theorem OpV.sound {op : Op} {r : LV} {d : Nat} {fr : List (Nat × Blk)} (hc : Core W X Z0 μ Z H w) (ho : OpV P H ρ d op r fr) (hρ : ∀ x ∈ op.operands, RepV Z μ w (ρ x) (a.eval x))
    (hfr : ∀ b blk, (b, blk) ∈ fr → ∃ m, H b = some ⟨blk.sz, blk.vals, m⟩ ∧ (blk.mt = false → m = false) ∧ μ b = none)
    (dst : Option Tmp) (ty : TypeId) (pos : String) (after : Array Edge) (g : Option (Nat × Bool)) {K : Act → World → Prop} {Q : Exit → Act → World → Prop}
    (hK : ∀ v w' μ' Z', After W X Z0 μ Z H w r fr v w' μ' Z' → K (a.put dst v) w') :
    (⟨dst, op, ty, pos, after, g⟩ : Oper).wp P a w K Q := by
  cases ho with
  | pure h =>
    obtain ⟨v, h1, h2⟩ := h.sound hρ hc.heap dst ty pos after g
    unfold Oper.wp
    rw [h1, Oper.upon_value]
    exact hK v w μ Z ⟨hc, fun _ h => h, fun _ _ h => h, Frame.refl _ _ _, h2, fun b h => .inl h⟩
  | @alloc blk h =>
    obtain ⟨m, g1, _, g3⟩ := hfr d blk (by simp)
    obtain ⟨v, w', μ', Z', h1, h2⟩ := opA_sound hc h hρ g1 g3 dst ty pos after g
    unfold Oper.wp
    rw [h1, Oper.upon_value]
    exact hK v w' μ' Z' h2
  | @call bs h =>
    refine opC_sound hc h hρ (fun i blk hb => hfr _ blk ?_) dst ty pos after g hK
    rw [List.mem_mapIdx]
    obtain ⟨h1, h2⟩ := List.getElem?_eq_some_iff.1 hb
    exact ⟨i, h1, by rw [h2]⟩
end
end Go.Lg
namespace Go.Lg

mutual
def LV.kill (b : Nat) : LV → LV
  | .ref c sz off len => if c = b then .any else .ref c sz off len
  | .eptr c sz i o => if c = b then .any else .eptr c sz i o
  | .agg l => .agg (kills b l)
  | .tup l => .tup (kills b l)
  | .any => .any
  | .v x => .v x
  | .list sz l => .list sz l
  | .boxp c => .boxp c
  | .clo f l => .clo f l
def kills (b : Nat) : List LV → List LV
  | [] => []
  | x :: xs => x.kill b :: kills b xs
end
mutual
theorem LV.kill_csize (b : Nat) : ∀ (x : LV), (x.kill b).csize = x.csize
  | .any => rfl | .v _ => rfl | .list .. => rfl | .boxp _ => rfl | .clo .. => rfl
  | .tup _ => rfl
  | .ref c sz off len => by simp only [LV.kill]; split <;> rfl
  | .eptr c sz i o => by simp only [LV.kill]; split <;> rfl
  | .agg l => by simp only [LV.kill, LV.csize, kills_csize b l]
theorem kills_csize (b : Nat) : ∀ (l : List LV), csizes (kills b l) = csizes l
  | [] => rfl
  | x :: xs => by simp only [kills, csizes, LV.kill_csize b x, kills_csize b xs]
end
theorem LV.kill_isAgg (b : Nat) (x : LV) : (x.kill b).isAgg = x.isAgg := by
  cases x with
  | ref c sz off len => simp only [LV.kill]; split <;> rfl
  | eptr c sz i o => simp only [LV.kill]; split <;> rfl
  | _ => rfl
mutual
theorem LV.kill_pure (b : Nat) : ∀ (x : LV), x.pure = true → x.kill b = x
  | .any, _ => rfl
  | .v _, _ => rfl
  | .list sz l, _ => rfl
  | .agg l, h => by simp only [LV.kill, kills_pure b l (by simpa [LV.pure] using h)]
  | .ref .., h => by simp [LV.pure] at h
  | .eptr .., h => by simp [LV.pure] at h
  | .boxp c, _ => rfl
  | .clo g l, _ => rfl
  | .tup l, h => by simp [LV.pure] at h
theorem kills_pure (b : Nat) : ∀ (l : List LV), pures l = true → kills b l = l
  | [], _ => rfl
  | x :: xs, h => by simp only [kills, LV.kill_pure b x (pure_cons h).1, kills_pure b xs (pure_cons h).2]
end

section
variable {Z Z' : Nat → Prop} {μ μ' : Nat → Option Nat} {w w' : World} {b : Nat}
mutual
theorem Rep.kill (hz : ∀ id, Z id → Z' id) (hm : ∀ c id, c ≠ b → μ c = some id → μ' c = some id) (hf : Frame Z μ w w') :
    ∀ (lv : LV) (cs : List Value), Rep Z μ w lv cs → Rep Z' μ' w' (lv.kill b) cs
  | .any, _, h => by simpa [Rep, LV.kill] using h
  | .v x, cs, h => by simpa [Rep, LV.kill] using h
  | .list sz l, cs, h => by
      have hp : (LV.list sz l).pure = true := by
        simp only [Rep] at h
        obtain ⟨a, len, cap, _, _, _, _, h9⟩ := h
        simpa [LV.pure] using h9
      exact Rep.repure hz hf.z _ _ hp h
  | .agg l, cs, h => by
      simp only [Rep, LV.kill] at h ⊢
      exact RepFs.kill hz hm hf l cs h
  | .ref c sz off len, cs, h => by
      simp only [LV.kill]
      split
      · exact fun u hu => Rep.one _ _ h u hu
      · rename_i hne
        simp only [Rep] at h ⊢
        rcases h with h | ⟨id, cap, c', T, fz, h1, h2, h3, h4, h5⟩
        · exact .inl h
        obtain ⟨c2, h6, h7⟩ := hf.m c id h2 c' T fz h4
        exact .inr ⟨id, cap, c2, T, fz, h1, hm _ _ hne h2, h3, h6, by omega⟩
  | .eptr c sz i o, cs, h => by
      simp only [LV.kill]
      split
      · exact fun u hu => Rep.one _ _ h u hu
      · rename_i hne
        simp only [Rep] at h ⊢
        obtain ⟨id, h1, h2⟩ := h
        exact ⟨id, h1, hm _ _ hne h2⟩
  | .boxp c, cs, h => by
      have hp : (LV.boxp c).pure = true := by
        simp only [Rep] at h
        obtain ⟨blk, off, cc, T, fz, part, rest, _, _, _, _, _, _, h7⟩ := h
        simpa [LV.pure] using h7
      exact Rep.repure hz hf.z _ _ hp h
  | .clo f cap, cs, h => by
      have hp : (LV.clo f cap).pure = true := by
        simp only [Rep] at h
        obtain ⟨vs, _, _, h3⟩ := h
        simpa [LV.pure] using h3
      exact Rep.repure hz hf.z _ _ hp h
  | .tup _, _, h => by simp [Rep] at h
theorem RepFs.kill (hz : ∀ id, Z id → Z' id) (hm : ∀ c id, c ≠ b → μ c = some id → μ' c = some id) (hf : Frame Z μ w w') :
    ∀ (l : List LV) (cs : List Value), RepFs Z μ w l cs → RepFs Z' μ' w' (kills b l) cs
  | [], cs, h => by simpa [RepFs, kills] using h
  | x :: xs, cs, h => by
      simp only [RepFs, kills] at h ⊢
      obtain ⟨c1, c2, h1, h2, h3, h4⟩ := h
      exact ⟨c1, c2, h1, by rw [LV.kill_csize]; exact h2, Rep.kill hz hm hf x c1 h3, RepFs.kill hz hm hf xs c2 h4⟩
end
theorem RepAll.kill {sz : Nat} (hz : ∀ id, Z id → Z' id) (hm : ∀ c id, c ≠ b → μ c = some id → μ' c = some id) (hf : Frame Z μ w w') :
    ∀ (l : List LV) (cs : List Value), RepAll Z μ w sz l cs → RepAll Z' μ' w' sz (kills b l) cs
  | [], cs, h => by simpa [RepAll, kills] using h
  | x :: xs, cs, h => by
      simp only [RepAll, kills] at h ⊢
      obtain ⟨c1, c2, h1, h2, h3, h4⟩ := h
      exact ⟨c1, c2, h1, h2, Rep.kill hz hm hf x c1 h3, RepAll.kill hz hm hf xs c2 h4⟩
theorem RepV1.kill (hz : ∀ id, Z id → Z' id) (hm : ∀ c id, c ≠ b → μ c = some id → μ' c = some id) (hf : Frame Z μ w w') {lv : LV} {v : Value}
    (h : RepV1 Z μ w lv v) : RepV1 Z' μ' w' (lv.kill b) v :=
  ⟨fun e => let ⟨cs, h1, h2⟩ := h.1 (by rwa [LV.kill_isAgg] at e); ⟨cs, h1, Rep.kill hz hm hf _ _ h2⟩, fun e => Rep.kill hz hm hf _ _ (h.2 (by rwa [LV.kill_isAgg] at e))⟩
theorem RepVL.kill (hz : ∀ id, Z id → Z' id) (hm : ∀ c id, c ≠ b → μ c = some id → μ' c = some id) (hf : Frame Z μ w w') :
    ∀ (l : List LV) (vs : List Value), RepVL Z μ w l vs → RepVL Z' μ' w' (kills b l) vs
  | [], _, h => h
  | _ :: xs, _, ⟨v, vs', h1, h2, h3⟩ => ⟨v, vs', h1, h2.kill hz hm hf, RepVL.kill hz hm hf xs vs' h3⟩
theorem RepV.kill (hz : ∀ id, Z id → Z' id) (hm : ∀ c id, c ≠ b → μ c = some id → μ' c = some id) (hf : Frame Z μ w w') {lv : LV} {v : Value}
    (h : RepV Z μ w lv v) : RepV Z' μ' w' (lv.kill b) v := by
  cases lv with
  | tup l => obtain ⟨vs, h1, h2⟩ := h; exact ⟨vs, h1, RepVL.kill hz hm hf _ _ h2⟩
  | any => trivial
  | _ =>
    refine RepV.of1 (fun l e => ?_) (RepV1.kill hz hm hf h)
    simp only [LV.kill] at e
    first
      | cases e
      | (split at e <;> cases e)
end

structure St where
  slot : Nat → LV
  heap : Heap

def St.ev (L : St) : Operand → LV
  | .tmp t => L.slot t
  | .const v => if v.oneCell' then .v v else .any
  | .func f => .clo f []
  | .global _ => .any
def St.put (L : St) (d : Option Nat) (r : LV) : St :=
  match d with
  | some t => ⟨fun s => bif Nat.beq s t then r else L.slot s, L.heap⟩
  | none => L
theorem put_slot (L : St) (t : Nat) (r : LV) (s : Nat) : (L.put (some t) r).slot s = if s = t then r else L.slot s := by
  show (bif Nat.beq s t then r else L.slot s) = _
  by_cases h : s = t
  · subst h; simp
  · have : Nat.beq s t = false := by rw [← Bool.not_eq_true, Nat.beq_eq]; exact h
    rw [this, if_neg h]; rfl
def St.setB (L : St) (b : Nat) (x : Option Blk) : St := ⟨L.slot, fun c => if c = b then x else L.heap c⟩
def St.kill (L : St) (b : Nat) : St :=
  ⟨fun t => (L.slot t).kill b, fun c => if c = b then none else (L.heap c).map fun blk => ⟨blk.sz, kills b blk.vals, blk.mt⟩⟩

def Sim (n : Nat) (W : World) (X Z0 : Nat → Prop) (L : St) (a : Act) (w : World) : Prop :=
  a.defers = [] ∧ a.tmps.size = n ∧ ∃ μ Z, Core W X Z0 μ Z L.heap w ∧ ∀ t, RepV Z μ w (L.slot t) (a.tmps.getD t undef)

/-- arguments of a call that writes the block b -/
inductive ArgM (H : Heap) (b : Nat) : LV → LV → Prop
  | imm {x y} (h : Imm H x y) : ArgM H b x y
  | ref {sz off len} : ArgM H b (.ref b sz off len) (.ref 0 sz off len)
  | ptr {sz i o} : ArgM H b (.eptr b sz i o) (.eptr 0 sz i o)
inductive ArgML (H : Heap) (b : Nat) : List LV → List LV → Prop
  | nil : ArgML H b [] []
  | cons {x y xs ys} (h : ArgM H b x y) (t : ArgML H b xs ys) : ArgML H b (x :: xs) (y :: ys)

/-- some argument names the block -/
inductive Names (b : Nat) : List LV → Prop
  | ref {sz off len xs} (h : 0 < len) : Names b (.ref b sz off len :: xs)
  | ptr {sz i o xs} : Names b (.eptr b sz i o :: xs)
  | tl {x xs} (h : Names b xs) : Names b (x :: xs)

/-- A call that writes a block of the caller's. -/
inductive OpM (P : Program) (L : St) (dst : Option Tmp) : Op → St → Prop
  | call {f xs as args r b blk blk'} (hb : L.heap b = some blk) (hm : blk.mt = true) (hp : pures blk.vals = true) (ha : ArgML L.heap b (xs.toList.map L.ev) args) (hn : Names b (xs.toList.map L.ev)) (hk : CallOKM P f blk args r blk')
      (hm' : blk'.mt = true) (hp' : pures blk'.vals = true) :
      OpM P L dst (.call ⟨.value (.func f), xs, as⟩) ((L.setB b (some blk')).put dst (r.ren fun _ => b))

/-- Operations that change a block. -/
inductive OpT (P : Program) (L : St) (dst : Option Tmp) : Op → St → Prop
  | store {T p x b sz i o blk y y'} (hp : L.ev p = .eptr b sz i o) (hb : L.heap b = some blk) (hs : blk.sz = sz) (hm : blk.mt = true) (hi : blk.vals[i]? = some y) (hy : y.csize = sz)
      (hput : y.put o (L.ev x) = some y') (hT : TyIs P T (L.ev x).csize (L.ev x).isAgg) (hne : L.ev x ≠ .any ∧ ∀ l, L.ev x ≠ .tup l) :
      OpT P L dst (.store T p x) ((L.setB b (some ⟨sz, blk.vals.set i y', true⟩)).put dst .any)
  /-- append to a slice of the call's own -/
  | app {T U E E' d b sz len blk x y news z by_} (hd : dst = some d) (hx : L.ev x = .ref b sz 0 len) (hb : L.heap b = some blk) (hs : blk.sz = sz) (hm : blk.mt = true) (hlen : len ≤ blk.vals.length) (hbd : d = b ∨ L.heap d = none) (hb0 : b ≠ 0)
      (hT : P.underlying T = some (.slice E)) (hU : P.underlying U = some (.slice E')) (hz : ZeroOK P E z) (hE : TyIs P E sz z.isAgg) (hzs : z.csize = sz) (hby : TyBytes P E by_)
      (hy : (∃ c off blk2, L.ev y = .ref c sz off news.length ∧ c ≠ b ∧ L.heap c = some blk2 ∧ blk2.sz = sz ∧ off + news.length ≤ blk2.vals.length ∧ news = (blk2.vals.drop off).take news.length ∧ pures news = true) ∨
        L.ev y = .list sz news ∨ (L.ev y = .v (.slice none 0 0) ∧ news = []))
      (hsz : (len + news.length) * by_ ≤ 140737488355328) (h63 : len + news.length ≤ 4611686018427387904) (hs0 : 0 < sz) :
      OpT P L dst (.call ⟨.builtin .append, #[x, y], #[T, U]⟩) (((L.kill b).setB d (some ⟨sz, kills b (blk.vals.take len ++ news), true⟩)).put dst (.ref d sz 0 (len + news.length)))
  /-- append to the nil slice -/
  | app0 {T U E E' d sz x y news z by_} (hd : dst = some d) (hx : L.ev x = .v (.slice none 0 0)) (hbd : L.heap d = none)
      (hT : P.underlying T = some (.slice E)) (hU : P.underlying U = some (.slice E')) (hz : ZeroOK P E z) (hE : TyIs P E sz z.isAgg) (hzs : z.csize = sz) (hby : TyBytes P E by_)
      (hy : (∃ c off blk2, L.ev y = .ref c sz off news.length ∧ L.heap c = some blk2 ∧ blk2.sz = sz ∧ off + news.length ≤ blk2.vals.length ∧ news = (blk2.vals.drop off).take news.length ∧ pures news = true) ∨
        L.ev y = .list sz news)
      (hn : 0 < news.length) (hsz : news.length * by_ ≤ 140737488355328) (h63 : news.length ≤ 4611686018427387904) (hs0 : 0 < sz) :
      OpT P L dst (.call ⟨.builtin .append, #[x, y], #[T, U]⟩) ((L.setB d (some ⟨sz, news, true⟩)).put dst (.ref d sz 0 news.length))

section
variable {P : Program} {W w w' : World} {X Z0 Z : Nat → Prop} {μ : Nat → Option Nat} {H : Heap} {a : Act} {L L' : St} {n : Nat}

theorem undef_one : undef.oneCell' = false := rfl
theorem ev_rep (h : ∀ t, RepV Z μ w (L.slot t) (a.tmps.getD t undef)) (x : Operand) : RepV Z μ w (L.ev x) (a.eval x) := by
  cases x with
  | tmp t => exact h t
  | const v =>
    simp only [St.ev, Act.eval]
    split
    · exact RepV.v (by assumption)
    · trivial
  | func f =>
    simp only [St.ev, Act.eval]
    exact ⟨by simp [LV.isAgg], fun _ => by simp [Rep, RepAll, pures]⟩
  | global g => simp only [St.ev]; trivial

theorem put_rep {d : Option Nat} {r : LV} {v : Value} (hd : ∀ t, d = some t → t < a.tmps.size) (h : ∀ t, RepV Z μ w (L.slot t) (a.tmps.getD t undef)) (hv : RepV Z μ w r v) :
    ∀ t, RepV Z μ w ((L.put d r).slot t) ((a.put d v).tmps.getD t undef) := by
  intro t
  cases d with
  | none => exact h t
  | some s =>
    rw [put_slot]
    simp only [Act.put]
    by_cases hts : t = s
    · subst hts
      have := hd t rfl
      simp [this]
      exact hv
    · have := h t
      simp only [hts, if_false, Array.getD_eq_getD_getElem?, Array.getElem?_setIfInBounds_ne (Ne.symm hts)] at this ⊢
      exact this
theorem put_size (a : Act) (d : Option Nat) (v : Value) : (a.put d v).tmps.size = a.tmps.size := by cases d <;> simp [Act.put]
theorem put_defers (a : Act) (d : Option Nat) (v : Value) : (a.put d v).defers = a.defers := by cases d <;> rfl
theorem put_heap (L : St) (d : Option Nat) (r : LV) : (L.put d r).heap = L.heap := by cases d <;> rfl
end
end Go.Lg
namespace Go.Lg
section
variable {P : Program} {W w w' : World} {X Z0 Z : Nat → Prop} {μ : Nat → Option Nat} {H : Heap} {a : Act} {L L' : St} {n : Nat}

/-- a block of the call's own gets other cells, as many as before -/
theorem Core.rewrite {b id : Nat} {blk blk' : Blk} {c c' : Array Value} {T : TypeId} {part rest : List Value} (hc : Core W X Z0 μ Z H w) (hb : μ b = some id) (hH : H b = some blk) (hm : blk.mt = true) (hm' : blk'.mt = true)
    (hcell : w.heap[id]? = some (.cells c T (0, 0))) (hsz : c'.size = c.size) (h1 : c'.toList = part ++ rest) (h2 : RepAll Z μ w blk'.sz blk'.vals part)
    (hw : w' = w.setRow id c') :
    Core W X Z0 μ Z (fun k => if k = b then some blk' else H k) w' ∧ Frame Z μ w w' := by
  subst hw
  have hself : (w.setRow id c').heap[id]? = some (.cells c' T (0, 0)) := setRow_heap w id c c' T (0, 0) hcell
  have hother : ∀ k, k ≠ id → (w.setRow id c').heap[k]? = w.heap[k]? := fun k hk => by
    simp only [World.setRow, Array.getElem?_modify, if_neg (Ne.symm hk)]
  have hsize : (w.setRow id c').heap.size = w.heap.size := by simp [World.setRow]
  have hnz : ¬ Z id := hc.mutz b id blk hb hH hm
  have hfr : Frame Z μ w (w.setRow id c') := by
    refine ⟨fun k hk => hother k (fun e => hnz (e ▸ hk)), fun b' k hk cc T' fz hcc => ?_⟩
    by_cases e : k = id
    · subst e
      rw [hcell] at hcc; cases hcc
      exact ⟨c', hself, hsz⟩
    · exact ⟨cc, (hother k e).trans hcc, rfl⟩
  refine ⟨⟨?_, fun k hk => by rw [hsize]; exact hc.zone k hk, hc.zsup, hc.zsub, hc.inj, hc.own, hc.x0, hc.xlt, hc.x1, ?_, ?_, ?_⟩, hfr⟩
  · refine ⟨hc.keep.os, hc.keep.tape, hc.keep.output, by rw [hsize]; exact hc.keep.size, fun k hk hx => ?_, fun k hx c0 T0 fz0 h0 => ?_⟩
    have : k ≠ id := by
      rintro rfl
      rcases hc.own b k hb with h | h
      · omega
      · exact hx h
    exact (hother k this).trans (hc.keep.block k hk hx)
    obtain ⟨c1, g1, g2⟩ := hc.keep.xsz k hx c0 T0 fz0 h0
    by_cases e : k = id
    · subst e
      rw [hcell] at g1; cases g1
      exact ⟨c', hself, hsz.trans g2⟩
    · exact ⟨c1, (hother k e).trans g1, g2⟩
  · intro b' k bk h g hmt
    by_cases e : b' = b
    · subst e; rw [hb] at h; cases h; exact hnz
    · rw [if_neg e] at g; exact hc.mutz b' k bk h g hmt
  · intro b' k bk h g hmt
    by_cases e : b' = b
    · subst e; rw [if_pos rfl] at g; cases g; rw [hm'] at hmt; cases hmt
    · rw [if_neg e] at g; exact hc.frz b' k bk h g hmt
  · intro b' k h
    by_cases e : b' = b
    · subst e; rw [hb] at h; cases h
      exact ⟨blk', if_pos rfl, c', T, part, rest, hself, h1, h2.mono (fun _ h => h) (fun _ _ h => h) hfr⟩
    · obtain ⟨bk, g1, g2⟩ := hc.heap b' k h
      have hne : k ≠ id := fun e' => e (hc.inj b' b k h (e' ▸ hb))
      exact ⟨bk, by rw [if_neg e]; exact g1, g2.mono (fun _ h => h) (fun _ _ h => h) hfr (hother k hne)⟩

theorem run_storeVar_at {T : TypeId} {id off : Nat} {c : Array Value} {U : TypeId} {v : Value} {sz : Nat} {ag : Bool} (hT : TyIs P T sz ag) (hcell : w.heap[id]? = some (.cells c U (0, 0)))
    (hv : v.cells.size = sz) (h1 : ∀ u ∈ v.cells.toList, u.oneCell' = true) (hfit : off + sz ≤ c.size) :
    (storeVar T ⟨id, off, none⟩ v).run P w = .ok () (w.setRow id (c.toList.take off ++ v.cells.toList ++ c.toList.drop (off + sz)).toArray) := by
  have := run_storeCells_at P id off U v.cells.toList 0 c w hcell (by simp; omega) h1
  simp only [storeVar, Sem.run_bind, run_sizeOf hT, Result.andThen_ok, hv, ne_eq, not_true_eq_false, if_false, Sem.run_ite]
  simpa [hv] using this

theorem store_sound {T : TypeId} {p x : Operand} {b sz i o : Nat} {blk : Blk} {y y' : LV} (hc : Core W X Z0 μ Z L.heap w) (hr : ∀ t, RepV Z μ w (L.slot t) (a.tmps.getD t undef))
    (hp : L.ev p = .eptr b sz i o) (hb : L.heap b = some blk) (hs : blk.sz = sz) (hm : blk.mt = true) (hi : blk.vals[i]? = some y) (hy : y.csize = sz)
    (hput : y.put o (L.ev x) = some y') (hT : TyIs P T (L.ev x).csize (L.ev x).isAgg) (hne : L.ev x ≠ .any ∧ ∀ l, L.ev x ≠ .tup l)
    (dst : Option Tmp) (ty : TypeId) (pos : String) (after : Array Edge) (g : Option (Nat × Bool)) :
    ∃ w', (execOp a.eval ⟨dst, .store T p x, ty, pos, after, g⟩).run P w = .ok .skip w' ∧ Core W X Z0 μ Z (L.setB b (some ⟨sz, blk.vals.set i y', true⟩)).heap w' ∧ Frame Z μ w w' := by
  have e1 := ev_rep (L := L) hr p
  rw [hp] at e1
  have e2 := e1.2 rfl
  simp only [Rep] at e2
  obtain ⟨id, h1, h2⟩ := e2
  simp only [List.cons.injEq, and_true] at h1
  obtain ⟨blk', hb', c, U, part, rest, q1, q2, q3⟩ := hc.heap b id h2
  rw [hb] at hb'; cases hb'
  obtain ⟨c1, c2, c3, _⟩ := (RepV.to1 hne.2 hne.1 (ev_rep (L := L) hr x)).cells hne.1
  obtain ⟨pre, ch, post, g1, g2, g3, g4, g5⟩ := RepAll.get blk.vals part i y q3 hi
  obtain ⟨pre2, ch2, post2, j1, j2, j3, j4, j5⟩ := LV.put_spec (L.ev x) (a.eval x).cells.toList c1 (by simpa using c2) y o y' ch hput g4 (by rw [g3, hs, hy])
  have hset := g5 y' _ j4 (by
    have := congrArg List.length j1
    simp only [List.length_append] at this ⊢
    omega)
  have hlen : c.toList.length = pre.length + (pre2.length + (ch2.length + post2.length) + post.length) + rest.length := by
    rw [q2, g1, j1]; simp; omega
  have hfit : i * sz + o + (L.ev x).csize ≤ c.size := by
    rw [← Array.length_toList, hlen]
    rw [hs] at g2
    have : ch2.length = (L.ev x).csize := by rw [j3]; simpa using c2
    omega
  have hrun := run_storeVar_at (P := P) (id := id) (off := i * sz + o) hT q1 c2 c3 hfit
  have hnew : (c.toList.take (i * sz + o) ++ (a.eval x).cells.toList ++ c.toList.drop (i * sz + o + (L.ev x).csize)) = (pre ++ ((pre2 ++ ((a.eval x).cells.toList ++ post2)) ++ post)) ++ rest := by
    rw [q2, g1, j1]
    have hl1 : i * sz + o = (pre ++ pre2).length := by rw [hs] at g2; simp; omega
    have hl2 : (L.ev x).csize = ch2.length := by rw [j3]; simpa using c2.symm
    rw [hl1, hl2]
    have e : (pre ++ (pre2 ++ (ch2 ++ post2) ++ post)) ++ rest = (pre ++ pre2) ++ (ch2 ++ (post2 ++ (post ++ rest))) := by simp
    rw [e, List.take_left]
    have e2 : List.drop ((pre ++ pre2).length + ch2.length) ((pre ++ pre2) ++ (ch2 ++ (post2 ++ (post ++ rest)))) = post2 ++ (post ++ rest) := by
      rw [← List.drop_drop, List.drop_left, List.drop_left]
    rw [e2]; simp
  rw [hnew] at hrun
  have hcs : c.size = c.toList.length := Array.length_toList.symm
  have hA : (a.eval x).cells.toList.length = ch2.length := j3.symm
  obtain ⟨k1, k2⟩ := Core.rewrite (w' := w.setRow id ((pre ++ ((pre2 ++ ((a.eval x).cells.toList ++ post2)) ++ post)) ++ rest).toArray) (blk' := ⟨sz, blk.vals.set i y', true⟩)
    (part := pre ++ ((pre2 ++ ((a.eval x).cells.toList ++ post2)) ++ post)) (rest := rest) hc h2 hb hm rfl q1
    (by rw [hcs, hlen]; simp only [List.size_toArray, List.length_append, hA]) (by simp) (by rw [← hs]; exact hset) rfl
  exact ⟨_, by simp only [execOp, h1, Instr.storeAt, Instr.sureAddr, Sem.run_bind, Sem.run_pure, Result.andThen_ok, hrun], k1, k2⟩
theorem ArgM.sound {b i0 : Nat} (hc : Core W X Z0 μ Z H w) (hb : μ b = some i0) {x y : LV} {v : Value} (h : ArgM H b x y) (hr : RepV Z μ w x v) : RepV1 Z (mu0 i0) w y v := by
  cases h with
  | imm h => exact Imm.soundV hc h hr
  | ref =>
    have := hr.2 rfl
    refine ⟨by simp [LV.isAgg], fun _ => ?_⟩
    simp only [Rep] at this ⊢
    rcases this with h | ⟨id, cap, c, T, fz, h1, h2, h3⟩
    · exact .inl h
    rw [hb] at h2; cases h2
    exact .inr ⟨i0, cap, c, T, fz, h1, rfl, h3⟩
  | ptr =>
    have := hr.2 rfl
    refine ⟨by simp [LV.isAgg], fun _ => ?_⟩
    simp only [Rep] at this ⊢
    obtain ⟨id, h1, h2⟩ := this
    rw [hb] at h2; cases h2
    exact ⟨i0, h1, rfl⟩
theorem ArgM.ne {b : Nat} {x y : LV} (h : ArgM H b x y) : (x ≠ .any ∧ ∀ m, x ≠ .tup m) := by
  cases h with
  | imm h => exact h.ne
  | ref => exact ⟨by simp, by simp⟩
  | ptr => exact ⟨by simp, by simp⟩
theorem argML_args {b i0 : Nat} (hc : Core W X Z0 μ Z H w) (hb : μ b = some i0) {ρ : Operand → LV} : ∀ (xs : List Operand) (args : List LV), ArgML H b (xs.map ρ) args → (∀ x ∈ xs, RepV Z μ w (ρ x) (a.eval x)) →
    RepVL Z (mu0 i0) w args (xs.map a.eval)
  | [], _, h, _ => by cases h; rfl
  | x :: xs, _, h, hr => by
      cases h with
      | cons h t => exact ⟨_, _, rfl, h.sound hc hb (hr x (by simp)), argML_args hc hb xs _ t (fun y hy => hr y (by simp [hy]))⟩

theorem Names.mu {b : Nat} {ρ : Operand → LV} : ∀ (xs : List Operand), Names b (xs.map ρ) → (∀ x ∈ xs, RepV Z μ w (ρ x) (a.eval x)) → ∃ id, μ b = some id
  | [], h, _ => by cases h
  | x :: xs, h, hr => by
      have h1 := hr x (by simp)
      generalize hq : ρ x = q at h h1
      simp only [List.map_cons, hq] at h
      cases h with
      | ref hl =>
        have := h1.2 rfl
        simp only [Rep] at this
        rcases this with ⟨_, h⟩ | ⟨id, _, _, _, _, _, h2, _⟩
        · omega
        exact ⟨id, h2⟩
      | ptr =>
        have := h1.2 rfl
        simp only [Rep] at this
        obtain ⟨id, _, h2⟩ := this
        exact ⟨id, h2⟩
      | tl h => exact Names.mu xs h (fun y hy => hr y (by simp [hy]))

theorem callM_sound {f : FuncId} {xs : Array Operand} {as : Array TypeId} {args : List LV} {r : LV} {b : Nat} {blk blk' : Blk} {dst : Option Tmp} {ty : TypeId} {pos : String} {af : Array Edge} {g : Option (Nat × Bool)}
    {K : Act → World → Prop} {Q : Exit → Act → World → Prop}
    (hc : Core W X Z0 μ Z L.heap w) (hr : ∀ t, RepV Z μ w (L.slot t) (a.tmps.getD t undef)) (hb : L.heap b = some blk) (hm : blk.mt = true) (hp : pures blk.vals = true)
    (ha : ArgML L.heap b (xs.toList.map L.ev) args) (hn : Names b (xs.toList.map L.ev)) (hk : CallOKM P f blk args r blk') (hm' : blk'.mt = true) (hp' : pures blk'.vals = true)
    (hK : ∀ v w' Z', Core W X Z0 μ Z' (L.setB b (some blk')).heap w' → (∀ t, RepV Z' μ w' (L.slot t) (a.tmps.getD t undef)) → RepV Z' μ w' (r.ren fun _ => b) v → K (a.put dst v) w') :
    (Oper.mk dst (.call ⟨.value (.func f), xs, as⟩) ty pos af g).wp P a w K Q := by
  obtain ⟨i0, hi0⟩ := Names.mu (μ := μ) (Z := Z) (w := w) (a := a) xs.toList hn (fun x _ => ev_rep (L := L) hr x)
  have hargs := argML_args (a := a) hc hi0 xs.toList args ha (fun x _ => ev_rep (L := L) hr x)
  have hrun : (execOp a.eval (Oper.mk dst (.call ⟨.value (.func f), xs, as⟩) ty pos af g)).run P w = .ok (.enter f (xs.map a.eval)) w := by
    have := callFunc_run (P := P) (w := w) (args := xs.map a.eval) hk.1
    simp only [execOp, resolve, Act.eval, Deferred.ofValue, Sem.run_bind, Sem.run_pure, Result.andThen_ok, invoke]
    simpa using this
  unfold Oper.wp
  rw [hrun, Oper.upon_enter]
  obtain ⟨blk1, g1, g2⟩ := hc.heap b i0 hi0
  rw [hb] at g1; cases g1
  have hbr : BlkRep Z (mu0 i0) w blk i0 := by
    obtain ⟨c, T, part, rest, q1, q2, q3⟩ := g2
    exact ⟨c, T, part, rest, q1, q2, RepAll.repure (fun _ h => h) (fun _ _ => rfl) _ _ _ hp q3⟩
  have := hk.2 w Z (xs.toList.map a.eval) i0 hc.zone (hc.mutz b i0 blk hi0 hb hm) hbr hargs
  rw [show (xs.toList.map a.eval).toArray = xs.map a.eval from by apply Array.ext'; simp] at this
  refine this.mono ?_
  rintro e w' ⟨v, μr, Zr, rfl, hrr, hv⟩
  obtain ⟨Z', h1, h2, h3, h4, h5⟩ := hc.callM hi0 hb hm hm' hp' hrr
  refine hK v w' Z' h1 (fun t => (hr t).mono h3 (fun _ _ h => h) h4) ?_
  exact (hv.mono h2 (fun _ _ h => h) ⟨fun _ _ => rfl, (Frame.refl Zr μr w').m⟩).ren (fun _ => b) (fun k id h => by obtain ⟨rfl, rfl⟩ := h5 k id h; exact hi0)
end
end Go.Lg
namespace Go.Lg
section
variable {P : Program} {W w w' : World} {X Z0 Z : Nat → Prop} {μ : Nat → Option Nat} {H : Heap} {a : Act} {L L' : St} {n : Nat}

def drop1 (μ : Nat → Option Nat) (b : Nat) : Nat → Option Nat := fun c => if c = b then none else μ c

theorem Core.kill (b : Nat) (hb0 : b ≠ 0) (hc : Core W X Z0 μ Z L.heap w) : Core W X Z0 (drop1 μ b) Z (L.kill b).heap w := by
  have hinv : ∀ c id, drop1 μ b c = some id → c ≠ b ∧ μ c = some id := fun c id h => by
    unfold drop1 at h; split at h
    · cases h
    · exact ⟨by assumption, h⟩
  have hH : ∀ c blk, (L.kill b).heap c = some blk → c ≠ b → ∃ bk, L.heap c = some bk ∧ blk = ⟨bk.sz, kills b bk.vals, bk.mt⟩ := fun c blk h hne => by
    simp only [St.kill, if_neg hne, Option.map_eq_some_iff] at h
    obtain ⟨bk, h1, h2⟩ := h
    exact ⟨bk, h1, h2.symm⟩
  refine ⟨hc.keep, hc.zone, hc.zsup, hc.zsub, ?_, ?_, ?_, hc.xlt, fun id h => by simp only [drop1, if_neg (Ne.symm hb0)]; exact hc.x1 id h, ?_, ?_, ?_⟩
  · intro c c' id h h'
    exact hc.inj c c' id (hinv c id h).2 (hinv c' id h').2
  · intro c id h; exact hc.own c id (hinv c id h).2
  · intro c id h; exact hc.x0 c id (hinv c id h).2
  · intro c id blk h g hm
    obtain ⟨bk, g1, rfl⟩ := hH c blk g (hinv c id h).1
    exact hc.mutz c id bk (hinv c id h).2 g1 hm
  · intro c id blk h g hm
    obtain ⟨bk, g1, rfl⟩ := hH c blk g (hinv c id h).1
    exact hc.frz c id bk (hinv c id h).2 g1 hm
  · intro c id h
    obtain ⟨hne, h1⟩ := hinv c id h
    obtain ⟨bk, g1, cc, T, part, rest, g2, g3, g4⟩ := hc.heap c id h1
    refine ⟨⟨bk.sz, kills b bk.vals, bk.mt⟩, by simp [St.kill, hne, g1], cc, T, part, rest, g2, g3, ?_⟩
    exact RepAll.kill (fun _ h => h) (fun k id hk h => by simp [drop1, hk, h]) (Frame.refl _ _ _) _ _ g4
theorem kill_rep (b : Nat) (hr : ∀ t, RepV Z μ w (L.slot t) (a.tmps.getD t undef)) : ∀ t, RepV Z (drop1 μ b) w ((L.kill b).slot t) (a.tmps.getD t undef) := fun t =>
  RepV.kill (fun _ h => h) (fun k id hk h => by simp [drop1, hk, h]) (Frame.refl _ _ _) (hr t)

/-- a block that no name stands for gets a name and its last cells -/
theorem Core.attach {d id : Nat} {blk : Blk} {c c' : Array Value} {T : TypeId} {part rest : List Value} (hc : Core W X Z0 μ Z H w) (hd : μ d = none) (hm : blk.mt = true)
    (hno : ∀ k, μ k ≠ some id) (hnz : ¬ Z id) (hlo : W.heap.size ≤ id)
    (hcell : w.heap[id]? = some (.cells c T (0, 0))) (h1 : c'.toList = part ++ rest) (h2 : RepAll Z μ w blk.sz blk.vals part)
    (hw : w' = w.setRow id c') :
    Core W X Z0 (upd μ d id) Z (fun k => if k = d then some blk else H k) w' ∧ Frame Z μ w w' ∧ (∀ b k, μ b = some k → upd μ d id b = some k) ∧ w'.heap[id]? = some (.cells c' T (0, 0)) := by
  subst hw
  have hself : (w.setRow id c').heap[id]? = some (.cells c' T (0, 0)) := setRow_heap w id c c' T (0, 0) hcell
  have hother : ∀ k, k ≠ id → (w.setRow id c').heap[k]? = w.heap[k]? := fun k hk => by
    simp only [World.setRow, Array.getElem?_modify, if_neg (Ne.symm hk)]
  have hsize : (w.setRow id c').heap.size = w.heap.size := by simp [World.setRow]
  have hfr : Frame Z μ w (w.setRow id c') :=
    ⟨fun k hk => hother k (fun e => hnz (e ▸ hk)), fun b' k hk cc T' fz hcc => ⟨cc, (hother k (fun e => hno b' (e ▸ hk))).trans hcc, rfl⟩⟩
  have hup : ∀ b k, μ b = some k → upd μ d id b = some k := fun b k h => by
    unfold upd; split
    · subst_vars; rw [hd] at h; cases h
    · exact h
  have hinv : ∀ b k, upd μ d id b = some k → (b = d ∧ k = id) ∨ (b ≠ d ∧ μ b = some k) := fun b k h => by
    unfold upd at h; split at h
    · cases h; exact .inl ⟨by assumption, rfl⟩
    · exact .inr ⟨by assumption, h⟩
  refine ⟨⟨?_, fun k hk => by rw [hsize]; exact hc.zone k hk, hc.zsup, hc.zsub, ?_, ?_, ?_, hc.xlt, fun k h => hup 0 k (hc.x1 k h), ?_, ?_, ?_⟩, hfr, hup, hself⟩
  · exact ⟨hc.keep.os, hc.keep.tape, hc.keep.output, by rw [hsize]; exact hc.keep.size, fun k hk hx => (hother k (by omega)).trans (hc.keep.block k hk hx),
      fun k hx c0 T0 fz0 h0 => let ⟨c1, g1, g2⟩ := hc.keep.xsz k hx c0 T0 fz0 h0; ⟨c1, (hother k (by have := hc.xlt k hx; omega)).trans g1, g2⟩⟩
  · intro b b' k h h'
    rcases hinv b k h with ⟨rfl, rfl⟩ | ⟨n1, h3⟩ <;> rcases hinv b' _ h' with ⟨rfl, e⟩ | ⟨n2, h4⟩
    · rfl
    · exact absurd h4 (hno b')
    · exact absurd (e ▸ h3) (hno b)
    · exact hc.inj b b' k h3 h4
  · intro b k h
    rcases hinv b k h with ⟨rfl, rfl⟩ | ⟨n1, h3⟩
    · exact .inl hlo
    · exact hc.own b k h3
  · intro b k h hx
    rcases hinv b k h with ⟨rfl, rfl⟩ | ⟨n1, h3⟩
    · have := hc.xlt _ hx; omega
    · exact hc.x0 b k h3 hx
  · intro b k bk h g hmt
    rcases hinv b k h with ⟨rfl, rfl⟩ | ⟨n1, h3⟩
    · exact hnz
    · rw [if_neg n1] at g; exact hc.mutz b k bk h3 g hmt
  · intro b k bk h g hmt
    rcases hinv b k h with ⟨rfl, rfl⟩ | ⟨n1, h3⟩
    · rw [if_pos rfl] at g; cases g; rw [hm] at hmt; cases hmt
    · rw [if_neg n1] at g; exact hc.frz b k bk h3 g hmt
  · intro b k h
    rcases hinv b k h with ⟨rfl, rfl⟩ | ⟨n1, h3⟩
    · exact ⟨blk, if_pos rfl, c', T, part, rest, hself, h1, h2.mono (fun _ h => h) hup hfr⟩
    · obtain ⟨bk, g1, g2⟩ := hc.heap b k h3
      exact ⟨bk, by rw [if_neg n1]; exact g1, g2.mono (fun _ h => h) hup hfr (hother k (fun e => hno b (e ▸ h3)))⟩

/-- what an append takes from its second operand -/
theorem src_of {U E' : TypeId} {y : Operand} {news : List LV} {sz : Nat} (hc : Core W X Z0 μ Z L.heap w) (hr : ∀ t, RepV Z μ w (L.slot t) (a.tmps.getD t undef)) (hU : P.underlying U = some (.slice E'))
    (hy : (∃ c off blk2, L.ev y = .ref c sz off news.length ∧ L.heap c = some blk2 ∧ blk2.sz = sz ∧ off + news.length ≤ blk2.vals.length ∧ news = (blk2.vals.drop off).take news.length) ∨
        L.ev y = .list sz news ∨ (L.ev y = .v (.slice none 0 0) ∧ news = [])) :
    ∃ cells, Src P sz U (a.eval y) news.length cells w ∧ RepAll Z μ w sz news cells := by
  have e1 := ev_rep (L := L) hr y
  have one : ∀ (l : List LV) (cs : List Value), RepAll Z μ w sz l cs → ∀ u ∈ cs, u.oneCell' = true := by
    intro l
    induction l with
    | nil => intro cs h; simp only [RepAll] at h; simp [h]
    | cons x xs ih =>
      intro cs h u hu
      simp only [RepAll] at h
      obtain ⟨c1, c2, rfl, h2, h3, h4⟩ := h
      rcases List.mem_append.1 hu with hu | hu
      · exact Rep.one _ _ h3 u hu
      · exact ih c2 h4 u hu
  rcases hy with ⟨cc, off, blk2, h1, h2, h3, h4, h5⟩ | h1 | ⟨h1, rfl⟩
  · rw [h1] at e1
    have e2 := e1.2 rfl
    simp only [Rep] at e2
    rcases e2 with ⟨q1, q2⟩ | ⟨id, cap, c, T, fz, q1, q2, q3, q4, q5⟩
    · simp only [List.cons.injEq, and_true] at q1
      have hnil := List.eq_nil_of_length_eq_zero q2
      subst hnil
      refine ⟨[], ?_, by simp [RepAll]⟩
      rw [q1]
      exact Src.ofNil w hU 0
    simp only [List.cons.injEq, and_true] at q1
    obtain ⟨bk, g1, c', T', part, rest, g2, g3, g4⟩ := hc.heap cc id q2
    rw [h2] at g1; cases g1
    rw [q4] at g2; cases g2
    obtain ⟨c1, c2, d1, d2, d3⟩ := RepAll.split (blk2.vals.take off) (blk2.vals.drop off) part (by rw [List.take_append_drop]; exact g4)
    obtain ⟨c3, c4, d4, d5, d6⟩ := RepAll.split ((blk2.vals.drop off).take news.length) ((blk2.vals.drop off).drop news.length) c2 (by rw [List.take_append_drop]; exact d3)
    rw [← h5, h3] at d5
    have hl1 := RepAll.length _ _ d2
    rw [List.length_take, Nat.min_eq_left (by omega), h3] at hl1
    have hrange := range_of (w := w) (off := off * sz) (part := c3) (rest := c4 ++ rest) q4 (by rw [g3, d1, d4, ← hl1]; simp)
    refine ⟨c3, ?_, d5⟩
    rw [q1]
    exact Src.ofSlice w hU _ _ _ c3 (RepAll.length _ _ d5) (fun j u hj => by rw [Addr.add_mid]; exact hrange j u hj) (one _ _ d5)
  · rw [h1] at e1
    have e2 := e1.2 rfl
    simp only [Rep] at e2
    obtain ⟨ad, len, cap, q1, q2, q3, q4, _⟩ := e2
    simp only [List.cons.injEq, and_true] at q1
    rcases q4 with q4 | ⟨blk, off, c, T, fz, part, rest, g1, g2, g3, g4, g5⟩
    · subst q4
      simp at q2; subst q2
      refine ⟨[], ?_, rfl⟩
      rw [q1]
      cases ad with
      | none => exact Src.ofNil w hU cap
      | some ad => exact Src.ofSlice w hU ad 0 cap [] (by simp) (by simp) (by simp)
    · subst g1
      have hrange := range_of (w := w) (part := part) (rest := rest) g3 g4
      refine ⟨part, ?_, g5⟩
      rw [q1, q2]
      exact Src.ofSlice w hU _ _ _ part (RepAll.length _ _ g5) (fun j u hj => by rw [Addr.add_mid]; exact hrange j u hj) (one _ _ g5)
  · rw [h1] at e1
    have e2 := e1.v_eq
    refine ⟨[], ?_, rfl⟩
    rw [e2]
    exact Src.ofNil w hU 0

theorem le_set {d : Nat} {blk : Blk} {H : Heap} (hd : H d = none) : H.le (fun k => if k = d then some blk else H k) := fun b bk h => by
  have : b ≠ d := by rintro rfl; rw [hd] at h; cases h
  exact ⟨bk.mt, by simp only [if_neg this]; exact h, fun h => h, fun h1 h2 => by rw [h1] at h2; cases h2⟩

theorem setCells_setRow {g o : Nat} {T : TypeId} {vs : List Value} {cur : Array Value} (hg : w.heap[g]? = some (.cells cur T (0, 0))) (hl : o + vs.length ≤ cur.size) (h1 : ∀ v ∈ vs, v.oneCell' = true) :
    w.setCells g o vs = w.setRow g (cur.toList.take o ++ vs ++ cur.toList.drop (o + vs.length)).toArray := by
  have a := run_storeCells_at (default : Program) g o T vs 0 cur w hg (by simpa using hl) h1
  have hc : ∀ j, j < vs.length → (w.cell? ⟨g, o + j, none⟩).isSome = true := fun j hj => by
    rw [cell_of_row w g (o + j) cur T (0, 0) hg, Array.getElem?_eq_getElem (by omega)]; rfl
  have hf : ∀ j, j < vs.length → w.frozen? ⟨g, o + j, none⟩ = false := fun j hj => by simp [World.frozen?, hg]
  have b := run_storeCells_cells (P := (default : Program)) g o vs 0 w (by simpa using hc) (by simpa using hf) h1
  rw [b] at a
  simp only [Nat.add_zero, Result.ok.injEq, true_and] at a
  exact a

/-- an append that makes a new row -/
theorem grow_sound {T U E ty : TypeId} {d sz : Nat} {news olds : List LV} {z : LV} {by_ : Nat} {oldc newc : List Value} {base : Option Addr} {sLen sCap : Nat} {xv yv : Value}
    (hc : Core W X Z0 μ Z H w) (hd : H d = none) (hT : P.underlying T = some (.slice E)) (hz : ZeroOK P E z) (hE : TyIs P E sz z.isAgg) (hzs : z.csize = sz) (hby : TyBytes P E by_)
    (hx : xv = .slice base sLen sCap) (hold : (Builtin.firstCells sz sLen (.slice base sLen sCap)).run P w.drew = .ok oldc.toArray w.drew)
    (hs : Src P sz U yv news.length newc w) (ho : RepAll Z μ w sz olds oldc) (hol : olds.length = sLen) (hn : RepAll Z μ w sz news newc)
    (hg : sCap < sLen + news.length) (hsz : (sLen + news.length) * by_ ≤ 140737488355328) (h63 : sLen + news.length ≤ 4611686018427387904) :
    ∃ v w' μ' Z', (Builtin.append_ #[T, U] ty #[xv, yv]).run P w = .ok v w' ∧ Core W X Z0 μ' Z' (fun k => if k = d then some ⟨sz, olds ++ news, true⟩ else H k) w' ∧
      (∀ id, Z id → Z' id) ∧ (∀ b id, μ b = some id → μ' b = some id) ∧ Frame Z μ w w' ∧ RepV Z' μ' w' (.ref d sz 0 (sLen + news.length)) v := by
  obtain ⟨i, zv, z1, z2, z3, z4⟩ := hz
  have hsi : i.size = sz := by have := hE.1; rw [z1] at this; simpa using this
  have hbi : i.bytes = by_ := by obtain ⟨i', g1, g2⟩ := hby; rw [z1] at g1; cases g1; exact g2
  have hcap := nextslicecap_le hg
  have hfit : Builtin.nextslicecap (sLen + news.length) sCap * i.bytes ≤ 281474976710656 := by
    rw [hbi]
    calc Builtin.nextslicecap (sLen + news.length) sCap * by_ ≤ (2 * (sLen + news.length)) * by_ := Nat.mul_le_mul_right _ hcap
      _ = 2 * ((sLen + news.length) * by_) := by rw [Nat.mul_assoc]
      _ ≤ 281474976710656 := by omega
  subst hx
  have hrun := run_append_grow_src (P := P) w T U ty E i zv hT z1 z2 base sLen sCap oldc (by rw [hsi]; exact hold) yv news.length newc (by rw [hsi]; exact hs) hg (by omega) hfit
  have hμd : μ d = none := by
    cases hq : μ d with
    | none => rfl
    | some id => obtain ⟨bk, g, _⟩ := hc.heap d id hq; rw [hd] at g; cases g
  have hcz : zv.cells.size = sz := by
    have h1 := Rep.len (z4 Z μ w) (LV.pure_ne_any z3)
    rw [← Array.length_toList, h1, hzs]
  have hall := RepAll.append _ _ _ _ ho hn
  have hlen := RepAll.length _ _ hall
  obtain ⟨Z1, k1, k2⟩ := hc.widen (le_set (blk := ⟨sz, olds ++ news, true⟩) hd)
  have hpushed : Pushed w (w.drew.alloc (.cells ((oldc ++ newc).toArray ++ Builtin.zeroCells zv.cells (grownCap w (sLen + news.length) sCap E - (sLen + news.length))) E)) _ := ⟨rfl, rfl, rfl, rfl⟩
  obtain ⟨Z2, h1, h2, h3, h4, h5, h6⟩ := k1.push (d := d) (blk := ⟨sz, olds ++ news, true⟩) (part := oldc ++ newc) (rest := (Builtin.zeroCells zv.cells (grownCap w (sLen + news.length) sCap E - (sLen + news.length))).toList)
    (by simp) hμd hpushed (by simp) (hall.mono k2 (fun _ _ h => h) ⟨fun _ _ => rfl, (Frame.refl Z μ w).m⟩)
  refine ⟨_, _, _, Z2, hrun, h1, fun id h => h2 id (k2 id h), h3, ⟨fun id h => h4.z id (k2 id h), h4.m⟩, ⟨by simp [LV.isAgg], fun _ => ?_⟩⟩
  simp only [Rep]
  have hge := grownCap_ge w (sLen + news.length) sCap E
  refine .inr ⟨w.heap.size, _, _, E, (0, 0), by simp, h5, hge, h6, ?_⟩
  rw [Array.size_append, List.size_toArray, hlen, size_zeroCells, hcz, List.length_append, hol, Nat.zero_add, ← Nat.add_mul]
  exact Nat.mul_le_mul_right _ (by omega)

theorem mu_none (hc : Core W X Z0 μ Z H w) {d : Nat} (hd : H d = none) : μ d = none := by
  cases hq : μ d with
  | none => rfl
  | some id => obtain ⟨bk, g, _⟩ := hc.heap d id hq; rw [hd] at g; cases g

theorem RepAll.kill' {sz b : Nat} (l : List LV) (cs : List Value) (h : RepAll Z μ w sz l cs) : RepAll Z (drop1 μ b) w sz (kills b l) cs :=
  RepAll.kill (fun _ h => h) (fun k id hk h => by simp [drop1, hk, h]) (Frame.refl _ _ _) _ _ h

theorem kills_length (b : Nat) : ∀ l : List LV, (kills b l).length = l.length
  | [] => rfl
  | x :: xs => by simp [kills, kills_length b xs]
theorem kills_append (b : Nat) : ∀ l m : List LV, kills b (l ++ m) = kills b l ++ kills b m
  | [], m => rfl
  | x :: xs, m => by simp [kills, kills_append b xs m]

theorem Core.reheap {H' : Heap} (hc : Core W X Z0 μ Z H w) (hh : ∀ b id, μ b = some id → H' b = H b) : Core W X Z0 μ Z H' w :=
  ⟨hc.keep, hc.zone, hc.zsup, hc.zsub, hc.inj, hc.own, hc.x0, hc.xlt, hc.x1, fun b id blk h g => hc.mutz b id blk h ((hh b id h).symm.trans g), fun b id blk h g => hc.frz b id blk h ((hh b id h).symm.trans g),
    fun b id h => let ⟨blk, g1, g2⟩ := hc.heap b id h; ⟨blk, (hh b id h).trans g1, g2⟩⟩

/-- an append to a slice of the call's own -/
theorem app_sound {T U E E' ty : TypeId} {d b sz len : Nat} {blk : Blk} {x y : Operand} {news : List LV} {z : LV} {by_ : Nat} (hc : Core W X Z0 μ Z L.heap w) (hr : ∀ t, RepV Z μ w (L.slot t) (a.tmps.getD t undef))
    (hx : L.ev x = .ref b sz 0 len) (hb : L.heap b = some blk) (hs : blk.sz = sz) (hm : blk.mt = true) (hlen : len ≤ blk.vals.length) (hbd : d = b ∨ L.heap d = none) (hb0 : b ≠ 0)
    (hT : P.underlying T = some (.slice E)) (hU : P.underlying U = some (.slice E')) (hz : ZeroOK P E z) (hE : TyIs P E sz z.isAgg) (hzs : z.csize = sz) (hby : TyBytes P E by_)
    (hy : (∃ c off blk2, L.ev y = .ref c sz off news.length ∧ c ≠ b ∧ L.heap c = some blk2 ∧ blk2.sz = sz ∧ off + news.length ≤ blk2.vals.length ∧ news = (blk2.vals.drop off).take news.length ∧ pures news = true) ∨
        L.ev y = .list sz news ∨ (L.ev y = .v (.slice none 0 0) ∧ news = []))
    (hsz : (len + news.length) * by_ ≤ 140737488355328) (h63 : len + news.length ≤ 4611686018427387904) :
    ∃ v w' μ' Z', (Builtin.append_ #[T, U] ty #[a.eval x, a.eval y]).run P w = .ok v w' ∧
      Core W X Z0 μ' Z' ((L.kill b).setB d (some ⟨sz, kills b (blk.vals.take len ++ news), true⟩)).heap w' ∧
      (∀ t, RepV Z' μ' w' ((L.kill b).slot t) (a.tmps.getD t undef)) ∧ RepV Z' μ' w' (.ref d sz 0 (len + news.length)) v := by
  obtain ⟨newc, hsrc, hnews⟩ := src_of (P := P) hc hr hU (y := y) (news := news) (sz := sz) (by
    rcases hy with ⟨c, off, b2, q1, _, q3, q4, q5, q6, _⟩ | h | h
    · exact .inl ⟨c, off, b2, q1, q3, q4, q5, q6⟩
    · exact .inr (.inl h)
    · exact .inr (.inr h))
  have e1 := ev_rep (L := L) hr x
  rw [hx] at e1
  have e2 := e1.2 rfl
  simp only [Rep] at e2
  have hkd : (L.kill b).heap d = none := by
    rcases hbd with rfl | h
    · simp [St.kill]
    · simp only [St.kill]; split
      · rfl
      · rw [h]; rfl
  rcases e2 with ⟨q1, rfl⟩ | ⟨id, cap, c, U', fz, q1, q2, q3, q4, q5⟩
  · simp only [List.cons.injEq, and_true] at q1
    have hk := hc.kill b hb0
    have hkr := kill_rep b hr
    have hkl : (kills b news).length = news.length := kills_length b news
    cases hnw : news with
    | nil =>
      subst hnw
      obtain ⟨i, zv, z1, z2, z3, z4⟩ := hz
      have hsi : i.size = sz := by have := hE.1; rw [z1] at this; simpa using this
      have hcells : newc = [] := by simpa [RepAll] using hnews
      subst hcells
      have hrun := run_append_nothing (P := P) w T U ty E i hT z1 none 0 0 (Nat.le_refl _) (a.eval y) (hsi ▸ hsrc)
      refine ⟨_, w, drop1 μ b, Z, by rw [q1]; exact hrun, ?_, hkr, ⟨by simp [LV.isAgg], fun _ => by simp [Rep]⟩⟩
      exact hk.reheap fun c id hcd => by
        have : c ≠ d := by rintro rfl; rw [mu_none hk hkd] at hcd; cases hcd
        simp [St.setB, this]
    | cons x0 xs0 =>
      rw [← hnw]
      have hpos : 0 < news.length := by rw [hnw]; simp
      obtain ⟨v, w', μ', Z', r1, r2, r3, r4, r5, r6⟩ := grow_sound (P := P) (ty := ty) (U := U) (olds := []) (news := kills b news) (oldc := []) (sLen := 0) (sCap := 0) hk hkd hT hz hE hzs hby q1 (by simp [Builtin.firstCells]) (by rw [hkl]; exact hsrc)
        (by simp [RepAll]) rfl (RepAll.kill' _ _ hnews) (by rw [hkl]; omega) (by rw [hkl]; exact hsz) (by rw [hkl]; exact h63)
      rw [List.nil_append] at r2
      rw [hkl] at r6
      exact ⟨v, w', μ', Z', r1, by simpa [St.setB] using r2, fun t => (hkr t).mono r3 r4 r5, r6⟩
  simp only [List.cons.injEq, and_true, Nat.zero_mul] at q1
  obtain ⟨bk, g1, c', T', part, rest, g2, g3, g4⟩ := hc.heap b id q2
  rw [hb] at g1; cases g1
  rw [q4] at g2; cases g2
  simp only [Nat.zero_add] at q5
  obtain ⟨p1, p2, d1, d2, d3⟩ := RepAll.split (blk.vals.take len) (blk.vals.drop len) part (by rw [List.take_append_drop]; exact g4)
  rw [hs] at d2
  have hp1 := RepAll.length _ _ d2
  rw [List.length_take, Nat.min_eq_left hlen] at hp1
  have hk := hc.kill b hb0
  have hkr := kill_rep b hr
  have hno : ∀ k, drop1 μ b k ≠ some id := fun k h => by
    unfold drop1 at h; split at h
    · cases h
    · rename_i hne; exact hne (hc.inj k b id h q2)
  have hlo : W.heap.size ≤ id := by
    rcases hc.own b id q2 with h | h
    · exact h
    · exact absurd (hc.x0 b id q2 h) hb0
  have hnz := hc.mutz b id blk q2 hb hm
  have hnl := RepAll.length _ _ hnews
  by_cases hroom : len + news.length ≤ cap
  · have hfit : len * sz + newc.length ≤ c.size := by
      rw [hnl, ← Nat.add_mul]
      exact Nat.le_trans (Nat.mul_le_mul_right _ hroom) q5
    have hc1 : ∀ j, j < newc.length → (w.cell? ⟨id, 0 + len * sz + j, none⟩).isSome = true := fun j hj => by
      rw [cell_of_row w id _ c _ _ q4, Array.getElem?_eq_getElem (by omega)]; rfl
    have hc2 : ∀ j, j < newc.length → w.frozen? ⟨id, 0 + len * sz + j, none⟩ = false := fun j hj => by simp [World.frozen?, q4]
    obtain ⟨i, zv, z1, z2, z3, z4⟩ := hz
    have hsi : i.size = sz := by have := hE.1; rw [z1] at this; simpa using this
    have hrun := run_append_room_src (P := P) w T U ty E i hT z1 id 0 len cap (a.eval y) news.length newc (by rw [hsi]; exact hsrc) hroom (by rw [hsi]; exact hc1) (by rw [hsi]; exact hc2)
    rw [hsi, Nat.zero_add, setCells_setRow q4 hfit hsrc.one] at hrun
    have hold := (RepAll.kill' (b := b) _ _ d2)
    have hnew := (RepAll.kill' (b := b) _ _ hnews)
    have hall := RepAll.append _ _ _ _ hold hnew
    rw [← kills_append] at hall
    have hsplit : c.toList.take (len * sz) ++ newc ++ c.toList.drop (len * sz + newc.length) = (p1 ++ newc) ++ c.toList.drop (len * sz + newc.length) := by
      rw [g3, d1, ← hp1]; simp
    rw [hsplit] at hrun
    obtain ⟨k1, k2, k3, k4⟩ := hk.attach (d := d) (id := id) (blk := ⟨sz, kills b (blk.vals.take len ++ news), true⟩) (c' := ((p1 ++ newc) ++ c.toList.drop (len * sz + newc.length)).toArray)
      (part := p1 ++ newc) (rest := c.toList.drop (len * sz + newc.length)) (mu_none hk hkd) rfl hno hnz hlo q4 (by simp) hall rfl
    refine ⟨_, _, _, Z, by rw [q1]; exact hrun, k1, fun t => (hkr t).mono (fun _ h => h) k3 k2, ⟨by simp [LV.isAgg], fun _ => ?_⟩⟩
    simp only [Rep]
    refine .inr ⟨id, cap, _, U', (0, 0), by simp, by simp [upd], hroom, k4, ?_⟩
    rw [Nat.zero_add]
    simp only [List.size_toArray, List.length_append, hp1, List.length_drop, Array.length_toList]
    omega
  · have hold : (Builtin.firstCells sz len (.slice (some ⟨id, 0, none⟩) len cap)).run P w.drew = .ok p1.toArray w.drew := by
      refine run_firstCells_some w.drew sz len ⟨id, 0, none⟩ len cap p1 hp1 (fun j v hj => ?_)
      rw [Addr.add_mid]
      have hrange := range_of (w := w) (off := 0) (part := p1) (rest := p2 ++ rest) q4 (by rw [List.drop_zero, g3, d1]; simp)
      exact hrange j v hj
    have hkl : (kills b news).length = news.length := kills_length b news
    obtain ⟨v, w', μ', Z', r1, r2, r3, r4, r5, r6⟩ := grow_sound (P := P) (ty := ty) (U := U) (olds := kills b (blk.vals.take len)) (news := kills b news) hk hkd hT hz hE hzs hby q1 hold (by rw [hkl]; exact hsrc)
      (RepAll.kill' _ _ d2) (by rw [kills_length, List.length_take]; omega) (RepAll.kill' _ _ hnews) (by rw [hkl]; omega) (by rw [hkl]; exact hsz) (by rw [hkl]; exact h63)
    rw [← kills_append] at r2
    rw [hkl] at r6
    exact ⟨v, w', μ', Z', r1, r2, fun t => (hkr t).mono r3 r4 r5, r6⟩
/-- an append to the nil slice -/
theorem app0_sound {T U E E' ty : TypeId} {d sz : Nat} {x y : Operand} {news : List LV} {z : LV} {by_ : Nat} (hc : Core W X Z0 μ Z L.heap w) (hr : ∀ t, RepV Z μ w (L.slot t) (a.tmps.getD t undef))
    (hx : L.ev x = .v (.slice none 0 0)) (hbd : L.heap d = none)
    (hT : P.underlying T = some (.slice E)) (hU : P.underlying U = some (.slice E')) (hz : ZeroOK P E z) (hE : TyIs P E sz z.isAgg) (hzs : z.csize = sz) (hby : TyBytes P E by_)
    (hy : (∃ c off blk2, L.ev y = .ref c sz off news.length ∧ L.heap c = some blk2 ∧ blk2.sz = sz ∧ off + news.length ≤ blk2.vals.length ∧ news = (blk2.vals.drop off).take news.length ∧ pures news = true) ∨
        L.ev y = .list sz news)
    (hn : 0 < news.length) (hsz : news.length * by_ ≤ 140737488355328) (h63 : news.length ≤ 4611686018427387904) :
    ∃ v w' μ' Z', (Builtin.append_ #[T, U] ty #[a.eval x, a.eval y]).run P w = .ok v w' ∧ Core W X Z0 μ' Z' (L.setB d (some ⟨sz, news, true⟩)).heap w' ∧
      (∀ t, RepV Z' μ' w' (L.slot t) (a.tmps.getD t undef)) ∧ RepV Z' μ' w' (.ref d sz 0 news.length) v := by
  obtain ⟨newc, hsrc, hnews⟩ := src_of (P := P) hc hr hU (y := y) (news := news) (sz := sz) (by
    rcases hy with ⟨c, off, b2, q1, q3, q4, q5, q6, _⟩ | h
    · exact .inl ⟨c, off, b2, q1, q3, q4, q5, q6⟩
    · exact .inr (.inl h))
  have e1 := ev_rep (L := L) hr x
  rw [hx] at e1
  have e2 := e1.v_eq
  obtain ⟨v, w', μ', Z', r1, r2, r3, r4, r5, r6⟩ := grow_sound (P := P) (ty := ty) (U := U) (olds := []) (news := news) (oldc := []) (sLen := 0) hc hbd hT hz hE hzs hby e2 (by simp [Builtin.firstCells]) hsrc
    (by simp [RepAll]) rfl hnews (by omega) (by rw [Nat.zero_add]; exact hsz) (by rw [Nat.zero_add]; exact h63)
  rw [Nat.zero_add] at r6
  rw [List.nil_append] at r2
  exact ⟨v, w', μ', Z', r1, r2, fun t => (hr t).mono r3 r4 r5, r6⟩
end
end Go.Lg
namespace Go.Lg

def GuardIs (ops : Array Oper) (L : St) (o : Oper) (res : Bool) : Prop :=
  match o.guard with
  | none => res = true
  | some (j, want) => ∃ d b, (ops[j]?).bind (·.dst) = some d ∧ L.slot d = .v (.bool b) ∧ res = (b == want)

inductive Step (P : Program) (dr : Bool) (ops : Array Oper) (o : Oper) (L L' : St) : Prop
  | skip (hg : GuardIs ops L o false) (h : L' = L.put o.dst .any)
  | val {r fr H1} (hg : GuardIs ops L o true) (hle : L.heap.le H1) (hfr : ∀ b blk, (b, blk) ∈ fr → L.heap b = none ∧ ∃ m, H1 b = some ⟨blk.sz, blk.vals, m⟩ ∧ (blk.mt = false → m = false))
      (ho : OpV P H1 L.ev (o.dst.getD 0) o.op r fr) (h : L' = ⟨(L.put o.dst r).slot, H1⟩)
  | st (hg : GuardIs ops L o true) (ho : OpT P L o.dst o.op L')
  | stM (hdr : dr = false) (hg : GuardIs ops L o true) (ho : OpM P L o.dst o.op L')

def opsL (P : Program) (dr : Bool) (ops : Array Oper) : List Oper → St → (St → Prop) → Prop
  | [], L, K => K L
  | o :: r, L, K => ∃ L', Step P dr ops o L L' ∧ opsL P dr ops r L' K

section
variable {P : Program} {W w w' : World} {X Z0 Z : Nat → Prop} {μ : Nat → Option Nat} {H : Heap} {a : Act} {L L' : St} {n : Nat} {dr : Bool} {ops : Array Oper}

theorem guard_wanted {o : Oper} {res : Bool} {L : St} (hr : ∀ t, RepV Z μ w (L.slot t) (a.tmps.getD t undef)) (hg : GuardIs ops L o res) : Region.wanted o (yielded ops a.tmps) = res := by
  unfold GuardIs at hg
  unfold Region.wanted
  split at hg
  · rename_i h; rw [h]; exact hg.symm
  · rename_i j want h
    rw [h]
    obtain ⟨d, b, h1, h2, rfl⟩ := hg
    have h3 := hr d
    rw [h2] at h3
    have h4 := h3.v_eq
    have h5 : a.tmps[d]? = some (.bool b) := by
      rw [Array.getD_eq_getD_getElem?] at h4
      cases hq : a.tmps[d]? with
      | none => rw [hq] at h4; simp [undef] at h4
      | some u => rw [hq] at h4; simpa using h4
    have h6 : ((ops[j]?).bind (·.dst)).bind (fun t => a.tmps[t]?) = some (.bool b) := by rw [h1]; simpa using h5
    simp only [yielded, h6]
    cases b <;> cases want <;> rfl

theorem opsL_mono {P : Program} {ops : Array Oper} {dr : Bool} {K K' : St → Prop} (hk : ∀ L, K L → K' L) : ∀ (l : List Oper) (L : St), opsL P dr ops l L K → opsL P dr ops l L K'
  | [], L, h => hk L h
  | o :: r, L, ⟨L', h1, h2⟩ => ⟨L', h1, opsL_mono hk r L' h2⟩

theorem step_sound {o : Oper} (hs : Sim n W X Z0 L a w) (hst : Step P dr ops o L L') (hd : ∀ t, o.dst = some t → t < n) {K : Act → World → Prop} {Q : Exit → Act → World → Prop}
    (hK : ∀ a' w', Sim n W X Z0 L' a' w' → K a' w') : if Region.wanted o (yielded ops a.tmps) then o.wp P a w K Q else K (a.put o.dst undef) w := by
  obtain ⟨hdf, hsz, μ, Z, hc, hr⟩ := hs
  have hd' : ∀ t, o.dst = some t → t < a.tmps.size := fun t h => by rw [hsz]; exact hd t h
  cases hst with
  | skip hg h =>
    rw [guard_wanted hr hg]
    simp only [Bool.false_eq_true, if_false]
    subst h
    exact hK _ _ ⟨by rw [put_defers]; exact hdf, by rw [put_size]; exact hsz, μ, Z, by rw [put_heap]; exact hc, put_rep hd' hr trivial⟩
  | @val r fr H1 hg hle hfr ho h =>
    rw [guard_wanted hr hg]
    simp only [if_true]
    obtain ⟨Z1, k1, k2⟩ := hc.widen hle
    have hr1 : ∀ t, RepV Z1 μ w (L.slot t) (a.tmps.getD t undef) := fun t => (hr t).mono k2 (fun _ _ h => h) ⟨fun _ _ => rfl, (Frame.refl Z μ w).m⟩
    obtain ⟨dst, op, ty, pos, after, g⟩ := o
    refine OpV.sound k1 ho (fun x _ => ev_rep (L := L) hr1 x) (fun b blk hb => ?_) dst ty pos after g ?_
    · obtain ⟨h1, m, h2, h3⟩ := hfr b blk hb
      exact ⟨m, h2, h3, mu_none hc h1⟩
    · intro v w' μ' Z' haf
      subst h
      refine hK _ _ ⟨by rw [put_defers]; exact hdf, by rw [put_size]; exact hsz, μ', Z', haf.core, ?_⟩
      exact put_rep (L := L) hd' (fun t => (hr1 t).mono haf.hz haf.hm haf.hf) haf.rep
  | st hg ho =>
    rw [guard_wanted hr hg]
    simp only [if_true]
    obtain ⟨dst, op, ty, pos, after, g⟩ := o
    simp only at ho hd'
    cases ho with
    | store hp hb hss hm hi hy hput hT hne =>
      obtain ⟨w', h1, h2, h3⟩ := store_sound (P := P) hc hr hp hb hss hm hi hy hput hT hne dst ty pos after g
      unfold Oper.wp
      rw [h1, Oper.upon_skip]
      refine hK _ _ ⟨by rw [put_defers]; exact hdf, by rw [put_size]; exact hsz, μ, Z, by rw [put_heap]; exact h2, ?_⟩
      exact put_rep hd' (fun t => (hr t).mono (fun _ h => h) (fun _ _ h => h) h3) trivial
    | @app T U E E' d b sz len blk x y news z by_ hdd hx hb hss hm hlen hbd hb0 hT hU hz hE hzs hby hy hbsz h63 hs0 =>
      obtain ⟨v, w', μ', Z', r1, r2, r3, r4⟩ := app_sound (P := P) (ty := ty) hc hr hx hb hss hm hlen hbd hb0 hT hU hz hE hzs hby hy hbsz h63
      have hrun : (execOp a.eval ⟨dst, .call ⟨.builtin .append, #[x, y], #[T, U]⟩, ty, pos, after, g⟩).run P w = .ok (.value v) w' := by
        simp only [execOp, resolve, Sem.run_bind, Sem.run_pure, Result.andThen_ok, invoke, builtin]
        simp only [List.map_toArray, List.map_cons, List.map_nil, r1, Result.andThen_ok]
      unfold Oper.wp
      rw [hrun, Oper.upon_value]
      refine hK _ _ ⟨by rw [put_defers]; exact hdf, by rw [put_size]; exact hsz, μ', Z', by rw [put_heap]; exact r2, ?_⟩
      exact put_rep hd' r3 r4
    | @app0 T U E E' d sz x y news z by_ hdd hx hbd hT hU hz hE hzs hby hy hn hbsz h63 hs0 =>
      obtain ⟨v, w', μ', Z', r1, r2, r3, r4⟩ := app0_sound (P := P) (ty := ty) hc hr hx hbd hT hU hz hE hzs hby hy hn hbsz h63
      have hrun : (execOp a.eval ⟨dst, .call ⟨.builtin .append, #[x, y], #[T, U]⟩, ty, pos, after, g⟩).run P w = .ok (.value v) w' := by
        simp only [execOp, resolve, Sem.run_bind, Sem.run_pure, Result.andThen_ok, invoke, builtin]
        simp only [List.map_toArray, List.map_cons, List.map_nil, r1, Result.andThen_ok]
      unfold Oper.wp
      rw [hrun, Oper.upon_value]
      refine hK _ _ ⟨by rw [put_defers]; exact hdf, by rw [put_size]; exact hsz, μ', Z', by rw [put_heap]; exact r2, ?_⟩
      exact put_rep hd' r3 r4
  | stM _ hg ho =>
    rw [guard_wanted hr hg]
    simp only [if_true]
    obtain ⟨dst, op, ty, pos, after, g⟩ := o
    simp only at ho hd'
    cases ho with
    | call hb hm hp ha hn hk hm' hp' =>
      refine callM_sound hc hr hb hm hp ha hn hk hm' hp' fun v w' Z' h1 h2 h3 => ?_
      refine hK _ _ ⟨by rw [put_defers]; exact hdf, by rw [put_size]; exact hsz, μ, Z', by rw [put_heap]; exact h1, ?_⟩
      exact put_rep (L := L.setB _ _) hd' h2 h3

theorem opsL_sound {Q : Exit → Act → World → Prop} {K : St → Prop} : ∀ (l : List Oper) (L : St) (a : Act) (w : World), Sim n W X Z0 L a w → opsL P dr ops l L K → (∀ o ∈ l, ∀ t, o.dst = some t → t < n) →
    (∀ L' a' w', K L' → Sim n W X Z0 L' a' w' → Q .normal a' w') → wpList P ops Q l a w
  | [], L, a, w, hs, hk, _, hq => hq L a w hk hs
  | o :: r, L, a, w, hs, ⟨L', h1, h2⟩, hd, hq => by
      have := step_sound (Q := Q) (K := wpList P ops Q r) hs h1 (hd o (by simp)) (fun a' w' hs' => opsL_sound r L' a' w' hs' h2 (fun o' ho' => hd o' (by simp [ho'])) hq)
      unfold wpList
      split
      · rename_i h; rw [if_pos h] at this; exact .inl this
      · rename_i h; rw [if_neg h] at this; exact this
end

/-- What is known may be forgotten or told otherwise. -/
def Weak (L L' : St) : Prop := ∀ n W X Z0 a w, Sim n W X Z0 L a w → Sim n W X Z0 L' a w
theorem Weak.refl (L : St) : Weak L L := fun _ _ _ _ _ _ h => h
theorem Weak.trans {L L' L'' : St} (h : Weak L L') (h' : Weak L' L'') : Weak L L'' := fun n W X Z0 a w k => h' n W X Z0 a w (h n W X Z0 a w k)
theorem Weak.kill (L : St) (b : Nat) (h0 : b ≠ 0 := by decide) : Weak L (L.kill b) := fun _ _ _ _ _ _ ⟨h1, h2, _, Z, hc, hr⟩ => ⟨h1, h2, _, Z, hc.kill b h0, kill_rep b hr⟩
end Go.Lg
