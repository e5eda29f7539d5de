/- The operations that make memory or call, over logical values, and what the machine does at them. -/
import Derived.Test.YthhdcfhaldcheaaLgF
set_option linter.unusedVariables false
set_option linter.unusedSimpArgs false
namespace Go.Lg

def TyBytes (P : Program) (T : TypeId) (n : Nat) : Prop := ∃ i, P.info? T = some i ∧ i.bytes = n

inductive OpA (P : Program) (ρ : Operand → LV) (d : Nat) : Op → LV → Blk → Prop
  | make {T E l c kl kc z sz by_ n m} (hT : P.underlying T = some (.slice E)) (hz : ZeroOK P E z) (hE : TyIs P E sz z.isAgg) (hzs : z.csize = sz) (hb : TyBytes P E by_)
      (hl : ρ l = .v (.int kl (n : Nat))) (hc : ρ c = .v (.int kc (m : Nat))) (hnm : n ≤ m) (hm : by_ * m ≤ 281474976710656) (hm2 : m ≤ 9223372036854775807) :
      OpA P ρ d (.makeSlice T l c) (.ref d sz 0 n) ⟨sz, List.replicate n z, true⟩
  | lit {T E n ps z sz} (hT : P.underlying T = some (.slice E)) (hz : ZeroOK P E z) (hE : TyIs P E sz z.isAgg) (hzs : z.csize = sz) (hn : n * sz ≤ 16777216) (h0 : 0 < n) (hs0 : 0 < sz)
      (hp : ∀ p ∈ ps.toList, p.1 < n ∧ lay (ρ p.2) = lay z ∧ ρ p.2 ≠ .any ∧ ∀ m, ρ p.2 ≠ .tup m) :
      OpA P ρ d (.buildSlice T n ps) (.ref d sz 0 n) ⟨sz, buildL (List.replicate n z) (ps.toList.map fun p => (p.1, ρ p.2)), true⟩
  | lit0 {T E sz ag} (hT : P.underlying T = some (.slice E)) (hE : TyIs P E sz ag) : OpA P ρ d (.buildSlice T 0 #[]) (.ref d sz 0 0) ⟨sz, [], true⟩
  | box {T x} (hne : ρ x ≠ .any ∧ ∀ m, ρ x ≠ .tup m) : OpA P ρ d (.box T x) (.eptr d (ρ x).csize 0 0) ⟨(ρ x).csize, [ρ x], true⟩
  | alloc {T z} (hz : ZeroOK P T z) : OpA P ρ d (.alloc T) (.eptr d z.csize 0 0) ⟨z.csize, [z], true⟩

inductive OpC (P : Program) (H : Heap) (ρ : Operand → LV) (d : Nat) : Op → LV → List Blk → Prop
  | func {f xs as args r bs} (ha : ImmL H (xs.toList.map ρ) args) (hk : CallOK P f args r bs) (hlen : bs.length < 16) (hpu : ∀ blk ∈ bs, pures blk.vals = true) :
      OpC P H ρ d (.call ⟨.value (.func f), xs, as⟩) (r.ren (callName d)) bs
  | clo {t f cap xs as args r bs} (ht : ρ (.tmp t) = .clo f cap) (ha : ImmL H (xs.toList.map ρ) args) (hcap : pures cap = true ∧ ∀ x ∈ cap, x.csize = 1 ∧ x.isAgg = false) (hk : CallOK P f (args ++ cap) r bs)
      (hlen : bs.length < 16) (hpu : ∀ blk ∈ bs, pures blk.vals = true) :
      OpC P H ρ d (.call ⟨.value (.tmp t), xs, as⟩) (r.ren (callName d)) bs
  | mk {f xs caps} (ha : ImmL H (xs.toList.map ρ) caps) (h1 : ∀ x ∈ caps, x.csize = 1 ∧ x.isAgg = false) : OpC P H ρ d (.makeFunc (.func f) #[] xs) (.clo f caps) []

/-- An operation that changes no block that is there: its value, and the blocks that it makes. -/
inductive OpV (P : Program) (H : Heap) (ρ : Operand → LV) (d : Nat) : Op → LV → List (Nat × Blk) → Prop
  | pure {op r} (h : OpP P H ρ op r) : OpV P H ρ d op r []
  | alloc {op r blk} (h : OpA P ρ d op r blk) : OpV P H ρ d op r [(d, blk)]
  | call {op r bs} (h : OpC P H ρ d op r bs) : OpV P H ρ d op r (bs.mapIdx fun i blk => (callName d (i + 1), blk))

section
variable {P : Program} {W w : World} {X Z0 Z : Nat → Prop} {μ : Nat → Option Nat} {H H' : Heap} {ρ : Operand → LV} {a : Act}

theorem OpP.le {op : Op} {r : LV} (hle : H.le H') (h : OpP P H ρ op r) : OpP P H' ρ op r := by
  cases h with
  | loadE hp hb hs hi hx hr hT =>
    obtain ⟨m, g1, _⟩ := hle _ _ hb
    exact .loadE (blk := ⟨_, _, m⟩) hp g1 hs hi hx hr hT
  | move x => exact .move x
  | assign x => exact .assign x
  | pick h => exact .pick h
  | bin hx hy h => exact .bin hx hy h
  | sh hx hy h => exact .sh hx hy h
  | beq hx hy hT => exact .beq hx hy hT
  | bne hx hy hT => exact .bne hx hy hT
  | not hx => exact .not hx
  | neg hx => exact .neg hx
  | conv hS hD hx => exact .conv hS hD hx
  | extract ht hr hne => exact .extract ht hr hne
  | field hx hT hr hne => exact .field hx hT hr hne
  | fieldAddrB hp hT hr => exact .fieldAddrB hp hT hr
  | fieldAddrE hp hT hk => exact .fieldAddrE hp hT hk
  | loadB hp hT hc => exact .loadB hp hT hc
  | nilChkE hx => exact .nilChkE hx
  | nilChkB hx => exact .nilChkB hx
  | idxL hx hT hE hi h0 hr hc => exact .idxL hx hT hE hi h0 hr hc
  | idxR hx hT hE hi h0 hn => exact .idxR hx hT hE hi h0 hn
  | sliceL hx hT hE a b c d e f => exact .sliceL hx hT hE a b c d e f
  | sliceR hx hT hE a b c d e f g => exact .sliceR hx hT hE a b c d e f g
  | sliceR3 hx hT hE a b c d e f g i => exact .sliceR3 hx hT hE a b c d e f g i
  | lenL hx has hT => exact .lenL hx has hT
  | lenR hx has hT => exact .lenR hx has hT
  | lenN hx has hT => exact .lenN hx has hT
  | min2 hx hy => exact .min2 hx hy
  | max2 hx hy => exact .max2 hx hy
  | indexS hx hT hi h0 hb => exact .indexS hx hT hi h0 hb
  | ext2 hf hname hb hn he hx hr h1 h2 => exact .ext2 hf hname hb hn he hx hr h1 h2
  | addS hx hy h => exact .addS hx hy h
  | eqS hx hy => exact .eqS hx hy
  | strR hS hE hD hx hb hs hv hl =>
    obtain ⟨m, h1, _⟩ := hle _ _ hb
    exact .strR hS hE hD hx h1 hs hv hl
  | build hT hz hp => exact .build hT hz hp
theorem OpV.le {op : Op} {r : LV} {d : Nat} {fr : List (Nat × Blk)} (hle : H.le H') (h : OpV P H ρ d op r fr) : OpV P H' ρ d op r fr := by
  cases h with
  | pure h => exact .pure (h.le hle)
  | alloc h => exact .alloc h
  | call h =>
    refine .call ?_
    cases h with
    | func ha hk hlen hpu => exact .func (ImmL.le hle ha) hk hlen hpu
    | clo ht ha hcap hk hlen hpu => exact .clo ht (ImmL.le hle ha) hcap hk hlen hpu
    | mk ha h1 => exact .mk (ImmL.le hle ha) h1

/-- values handed over -/
theorem immL_args (hc : Core W X Z0 μ Z H w) : ∀ (xs : List Operand) (args : List LV), ImmL H (xs.map ρ) args → (∀ x ∈ xs, RepV Z μ w (ρ x) (a.eval x)) →
    RepVL Z (fun _ => none) w args (xs.map a.eval)
  | [], _, h, _ => by cases h; rfl
  | x :: xs, _, h, hr => by
      cases h with
      | cons h t =>
        exact ⟨_, _, rfl, Imm.soundV hc h (hr x (by simp)), immL_args hc xs _ t (fun y hy => hr y (by simp [hy]))⟩
theorem RepVL.append : ∀ (l m : List LV) (vs us : List Value), RepVL Z μ w l vs → RepVL Z μ w m us → RepVL Z μ w (l ++ m) (vs ++ us)
  | [], m, vs, us, h, h' => by cases h; exact h'
  | x :: xs, m, _, us, ⟨v, vs', e, h1, h2⟩, h' => by
      subst e
      exact ⟨v, vs' ++ us, by simp, h1, RepVL.append xs m vs' us h2 h'⟩
theorem repVL_of_all1 {μ' : Nat → Option Nat} : ∀ (l : List LV) (cs : List Value), pures l = true → (∀ x ∈ l, x.csize = 1 ∧ x.isAgg = false) → RepAll Z μ w 1 l cs → RepVL Z μ' w l cs
  | [], cs, _, _, h => by simp only [RepAll] at h; exact h
  | x :: xs, cs, hp, h1, h => by
      simp only [RepAll] at h
      obtain ⟨c1, c2, rfl, h2, h3, h4⟩ := h
      match c1, h2 with
      | [y], _ =>
        refine ⟨y, c2, rfl, ⟨fun e => ?_, fun _ => Rep.repure (fun _ h => h) (fun _ _ => rfl) _ _ (pure_cons hp).1 h3⟩, repVL_of_all1 xs c2 (pure_cons hp).2 (fun z hz => h1 z (by simp [hz])) h4⟩
        rw [(h1 x (by simp)).2] at e; cases e
theorem all1_of_repVL {μ' : Nat → Option Nat} : ∀ (l : List LV) (vs : List Value), pures l = true → (∀ x ∈ l, x.csize = 1 ∧ x.isAgg = false) → RepVL Z μ w l vs → RepAll Z μ' w 1 l vs
  | [], vs, _, _, h => by simp only [RepAll]; exact h
  | x :: xs, _, hp, h1, ⟨v, vs', e, h2, h3⟩ => by
      subst e
      simp only [RepAll]
      exact ⟨[v], vs', rfl, rfl, Rep.repure (fun _ h => h) (fun _ _ => rfl) _ _ (pure_cons hp).1 (h2.2 (h1 x (by simp)).2), all1_of_repVL xs vs' (pure_cons hp).2 (fun z hz => h1 z (by simp [hz])) h3⟩

theorem callFunc_run {f : FuncId} {args : Array Value} (h : Callable P f) : (callFunc f args).run P w = .ok (.enter f args) w := by
  obtain ⟨fn, h1, h2, h3⟩ := h
  simp only [callFunc, Sem.run_bind, run_program, Result.andThen_ok, h1, h3, Bool.false_eq_true, if_false, h2, Sem.run_pure]

theorem made_list (z : Array Value) (hz : 0 < z.size) : ∀ n, (madeCells z (n * z.size)).toList = (List.replicate n z.toList).flatten
  | 0 => by simp [madeCells]
  | n + 1 => by
      have ih := made_list z hz n
      simp only [madeCells, Array.toList_map, Array.toList_range] at ih ⊢
      rw [Nat.succ_mul, List.range_add, List.map_append, ih, List.replicate_succ', List.flatten_append, List.map_map]
      congr 1
      simp only [List.flatten_cons, List.flatten_nil, List.append_nil]
      apply List.ext_getElem
      · simp
      · intro j h1 h2
        simp at h1
        simp [Nat.mod_eq_of_lt h1, h1]
theorem repAll_replicate_split {sz : Nat} {z : LV} {ch : List Value} (h : Rep Z μ w z ch) (hl : ch.length = sz) (n m : Nat) (hnm : n ≤ m) :
    ∃ part rest, (List.replicate m ch).flatten = part ++ rest ∧ RepAll Z μ w sz (List.replicate n z) part := by
  refine ⟨(List.replicate n ch).flatten, (List.replicate (m - n) ch).flatten, ?_, RepAll.replicate h hl n⟩
  rw [← List.flatten_append, List.replicate_append_replicate, Nat.add_sub_cancel' hnm]

theorem callMap_new {μr : Nat → Option Nat} {d : Nat} {b : Nat} (h : callMap μ μr d b ≠ none) : μ b ≠ none ∨ ∃ k, b = callName d k ∧ μr k ≠ none := by
  unfold callMap at h
  split at h
  · cases hq : μr (b - (1000000 + d * 16)) with
    | none => rw [hq] at h; exact .inl (by simpa using h)
    | some id => exact .inr ⟨b - (1000000 + d * 16), by unfold callName; omega, by rw [hq]; simp⟩
  · exact .inl h

/-- What follows an operation that changes no block that is there. -/
structure After (W : World) (X Z0 : Nat → Prop) (μ : Nat → Option Nat) (Z : Nat → Prop) (H : Heap) (w : World) (r : LV) (fr : List (Nat × Blk)) (v : Value) (w' : World) (μ' : Nat → Option Nat) (Z' : Nat → Prop) : Prop where
  core : Core W X Z0 μ' Z' H w'
  hz : ∀ id, Z id → Z' id
  hm : ∀ b id, μ b = some id → μ' b = some id
  hf : Frame Z μ w w'
  rep : RepV Z' μ' w' r v
  new : ∀ b, μ' b ≠ none → μ b ≠ none ∨ b ∈ fr.map (·.1)

theorem call_sound {f : FuncId} {vs : Array Value} {d : Nat} {args : List LV} {r : LV} {bs : List Blk} {o : Oper} {K : Act → World → Prop} {Q : Exit → Act → World → Prop}
    (hc : Core W X Z0 μ Z H w) (hk : CallOK P f args r bs) (hlen : bs.length < 16) (hpu : ∀ blk ∈ bs, pures blk.vals = true)
    (hargs : RepVL Z (fun _ => none) w args vs.toList)
    (hfr : ∀ i blk, bs[i]? = some blk → ∃ m, H (callName d (i + 1)) = some ⟨blk.sz, blk.vals, m⟩ ∧ (blk.mt = false → m = false) ∧ μ (callName d (i + 1)) = none)
    (hrun : (execOp a.eval o).run P w = .ok (.enter f vs) w)
    (hK : ∀ v w' μ' Z', After W X Z0 μ Z H w (r.ren (callName d)) (bs.mapIdx fun i blk => (callName d (i + 1), blk)) v w' μ' Z' → K (a.put o.dst v) w') : o.wp P a w K Q := by
  unfold Oper.wp
  rw [hrun, Oper.upon_enter]
  have := hk.2 w Z vs.toList hc.zone hargs
  rw [Array.toArray_toList] at this
  refine this.mono ?_
  rintro e w' ⟨v, μr, Zr, rfl, hr, hv⟩
  obtain ⟨Z', h1, h2, h3, h4, h5, h6⟩ := hc.call hr hlen hpu hfr
  refine hK v w' _ Z' ⟨h1, h3, h4, h5, ?_, ?_⟩
  · exact (hv.mono h2 (fun _ _ h => h) ⟨fun _ _ => rfl, (Frame.refl Zr μr w').m⟩).ren (callName d) h6
  · intro b hb
    rcases callMap_new hb with h | ⟨k, rfl, h⟩
    · exact .inl h
    · right
      obtain ⟨id, hid⟩ := Option.ne_none_iff_exists'.1 h
      obtain ⟨blk, g1, _⟩ := hr.heap k id hid
      have h0 : k ≠ 0 := by rintro rfl; simp [outHeap] at g1
      have g2 : bs[k - 1]? = some blk := by simpa [outHeap, h0] using g1
      simp only [List.mem_map, List.mem_mapIdx]
      refine ⟨_, ⟨k - 1, (List.getElem?_eq_some_iff.1 g2).1, rfl⟩, ?_⟩
      show callName d (k - 1 + 1) = callName d k
      congr 1; omega

theorem repFs_of_all {sz : Nat} : ∀ (l : List LV) (cs : List Value), (∀ x ∈ l, x.csize = sz) → RepAll Z μ w sz l cs → RepFs Z μ w l cs
  | [], cs, _, h => by simpa [RepAll, RepFs] using h
  | x :: xs, cs, hx, h => by
      simp only [RepAll, RepFs] at h ⊢
      obtain ⟨c1, c2, h1, h2, h3, h4⟩ := h
      exact ⟨c1, c2, h1, by rw [h2, hx x (by simp)], h3, repFs_of_all xs c2 (fun y hy => hx y (by simp [hy])) h4⟩
theorem all_of_repFs {sz : Nat} : ∀ (l : List LV) (cs : List Value), (∀ x ∈ l, x.csize = sz) → RepFs Z μ w l cs → RepAll Z μ w sz l cs
  | [], cs, _, h => by simpa [RepAll, RepFs] using h
  | x :: xs, cs, hx, h => by
      simp only [RepAll, RepFs] at h ⊢
      obtain ⟨c1, c2, h1, h2, h3, h4⟩ := h
      exact ⟨c1, c2, h1, by rw [h2, hx x (by simp)], h3, all_of_repFs xs c2 (fun y hy => hx y (by simp [hy])) h4⟩
theorem sumL_replicate (x : Nat × Bool) : ∀ n, sumL (List.replicate n x) = n * x.1
  | 0 => by simp [sumL]
  | n + 1 => by simp [List.replicate_succ, sumL, sumL_replicate x n, Nat.succ_mul]; omega
theorem buildL_lay : ∀ (qs : List (Nat × LV)) (zs : List LV) (n : Nat × Bool), (∀ x ∈ zs, lay x = n) → (∀ q ∈ qs, lay q.2 = n) → ∀ x ∈ buildL zs qs, lay x = n
  | [], zs, n, h, _ => h
  | q :: qs, zs, n, h, hq => by
      refine buildL_lay qs (zs.set q.1 q.2) n (fun x hx => ?_) (fun q' h' => hq q' (by simp [h']))
      rcases List.mem_or_eq_of_mem_set hx with hx | rfl
      · exact h x hx
      · exact hq q (by simp)
theorem lit_sound {T E : TypeId} {n : Nat} {ps : Array (Nat × Operand)} {z : LV} {sz : Nat} (hT : P.underlying T = some (.slice E)) (hz : ZeroOK P E z) (hE : TyIs P E sz z.isAgg) (hzs : z.csize = sz)
    (hn : n * sz ≤ 16777216) (h0 : 0 < n) (hs0 : 0 < sz) (hp : ∀ p ∈ ps.toList, p.1 < n ∧ lay (ρ p.2) = lay z ∧ ρ p.2 ≠ .any ∧ ∀ m, ρ p.2 ≠ .tup m)
    (hρ : ∀ p ∈ ps.toList, RepV Z μ w (ρ p.2) (a.eval p.2)) :
    ∃ cs, (Instr.buildSlice T n (ps.map fun (i, x) => (i, a.eval x))).run P w = .ok (.slice (some ⟨w.heap.size, 0, none⟩) n n) (w.alloc (.cells cs E)) ∧
      RepAll Z μ w sz (buildL (List.replicate n z) (ps.toList.map fun p => (p.1, ρ p.2))) cs.toList := by
  obtain ⟨i, zv, z1, z2, z3, z4⟩ := hz
  have hne := LV.pure_ne_any z3
  have hsz : i.size = sz := by have := hE.1; rw [z1] at this; simpa using this
  have hzl := Rep.len (z4 Z μ w) hne
  have hzs' : zv.cells.size = sz := by rw [← Array.length_toList, hzl, hzs]
  have hmade : (madeCells zv.cells (n * sz)).toList = (List.replicate n zv.cells.toList).flatten := by
    have := made_list zv.cells (by omega) n
    rwa [hzs'] at this
  have hall : RepAll Z μ w sz (List.replicate n z) (madeCells zv.cells (n * sz)).toList := by
    rw [hmade]; exact RepAll.replicate (z4 Z μ w) (by rw [hzl, hzs]) n
  have hcz : ∀ x ∈ List.replicate n z, x.csize = sz := fun x hx => by rw [(List.mem_replicate.1 hx).2, hzs]
  obtain ⟨cs, f1, f2⟩ := fill_sound (Z := Z) (μ := μ) (w := w) (ls := List.replicate n (lay z)) (fun k => some (k * sz, sz))
    (fun k m hk => by
      obtain ⟨h1, h2⟩ := List.getElem?_eq_some_iff.1 hk
      simp at h1 h2
      subst h2
      rw [List.take_replicate, sumL_replicate, Nat.min_eq_left (by omega)]
      simp [lay, hzs])
    (ps.toList.map fun p => (p.1, a.eval p.2)) (ps.toList.map fun p => (p.1, ρ p.2)) (List.replicate n z) (madeCells zv.cells (n * sz)) (by simp) (repFs_of_all _ _ hcz hall) (by simp)
    (fun j p q hp1 hq1 => by
      simp only [List.getElem?_map, Option.map_eq_some_iff] at hp1 hq1
      obtain ⟨x, hx, rfl⟩ := hp1
      obtain ⟨y, hy, rfl⟩ := hq1
      rw [hx] at hy; cases hy
      have hm := List.mem_of_getElem? hx
      obtain ⟨_, _, h3, h4⟩ := hp x hm
      exact ⟨RepV.to1 h4 h3 (hρ x hm), h3⟩)
    (fun q hq => by
      simp only [List.mem_map] at hq
      obtain ⟨x, hx, rfl⟩ := hq
      obtain ⟨h1, h2, _⟩ := hp x hx
      exact ⟨lay z, by simp [h1], h2⟩)
  refine ⟨cs, ?_, all_of_repFs _ _ (fun x hx => ?_) f2⟩
  · have hzv : (zeroValue E).run P w = .ok zv w := by simp [zeroValue, typeInfo, z1, z2]
    have hso : (sizeOf E).run P w = .ok sz w := run_sizeOf hE
    have hns : ¬ n * sz = 0 := by
      intro h; rcases Nat.mul_eq_zero.1 h with h | h <;> omega
    have hle : ¬ 2 ^ 24 < n * sz := by
      have : (2 : Nat) ^ 24 = 16777216 := by decide
      omega
    have hps : (Array.map (fun x => match x with | (i, x) => (i, a.eval x)) ps).toList = ps.toList.map fun p => (p.1, a.eval p.2) := by simp
    simp only [Instr.buildSlice, Sem.run_bind, run_underlying hT, Result.andThen_ok, hso, gt_iff_lt, hle, if_false, Sem.run_ite, hns, hzv, Sem.run_pure, hps]
    have hmk : (Array.range (n * sz)).map (fun x => zv.cells[x % zv.cells.size]!) = madeCells zv.cells (n * sz) := rfl
    rw [hmk, f1]
    rfl
  · have hb := buildL_lay (ps.toList.map fun p => (p.1, ρ p.2)) (List.replicate n z) (lay z) (fun x hx => by rw [(List.mem_replicate.1 hx).2]) (fun q hq => by
      simp only [List.mem_map] at hq
      obtain ⟨y, hy, rfl⟩ := hq
      exact (hp y hy).2.1) x hx
    have := congrArg Prod.fst hb
    simpa [lay, hzs] using this
theorem opA_sound {op : Op} {r : LV} {d : Nat} {blk : Blk} (hc : Core W X Z0 μ Z H w) (ho : OpA P ρ d op r blk) (hρ : ∀ x ∈ op.operands, RepV Z μ w (ρ x) (a.eval x))
    {m : Bool} (hH : H d = some ⟨blk.sz, blk.vals, m⟩) (hμ : μ d = none) (dst : Option Tmp) (ty : TypeId) (pos : String) (after : Array Edge) (g : Option (Nat × Bool)) :
    ∃ v w' μ' Z', (execOp a.eval ⟨dst, op, ty, pos, after, g⟩).run P w = .ok (.value v) w' ∧ After W X Z0 μ Z H w r [(d, blk)] v w' μ' Z' := by
  have hnew : ∀ id b, upd μ d id b ≠ none → μ b ≠ none ∨ b ∈ [(d, blk)].map (·.1) := fun id b h => by
    unfold upd at h
    split at h
    · subst_vars; right; simp
    · exact .inl h
  cases ho with
  | @make T E l c kl kc z sz by_ n cp hT hz hE hzs hb hl hcp hnm hm1 hm2 =>
    obtain ⟨i, zv, z1, z2, z3, z4⟩ := hz
    have e1 := hρ l (by simp [Op.operands]); rw [hl] at e1; have e1 := e1.v_eq
    have e2 := hρ c (by simp [Op.operands]); rw [hcp] at e2; have e2 := e2.v_eq
    have hne := LV.pure_ne_any z3
    have hsz : i.size = sz := by have := hE.1; rw [z1] at this; simpa using this
    have hby : i.bytes = by_ := by obtain ⟨i', g1, g2⟩ := hb; rw [z1] at g1; cases g1; exact g2
    have hzl := Rep.len (z4 Z μ w) hne
    have hzs' : zv.cells.size = sz := by rw [← Array.length_toList, hzl, hzs]
    have hr := run_make (P := P) w T E i zv hT z1 z2 kl kc (n : Int) (cp : Int) (by omega) (by omega) (by rw [hby]; omega) (by omega)
    simp only [Int.toNat_natCast, hsz] at hr
    obtain ⟨part, rest, p1, p2⟩ := repAll_replicate_split (sz := sz) (z4 Z μ w) (by rw [hzl, hzs]) n cp hnm
    have hcells : (madeCells zv.cells (cp * sz)).toList = part ++ rest := by
      by_cases hpos : 0 < zv.cells.size
      · rw [← hzs', made_list _ hpos, p1]
      · have : sz = 0 := by omega
        rw [← p1, this]
        have h0 : zv.cells.toList = [] := by
          apply List.eq_nil_of_length_eq_zero; rw [Array.length_toList]; omega
        simp [madeCells, h0]
    obtain ⟨Z', h1, h2, h3, h4, h5, h6⟩ := hc.push hH hμ (Pushed.alloc w (.cells (madeCells zv.cells (cp * sz)) E)) hcells p2
    refine ⟨_, _, _, Z', by simp only [execOp, e1, e2]; rw [Sem.run_bind, hr]; rfl, h1, h2, h3, h4, ⟨by simp [LV.isAgg], fun _ => ?_⟩, hnew _⟩
    simp only [Rep]
    exact .inr ⟨w.heap.size, cp, _, E, (0, 0), by simp, h5, hnm, h6, by rw [size_madeCells]; simp⟩
  | @lit T E n ps z sz hT hz hE hzs hn h0 hs0 hp =>
    have hpm : ∀ p ∈ ps.toList, RepV Z μ w (ρ p.2) (a.eval p.2) := fun p hp => hρ p.2 (by simp [Op.operands]; exact ⟨p.1, by simpa using hp⟩)
    obtain ⟨cs, r1, r2⟩ := lit_sound (P := P) (Z := Z) (μ := μ) (w := w) (a := a) hT hz hE hzs hn h0 hs0 hp hpm
    obtain ⟨Z', h1, h2, h3, h4, h5, h6⟩ := hc.push hH hμ (Pushed.alloc w (.cells cs E)) (List.append_nil _).symm r2
    refine ⟨_, _, _, Z', by simp only [execOp]; rw [Sem.run_bind, r1]; rfl, h1, h2, h3, h4, ⟨by simp [LV.isAgg], fun _ => ?_⟩, hnew _⟩
    simp only [Rep]
    have hl := RepAll.length _ _ r2
    have hbl : (buildL (List.replicate n z) (ps.toList.map fun p => (p.1, ρ p.2))).length = n := by
      have : ∀ (qs : List (Nat × LV)) (zs : List LV), (buildL zs qs).length = zs.length := fun qs => by
        induction qs with
        | nil => intro zs; rfl
        | cons q qs ih => intro zs; exact (ih _).trans (by simp)
      rw [this]; simp
    exact .inr ⟨w.heap.size, n, cs, E, (0, 0), by simp, h5, Nat.le_refl _, h6, by rw [← Array.length_toList, hl, hbl]; simp⟩
  | @lit0 T E sz ag hT hE =>
    obtain ⟨Z', h1, h2, h3, h4, h5, h6⟩ := hc.push hH hμ (Pushed.alloc w (.cells #[] E)) (part := []) (rest := []) rfl (by simp [RepAll])
    refine ⟨_, _, _, Z', by simp [execOp, Instr.buildSlice, run_underlying hT, run_sizeOf hE, Instr.fill, newRow, show (Array.map (fun _ : Nat => (default : Value)) (Array.range 0)) = #[] from by apply Array.ext'; simp]; exact rfl, h1, h2, h3, h4, ⟨by simp [LV.isAgg], fun _ => ?_⟩, hnew _⟩
    simp only [Rep]
    exact .inr ⟨w.heap.size, 0, #[], E, (0, 0), by rw [Nat.zero_mul], h5, Nat.le_refl _, h6, by simp⟩
  | @box T x hne =>
    have e1 := hρ x (by simp [Op.operands])
    obtain ⟨c1, c2, _, _⟩ := (RepV.to1 hne.2 hne.1 e1).cells hne.1
    have hrep : RepAll Z μ w (ρ x).csize [ρ x] (a.eval x).cells.toList := by
      simp only [RepAll]
      exact ⟨_, [], by simp, by simp [c2], c1, rfl⟩
    obtain ⟨Z', h1, h2, h3, h4, h5, h6⟩ := hc.push (T := T) (c := (a.eval x).cells) hH hμ (Pushed.alloc w _) (List.append_nil _).symm hrep
    refine ⟨_, _, _, Z', by simp only [execOp, Instr.box, newVar, newRow, Sem.run_bind, run_newObj, Result.andThen_ok, Sem.run_pure]; rfl, h1, h2, h3, h4, ⟨by simp [LV.isAgg], fun _ => ?_⟩, hnew _⟩
    simp only [Rep]
    exact ⟨w.heap.size, by simp, h5⟩
  | @alloc T z hz =>
    obtain ⟨i, zv, z1, z2, z3, z4⟩ := hz
    have hne := LV.pure_ne_any z3
    have hzl := Rep.len (z4 Z μ w) hne
    have hrep : RepAll Z μ w z.csize [z] zv.cells.toList := by
      simp only [RepAll]
      exact ⟨_, [], by simp, by simpa using hzl, z4 Z μ w, rfl⟩
    obtain ⟨Z', h1, h2, h3, h4, h5, h6⟩ := hc.push (T := T) (c := zv.cells) hH hμ (Pushed.alloc w _) (List.append_nil _).symm hrep
    have hzv : (zeroValue T).run P w = .ok zv w := by simp [zeroValue, typeInfo, z1, z2]
    refine ⟨_, _, _, Z', by simp only [execOp, Instr.alloc, newVar, newRow, Sem.run_bind, hzv, run_newObj, Result.andThen_ok, Sem.run_pure]; rfl, h1, h2, h3, h4, ⟨by simp [LV.isAgg], fun _ => ?_⟩, hnew _⟩
    simp only [Rep]
    exact ⟨w.heap.size, by simp, h5⟩

theorem opC_sound {op : Op} {r : LV} {d : Nat} {bs : List Blk} (hc : Core W X Z0 μ Z H w) (ho : OpC P H ρ d op r bs) (hρ : ∀ x ∈ op.operands, RepV Z μ w (ρ x) (a.eval x))
    (hfr : ∀ i blk, bs[i]? = some blk → ∃ m, H (callName d (i + 1)) = some ⟨blk.sz, blk.vals, m⟩ ∧ (blk.mt = false → m = false) ∧ μ (callName d (i + 1)) = none)
    (dst : Option Tmp) (ty : TypeId) (pos : String) (after : Array Edge) (g : Option (Nat × Bool)) {K : Act → World → Prop} {Q : Exit → Act → World → Prop}
    (hK : ∀ v w' μ' Z', After W X Z0 μ Z H w r (bs.mapIdx fun i blk => (callName d (i + 1), blk)) v w' μ' Z' → K (a.put dst v) w') :
    (⟨dst, op, ty, pos, after, g⟩ : Oper).wp P a w K Q := by
  cases ho with
  | @func f xs as args r bs ha hk hlen hpu =>
    have hargs := immL_args (a := a) hc xs.toList args ha (fun x hx => hρ x (by simp [Op.operands, Call.operands]; right; simpa using hx))
    refine call_sound (vs := xs.map a.eval) hc hk hlen hpu (by simpa using hargs) hfr ?_ hK
    simp only [execOp, resolve, Act.eval, Deferred.ofValue, Sem.run_bind, Sem.run_pure, Result.andThen_ok, invoke]
    have := callFunc_run (P := P) (w := w) (args := xs.map a.eval) hk.1
    simpa using this
  | @clo t f cap xs as args r bs ht ha hcap hk hlen hpu =>
    have hargs := immL_args (a := a) hc xs.toList args ha (fun x hx => hρ x (by simp [Op.operands, Call.operands]; right; simpa using hx))
    have e1 := hρ (.tmp t) (by simp [Op.operands, Call.operands])
    rw [ht] at e1
    have e2 := e1.2 rfl
    simp only [Rep] at e2
    obtain ⟨cv, q1, q2, _⟩ := e2
    simp only [List.cons.injEq, and_true] at q1
    have hcv := repVL_of_all1 (μ' := fun _ => none) cap cv.toList hcap.1 hcap.2 q2
    refine call_sound (vs := xs.map a.eval ++ cv) hc hk hlen hpu (by simpa using RepVL.append _ _ _ _ hargs hcv) hfr ?_ hK
    have := callFunc_run (P := P) (w := w) (args := xs.map a.eval ++ cv) hk.1
    simp only [execOp, resolve, q1, Deferred.ofValue, Sem.run_bind, Sem.run_pure, Result.andThen_ok, invoke]
    simpa using this
  | @mk f xs caps ha h1 =>
    have hargs := immL_args (a := a) hc xs.toList caps ha (fun x hx => hρ x (by simp [Op.operands]; simpa using hx))
    have hp := (ImmL.lay ha).2
    have hrun : (execOp a.eval ⟨dst, .makeFunc (.func f) #[] xs, ty, pos, after, g⟩).run P w = .ok (.value (.func (.func f) #[] (xs.map a.eval))) w := by
      simp [execOp, Instr.makeFunc]
    unfold Oper.wp
    rw [hrun, Oper.upon_value]
    refine hK _ w μ Z ⟨hc, fun _ h => h, fun _ _ h => h, Frame.refl _ _ _, ⟨by simp [LV.isAgg], fun _ => ?_⟩, fun b h => .inl h⟩
    simp only [Rep]
    exact ⟨_, rfl, all1_of_repVL caps _ hp h1 (by simpa using hargs), hp⟩

theorem OpV.sound {op : Op} {r : LV} {d : Nat} {fr : List (Nat × Blk)} (hc : Core W X Z0 μ Z H w) (ho : OpV P H ρ d op r fr) (hρ : ∀ x ∈ op.operands, RepV Z μ w (ρ x) (a.eval x))
    (hfr : ∀ b blk, (b, blk) ∈ fr → ∃ m, H b = some ⟨blk.sz, blk.vals, m⟩ ∧ (blk.mt = false → m = false) ∧ μ b = none)
    (dst : Option Tmp) (ty : TypeId) (pos : String) (after : Array Edge) (g : Option (Nat × Bool)) {K : Act → World → Prop} {Q : Exit → Act → World → Prop}
    (hK : ∀ v w' μ' Z', After W X Z0 μ Z H w r fr v w' μ' Z' → K (a.put dst v) w') :
    (⟨dst, op, ty, pos, after, g⟩ : Oper).wp P a w K Q := by
  cases ho with
  | pure h =>
    obtain ⟨v, h1, h2⟩ := h.sound hρ hc.heap dst ty pos after g
    unfold Oper.wp
    rw [h1, Oper.upon_value]
    exact hK v w μ Z ⟨hc, fun _ h => h, fun _ _ h => h, Frame.refl _ _ _, h2, fun b h => .inl h⟩
  | @alloc blk h =>
    obtain ⟨m, g1, _, g3⟩ := hfr d blk (by simp)
    obtain ⟨v, w', μ', Z', h1, h2⟩ := opA_sound hc h hρ g1 g3 dst ty pos after g
    unfold Oper.wp
    rw [h1, Oper.upon_value]
    exact hK v w' μ' Z' h2
  | @call bs h =>
    refine opC_sound hc h hρ (fun i blk hb => hfr _ blk ?_) dst ty pos after g hK
    rw [List.mem_mapIdx]
    obtain ⟨h1, h2⟩ := List.getElem?_eq_some_iff.1 hb
    exact ⟨i, h1, by rw [h2]⟩
end
end Go.Lg
