/- The operations that leave memory alone: what the machine does at them. -/
import Derived.Test.YthhdcfhaldcheaaLgC
import Derived.Laws.Externs
import Derived.Laws.BytesString
import Derived.Laws.Cells
set_option linter.unusedVariables false
set_option linter.unusedSimpArgs false
namespace Go.Lg
section
variable {P : Program} {Z : Nat → Prop} {μ : Nat → Option Nat} {w : World} {H : Heap} {ρ : Operand → LV} {a : Act}

theorem RepVL.get : ∀ (l : List LV) (vs : List Value) (i : Nat) (x : LV), RepVL Z μ w l vs → l[i]? = some x → ∃ v, vs[i]? = some v ∧ RepV1 Z μ w x v
  | [], _, _, _, _, h => by simp at h
  | y :: ys, _, 0, x, ⟨v, vs', e, h1, h2⟩, hi => by
      simp only [List.getElem?_cons_zero, Option.some.injEq] at hi
      subst hi e
      exact ⟨v, by simp, h1⟩
  | y :: ys, _, i + 1, x, ⟨v, vs', e, h1, h2⟩, hi => by
      subst e
      have := RepVL.get ys vs' i x h2 (by simpa using hi)
      simpa using this
theorem idx_cells {sz : Nat} {l : List LV} {i : Nat} {r : LV} {off : Nat} {c : Array Value} {part rest : List Value}
    (hd : c.toList.drop off = part ++ rest) (hr : RepAll Z μ w sz l part) (hi : l[i]? = some r) :
    ∃ ch post, c.toList.drop (off + i * sz) = ch ++ post ∧ ch.length = sz ∧ Rep Z μ w r ch := by
  obtain ⟨pre, ch, post, e1, e2, e3, e4, _⟩ := RepAll.get l part i r hr hi
  refine ⟨ch, post ++ rest, ?_, e3, e4⟩
  rw [← List.drop_drop, hd, e1, ← e2]
  simp
theorem run_indexAt_slice {T E : TypeId} {sz : Nat} {ag : Bool} (hT : P.underlying T = some (.slice E)) (hE : TyIs P E sz ag) (k : IntKind) (n : Int) (len cap b off : Nat) (h0 : 0 ≤ n) (h1 : n < len) :
    (Instr.indexAt T (.slice (some ⟨b, off, none⟩) len cap) (.int k n)).run P w = .ok (.pointer (some ⟨b, off + n.toNat * sz, none⟩)) w := by
  have h2 : (0 ≤ n ∧ n < (len : Int)) := ⟨h0, h1⟩
  simp [Instr.indexAt, asIntOf, run_underlying hT, run_sizeOf hE, h2, Addr.add_mid]
theorem run_equal_bool {T : TypeId} (hT : P.underlying T = some .bool) (i j : Bool) : (Op.equal T (.bool i) (.bool j)).run P w = .ok (i == j) w := by
  have h : ∀ d, (Op.equalIn (d + 1) T (.bool i) (.bool j)).run P w = .ok (i == j) w := fun d => by
    simp only [Op.equalIn, Sem.run_bind, run_underlying hT, Result.andThen_ok, Sem.run_pure]
  exact h 9999
theorem run_eq_bool {T : TypeId} (hT : P.underlying T = some .bool) {x y : Operand} (i j : Bool) :
    (do eqGuard .eql T x y (.bool i) (.bool j); binOp .eql T (.bool i) (.bool j) : Sem Value).run P w = .ok (.bool (i == j)) w := by
  have h1 : (eqGuard .eql T x y (.bool i) (.bool j)).run P w = .ok () w := by simp [eqGuard]
  have h2 : (binOp .eql T (.bool i) (.bool j)).run P w = .ok (.bool (i == j)) w := by
    simp only [binOp]
    rw [Sem.run_bind, run_equal_bool hT]; rfl
  rw [Sem.run_bind, h1]; exact h2
theorem run_ne_bool {T : TypeId} (hT : P.underlying T = some .bool) {x y : Operand} (i j : Bool) :
    (do eqGuard .neq T x y (.bool i) (.bool j); binOp .neq T (.bool i) (.bool j) : Sem Value).run P w = .ok (.bool (!(i == j))) w := by
  have h1 : (eqGuard .neq T x y (.bool i) (.bool j)).run P w = .ok () w := by simp [eqGuard]
  have h2 : (binOp .neq T (.bool i) (.bool j)).run P w = .ok (.bool (!(i == j))) w := by
    simp only [binOp]
    rw [Sem.run_bind, run_equal_bool hT]; rfl
  rw [Sem.run_bind, h1]; exact h2
theorem slice_bounds (isS : Bool) (len cap : Nat) (la ha : Option Value) (a h : Nat) (hlo : ∀ y, la = some y → ∃ k, y = .int k (a : Nat)) (hlo0 : la = none → a = 0)
    (hhi : ∀ y, ha = some y → ∃ k, y = .int k (h : Nat)) (hhi0 : ha = none → h = len) (h1 : a ≤ h) (h2 : h ≤ cap) :
    (Instr.sliceBounds isS len cap la ha none).run P w = .ok (a, h, cap) w := by
  have e1 : ∀ (k : IntKind) (c : BoundsCode), (Instr.sliceBound (.int k (h : Nat)) cap c).run P w = .ok h w := fun k c => by
    have := run_sliceBound (P := P) w k (h : Int) cap c (by omega) (by omega)
    simpa using this
  have e2 : ∀ (k : IntKind) (c : BoundsCode), (Instr.sliceBound (.int k (a : Nat)) h c).run P w = .ok a w := fun k c => by
    have := run_sliceBound (P := P) w k (a : Int) h c (by omega) (by omega)
    simpa using this
  cases la with
  | none =>
    have := hlo0 rfl
    subst this
    cases ha with
    | none => have := hhi0 rfl; subst this; simp [Instr.sliceBounds]
    | some y => obtain ⟨k, rfl⟩ := hhi y rfl; simp [Instr.sliceBounds, e1]
  | some x =>
    obtain ⟨k', rfl⟩ := hlo x rfl
    cases ha with
    | none => have := hhi0 rfl; subst this; simp [Instr.sliceBounds, e2]
    | some y => obtain ⟨k, rfl⟩ := hhi y rfl; simp [Instr.sliceBounds, e1, e2]

theorem slice_bounds3 (len cap : Nat) (la : Option Value) (a h m : Nat) (k k' : IntKind) (hlo : ∀ y, la = some y → ∃ k, y = .int k (a : Nat)) (hlo0 : la = none → a = 0) (h1 : a ≤ h) (h2 : h ≤ m) (h3 : m ≤ cap) :
    (Instr.sliceBounds true len cap la (some (.int k (h : Nat))) (some (.int k' (m : Nat)))).run P w = .ok (a, h, m) w := by
  have e0 : ∀ (c : BoundsCode), (Instr.sliceBound (.int k' (m : Nat)) cap c).run P w = .ok m w := fun c => by
    have := run_sliceBound (P := P) w k' (m : Int) cap c (by omega) (by omega)
    simpa using this
  have e1 : ∀ (c : BoundsCode), (Instr.sliceBound (.int k (h : Nat)) m c).run P w = .ok h w := fun c => by
    have := run_sliceBound (P := P) w k (h : Int) m c (by omega) (by omega)
    simpa using this
  have e2 : ∀ (k : IntKind) (c : BoundsCode), (Instr.sliceBound (.int k (a : Nat)) h c).run P w = .ok a w := fun k c => by
    have := run_sliceBound (P := P) w k (a : Int) h c (by omega) (by omega)
    simpa using this
  cases la with
  | none =>
    have := hlo0 rfl
    subst this
    simp [Instr.sliceBounds, e0, e1]
  | some x =>
    obtain ⟨k', rfl⟩ := hlo x rfl
    simp [Instr.sliceBounds, e0, e1, e2]
theorem places_list : ∀ (fs : List Field) (ls : List (Nat × Bool)) (off : Nat), LayOK P off fs ls →
    ∃ pl : List (Nat × Nat), (fs.mapM fun f => do pure (f.offset, ← sizeOf f.type) : Sem (List (Nat × Nat))).run P w = .ok pl w ∧ ∀ k n, ls[k]? = some n → pl[k]? = some (off + sumL (ls.take k), n.1)
  | [], [], _, _ => ⟨[], rfl, fun k n h => by simp at h⟩
  | [], _ :: _, _, h => by simp [LayOK] at h
  | _ :: _, [], _, h => by simp [LayOK] at h
  | f :: fs, (n, ag) :: r, off, h => by
      simp only [LayOK] at h
      obtain ⟨h1, h2, h3⟩ := h
      obtain ⟨pl, e1, e2⟩ := places_list fs r (off + n) h3
      refine ⟨(off, n) :: pl, ?_, ?_⟩
      · simp only [List.mapM_cons, Sem.run_bind, run_sizeOf h2, Result.andThen_ok, Sem.run_pure, e1, h1]
      · intro k m hk
        cases k with
        | zero => simp at hk; subst hk; simp [sumL]
        | succ k =>
          have := e2 k m (by simpa using hk)
          simp only [List.getElem?_cons_succ, this, List.take_succ_cons, sumL]
          congr 2; omega
theorem build_sound {T : TypeId} {zs : List LV} {ps : Array (Nat × Operand)} (hT : StructLay P T (zs.map lay)) (hz : ZeroOK P T (.agg zs))
    (hp : ∀ p ∈ ps.toList, ∃ z, zs[p.1]? = some z ∧ lay (ρ p.2) = lay z ∧ ρ p.2 ≠ .any ∧ ∀ m, ρ p.2 ≠ .tup m) (hρ : ∀ p ∈ ps.toList, RepV Z μ w (ρ p.2) (a.eval p.2)) :
    ∃ v, (Instr.build T (ps.map fun (i, x) => (i, a.eval x))).run P w = .ok v w ∧ RepV Z μ w (.agg (buildL zs (ps.toList.map fun p => (p.1, ρ p.2)))) v := by
  obtain ⟨i, zv, z1, z2, _, z3⟩ := hz
  obtain ⟨fields, hu, hl, hpos⟩ := hT
  have hrep := z3 Z μ w
  simp only [Rep] at hrep
  obtain ⟨pl, e1, e2⟩ := places_list (P := P) (w := w) fields.toList _ 0 hl
  obtain ⟨cs, f1, f2⟩ := fill_sound (Z := Z) (μ := μ) (w := w) (ls := zs.map lay) (fun k => pl.toArray[k]?) (fun k n hk => by simpa using e2 k n hk)
    (ps.toList.map fun p => (p.1, a.eval p.2)) (ps.toList.map fun p => (p.1, ρ p.2)) zs zv.cells rfl hrep (by simp)
    (fun j p q hp1 hq1 => by
      simp only [List.getElem?_map, Option.map_eq_some_iff] at hp1 hq1
      obtain ⟨x, hx, rfl⟩ := hp1
      obtain ⟨y, hy, rfl⟩ := hq1
      rw [hx] at hy; cases hy
      have hm := List.mem_of_getElem? hx
      obtain ⟨z, _, _, h3, h4⟩ := hp x hm
      exact ⟨RepV.to1 h4 h3 (hρ x hm), h3⟩)
    (fun q hq => by
      simp only [List.mem_map] at hq
      obtain ⟨x, hx, rfl⟩ := hq
      obtain ⟨z, h1, h2, _⟩ := hp x hx
      exact ⟨lay z, by simp [List.getElem?_map, h1], h2⟩)
  refine ⟨.agg cs, ?_, ⟨fun _ => ⟨cs, rfl, by simpa [Rep] using f2⟩, by simp [LV.isAgg]⟩⟩
  have hpl : (fields.mapM fun f => do pure (f.offset, ← sizeOf f.type) : Sem (Array (Nat × Nat))).run P w = .ok pl.toArray w := by
    rw [Array.mapM_eq_mapM_toList, Sem.run_map, e1]; rfl
  have hzv : (zeroValue T).run P w = .ok zv w := by simp [zeroValue, typeInfo, z1, z2]
  simp only [Instr.build, Sem.run_bind, hzv, Result.andThen_ok, run_underlying hu, hpl]
  have : (Array.map (fun x => match x with | (i, x) => (i, a.eval x)) ps).toList = ps.toList.map fun p => (p.1, a.eval p.2) := by simp
  rw [this, f1]; rfl
set_option maxHeartbeats 2000000 in
theorem OpP.sound {op : Op} {r : LV} (ho : OpP P H ρ op r) (hρ : ∀ x ∈ op.operands, RepV Z μ w (ρ x) (a.eval x))
    (hh : ∀ b id, μ b = some id → ∃ blk, H b = some blk ∧ BlkRep Z μ w blk id) (dst : Option Tmp) (ty : TypeId) (pos : String) (after : Array Edge) (g : Option (Nat × Bool)) :
    ∃ v, (execOp a.eval ⟨dst, op, ty, pos, after, g⟩).run P w = .ok (.value v) w ∧ RepV Z μ w r v := by
  cases ho with
  | move x => exact ⟨a.eval x, rfl, hρ x (by simp [Op.operands])⟩
  | assign x => exact ⟨a.eval x, rfl, hρ x (by simp [Op.operands])⟩
  | @pick c x y t h =>
    have hc := hρ c (by simp [Op.operands]); rw [h] at hc
    have hc := hc.v_eq
    refine ⟨if t then a.eval x else a.eval y, by cases t <;> simp [execOp, hc, asBool], ?_⟩
    cases t
    · simpa using hρ y (by simp [Op.operands])
    · simpa using hρ x (by simp [Op.operands])
  | @bin op T x y U k i j r hx hy h =>
    have e1 := hρ x (by simp [Op.operands]); rw [hx] at e1; have e1 := e1.v_eq
    have e2 := hρ y (by simp [Op.operands]); rw [hy] at e2; have e2 := e2.v_eq
    refine ⟨r, ?_, RepV.v (binI_one h)⟩
    have := run_binI (P := P) (w := w) (T := T) (x := x) (y := y) h
    simp only [execOp, e1, e2]
    rw [Sem.run_bind, this]; rfl
  | @sh op T x y U k k' i j r hx hy h =>
    have e1 := hρ x (by simp [Op.operands]); rw [hx] at e1; have e1 := e1.v_eq
    have e2 := hρ y (by simp [Op.operands]); rw [hy] at e2; have e2 := e2.v_eq
    refine ⟨r, ?_, RepV.v (shI_one h)⟩
    have := run_shI (P := P) (w := w) (T := T) (x := x) (y := y) (k' := k') h
    simp only [execOp, e1, e2]
    rw [Sem.run_bind, this]; rfl
  | @beq T x y U i j hx hy hT =>
    have e1 := hρ x (by simp [Op.operands]); rw [hx] at e1; have e1 := e1.v_eq
    have e2 := hρ y (by simp [Op.operands]); rw [hy] at e2; have e2 := e2.v_eq
    exact ⟨.bool (i == j), by simp only [execOp, e1, e2]; rw [Sem.run_bind, run_eq_bool hT]; rfl, RepV.bool⟩
  | @bne T x y U i j hx hy hT =>
    have e1 := hρ x (by simp [Op.operands]); rw [hx] at e1; have e1 := e1.v_eq
    have e2 := hρ y (by simp [Op.operands]); rw [hy] at e2; have e2 := e2.v_eq
    exact ⟨.bool (!(i == j)), by simp only [execOp, e1, e2]; rw [Sem.run_bind, run_ne_bool hT]; rfl, RepV.bool⟩
  | @not T x i hx =>
    have e1 := hρ x (by simp [Op.operands]); rw [hx] at e1; have e1 := e1.v_eq
    exact ⟨.bool (!i), by simp [execOp, e1, Op.unary], RepV.bool⟩
  | @neg T x k i hx =>
    have e1 := hρ x (by simp [Op.operands]); rw [hx] at e1; have e1 := e1.v_eq
    exact ⟨.int k (k.wrap (0 - i)), by simp [execOp, e1, Op.unary, Op.intArith], RepV.int⟩
  | @conv S D x k k' n d hS hD hx =>
    have e1 := hρ x (by simp [Op.operands]); rw [hx] at e1; have e1 := e1.v_eq
    exact ⟨.int k (k.wrap n), by simp [execOp, e1, convert, run_underlying hS, run_underlying hD, Conv.intToInt], RepV.int⟩
  | @extract t i l r ht hr hne =>
    have e1 := hρ t (by simp [Op.operands]); rw [ht] at e1
    obtain ⟨vs, e2, e3⟩ := e1
    obtain ⟨v, h1, h2⟩ := RepVL.get _ _ _ _ e3 hr
    refine ⟨v, ?_, RepV.of1 hne h2⟩
    have : vs[i]? = some v := by rw [← Array.getElem?_toList]; exact h1
    simp [execOp, e2, Instr.extract, this]
  | @field T x k fs r hx hT hr hne =>
    have e1 := hρ x (by simp [Op.operands]); rw [hx] at e1
    obtain ⟨u, h1, h2⟩ := field_sound (P := P) (w := w) hT hr (LV.pure_ne_any hne) (RepV.to1 (by simp) (by simp) e1)
    exact ⟨u, by simp [execOp, h1], RepV.of1 (LV.pure_ne_tup hne) h2⟩
  | @fieldAddrB T p k fs r hp hT hr =>
    have e1 := hρ p (by simp [Op.operands]); rw [hp] at e1
    have e2 := e1.2 rfl
    simp only [Rep] at e2
    obtain ⟨blk, off, cc, U, fz, part, rest, h1, h2, h3, h4, h5, h6, h7⟩ := e2
    obtain ⟨pre, ch, post, g1, g2, g3, g4, _⟩ := RepFs.get fs part k r h6 hr
    have hk : k < (fs.map lay).length := by rw [List.length_map]; exact (List.getElem?_eq_some_iff.1 hr).1
    have hf := run_fieldAt (P := P) (w := w) hT hk blk off
    rw [sumL_lay] at hf
    refine ⟨.pointer (some ⟨blk, off + csizes (fs.take k), none⟩), ?_, ⟨by simp [LV.isAgg], fun _ => ?_⟩⟩
    · simp only [List.cons.injEq, and_true] at h1
      simp [execOp, h1, hf]
    · simp only [Rep]
      refine ⟨blk, _, cc, U, fz, ch, post ++ rest, rfl, h2, h3, ?_, g3, g4, (pures_iff _).1 (by simpa [LV.pure] using h7) _ (List.mem_of_getElem? hr)⟩
      rw [← List.drop_drop, h4, g1, ← g2]
      simp
  | @fieldAddrE T p k b sz i o ls hp hT hk =>
    have e1 := hρ p (by simp [Op.operands]); rw [hp] at e1
    have e2 := e1.2 rfl
    simp only [Rep] at e2
    obtain ⟨id, h1, h2⟩ := e2
    simp only [List.cons.injEq, and_true] at h1
    have hf := run_fieldAt (P := P) (w := w) hT hk id (i * sz + o)
    refine ⟨.pointer (some ⟨id, i * sz + o + sumL (ls.take k), none⟩), by simp [execOp, h1, hf], ⟨by simp [LV.isAgg], fun _ => ?_⟩⟩
    simp only [Rep]
    exact ⟨id, by rw [Nat.add_assoc], h2⟩
  | @loadB T p c hp hT hc =>
    have e1 := hρ p (by simp [Op.operands]); rw [hp] at e1
    have e2 := e1.2 rfl
    simp only [Rep] at e2
    obtain ⟨blk, off, cc, U, fz, part, rest, h1, h2, h3, h4, h5, h6, h7⟩ := e2
    simp only [List.cons.injEq, and_true] at h1
    obtain ⟨v, g1, g2⟩ := load_sound (P := P) hT h3 h4 h6 (LV.pure_ne_any hc)
    exact ⟨v, by simp [execOp, h1, g1], RepV.of1 (LV.pure_ne_tup hc) g2⟩
  | @loadE T p b sz i o blk x r n ag hp hb hs hi hx hr hT =>
    have e1 := hρ p (by simp [Op.operands]); rw [hp] at e1
    have e2 := e1.2 rfl
    simp only [Rep] at e2
    obtain ⟨id, h1, h2⟩ := e2
    simp only [List.cons.injEq, and_true] at h1
    obtain ⟨blk', hb', c, U, part, rest, q1, q2, q3⟩ := hh b id h2
    rw [hb] at hb'; cases hb'
    obtain ⟨ch, post, k1, k2, k3⟩ := idx_cells (off := 0) (by simpa using q2) q3 hi
    obtain ⟨pre, ch2, post2, j1, j2, j3, j4, j5, j6, j7, j8⟩ := LV.at_spec x o n ag r ch hr k3 (by rw [k2, hs, hx])
    have hd : c.toList.drop (i * sz + o) = ch2 ++ (post2 ++ post) := by
      rw [Nat.zero_add, hs] at k1
      rw [← List.drop_drop, k1, j1, ← j2]; simp
    obtain ⟨v, g1, g2⟩ := load_sound (P := P) (y := r) (by rw [j5, j6]; exact hT) q1 hd j4 j7
    exact ⟨v, by simp [execOp, h1, g1], RepV.of1 j8 g2⟩
  | @nilChkE x b sz i o hx =>
    have e1 := hρ x (by simp [Op.operands]); rw [hx] at e1
    have e2 := e1.2 rfl
    simp only [Rep] at e2
    obtain ⟨id, h1, h2⟩ := e2
    simp only [List.cons.injEq, and_true] at h1
    exact ⟨a.eval x, by simp [execOp, h1], e1⟩
  | @nilChkB x c hx =>
    have e1 := hρ x (by simp [Op.operands]); rw [hx] at e1
    have e2 := e1.2 rfl
    simp only [Rep] at e2
    obtain ⟨blk, off, cc, U, fz, part, rest, h1, h2⟩ := e2
    simp only [List.cons.injEq, and_true] at h1
    exact ⟨a.eval x, by simp [execOp, h1], e1⟩
  | @idxL T E x i sz l k n r ag hx hT hE hi h0 hr hc =>
    have e1 := hρ x (by simp [Op.operands]); rw [hx] at e1
    have e2 := hρ i (by simp [Op.operands]); rw [hi] at e2; have e2 := e2.v_eq
    have e3 := e1.2 rfl
    simp only [Rep] at e3
    obtain ⟨ad, len, cap, h1, h2, h3, h4, h9⟩ := e3
    simp only [List.cons.injEq, and_true] at h1
    have hlt := (List.getElem?_eq_some_iff.1 hr).1
    rcases h4 with h4 | ⟨blk, off, c, U, fz, part, rest, g1, g2, g3, g4, g5⟩
    · subst h4; simp at hlt
    · subst g1
      have hn : n < (len : Int) := by omega
      have := run_indexAt_slice (P := P) (w := w) hT hE k n len cap blk off h0 hn
      obtain ⟨ch, post, k1, k2, k3⟩ := idx_cells g4 g5 hr
      refine ⟨_, by simp only [execOp, h1, e2, Sem.run_bind, this]; rfl, ⟨by simp [LV.isAgg], fun _ => ?_⟩⟩
      simp only [Rep]
      exact ⟨blk, _, c, U, fz, ch, post, rfl, g2, g3, k1, by rw [k2, hc], k3, (pures_iff _).1 h9 _ (List.mem_of_getElem? hr)⟩
  | @idxR T E x i b sz off len k n ag hx hT hE hi h0 hn =>
    have e1 := hρ x (by simp [Op.operands]); rw [hx] at e1
    have e2 := hρ i (by simp [Op.operands]); rw [hi] at e2; have e2 := e2.v_eq
    have e3 := e1.2 rfl
    simp only [Rep] at e3
    rcases e3 with ⟨_, e3⟩ | ⟨id, cap, c, U, fz, h1, h2, h3, h4, h5⟩
    · omega
    simp only [List.cons.injEq, and_true] at h1
    have := run_indexAt_slice (P := P) (w := w) hT hE k n len cap id (off * sz) h0 hn
    refine ⟨_, by simp only [execOp, h1, e2, Sem.run_bind, this]; rfl, ⟨by simp [LV.isAgg], fun _ => ?_⟩⟩
    simp only [Rep]
    exact ⟨id, by rw [Nat.add_mul]; rfl, h2⟩
  | @sliceL T E x sz ag l lo hi la ha hx hT hE hlo hlo0 hhi hhi0 h1 h2 =>
    have e1 := hρ x (by simp [Op.operands]); rw [hx] at e1
    have e3 := e1.2 rfl
    simp only [Rep] at e3
    obtain ⟨ad, len, cap, q1, q2, q3, q4, q9⟩ := e3
    simp only [List.cons.injEq, and_true] at q1
    have hb := slice_bounds (P := P) (w := w) true len cap (la.map a.eval) (ha.map a.eval) lo hi
      (fun y hy => by
        cases la with
        | none => simp at hy
        | some z =>
          simp only [Option.map_some, Option.some.injEq] at hy
          obtain ⟨k, hk⟩ := hlo z rfl
          have := hρ z (by simp [Op.operands]); rw [hk] at this
          exact ⟨k, by rw [← hy]; exact this.v_eq⟩)
      (fun h => hlo0 (by simpa using h))
      (fun y hy => by
        cases ha with
        | none => simp at hy
        | some z =>
          simp only [Option.map_some, Option.some.injEq] at hy
          obtain ⟨k, hk⟩ := hhi z rfl
          have := hρ z (by simp [Op.operands]); rw [hk] at this
          exact ⟨k, by rw [← hy]; exact this.v_eq⟩)
      (fun h => by rw [q2]; exact hhi0 (by simpa using h)) h1 (by omega)
    have hrun : (Instr.sliceAt T (.slice ad len cap) (la.map a.eval) (ha.map a.eval) none).run P w = .ok (.slice (if cap = lo then ad else ad.map (·.add (lo * sz))) (hi - lo) (cap - lo)) w := by
      simp only [Instr.sliceAt, Sem.run_bind, run_underlying hT, Result.andThen_ok, Instr.slice, hb, run_sizeOf hE, Sem.run_pure]
    refine ⟨_, by simp only [execOp, q1, Option.map_none, Sem.run_bind, hrun]; rfl, ⟨by simp [LV.isAgg], fun _ => ?_⟩⟩
    simp only [Rep]
    refine ⟨_, _, _, rfl, by simp; omega, by omega, ?_, (pures_iff _).2 fun x hx => (pures_iff _).1 q9 x (List.mem_of_mem_take (List.mem_of_mem_drop hx))⟩
    by_cases hlt : lo < hi
    · right
      rcases q4 with q4 | ⟨blk, off, c, U, fz, part, rest, g1, g2, g3, g4, g5⟩
      · subst q4; simp at h2; omega
      · subst g1
        have hcl : ¬ cap = lo := by omega
        obtain ⟨c1, c2, d1, d2, d3⟩ := RepAll.split (l.take hi) (l.drop hi) part (by rw [List.take_append_drop]; exact g5)
        obtain ⟨c3, c4, d4, d5, d6⟩ := RepAll.split ((l.take hi).take lo) ((l.take hi).drop lo) c1 (by rw [List.take_append_drop]; exact d2)
        have hl3 := RepAll.length _ _ d5
        simp only [List.length_take] at hl3
        refine ⟨blk, off + lo * sz, c, U, fz, c4, c2 ++ rest, by simp [hcl, Addr.add_mid], g2, g3, ?_, d6⟩
        rw [← List.drop_drop, g4, d1, d4]
        have : lo * sz = c3.length := by rw [hl3]; congr 1; omega
        rw [this]; simp
    · left
      have : lo = hi := by omega
      subst this
      apply List.eq_nil_of_length_eq_zero
      simp
  | @sliceR T E x b sz off len ag lo hi la ha hx hT hE hlo hlo0 hhi hhi0 h1 h2 hpos =>
    have e1 := hρ x (by simp [Op.operands]); rw [hx] at e1
    have e3 := e1.2 rfl
    simp only [Rep] at e3
    rcases e3 with ⟨_, e3⟩ | ⟨id, cap, c, U, fz, q1, q2, q3, q4, q5⟩
    · omega
    simp only [List.cons.injEq, and_true] at q1
    have hb := slice_bounds (P := P) (w := w) true len cap (la.map a.eval) (ha.map a.eval) lo hi
      (fun y hy => by
        cases la with
        | none => simp at hy
        | some z =>
          simp only [Option.map_some, Option.some.injEq] at hy
          obtain ⟨k, hk⟩ := hlo z rfl
          have := hρ z (by simp [Op.operands]); rw [hk] at this
          exact ⟨k, by rw [← hy]; exact this.v_eq⟩)
      (fun h => hlo0 (by simpa using h))
      (fun y hy => by
        cases ha with
        | none => simp at hy
        | some z =>
          simp only [Option.map_some, Option.some.injEq] at hy
          obtain ⟨k, hk⟩ := hhi z rfl
          have := hρ z (by simp [Op.operands]); rw [hk] at this
          exact ⟨k, by rw [← hy]; exact this.v_eq⟩)
      (fun h => hhi0 (by simpa using h)) h1 (by omega)
    have hrun : (Instr.sliceAt T (.slice (some ⟨id, off * sz, none⟩) len cap) (la.map a.eval) (ha.map a.eval) none).run P w =
        .ok (.slice (if cap = lo then some ⟨id, off * sz, none⟩ else some ⟨id, off * sz + lo * sz, none⟩) (hi - lo) (cap - lo)) w := by
      simp only [Instr.sliceAt, Sem.run_bind, run_underlying hT, Result.andThen_ok, Instr.slice, hb, run_sizeOf hE, Sem.run_pure, Option.map_some, Addr.add_mid]
    refine ⟨_, by simp only [execOp, q1, Option.map_none, Sem.run_bind, hrun]; rfl, ⟨by simp [LV.isAgg], fun _ => ?_⟩⟩
    simp only [Rep]
    have hcl : ¬ cap = lo := by omega
    refine .inr ⟨id, cap - lo, c, U, fz, by simp [hcl, Nat.add_mul], q2, by omega, q4, ?_⟩
    have : off + lo + (cap - lo) = off + cap := by omega
    rw [this]; exact q5
  | @sliceR3 T E x b sz off len ag lo hi mx la z zm k k' hx hT hE hlo hlo0 hhi hmx h1 h2 h3 hpos =>
    have e1 := hρ x (by simp [Op.operands]); rw [hx] at e1
    have e3 := e1.2 rfl
    simp only [Rep] at e3
    rcases e3 with ⟨_, e3⟩ | ⟨id, cap, c, U, fz, q1, q2, q3, q4, q5⟩
    · omega
    simp only [List.cons.injEq, and_true] at q1
    have g1 := hρ z (by simp [Op.operands]); rw [hhi] at g1
    have g2 := hρ zm (by simp [Op.operands]); rw [hmx] at g2
    have hb := slice_bounds3 (P := P) (w := w) len cap (la.map a.eval) lo hi mx k k'
      (fun y hy => by
        cases la with
        | none => simp at hy
        | some z =>
          simp only [Option.map_some, Option.some.injEq] at hy
          obtain ⟨k, hk⟩ := hlo z rfl
          have := hρ z (by simp [Op.operands]); rw [hk] at this
          exact ⟨k, by rw [← hy]; exact this.v_eq⟩)
      (fun h => hlo0 (by simpa using h)) h1 h2 (by omega)
    have hrun : (Instr.sliceAt T (.slice (some ⟨id, off * sz, none⟩) len cap) (la.map a.eval) (some (a.eval z)) (some (a.eval zm))).run P w =
        .ok (.slice (if mx = lo then some ⟨id, off * sz, none⟩ else some ⟨id, off * sz + lo * sz, none⟩) (hi - lo) (mx - lo)) w := by
      rw [g1.v_eq, g2.v_eq]
      simp only [Instr.sliceAt, Sem.run_bind, run_underlying hT, Result.andThen_ok, Instr.slice, hb, run_sizeOf hE, Sem.run_pure, Option.map_some, Addr.add_mid]
    refine ⟨_, by simp only [execOp, q1, Option.map_some, Sem.run_bind, hrun]; rfl, ⟨by simp [LV.isAgg], fun _ => ?_⟩⟩
    simp only [Rep]
    have hcl : ¬ mx = lo := by omega
    refine .inr ⟨id, mx - lo, c, U, fz, by simp [hcl, Nat.add_mul], q2, by omega, q4, ?_⟩
    have : off + lo + (mx - lo) = off + mx := by omega
    rw [this]
    exact Nat.le_trans (Nat.mul_le_mul_right _ (by omega)) q5
  | @lenL T x sz l d as hx has hT =>
    have e1 := hρ x (by simp [Op.operands, Call.operands]); rw [hx] at e1
    have e3 := e1.2 rfl
    simp only [Rep] at e3
    obtain ⟨ad, len, cap, q1, q2, _⟩ := e3
    simp only [List.cons.injEq, and_true] at q1
    subst has
    exact ⟨.int .i64 (l.length : Nat), by simp [execOp, resolve, invoke, builtin, q1, Builtin.len_, run_underlying hT, goInt, q2], RepV.int⟩
  | @lenR T x b sz off len d as hx has hT =>
    have e1 := hρ x (by simp [Op.operands, Call.operands]); rw [hx] at e1
    have e3 := e1.2 rfl
    simp only [Rep] at e3
    subst has
    rcases e3 with ⟨q1, rfl⟩ | ⟨id, cap, c, U, fz, q1, _⟩
    · simp only [List.cons.injEq, and_true] at q1
      exact ⟨.int .i64 (0 : Nat), by simp [execOp, resolve, invoke, builtin, q1, Builtin.len_, run_underlying hT, goInt], RepV.int⟩
    simp only [List.cons.injEq, and_true] at q1
    exact ⟨.int .i64 (len : Nat), by simp [execOp, resolve, invoke, builtin, q1, Builtin.len_, run_underlying hT, goInt], RepV.int⟩
  | @lenN T x d as hx has hT =>
    have e1 := hρ x (by simp [Op.operands, Call.operands]); rw [hx] at e1; have e1 := e1.v_eq
    subst has
    exact ⟨.int .i64 (0 : Nat), by simp [execOp, resolve, invoke, builtin, e1, Builtin.len_, run_underlying hT, goInt], RepV.int⟩
  | @min2 x y k i j as hx hy =>
    have e1 := hρ x (by simp [Op.operands, Call.operands]); rw [hx] at e1; have e1 := e1.v_eq
    have e2 := hρ y (by simp [Op.operands, Call.operands]); rw [hy] at e2; have e2 := e2.v_eq
    exact ⟨.int k (if j < i then j else i), by simp [execOp, resolve, invoke, builtin, e1, e2, Builtin.min_, Builtin.min2], RepV.int⟩
  | @max2 x y k i j as hx hy =>
    have e1 := hρ x (by simp [Op.operands, Call.operands]); rw [hx] at e1; have e1 := e1.v_eq
    have e2 := hρ y (by simp [Op.operands, Call.operands]); rw [hy] at e2; have e2 := e2.v_eq
    exact ⟨.int k (if j > i then j else i), by simp [execOp, resolve, invoke, builtin, e1, e2, Builtin.max_, Builtin.max2], RepV.int⟩
  | @indexS T x i s k n b hx hT hi h0 hb =>
    have e1 := hρ x (by simp [Op.operands]); rw [hx] at e1; have e1 := e1.v_eq
    have e2 := hρ i (by simp [Op.operands]); rw [hi] at e2; have e2 := e2.v_eq
    exact ⟨.int .u8 b.toNat, by simp [execOp, e1, e2, Instr.index, asIntOf, run_underlying hT, h0, hb], RepV.int⟩
  | @ext2 f xs as fn e vs r1 r2 hf hname hb hn he hx hr h1 h2 =>
    have hargs : xs.map a.eval = vs.toArray := by
      apply Array.ext'
      rw [Array.toList_map]
      have : ∀ (l : List Operand) (vs : List Value), l.map ρ = vs.map LV.v → (∀ x ∈ l, RepV Z μ w (ρ x) (a.eval x)) → l.map a.eval = vs := by
        intro l
        induction l with
        | nil => intro vs h _; cases vs with
                 | nil => rfl
                 | cons => simp at h
        | cons y ys ih =>
          intro vs h hr
          cases vs with
          | nil => simp at h
          | cons v vs =>
            simp only [List.map_cons, List.cons.injEq] at h ⊢
            have h3 := hr y (by simp)
            rw [h.1] at h3
            exact ⟨h3.v_eq, ih vs h.2 (fun z hz => hr z (by simp [hz]))⟩
      exact this xs.toList vs hx (fun x hx => hρ x (by simp [Op.operands, Call.operands]; right; simpa using hx))
    have hc := run_callFunc_extern (P := P) (args := vs.toArray) hf hname hb hn he w
    refine ⟨.tuple #[r1, r2], ?_, ⟨#[r1, r2], rfl, ?_⟩⟩
    · rw [hr w] at hc
      simp only [execOp, resolve, Act.eval, Deferred.ofValue, Sem.run_bind, Sem.run_pure, Result.andThen_ok, invoke]
      rw [hargs]
      simp only [Array.append_empty, Array.empty_append]
      rw [hc]; rfl
    · exact ⟨r1, [r2], rfl, ⟨by simp [LV.isAgg], fun _ => by simp [Rep, h1]⟩, r2, [], rfl, ⟨by simp [LV.isAgg], fun _ => by simp [Rep, h2]⟩, rfl⟩
  | @addS T x y U s t hx hy h =>
    have e1 := hρ x (by simp [Op.operands]); rw [hx] at e1; have e1 := e1.v_eq
    have e2 := hρ y (by simp [Op.operands]); rw [hy] at e2; have e2 := e2.v_eq
    refine ⟨.string (s ++ t), ?_, ⟨by simp [LV.isAgg], fun _ => by simp [Rep, Value.oneCell']⟩⟩
    have h1 : (binOp .add T (.string s) (.string t)).run P w = .ok (.string (s ++ t)) w := by
      simp only [binOp, Op.stringOp]
      rw [if_neg (by have : IntKind.i64.max = 9223372036854775807 := rfl; rw [this]; omega)]; rfl
    simp only [execOp, e1, e2, eqGuard]
    simp [h1]
  | @eqS T x y U s t hx hy =>
    have e1 := hρ x (by simp [Op.operands]); rw [hx] at e1; have e1 := e1.v_eq
    have e2 := hρ y (by simp [Op.operands]); rw [hy] at e2; have e2 := e2.v_eq
    refine ⟨.bool (s.toList == t.toList), ?_, RepV.bool⟩
    have h1 : (binOp .eql T (.string s) (.string t)).run P w = .ok (.bool (s.toList == t.toList)) w := by
      simp only [binOp, Op.stringOp]; rfl
    simp only [execOp, e1, e2, eqGuard]
    simp [h1]
  | @strR S D E x b off len blk ns hS hE hD hx hb hs hv hl =>
    have e1 := hρ x (by simp [Op.operands]); rw [hx] at e1
    have e3 := e1.2 rfl
    simp only [Rep] at e3
    refine ⟨_, ?_, ⟨by simp [LV.isAgg], fun _ => by simp only [Rep]; exact ⟨rfl, by simp [Value.oneCell']⟩⟩⟩
    have hlen : len = ns.length := by
      have := congrArg List.length hv
      simp only [List.length_take, List.length_drop, List.length_map] at this; omega
    have hcv : ∀ v : Value, (∀ k n, v ≠ .int k n) → (∀ a b, v ≠ .float a b) → True := fun _ _ _ => trivial
    rcases e3 with ⟨e3, hl0⟩ | ⟨id, cap, c, U, fz, q1, q2, q3, q4, q5⟩
    · simp only [List.cons.injEq, and_true] at e3
      have : ns = [] := List.eq_nil_of_length_eq_zero (by omega)
      subst this
      simp [execOp, e3, convert, run_underlying hS, run_underlying hD, run_underlying hE, Conv.bytesToString]
    · simp only [List.cons.injEq, and_true] at q1
      obtain ⟨blk', g1, cc, T', part, rest, g2, g3, g4⟩ := hh b id q2
      rw [hb] at g1; cases g1
      rw [hs] at g4
      have hcell : ∀ (l : List LV) (ps : List Value), RepAll Z μ w 1 l ps → ∀ (j n : Nat), l[j]? = some (.v (.int .u8 (n : Nat))) → ps[j]? = some (.int .u8 (n : Nat)) := by
        intro l
        induction l with
        | nil => intro ps _ j n h; simp at h
        | cons y ys ih =>
          intro ps hr j n h
          simp only [RepAll] at hr
          obtain ⟨ch, ps', rfl, k1, k2, k3⟩ := hr
          match ch, k1 with
          | [u], _ =>
            cases j with
            | zero =>
              simp only [List.getElem?_cons_zero, Option.some.injEq] at h
              subst h
              simp only [Rep] at k2
              obtain ⟨k2, _⟩ := k2
              simp only [List.cons.injEq, and_true] at k2
              simp [k2]
            | succ j =>
              have := ih ps' k3 j n (by simpa using h)
              simpa using this
      have hld : (loadCells ⟨id, off * 1, none⟩ len).run P w = .ok ((ns.map Int.ofNat).map (Value.int .u8)).toArray w := by
        have hL : len = ((ns.map Int.ofNat).map (Value.int .u8)).length := by simp [hlen]
        rw [hL]
        refine run_loadCells_list w _ _ (fun j v hv' => ?_)
        have hj : j < ns.length := by
          rcases Nat.lt_or_ge j ns.length with h | h
          · exact h
          · rw [List.getElem?_eq_none (by simpa using h)] at hv'; cases hv'
        have hv2 : v = .int .u8 ((ns[j] : Nat) : Int) := by
          rw [List.getElem?_eq_getElem (by simpa using hj)] at hv'
          simp at hv'; exact hv'.symm
        have hvj : blk.vals[off + j]? = some (.v (.int .u8 ((ns[j] : Nat) : Int))) := by
          have := congrArg (fun l => l[j]?) hv
          simp only [List.getElem?_take, if_pos (show j < len by omega), List.getElem?_drop, List.getElem?_map, List.getElem?_eq_getElem hj, Option.map_some] at this
          exact this
        have hp := hcell _ _ g4 (off + j) _ hvj
        have hadd : (⟨id, off * 1, none⟩ : Addr).add j = ⟨id, off + j, none⟩ := by unfold Addr.add; split <;> simp_all
        rw [hadd, cell_of_row w id (off + j) cc T' (0, 0) g2, hv2]
        rw [← Array.getElem?_toList, g3, List.getElem?_append_left (by rcases Nat.lt_or_ge (off + j) part.length with h | h; exact h; rw [List.getElem?_eq_none h] at hp; cases hp)]
        exact hp
      have hbs := run_bytesToString w _ len cap _ hld
      simp only [execOp, q1]
      rw [Sem.run_bind]
      have : (convert S D (.slice (some ⟨id, off * 1, none⟩) len cap)).run P w = .ok (.string ((ns.map Int.ofNat).foldl (fun r n => r.push (UInt8.ofNat n.toNat)) ByteArray.empty)) w := by
        simp only [convert, Sem.run_bind, run_underlying hS, run_underlying hD, Result.andThen_ok, run_underlying hE]
        exact hbs
      rw [this]; rfl
  | @build T zs ps hT hz hp =>
    have hm : ∀ p ∈ ps.toList, RepV Z μ w (ρ p.2) (a.eval p.2) := fun p hp => hρ p.2 (by simp [Op.operands]; exact ⟨p.1, by simpa using hp⟩)
    obtain ⟨v, h1, h2⟩ := build_sound (P := P) (Z := Z) (μ := μ) (w := w) (a := a) hT hz hp hm
    exact ⟨v, by simp only [execOp]; rw [Sem.run_bind, h1]; rfl, h2⟩
end
end Go.Lg
