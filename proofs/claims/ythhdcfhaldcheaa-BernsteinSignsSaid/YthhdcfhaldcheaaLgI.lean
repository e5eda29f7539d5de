/- Stores and appends: what the machine does at them. -/
import Derived.Test.YthhdcfhaldcheaaLgH
set_option linter.unusedVariables false
set_option linter.unusedSimpArgs false
namespace Go.Lg
section
variable {P : Program} {W w w' : World} {X Z0 Z : Nat → Prop} {μ : Nat → Option Nat} {H : Heap} {a : Act} {L L' : St} {n : Nat}

/-- a block of the call's own gets other cells, as many as before -/
theorem Core.rewrite {b id : Nat} {blk blk' : Blk} {c c' : Array Value} {T : TypeId} {part rest : List Value} (hc : Core W X Z0 μ Z H w) (hb : μ b = some id) (hH : H b = some blk) (hm : blk.mt = true) (hm' : blk'.mt = true)
    (hcell : w.heap[id]? = some (.cells c T (0, 0))) (hsz : c'.size = c.size) (h1 : c'.toList = part ++ rest) (h2 : RepAll Z μ w blk'.sz blk'.vals part)
    (hw : w' = w.setRow id c') :
    Core W X Z0 μ Z (fun k => if k = b then some blk' else H k) w' ∧ Frame Z μ w w' := by
  subst hw
  have hself : (w.setRow id c').heap[id]? = some (.cells c' T (0, 0)) := setRow_heap w id c c' T (0, 0) hcell
  have hother : ∀ k, k ≠ id → (w.setRow id c').heap[k]? = w.heap[k]? := fun k hk => by
    simp only [World.setRow, Array.getElem?_modify, if_neg (Ne.symm hk)]
  have hsize : (w.setRow id c').heap.size = w.heap.size := by simp [World.setRow]
  have hnz : ¬ Z id := hc.mutz b id blk hb hH hm
  have hfr : Frame Z μ w (w.setRow id c') := by
    refine ⟨fun k hk => hother k (fun e => hnz (e ▸ hk)), fun b' k hk cc T' fz hcc => ?_⟩
    by_cases e : k = id
    · subst e
      rw [hcell] at hcc; cases hcc
      exact ⟨c', hself, hsz⟩
    · exact ⟨cc, (hother k e).trans hcc, rfl⟩
  refine ⟨⟨?_, fun k hk => by rw [hsize]; exact hc.zone k hk, hc.zsup, hc.zsub, hc.inj, hc.own, hc.x0, hc.xlt, hc.x1, ?_, ?_, ?_⟩, hfr⟩
  · refine ⟨hc.keep.os, hc.keep.tape, hc.keep.output, by rw [hsize]; exact hc.keep.size, fun k hk hx => ?_, fun k hx c0 T0 fz0 h0 => ?_⟩
    have : k ≠ id := by
      rintro rfl
      rcases hc.own b k hb with h | h
      · omega
      · exact hx h
    exact (hother k this).trans (hc.keep.block k hk hx)
    obtain ⟨c1, g1, g2⟩ := hc.keep.xsz k hx c0 T0 fz0 h0
    by_cases e : k = id
    · subst e
      rw [hcell] at g1; cases g1
      exact ⟨c', hself, hsz.trans g2⟩
    · exact ⟨c1, (hother k e).trans g1, g2⟩
  · intro b' k bk h g hmt
    by_cases e : b' = b
    · subst e; rw [hb] at h; cases h; exact hnz
    · rw [if_neg e] at g; exact hc.mutz b' k bk h g hmt
  · intro b' k bk h g hmt
    by_cases e : b' = b
    · subst e; rw [if_pos rfl] at g; cases g; rw [hm'] at hmt; cases hmt
    · rw [if_neg e] at g; exact hc.frz b' k bk h g hmt
  · intro b' k h
    by_cases e : b' = b
    · subst e; rw [hb] at h; cases h
      exact ⟨blk', if_pos rfl, c', T, part, rest, hself, h1, h2.mono (fun _ h => h) (fun _ _ h => h) hfr⟩
    · obtain ⟨bk, g1, g2⟩ := hc.heap b' k h
      have hne : k ≠ id := fun e' => e (hc.inj b' b k h (e' ▸ hb))
      exact ⟨bk, by rw [if_neg e]; exact g1, g2.mono (fun _ h => h) (fun _ _ h => h) hfr (hother k hne)⟩

theorem run_storeVar_at {T : TypeId} {id off : Nat} {c : Array Value} {U : TypeId} {v : Value} {sz : Nat} {ag : Bool} (hT : TyIs P T sz ag) (hcell : w.heap[id]? = some (.cells c U (0, 0)))
    (hv : v.cells.size = sz) (h1 : ∀ u ∈ v.cells.toList, u.oneCell' = true) (hfit : off + sz ≤ c.size) :
    (storeVar T ⟨id, off, none⟩ v).run P w = .ok () (w.setRow id (c.toList.take off ++ v.cells.toList ++ c.toList.drop (off + sz)).toArray) := by
  have := run_storeCells_at P id off U v.cells.toList 0 c w hcell (by simp; omega) h1
  simp only [storeVar, Sem.run_bind, run_sizeOf hT, Result.andThen_ok, hv, ne_eq, not_true_eq_false, if_false, Sem.run_ite]
  simpa [hv] using this

theorem store_sound {T : TypeId} {p x : Operand} {b sz i o : Nat} {blk : Blk} {y y' : LV} (hc : Core W X Z0 μ Z L.heap w) (hr : ∀ t, RepV Z μ w (L.slot t) (a.tmps.getD t undef))
    (hp : L.ev p = .eptr b sz i o) (hb : L.heap b = some blk) (hs : blk.sz = sz) (hm : blk.mt = true) (hi : blk.vals[i]? = some y) (hy : y.csize = sz)
    (hput : y.put o (L.ev x) = some y') (hT : TyIs P T (L.ev x).csize (L.ev x).isAgg) (hne : L.ev x ≠ .any ∧ ∀ l, L.ev x ≠ .tup l)
    (dst : Option Tmp) (ty : TypeId) (pos : String) (after : Array Edge) (g : Option (Nat × Bool)) :
    ∃ w', (execOp a.eval ⟨dst, .store T p x, ty, pos, after, g⟩).run P w = .ok .skip w' ∧ Core W X Z0 μ Z (L.setB b (some ⟨sz, blk.vals.set i y', true⟩)).heap w' ∧ Frame Z μ w w' := by
  have e1 := ev_rep (L := L) hr p
  rw [hp] at e1
  have e2 := e1.2 rfl
  simp only [Rep] at e2
  obtain ⟨id, h1, h2⟩ := e2
  simp only [List.cons.injEq, and_true] at h1
  obtain ⟨blk', hb', c, U, part, rest, q1, q2, q3⟩ := hc.heap b id h2
  rw [hb] at hb'; cases hb'
  obtain ⟨c1, c2, c3, _⟩ := (RepV.to1 hne.2 hne.1 (ev_rep (L := L) hr x)).cells hne.1
  obtain ⟨pre, ch, post, g1, g2, g3, g4, g5⟩ := RepAll.get blk.vals part i y q3 hi
  obtain ⟨pre2, ch2, post2, j1, j2, j3, j4, j5⟩ := LV.put_spec (L.ev x) (a.eval x).cells.toList c1 (by simpa using c2) y o y' ch hput g4 (by rw [g3, hs, hy])
  have hset := g5 y' _ j4 (by
    have := congrArg List.length j1
    simp only [List.length_append] at this ⊢
    omega)
  have hlen : c.toList.length = pre.length + (pre2.length + (ch2.length + post2.length) + post.length) + rest.length := by
    rw [q2, g1, j1]; simp; omega
  have hfit : i * sz + o + (L.ev x).csize ≤ c.size := by
    rw [← Array.length_toList, hlen]
    rw [hs] at g2
    have : ch2.length = (L.ev x).csize := by rw [j3]; simpa using c2
    omega
  have hrun := run_storeVar_at (P := P) (id := id) (off := i * sz + o) hT q1 c2 c3 hfit
  have hnew : (c.toList.take (i * sz + o) ++ (a.eval x).cells.toList ++ c.toList.drop (i * sz + o + (L.ev x).csize)) = (pre ++ ((pre2 ++ ((a.eval x).cells.toList ++ post2)) ++ post)) ++ rest := by
    rw [q2, g1, j1]
    have hl1 : i * sz + o = (pre ++ pre2).length := by rw [hs] at g2; simp; omega
    have hl2 : (L.ev x).csize = ch2.length := by rw [j3]; simpa using c2.symm
    rw [hl1, hl2]
    have e : (pre ++ (pre2 ++ (ch2 ++ post2) ++ post)) ++ rest = (pre ++ pre2) ++ (ch2 ++ (post2 ++ (post ++ rest))) := by simp
    rw [e, List.take_left]
    have e2 : List.drop ((pre ++ pre2).length + ch2.length) ((pre ++ pre2) ++ (ch2 ++ (post2 ++ (post ++ rest)))) = post2 ++ (post ++ rest) := by
      rw [← List.drop_drop, List.drop_left, List.drop_left]
    rw [e2]; simp
  rw [hnew] at hrun
  have hcs : c.size = c.toList.length := Array.length_toList.symm
  have hA : (a.eval x).cells.toList.length = ch2.length := j3.symm
  obtain ⟨k1, k2⟩ := Core.rewrite (w' := w.setRow id ((pre ++ ((pre2 ++ ((a.eval x).cells.toList ++ post2)) ++ post)) ++ rest).toArray) (blk' := ⟨sz, blk.vals.set i y', true⟩)
    (part := pre ++ ((pre2 ++ ((a.eval x).cells.toList ++ post2)) ++ post)) (rest := rest) hc h2 hb hm rfl q1
    (by rw [hcs, hlen]; simp only [List.size_toArray, List.length_append, hA]) (by simp) (by rw [← hs]; exact hset) rfl
  exact ⟨_, by simp only [execOp, h1, Instr.storeAt, Instr.sureAddr, Sem.run_bind, Sem.run_pure, Result.andThen_ok, hrun], k1, k2⟩
theorem ArgM.sound {b i0 : Nat} (hc : Core W X Z0 μ Z H w) (hb : μ b = some i0) {x y : LV} {v : Value} (h : ArgM H b x y) (hr : RepV Z μ w x v) : RepV1 Z (mu0 i0) w y v := by
  cases h with
  | imm h => exact Imm.soundV hc h hr
  | ref =>
    have := hr.2 rfl
    refine ⟨by simp [LV.isAgg], fun _ => ?_⟩
    simp only [Rep] at this ⊢
    rcases this with h | ⟨id, cap, c, T, fz, h1, h2, h3⟩
    · exact .inl h
    rw [hb] at h2; cases h2
    exact .inr ⟨i0, cap, c, T, fz, h1, rfl, h3⟩
  | ptr =>
    have := hr.2 rfl
    refine ⟨by simp [LV.isAgg], fun _ => ?_⟩
    simp only [Rep] at this ⊢
    obtain ⟨id, h1, h2⟩ := this
    rw [hb] at h2; cases h2
    exact ⟨i0, h1, rfl⟩
theorem ArgM.ne {b : Nat} {x y : LV} (h : ArgM H b x y) : (x ≠ .any ∧ ∀ m, x ≠ .tup m) := by
  cases h with
  | imm h => exact h.ne
  | ref => exact ⟨by simp, by simp⟩
  | ptr => exact ⟨by simp, by simp⟩
theorem argML_args {b i0 : Nat} (hc : Core W X Z0 μ Z H w) (hb : μ b = some i0) {ρ : Operand → LV} : ∀ (xs : List Operand) (args : List LV), ArgML H b (xs.map ρ) args → (∀ x ∈ xs, RepV Z μ w (ρ x) (a.eval x)) →
    RepVL Z (mu0 i0) w args (xs.map a.eval)
  | [], _, h, _ => by cases h; rfl
  | x :: xs, _, h, hr => by
      cases h with
      | cons h t => exact ⟨_, _, rfl, h.sound hc hb (hr x (by simp)), argML_args hc hb xs _ t (fun y hy => hr y (by simp [hy]))⟩

theorem Names.mu {b : Nat} {ρ : Operand → LV} : ∀ (xs : List Operand), Names b (xs.map ρ) → (∀ x ∈ xs, RepV Z μ w (ρ x) (a.eval x)) → ∃ id, μ b = some id
  | [], h, _ => by cases h
  | x :: xs, h, hr => by
      have h1 := hr x (by simp)
      generalize hq : ρ x = q at h h1
      simp only [List.map_cons, hq] at h
      cases h with
      | ref hl =>
        have := h1.2 rfl
        simp only [Rep] at this
        rcases this with ⟨_, h⟩ | ⟨id, _, _, _, _, _, h2, _⟩
        · omega
        exact ⟨id, h2⟩
      | ptr =>
        have := h1.2 rfl
        simp only [Rep] at this
        obtain ⟨id, _, h2⟩ := this
        exact ⟨id, h2⟩
      | tl h => exact Names.mu xs h (fun y hy => hr y (by simp [hy]))

theorem callM_sound {f : FuncId} {xs : Array Operand} {as : Array TypeId} {args : List LV} {r : LV} {b : Nat} {blk blk' : Blk} {dst : Option Tmp} {ty : TypeId} {pos : String} {af : Array Edge} {g : Option (Nat × Bool)}
    {K : Act → World → Prop} {Q : Exit → Act → World → Prop}
    (hc : Core W X Z0 μ Z L.heap w) (hr : ∀ t, RepV Z μ w (L.slot t) (a.tmps.getD t undef)) (hb : L.heap b = some blk) (hm : blk.mt = true) (hp : pures blk.vals = true)
    (ha : ArgML L.heap b (xs.toList.map L.ev) args) (hn : Names b (xs.toList.map L.ev)) (hk : CallOKM P f blk args r blk') (hm' : blk'.mt = true) (hp' : pures blk'.vals = true)
    (hK : ∀ v w' Z', Core W X Z0 μ Z' (L.setB b (some blk')).heap w' → (∀ t, RepV Z' μ w' (L.slot t) (a.tmps.getD t undef)) → RepV Z' μ w' (r.ren fun _ => b) v → K (a.put dst v) w') :
    (Oper.mk dst (.call ⟨.value (.func f), xs, as⟩) ty pos af g).wp P a w K Q := by
  obtain ⟨i0, hi0⟩ := Names.mu (μ := μ) (Z := Z) (w := w) (a := a) xs.toList hn (fun x _ => ev_rep (L := L) hr x)
  have hargs := argML_args (a := a) hc hi0 xs.toList args ha (fun x _ => ev_rep (L := L) hr x)
  have hrun : (execOp a.eval (Oper.mk dst (.call ⟨.value (.func f), xs, as⟩) ty pos af g)).run P w = .ok (.enter f (xs.map a.eval)) w := by
    have := callFunc_run (P := P) (w := w) (args := xs.map a.eval) hk.1
    simp only [execOp, resolve, Act.eval, Deferred.ofValue, Sem.run_bind, Sem.run_pure, Result.andThen_ok, invoke]
    simpa using this
  unfold Oper.wp
  rw [hrun, Oper.upon_enter]
  obtain ⟨blk1, g1, g2⟩ := hc.heap b i0 hi0
  rw [hb] at g1; cases g1
  have hbr : BlkRep Z (mu0 i0) w blk i0 := by
    obtain ⟨c, T, part, rest, q1, q2, q3⟩ := g2
    exact ⟨c, T, part, rest, q1, q2, RepAll.repure (fun _ h => h) (fun _ _ => rfl) _ _ _ hp q3⟩
  have := hk.2 w Z (xs.toList.map a.eval) i0 hc.zone (hc.mutz b i0 blk hi0 hb hm) hbr hargs
  rw [show (xs.toList.map a.eval).toArray = xs.map a.eval from by apply Array.ext'; simp] at this
  refine this.mono ?_
  rintro e w' ⟨v, μr, Zr, rfl, hrr, hv⟩
  obtain ⟨Z', h1, h2, h3, h4, h5⟩ := hc.callM hi0 hb hm hm' hp' hrr
  refine hK v w' Z' h1 (fun t => (hr t).mono h3 (fun _ _ h => h) h4) ?_
  exact (hv.mono h2 (fun _ _ h => h) ⟨fun _ _ => rfl, (Frame.refl Zr μr w').m⟩).ren (fun _ => b) (fun k id h => by obtain ⟨rfl, rfl⟩ := h5 k id h; exact hi0)
end
end Go.Lg
