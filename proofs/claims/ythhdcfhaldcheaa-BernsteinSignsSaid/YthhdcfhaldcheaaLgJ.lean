/- Appends: what the machine does at them. -/
import Derived.Test.YthhdcfhaldcheaaLgI
import Derived.Deep.Upon
set_option linter.unusedVariables false
set_option linter.unusedSimpArgs false
namespace Go.Lg
section
variable {P : Program} {W w w' : World} {X Z0 Z : Nat → Prop} {μ : Nat → Option Nat} {H : Heap} {a : Act} {L L' : St} {n : Nat}

def drop1 (μ : Nat → Option Nat) (b : Nat) : Nat → Option Nat := fun c => if c = b then none else μ c

theorem Core.kill (b : Nat) (hb0 : b ≠ 0) (hc : Core W X Z0 μ Z L.heap w) : Core W X Z0 (drop1 μ b) Z (L.kill b).heap w := by
  have hinv : ∀ c id, drop1 μ b c = some id → c ≠ b ∧ μ c = some id := fun c id h => by
    unfold drop1 at h; split at h
    · cases h
    · exact ⟨by assumption, h⟩
  have hH : ∀ c blk, (L.kill b).heap c = some blk → c ≠ b → ∃ bk, L.heap c = some bk ∧ blk = ⟨bk.sz, kills b bk.vals, bk.mt⟩ := fun c blk h hne => by
    simp only [St.kill, if_neg hne, Option.map_eq_some_iff] at h
    obtain ⟨bk, h1, h2⟩ := h
    exact ⟨bk, h1, h2.symm⟩
  refine ⟨hc.keep, hc.zone, hc.zsup, hc.zsub, ?_, ?_, ?_, hc.xlt, fun id h => by simp only [drop1, if_neg (Ne.symm hb0)]; exact hc.x1 id h, ?_, ?_, ?_⟩
  · intro c c' id h h'
    exact hc.inj c c' id (hinv c id h).2 (hinv c' id h').2
  · intro c id h; exact hc.own c id (hinv c id h).2
  · intro c id h; exact hc.x0 c id (hinv c id h).2
  · intro c id blk h g hm
    obtain ⟨bk, g1, rfl⟩ := hH c blk g (hinv c id h).1
    exact hc.mutz c id bk (hinv c id h).2 g1 hm
  · intro c id blk h g hm
    obtain ⟨bk, g1, rfl⟩ := hH c blk g (hinv c id h).1
    exact hc.frz c id bk (hinv c id h).2 g1 hm
  · intro c id h
    obtain ⟨hne, h1⟩ := hinv c id h
    obtain ⟨bk, g1, cc, T, part, rest, g2, g3, g4⟩ := hc.heap c id h1
    refine ⟨⟨bk.sz, kills b bk.vals, bk.mt⟩, by simp [St.kill, hne, g1], cc, T, part, rest, g2, g3, ?_⟩
    exact RepAll.kill (fun _ h => h) (fun k id hk h => by simp [drop1, hk, h]) (Frame.refl _ _ _) _ _ g4
theorem kill_rep (b : Nat) (hr : ∀ t, RepV Z μ w (L.slot t) (a.tmps.getD t undef)) : ∀ t, RepV Z (drop1 μ b) w ((L.kill b).slot t) (a.tmps.getD t undef) := fun t =>
  RepV.kill (fun _ h => h) (fun k id hk h => by simp [drop1, hk, h]) (Frame.refl _ _ _) (hr t)

/-- a block that no name stands for gets a name and its last cells -/
theorem Core.attach {d id : Nat} {blk : Blk} {c c' : Array Value} {T : TypeId} {part rest : List Value} (hc : Core W X Z0 μ Z H w) (hd : μ d = none) (hm : blk.mt = true)
    (hno : ∀ k, μ k ≠ some id) (hnz : ¬ Z id) (hlo : W.heap.size ≤ id)
    (hcell : w.heap[id]? = some (.cells c T (0, 0))) (h1 : c'.toList = part ++ rest) (h2 : RepAll Z μ w blk.sz blk.vals part)
    (hw : w' = w.setRow id c') :
    Core W X Z0 (upd μ d id) Z (fun k => if k = d then some blk else H k) w' ∧ Frame Z μ w w' ∧ (∀ b k, μ b = some k → upd μ d id b = some k) ∧ w'.heap[id]? = some (.cells c' T (0, 0)) := by
  subst hw
  have hself : (w.setRow id c').heap[id]? = some (.cells c' T (0, 0)) := setRow_heap w id c c' T (0, 0) hcell
  have hother : ∀ k, k ≠ id → (w.setRow id c').heap[k]? = w.heap[k]? := fun k hk => by
    simp only [World.setRow, Array.getElem?_modify, if_neg (Ne.symm hk)]
  have hsize : (w.setRow id c').heap.size = w.heap.size := by simp [World.setRow]
  have hfr : Frame Z μ w (w.setRow id c') :=
    ⟨fun k hk => hother k (fun e => hnz (e ▸ hk)), fun b' k hk cc T' fz hcc => ⟨cc, (hother k (fun e => hno b' (e ▸ hk))).trans hcc, rfl⟩⟩
  have hup : ∀ b k, μ b = some k → upd μ d id b = some k := fun b k h => by
    unfold upd; split
    · subst_vars; rw [hd] at h; cases h
    · exact h
  have hinv : ∀ b k, upd μ d id b = some k → (b = d ∧ k = id) ∨ (b ≠ d ∧ μ b = some k) := fun b k h => by
    unfold upd at h; split at h
    · cases h; exact .inl ⟨by assumption, rfl⟩
    · exact .inr ⟨by assumption, h⟩
  refine ⟨⟨?_, fun k hk => by rw [hsize]; exact hc.zone k hk, hc.zsup, hc.zsub, ?_, ?_, ?_, hc.xlt, fun k h => hup 0 k (hc.x1 k h), ?_, ?_, ?_⟩, hfr, hup, hself⟩
  · exact ⟨hc.keep.os, hc.keep.tape, hc.keep.output, by rw [hsize]; exact hc.keep.size, fun k hk hx => (hother k (by omega)).trans (hc.keep.block k hk hx),
      fun k hx c0 T0 fz0 h0 => let ⟨c1, g1, g2⟩ := hc.keep.xsz k hx c0 T0 fz0 h0; ⟨c1, (hother k (by have := hc.xlt k hx; omega)).trans g1, g2⟩⟩
  · intro b b' k h h'
    rcases hinv b k h with ⟨rfl, rfl⟩ | ⟨n1, h3⟩ <;> rcases hinv b' _ h' with ⟨rfl, e⟩ | ⟨n2, h4⟩
    · rfl
    · exact absurd h4 (hno b')
    · exact absurd (e ▸ h3) (hno b)
    · exact hc.inj b b' k h3 h4
  · intro b k h
    rcases hinv b k h with ⟨rfl, rfl⟩ | ⟨n1, h3⟩
    · exact .inl hlo
    · exact hc.own b k h3
  · intro b k h hx
    rcases hinv b k h with ⟨rfl, rfl⟩ | ⟨n1, h3⟩
    · have := hc.xlt _ hx; omega
    · exact hc.x0 b k h3 hx
  · intro b k bk h g hmt
    rcases hinv b k h with ⟨rfl, rfl⟩ | ⟨n1, h3⟩
    · exact hnz
    · rw [if_neg n1] at g; exact hc.mutz b k bk h3 g hmt
  · intro b k bk h g hmt
    rcases hinv b k h with ⟨rfl, rfl⟩ | ⟨n1, h3⟩
    · rw [if_pos rfl] at g; cases g; rw [hm] at hmt; cases hmt
    · rw [if_neg n1] at g; exact hc.frz b k bk h3 g hmt
  · intro b k h
    rcases hinv b k h with ⟨rfl, rfl⟩ | ⟨n1, h3⟩
    · exact ⟨blk, if_pos rfl, c', T, part, rest, hself, h1, h2.mono (fun _ h => h) hup hfr⟩
    · obtain ⟨bk, g1, g2⟩ := hc.heap b k h3
      exact ⟨bk, by rw [if_neg n1]; exact g1, g2.mono (fun _ h => h) hup hfr (hother k (fun e => hno b (e ▸ h3)))⟩

/-- what an append takes from its second operand -/
theorem src_of {U E' : TypeId} {y : Operand} {news : List LV} {sz : Nat} (hc : Core W X Z0 μ Z L.heap w) (hr : ∀ t, RepV Z μ w (L.slot t) (a.tmps.getD t undef)) (hU : P.underlying U = some (.slice E'))
    (hy : (∃ c off blk2, L.ev y = .ref c sz off news.length ∧ L.heap c = some blk2 ∧ blk2.sz = sz ∧ off + news.length ≤ blk2.vals.length ∧ news = (blk2.vals.drop off).take news.length) ∨
        L.ev y = .list sz news ∨ (L.ev y = .v (.slice none 0 0) ∧ news = [])) :
    ∃ cells, Src P sz U (a.eval y) news.length cells w ∧ RepAll Z μ w sz news cells := by
  have e1 := ev_rep (L := L) hr y
  have one : ∀ (l : List LV) (cs : List Value), RepAll Z μ w sz l cs → ∀ u ∈ cs, u.oneCell' = true := by
    intro l
    induction l with
    | nil => intro cs h; simp only [RepAll] at h; simp [h]
    | cons x xs ih =>
      intro cs h u hu
      simp only [RepAll] at h
      obtain ⟨c1, c2, rfl, h2, h3, h4⟩ := h
      rcases List.mem_append.1 hu with hu | hu
      · exact Rep.one _ _ h3 u hu
      · exact ih c2 h4 u hu
  rcases hy with ⟨cc, off, blk2, h1, h2, h3, h4, h5⟩ | h1 | ⟨h1, rfl⟩
  · rw [h1] at e1
    have e2 := e1.2 rfl
    simp only [Rep] at e2
    rcases e2 with ⟨q1, q2⟩ | ⟨id, cap, c, T, fz, q1, q2, q3, q4, q5⟩
    · simp only [List.cons.injEq, and_true] at q1
      have hnil := List.eq_nil_of_length_eq_zero q2
      subst hnil
      refine ⟨[], ?_, by simp [RepAll]⟩
      rw [q1]
      exact Src.ofNil w hU 0
    simp only [List.cons.injEq, and_true] at q1
    obtain ⟨bk, g1, c', T', part, rest, g2, g3, g4⟩ := hc.heap cc id q2
    rw [h2] at g1; cases g1
    rw [q4] at g2; cases g2
    obtain ⟨c1, c2, d1, d2, d3⟩ := RepAll.split (blk2.vals.take off) (blk2.vals.drop off) part (by rw [List.take_append_drop]; exact g4)
    obtain ⟨c3, c4, d4, d5, d6⟩ := RepAll.split ((blk2.vals.drop off).take news.length) ((blk2.vals.drop off).drop news.length) c2 (by rw [List.take_append_drop]; exact d3)
    rw [← h5, h3] at d5
    have hl1 := RepAll.length _ _ d2
    rw [List.length_take, Nat.min_eq_left (by omega), h3] at hl1
    have hrange := range_of (w := w) (off := off * sz) (part := c3) (rest := c4 ++ rest) q4 (by rw [g3, d1, d4, ← hl1]; simp)
    refine ⟨c3, ?_, d5⟩
    rw [q1]
    exact Src.ofSlice w hU _ _ _ c3 (RepAll.length _ _ d5) (fun j u hj => by rw [Addr.add_mid]; exact hrange j u hj) (one _ _ d5)
  · rw [h1] at e1
    have e2 := e1.2 rfl
    simp only [Rep] at e2
    obtain ⟨ad, len, cap, q1, q2, q3, q4, _⟩ := e2
    simp only [List.cons.injEq, and_true] at q1
    rcases q4 with q4 | ⟨blk, off, c, T, fz, part, rest, g1, g2, g3, g4, g5⟩
    · subst q4
      simp at q2; subst q2
      refine ⟨[], ?_, rfl⟩
      rw [q1]
      cases ad with
      | none => exact Src.ofNil w hU cap
      | some ad => exact Src.ofSlice w hU ad 0 cap [] (by simp) (by simp) (by simp)
    · subst g1
      have hrange := range_of (w := w) (part := part) (rest := rest) g3 g4
      refine ⟨part, ?_, g5⟩
      rw [q1, q2]
      exact Src.ofSlice w hU _ _ _ part (RepAll.length _ _ g5) (fun j u hj => by rw [Addr.add_mid]; exact hrange j u hj) (one _ _ g5)
  · rw [h1] at e1
    have e2 := e1.v_eq
    refine ⟨[], ?_, rfl⟩
    rw [e2]
    exact Src.ofNil w hU 0

theorem le_set {d : Nat} {blk : Blk} {H : Heap} (hd : H d = none) : H.le (fun k => if k = d then some blk else H k) := fun b bk h => by
  have : b ≠ d := by rintro rfl; rw [hd] at h; cases h
  exact ⟨bk.mt, by simp only [if_neg this]; exact h, fun h => h, fun h1 h2 => by rw [h1] at h2; cases h2⟩

theorem setCells_setRow {g o : Nat} {T : TypeId} {vs : List Value} {cur : Array Value} (hg : w.heap[g]? = some (.cells cur T (0, 0))) (hl : o + vs.length ≤ cur.size) (h1 : ∀ v ∈ vs, v.oneCell' = true) :
    w.setCells g o vs = w.setRow g (cur.toList.take o ++ vs ++ cur.toList.drop (o + vs.length)).toArray := by
  have a := run_storeCells_at (default : Program) g o T vs 0 cur w hg (by simpa using hl) h1
  have hc : ∀ j, j < vs.length → (w.cell? ⟨g, o + j, none⟩).isSome = true := fun j hj => by
    rw [cell_of_row w g (o + j) cur T (0, 0) hg, Array.getElem?_eq_getElem (by omega)]; rfl
  have hf : ∀ j, j < vs.length → w.frozen? ⟨g, o + j, none⟩ = false := fun j hj => by simp [World.frozen?, hg]
  have b := run_storeCells_cells (P := (default : Program)) g o vs 0 w (by simpa using hc) (by simpa using hf) h1
  rw [b] at a
  simp only [Nat.add_zero, Result.ok.injEq, true_and] at a
  exact a

/-- an append that makes a new row -/
theorem grow_sound {T U E ty : TypeId} {d sz : Nat} {news olds : List LV} {z : LV} {by_ : Nat} {oldc newc : List Value} {base : Option Addr} {sLen sCap : Nat} {xv yv : Value}
    (hc : Core W X Z0 μ Z H w) (hd : H d = none) (hT : P.underlying T = some (.slice E)) (hz : ZeroOK P E z) (hE : TyIs P E sz z.isAgg) (hzs : z.csize = sz) (hby : TyBytes P E by_)
    (hx : xv = .slice base sLen sCap) (hold : (Builtin.firstCells sz sLen (.slice base sLen sCap)).run P w.drew = .ok oldc.toArray w.drew)
    (hs : Src P sz U yv news.length newc w) (ho : RepAll Z μ w sz olds oldc) (hol : olds.length = sLen) (hn : RepAll Z μ w sz news newc)
    (hg : sCap < sLen + news.length) (hsz : (sLen + news.length) * by_ ≤ 140737488355328) (h63 : sLen + news.length ≤ 4611686018427387904) :
    ∃ v w' μ' Z', (Builtin.append_ #[T, U] ty #[xv, yv]).run P w = .ok v w' ∧ Core W X Z0 μ' Z' (fun k => if k = d then some ⟨sz, olds ++ news, true⟩ else H k) w' ∧
      (∀ id, Z id → Z' id) ∧ (∀ b id, μ b = some id → μ' b = some id) ∧ Frame Z μ w w' ∧ RepV Z' μ' w' (.ref d sz 0 (sLen + news.length)) v := by
  obtain ⟨i, zv, z1, z2, z3, z4⟩ := hz
  have hsi : i.size = sz := by have := hE.1; rw [z1] at this; simpa using this
  have hbi : i.bytes = by_ := by obtain ⟨i', g1, g2⟩ := hby; rw [z1] at g1; cases g1; exact g2
  have hcap := nextslicecap_le hg
  have hfit : Builtin.nextslicecap (sLen + news.length) sCap * i.bytes ≤ 281474976710656 := by
    rw [hbi]
    calc Builtin.nextslicecap (sLen + news.length) sCap * by_ ≤ (2 * (sLen + news.length)) * by_ := Nat.mul_le_mul_right _ hcap
      _ = 2 * ((sLen + news.length) * by_) := by rw [Nat.mul_assoc]
      _ ≤ 281474976710656 := by omega
  subst hx
  have hrun := run_append_grow_src (P := P) w T U ty E i zv hT z1 z2 base sLen sCap oldc (by rw [hsi]; exact hold) yv news.length newc (by rw [hsi]; exact hs) hg (by omega) hfit
  have hμd : μ d = none := by
    cases hq : μ d with
    | none => rfl
    | some id => obtain ⟨bk, g, _⟩ := hc.heap d id hq; rw [hd] at g; cases g
  have hcz : zv.cells.size = sz := by
    have h1 := Rep.len (z4 Z μ w) (LV.pure_ne_any z3)
    rw [← Array.length_toList, h1, hzs]
  have hall := RepAll.append _ _ _ _ ho hn
  have hlen := RepAll.length _ _ hall
  obtain ⟨Z1, k1, k2⟩ := hc.widen (le_set (blk := ⟨sz, olds ++ news, true⟩) hd)
  have hpushed : Pushed w (w.drew.alloc (.cells ((oldc ++ newc).toArray ++ Builtin.zeroCells zv.cells (grownCap w (sLen + news.length) sCap E - (sLen + news.length))) E)) _ := ⟨rfl, rfl, rfl, rfl⟩
  obtain ⟨Z2, h1, h2, h3, h4, h5, h6⟩ := k1.push (d := d) (blk := ⟨sz, olds ++ news, true⟩) (part := oldc ++ newc) (rest := (Builtin.zeroCells zv.cells (grownCap w (sLen + news.length) sCap E - (sLen + news.length))).toList)
    (by simp) hμd hpushed (by simp) (hall.mono k2 (fun _ _ h => h) ⟨fun _ _ => rfl, (Frame.refl Z μ w).m⟩)
  refine ⟨_, _, _, Z2, hrun, h1, fun id h => h2 id (k2 id h), h3, ⟨fun id h => h4.z id (k2 id h), h4.m⟩, ⟨by simp [LV.isAgg], fun _ => ?_⟩⟩
  simp only [Rep]
  have hge := grownCap_ge w (sLen + news.length) sCap E
  refine .inr ⟨w.heap.size, _, _, E, (0, 0), by simp, h5, hge, h6, ?_⟩
  rw [Array.size_append, List.size_toArray, hlen, size_zeroCells, hcz, List.length_append, hol, Nat.zero_add, ← Nat.add_mul]
  exact Nat.mul_le_mul_right _ (by omega)

theorem mu_none (hc : Core W X Z0 μ Z H w) {d : Nat} (hd : H d = none) : μ d = none := by
  cases hq : μ d with
  | none => rfl
  | some id => obtain ⟨bk, g, _⟩ := hc.heap d id hq; rw [hd] at g; cases g

theorem RepAll.kill' {sz b : Nat} (l : List LV) (cs : List Value) (h : RepAll Z μ w sz l cs) : RepAll Z (drop1 μ b) w sz (kills b l) cs :=
  RepAll.kill (fun _ h => h) (fun k id hk h => by simp [drop1, hk, h]) (Frame.refl _ _ _) _ _ h

theorem kills_length (b : Nat) : ∀ l : List LV, (kills b l).length = l.length
  | [] => rfl
  | x :: xs => by simp [kills, kills_length b xs]
theorem kills_append (b : Nat) : ∀ l m : List LV, kills b (l ++ m) = kills b l ++ kills b m
  | [], m => rfl
  | x :: xs, m => by simp [kills, kills_append b xs m]

theorem Core.reheap {H' : Heap} (hc : Core W X Z0 μ Z H w) (hh : ∀ b id, μ b = some id → H' b = H b) : Core W X Z0 μ Z H' w :=
  ⟨hc.keep, hc.zone, hc.zsup, hc.zsub, hc.inj, hc.own, hc.x0, hc.xlt, hc.x1, fun b id blk h g => hc.mutz b id blk h ((hh b id h).symm.trans g), fun b id blk h g => hc.frz b id blk h ((hh b id h).symm.trans g),
    fun b id h => let ⟨blk, g1, g2⟩ := hc.heap b id h; ⟨blk, (hh b id h).trans g1, g2⟩⟩

/-- an append to a slice of the call's own -/
theorem app_sound {T U E E' ty : TypeId} {d b sz len : Nat} {blk : Blk} {x y : Operand} {news : List LV} {z : LV} {by_ : Nat} (hc : Core W X Z0 μ Z L.heap w) (hr : ∀ t, RepV Z μ w (L.slot t) (a.tmps.getD t undef))
    (hx : L.ev x = .ref b sz 0 len) (hb : L.heap b = some blk) (hs : blk.sz = sz) (hm : blk.mt = true) (hlen : len ≤ blk.vals.length) (hbd : d = b ∨ L.heap d = none) (hb0 : b ≠ 0)
    (hT : P.underlying T = some (.slice E)) (hU : P.underlying U = some (.slice E')) (hz : ZeroOK P E z) (hE : TyIs P E sz z.isAgg) (hzs : z.csize = sz) (hby : TyBytes P E by_)
    (hy : (∃ c off blk2, L.ev y = .ref c sz off news.length ∧ c ≠ b ∧ L.heap c = some blk2 ∧ blk2.sz = sz ∧ off + news.length ≤ blk2.vals.length ∧ news = (blk2.vals.drop off).take news.length ∧ pures news = true) ∨
        L.ev y = .list sz news ∨ (L.ev y = .v (.slice none 0 0) ∧ news = []))
    (hsz : (len + news.length) * by_ ≤ 140737488355328) (h63 : len + news.length ≤ 4611686018427387904) :
    ∃ v w' μ' Z', (Builtin.append_ #[T, U] ty #[a.eval x, a.eval y]).run P w = .ok v w' ∧
      Core W X Z0 μ' Z' ((L.kill b).setB d (some ⟨sz, kills b (blk.vals.take len ++ news), true⟩)).heap w' ∧
      (∀ t, RepV Z' μ' w' ((L.kill b).slot t) (a.tmps.getD t undef)) ∧ RepV Z' μ' w' (.ref d sz 0 (len + news.length)) v := by
  obtain ⟨newc, hsrc, hnews⟩ := src_of (P := P) hc hr hU (y := y) (news := news) (sz := sz) (by
    rcases hy with ⟨c, off, b2, q1, _, q3, q4, q5, q6, _⟩ | h | h
    · exact .inl ⟨c, off, b2, q1, q3, q4, q5, q6⟩
    · exact .inr (.inl h)
    · exact .inr (.inr h))
  have e1 := ev_rep (L := L) hr x
  rw [hx] at e1
  have e2 := e1.2 rfl
  simp only [Rep] at e2
  have hkd : (L.kill b).heap d = none := by
    rcases hbd with rfl | h
    · simp [St.kill]
    · simp only [St.kill]; split
      · rfl
      · rw [h]; rfl
  rcases e2 with ⟨q1, rfl⟩ | ⟨id, cap, c, U', fz, q1, q2, q3, q4, q5⟩
  · simp only [List.cons.injEq, and_true] at q1
    have hk := hc.kill b hb0
    have hkr := kill_rep b hr
    have hkl : (kills b news).length = news.length := kills_length b news
    cases hnw : news with
    | nil =>
      subst hnw
      obtain ⟨i, zv, z1, z2, z3, z4⟩ := hz
      have hsi : i.size = sz := by have := hE.1; rw [z1] at this; simpa using this
      have hcells : newc = [] := by simpa [RepAll] using hnews
      subst hcells
      have hrun := run_append_nothing (P := P) w T U ty E i hT z1 none 0 0 (Nat.le_refl _) (a.eval y) (hsi ▸ hsrc)
      refine ⟨_, w, drop1 μ b, Z, by rw [q1]; exact hrun, ?_, hkr, ⟨by simp [LV.isAgg], fun _ => by simp [Rep]⟩⟩
      exact hk.reheap fun c id hcd => by
        have : c ≠ d := by rintro rfl; rw [mu_none hk hkd] at hcd; cases hcd
        simp [St.setB, this]
    | cons x0 xs0 =>
      rw [← hnw]
      have hpos : 0 < news.length := by rw [hnw]; simp
      obtain ⟨v, w', μ', Z', r1, r2, r3, r4, r5, r6⟩ := grow_sound (P := P) (ty := ty) (U := U) (olds := []) (news := kills b news) (oldc := []) (sLen := 0) (sCap := 0) hk hkd hT hz hE hzs hby q1 (by simp [Builtin.firstCells]) (by rw [hkl]; exact hsrc)
        (by simp [RepAll]) rfl (RepAll.kill' _ _ hnews) (by rw [hkl]; omega) (by rw [hkl]; exact hsz) (by rw [hkl]; exact h63)
      rw [List.nil_append] at r2
      rw [hkl] at r6
      exact ⟨v, w', μ', Z', r1, by simpa [St.setB] using r2, fun t => (hkr t).mono r3 r4 r5, r6⟩
  simp only [List.cons.injEq, and_true, Nat.zero_mul] at q1
  obtain ⟨bk, g1, c', T', part, rest, g2, g3, g4⟩ := hc.heap b id q2
  rw [hb] at g1; cases g1
  rw [q4] at g2; cases g2
  simp only [Nat.zero_add] at q5
  obtain ⟨p1, p2, d1, d2, d3⟩ := RepAll.split (blk.vals.take len) (blk.vals.drop len) part (by rw [List.take_append_drop]; exact g4)
  rw [hs] at d2
  have hp1 := RepAll.length _ _ d2
  rw [List.length_take, Nat.min_eq_left hlen] at hp1
  have hk := hc.kill b hb0
  have hkr := kill_rep b hr
  have hno : ∀ k, drop1 μ b k ≠ some id := fun k h => by
    unfold drop1 at h; split at h
    · cases h
    · rename_i hne; exact hne (hc.inj k b id h q2)
  have hlo : W.heap.size ≤ id := by
    rcases hc.own b id q2 with h | h
    · exact h
    · exact absurd (hc.x0 b id q2 h) hb0
  have hnz := hc.mutz b id blk q2 hb hm
  have hnl := RepAll.length _ _ hnews
  by_cases hroom : len + news.length ≤ cap
  · have hfit : len * sz + newc.length ≤ c.size := by
      rw [hnl, ← Nat.add_mul]
      exact Nat.le_trans (Nat.mul_le_mul_right _ hroom) q5
    have hc1 : ∀ j, j < newc.length → (w.cell? ⟨id, 0 + len * sz + j, none⟩).isSome = true := fun j hj => by
      rw [cell_of_row w id _ c _ _ q4, Array.getElem?_eq_getElem (by omega)]; rfl
    have hc2 : ∀ j, j < newc.length → w.frozen? ⟨id, 0 + len * sz + j, none⟩ = false := fun j hj => by simp [World.frozen?, q4]
    obtain ⟨i, zv, z1, z2, z3, z4⟩ := hz
    have hsi : i.size = sz := by have := hE.1; rw [z1] at this; simpa using this
    have hrun := run_append_room_src (P := P) w T U ty E i hT z1 id 0 len cap (a.eval y) news.length newc (by rw [hsi]; exact hsrc) hroom (by rw [hsi]; exact hc1) (by rw [hsi]; exact hc2)
    rw [hsi, Nat.zero_add, setCells_setRow q4 hfit hsrc.one] at hrun
    have hold := (RepAll.kill' (b := b) _ _ d2)
    have hnew := (RepAll.kill' (b := b) _ _ hnews)
    have hall := RepAll.append _ _ _ _ hold hnew
    rw [← kills_append] at hall
    have hsplit : c.toList.take (len * sz) ++ newc ++ c.toList.drop (len * sz + newc.length) = (p1 ++ newc) ++ c.toList.drop (len * sz + newc.length) := by
      rw [g3, d1, ← hp1]; simp
    rw [hsplit] at hrun
    obtain ⟨k1, k2, k3, k4⟩ := hk.attach (d := d) (id := id) (blk := ⟨sz, kills b (blk.vals.take len ++ news), true⟩) (c' := ((p1 ++ newc) ++ c.toList.drop (len * sz + newc.length)).toArray)
      (part := p1 ++ newc) (rest := c.toList.drop (len * sz + newc.length)) (mu_none hk hkd) rfl hno hnz hlo q4 (by simp) hall rfl
    refine ⟨_, _, _, Z, by rw [q1]; exact hrun, k1, fun t => (hkr t).mono (fun _ h => h) k3 k2, ⟨by simp [LV.isAgg], fun _ => ?_⟩⟩
    simp only [Rep]
    refine .inr ⟨id, cap, _, U', (0, 0), by simp, by simp [upd], hroom, k4, ?_⟩
    rw [Nat.zero_add]
    simp only [List.size_toArray, List.length_append, hp1, List.length_drop, Array.length_toList]
    omega
  · have hold : (Builtin.firstCells sz len (.slice (some ⟨id, 0, none⟩) len cap)).run P w.drew = .ok p1.toArray w.drew := by
      refine run_firstCells_some w.drew sz len ⟨id, 0, none⟩ len cap p1 hp1 (fun j v hj => ?_)
      rw [Addr.add_mid]
      have hrange := range_of (w := w) (off := 0) (part := p1) (rest := p2 ++ rest) q4 (by rw [List.drop_zero, g3, d1]; simp)
      exact hrange j v hj
    have hkl : (kills b news).length = news.length := kills_length b news
    obtain ⟨v, w', μ', Z', r1, r2, r3, r4, r5, r6⟩ := grow_sound (P := P) (ty := ty) (U := U) (olds := kills b (blk.vals.take len)) (news := kills b news) hk hkd hT hz hE hzs hby q1 hold (by rw [hkl]; exact hsrc)
      (RepAll.kill' _ _ d2) (by rw [kills_length, List.length_take]; omega) (RepAll.kill' _ _ hnews) (by rw [hkl]; omega) (by rw [hkl]; exact hsz) (by rw [hkl]; exact h63)
    rw [← kills_append] at r2
    rw [hkl] at r6
    exact ⟨v, w', μ', Z', r1, r2, fun t => (hkr t).mono r3 r4 r5, r6⟩
/-- an append to the nil slice -/
theorem app0_sound {T U E E' ty : TypeId} {d sz : Nat} {x y : Operand} {news : List LV} {z : LV} {by_ : Nat} (hc : Core W X Z0 μ Z L.heap w) (hr : ∀ t, RepV Z μ w (L.slot t) (a.tmps.getD t undef))
    (hx : L.ev x = .v (.slice none 0 0)) (hbd : L.heap d = none)
    (hT : P.underlying T = some (.slice E)) (hU : P.underlying U = some (.slice E')) (hz : ZeroOK P E z) (hE : TyIs P E sz z.isAgg) (hzs : z.csize = sz) (hby : TyBytes P E by_)
    (hy : (∃ c off blk2, L.ev y = .ref c sz off news.length ∧ L.heap c = some blk2 ∧ blk2.sz = sz ∧ off + news.length ≤ blk2.vals.length ∧ news = (blk2.vals.drop off).take news.length ∧ pures news = true) ∨
        L.ev y = .list sz news)
    (hn : 0 < news.length) (hsz : news.length * by_ ≤ 140737488355328) (h63 : news.length ≤ 4611686018427387904) :
    ∃ v w' μ' Z', (Builtin.append_ #[T, U] ty #[a.eval x, a.eval y]).run P w = .ok v w' ∧ Core W X Z0 μ' Z' (L.setB d (some ⟨sz, news, true⟩)).heap w' ∧
      (∀ t, RepV Z' μ' w' (L.slot t) (a.tmps.getD t undef)) ∧ RepV Z' μ' w' (.ref d sz 0 news.length) v := by
  obtain ⟨newc, hsrc, hnews⟩ := src_of (P := P) hc hr hU (y := y) (news := news) (sz := sz) (by
    rcases hy with ⟨c, off, b2, q1, q3, q4, q5, q6, _⟩ | h
    · exact .inl ⟨c, off, b2, q1, q3, q4, q5, q6⟩
    · exact .inr (.inl h))
  have e1 := ev_rep (L := L) hr x
  rw [hx] at e1
  have e2 := e1.v_eq
  obtain ⟨v, w', μ', Z', r1, r2, r3, r4, r5, r6⟩ := grow_sound (P := P) (ty := ty) (U := U) (olds := []) (news := news) (oldc := []) (sLen := 0) hc hbd hT hz hE hzs hby e2 (by simp [Builtin.firstCells]) hsrc
    (by simp [RepAll]) rfl hnews (by omega) (by rw [Nat.zero_add]; exact hsz) (by rw [Nat.zero_add]; exact h63)
  rw [Nat.zero_add] at r6
  rw [List.nil_append] at r2
  exact ⟨v, w', μ', Z', r1, r2, fun t => (hr t).mono r3 r4 r5, r6⟩
end
end Go.Lg
