/- MeetssCovers returns true at every input and changes nothing that was there. -/
import Derived.Test.YtlipjipfpkbppaaGreatRows
import Derived.Test.YtlipjipfpkbppaaGreatQV9
import Derived.WalkKit
import Derived.ProofKit
import Derived.OpenShut
import Derived.ShutString
import Derived.ChangeOld
import Derived.Below
namespace Go.Proofs.YtlipjipfpkbppaaGreat.MeetssCovers
open Go.ChangeShapes Go.WideShapes Go.ChangeAt Go.RowKit
open Go.Lg
set_option linter.unusedVariables false
set_option linter.unusedSimpArgs false
theorem own : ownKnob Tryz.prog.godebug = none := by kernel_rfl
theorem laidOut : laidOutB Tryz.prog = true := by kernel_rfl
section
variable {P : Program} {w : World} {base : Nat} {H : Type} {enc : TypeId × Value → H} {spare : Nat → Bool} {held : Bool}
theorem open_arr4 {r : Reach} {b0 : Nat} {t e : TypeId} {v : Value} {d : DataW H} {ps : List MemPlace} (ht : P.underlying t = some (.array 4 e)) (he : P.underlying e = some (.int .i64)) (hc : P.cellsOf e = 1) (hs : P.cellsOf t = 4) (hval : Value.okWide P w r b0 t v) (hd : DataW.Trod enc P w base spare held t v d ps) :
    ∃ a b c f : Int, v = .agg #[.int .i64 a, .int .i64 b, .int .i64 c, .int .i64 f] ∧ d = .agg [.lit (.int .i64 a), .lit (.int .i64 b), .lit (.int .i64 c), .lit (.int .i64 f)] ∧ ps = [] ∧ (Lit.int .i64 a).wf = true ∧ (Lit.int .i64 b).wf = true ∧ (Lit.int .i64 c).wf = true ∧ (Lit.int .i64 f).wf = true := by
  simp only [Value.okWide, ht, hs] at hval
  obtain ⟨cs, rfl, hsz, _⟩ := hval
  obtain ⟨l⟩ := cs
  simp only [List.size_toArray] at hsz
  obtain ⟨x, y, z, u, rfl⟩ : ∃ x y z u, l = [x, y, z, u] := by
    match l, hsz with
    | [x, y, z, u], _ => exact ⟨x, y, z, u, rfl⟩
  obtain ⟨fuel, hf⟩ := hd
  cases fuel with
  | zero => simp [DataW.trod] at hf
  | succ n =>
    simp only [DataW.trod, ht, hs, hc, Value.cells, List.length_cons, List.length_nil, if_true, List.range_succ, List.range_zero, List.nil_append, List.cons_append, List.mapM_cons, List.mapM_nil, Nat.mul_one, List.drop_zero, List.drop_succ_cons, List.take_succ_cons, List.take_zero] at hf
    simp only [Option.map_eq_some_iff, Option.bind_eq_bind, Option.bind_eq_some_iff, Option.pure_def, Option.some.injEq] at hf
    obtain ⟨xs, ⟨x1, h1, ys, ⟨x2, h2, zs, ⟨x3, h3, us, ⟨x4, h4, vs, rfl, rfl⟩, rfl⟩, rfl⟩, rfl⟩, hx⟩ := hf
    have key : ∀ {x : Value} {r : DataW H × List MemPlace}, DataW.trod enc P w base spare held n e [x] = some r → ∃ a, x = .int .i64 a ∧ r = (.lit (.int .i64 a), []) ∧ (Lit.int .i64 a).wf = true := fun h => by
      obtain ⟨a, h, hx, hw⟩ := DataW.trod_int he h
      simp at h
      exact ⟨a, h, hx, hw⟩
    obtain ⟨a, rfl, rfl, wa⟩ := key h1
    obtain ⟨b, rfl, rfl, wb⟩ := key h2
    obtain ⟨c, rfl, rfl, wc⟩ := key h3
    obtain ⟨f, rfl, rfl, wf⟩ := key h4
    simp at hx
    exact ⟨a, b, c, f, rfl, hx.1.symm, hx.2, wa, wb, wc, wf⟩
theorem shut_arr4 {t e : TypeId} {a b c f : Int} (ht : P.underlying t = some (.array 4 e)) (he : P.underlying e = some (.int .i64)) (hc : P.cellsOf e = 1) (hs : P.cellsOf t = 4) (wa : (Lit.int .i64 a).wf = true) (wb : (Lit.int .i64 b).wf = true) (wc : (Lit.int .i64 c).wf = true) (wf : (Lit.int .i64 f).wf = true) :
    DataW.Trod enc P w base spare held t (.agg #[.int .i64 a, .int .i64 b, .int .i64 c, .int .i64 f]) (.agg [.lit (.int .i64 a), .lit (.int .i64 b), .lit (.int .i64 c), .lit (.int .i64 f)]) [] :=
  ⟨2, by simp [DataW.trod, Value.cells, ht, he, hc, hs, wa, wb, wc, wf, List.range_succ]⟩
theorem rep_arr4 {Z : Nat → Prop} {μ : Nat → Option Nat} {w : World} (a b c f : Int) : RepV1 Z μ w (.agg [iL a, iL b, iL c, iL f]) (.agg #[.int .i64 a, .int .i64 b, .int .i64 c, .int .i64 f]) :=
  ⟨fun _ => ⟨_, rfl, repAgg0 (repFs1 (c1 := [.int .i64 a]) rfl (repV0 rfl) (repFs1 (c1 := [.int .i64 b]) rfl (repV0 rfl) (repFs1 (c1 := [.int .i64 c]) rfl (repV0 rfl) (repFs1 (c1 := [.int .i64 f]) rfl (repV0 rfl) repFs0))))⟩, fun h => by cases h⟩
end
theorem walk (a0 : Option Addr) (len0 cap0 : Nat) (z0 : List Int) (a1a a1b a1c a1f : Int) (a2 : Int) (a3 : Int) (a4 : Int) (w : World) (w0 : IsRow .i64 w a0 len0 cap0 z0) (w1a : (Lit.int .i64 a1a).wf = true) (w1b : (Lit.int .i64 a1b).wf = true) (w1c : (Lit.int .i64 a1c).wf = true) (w1f : (Lit.int .i64 a1f).wf = true) (w2 : (Lit.int .i64 a2).wf = true) (w3 : (Lit.int .i64 a3).wf = true) (w4 : (Lit.int .i64 a4).wf = true) :
    Calls Tryz.prog 3 #[.slice a0 len0 cap0, .agg #[.int .i64 a1a, .int .i64 a1b, .int .i64 a1c, .int .i64 a1f], .int .i64 a2, .int .i64 a3, .int .i64 a4] w fun e w' => e = .returned (.bool true) ∧ Below w.heap.size w w' := by
  have v0 := w0.wf
  have v1a := wf64 w1a
  have v1b := wf64 w1b
  have v1c := wf64 w1c
  have v1f := wf64 w1f
  have v2 := wf64 w2
  have v3 := wf64 w3
  have v4 := wf64 w4
  have hc := c_MeetssCovers (z0.take len0) a1a a1b a1c a1f a2 a3 a4 v0 v1a v1b v1c v1f v2 v3 v4
  refine calls_true hc.1 w (fun id => (∃ x, a0 = some x ∧ x.block = id ∧ 0 < len0)) _ (fun id h => by
    exact w0.lt h) (repVL_cons (rep_row w0 (fun x hx h0 => ⟨x, hx, rfl, h0⟩)) (repVL_cons (rep_arr4 _ _ _ _) (repVL_cons (rep_int _) (repVL_cons (rep_int _) (repVL_cons (rep_int _) (rfl))))))
set_option maxRecDepth 100000 in
theorem lifted (os : Os) (started : os.Started) (H : Type) (enc : TypeId × Value → H) :
    ReturnsInHanded {} Tryz.checked os 3 .any (Rows.meetssCoversSpec.pre6 enc Tryz.prog Tryz.f3 Rows.meetssCoversRow.domain false) (Rows.meetssCoversSpec.post enc Tryz.prog Tryz.f3 false true false false) := by
  refine returnsInHanded_of_change (C := Tryz.checked) own started (by kernel_rfl) Tryz.func3
    (ChangeSpec.witness6 (enc := enc) (C := Tryz.checked) false ⟨#[], #[.slice none 0 0, .agg #[.int .i64 0, .int .i64 0, .int .i64 0, .int .i64 0], .int .i64 0, .int .i64 0, .int .i64 0], []⟩ 8 (by kernel_rfl) (by kernel_rfl) (by kernel_rfl) (by kernel_rfl)) ?_
  intro W base args ds gs before hval0 hW hcnd _
  have hval : ∀ (j : Nat) t v, Tryz.f3.params[j]? = some t → args[j]? = some v → Value.okWide Tryz.prog W .any base t v := hval0
  have hW' := hW
  obtain ⟨p, q, hA0, hV, rfl, hfz, hnd⟩ := hW
  have hA : DataW.TrodAll enc Tryz.prog W 0 (fun _ => true) true Tryz.f3.params.toList args.toList ds p := hA0
  rw [Tryz.params3] at hA hval
  obtain ⟨v0, vs0, d0, ds0, p0, q0, hargs, rfl, rfl, h0, r0⟩ := trodAll_cons hA
  obtain ⟨v1, vs1, d1, ds1, p1, q1, rfl, rfl, rfl, h1, r1⟩ := trodAll_cons r0
  obtain ⟨v2, vs2, d2, ds2, p2, q2, rfl, rfl, rfl, h2, r2⟩ := trodAll_cons r1
  obtain ⟨v3, vs3, d3, ds3, p3, q3, rfl, rfl, rfl, h3, r3⟩ := trodAll_cons r2
  obtain ⟨v4, vs4, d4, ds4, p4, q4, rfl, rfl, rfl, h4, r4⟩ := trodAll_cons r3
  obtain ⟨rfl, rfl, rfl⟩ := trodAll_nil r4
  obtain rfl : args = #[v0, v1, v2, v3, v4] := by cases args; simp_all
  obtain ⟨rfl, rfl⟩ := trodVars_none hV
  obtain ⟨a0, len0, cap0, rfl⟩ := okWide_slice Tryz.underlying22 (hval 0 22 v0 rfl rfl)
  have k0 := h0
  have lt0 : ∀ x ∈ p0, x.block < W.heap.size := by obtain ⟨m, hm⟩ := k0; exact DataW.trod_lt m _ _ _ hm
  obtain ⟨z0, w0⟩ : ∃ zs, IsRow .i64 W a0 len0 cap0 zs := by
    obtain ⟨fuel, hf⟩ := h0
    rcases open_ints Tryz.underlying22 Tryz.underlying3 (by kernel_rfl) hf with ⟨hcs, _⟩ | ⟨x, l, c, zs, hcs, _, hl, hm, hz, _, hcell, hwz⟩
    · simp [Value.cells] at hcs
      obtain ⟨rfl, rfl, rfl⟩ := hcs
      exact ⟨[], .inl ⟨rfl, rfl, rfl, rfl⟩⟩
    · simp [Value.cells] at hcs
      obtain ⟨rfl, rfl, rfl⟩ := hcs
      exact ⟨zs, .inr ⟨_, rfl, hl, hm, by simpa using hz, hcell, hwz⟩⟩
  obtain ⟨a1a, a1b, a1c, a1f, rfl, rfl, rfl, w1a, w1b, w1c, w1f⟩ := open_arr4 Tryz.underlying23 Tryz.underlying3 (by kernel_rfl) (by kernel_rfl) (hval 1 23 v1 rfl rfl) h1
  obtain ⟨a2, rfl, rfl, rfl, w2⟩ := open_int Tryz.underlying3 (hval 2 3 v2 rfl rfl) h2
  obtain ⟨a3, rfl, rfl, rfl, w3⟩ := open_int Tryz.underlying3 (hval 3 3 v3 rfl rfl) h3
  obtain ⟨a4, rfl, rfl, rfl, w4⟩ := open_int Tryz.underlying3 (hval 4 3 v4 rfl rfl) h4
  clear hA0 hval0
  refine (walk a0 len0 cap0 z0 a1a a1b a1c a1f a2 a3 a4 W w0 w1a w1b w1c w1f w2 w3 w4).mono fun e W' ⟨he, bel⟩ => ?_
  subst he
  exact ⟨_, rfl, _, _, _, [], _, [], hW', trodAll_mk1 (shut_bool Tryz.underlying4 _), (trodAll_cons_mk (Below.trod laidOut (by kernel_rfl) (of_decide_eq_true (by kernel_rfl)) k0 bel lt0) (trodAll_cons_mk (shut_arr4 Tryz.underlying23 Tryz.underlying3 (by kernel_rfl) (by kernel_rfl) w1a w1b w1c w1f) (trodAll_cons_mk (shut_int Tryz.underlying3 w2) (trodAll_cons_mk (shut_int Tryz.underlying3 w3) (trodAll_cons_mk (shut_int Tryz.underlying3 w4) trodAll_mk0))))), rfl, bel.frame _, fun h => by cases h⟩
theorem j1 : laidOutB Tryz.pinned.checked.prog = true := by kernel_rfl
theorem j2 : mapsRowed Tryz.pinned.checked.prog = true := by kernel_rfl
theorem j3 : (Rows.meetssCoversRow.inPlace == Tryz.pinned.checked.prog.inPlace 3) = true := by kernel_rfl
theorem j4 : (Rows.meetssCoversRow.unfollowed == Tryz.pinned.checked.prog.unfollowed 3) = true := by kernel_rfl
theorem j5 : (Rows.meetssCoversRow.recurses == Tryz.pinned.checked.prog.recurses 3) = true := by kernel_rfl
theorem j6 : (Rows.meetssCoversRow.named == Tryz.pinned.checked.prog.varsNamed 3) = true := by kernel_rfl
theorem j7 : Tryz.pinned.checked.prog.stopsHeard = true := by kernel_rfl
theorem j8 : Tryz.pinned.checked.prog.mayEnter = true := by kernel_rfl
theorem j9 : (Rows.meetssCoversRow.lifted == Tryz.pinned.checked.prog.liftsFinal) = true := by kernel_rfl
theorem j10 : (Tryz.pinned.checked.prog.make == some Rows.meetssCoversRow.make) = true := by kernel_rfl
theorem j11 : (Rows.meetssCoversRow.plainKeys == Tryz.pinned.checked.prog.plainKeys) = true := by kernel_rfl
theorem closed : joinedFacts Tryz.pinned.checked.prog 3 Tryz.f3 Rows.meetssCoversSpec Rows.meetssCoversRow = true := by
  unfold joinedFacts
  rw [j1, j2, j3, j4, j5, j6, j7, j8, j9, j10, j11]
  kernel_rfl
theorem over : Rows.meetssCoversRow.holds Tryz.pinned (OpenSpec.ofChange Rows.meetssCoversSpec) :=
  OpenClaim.holds_of_wide 3 Tryz.f3 rfl rfl rfl rfl rfl rfl rfl ⟨rfl, rfl, rfl, rfl, rfl⟩ rfl rfl rfl rfl rfl (by kernel_rfl) Tryz.func3 closed
    (of_decide_eq_true (by kernel_rfl)) (by unfold Func.isWrapper; first | (rw [if_pos (by decide +kernel)]; kernel_rfl) | (rw [if_neg (by decide +kernel)]; exact ⟨rfl, rfl⟩))
    (fun os started H enc _ => lifted os started H enc)
theorem proved : Rows.MeetssCoversSaid := over
end Go.Proofs.YtlipjipfpkbppaaGreat.MeetssCovers
