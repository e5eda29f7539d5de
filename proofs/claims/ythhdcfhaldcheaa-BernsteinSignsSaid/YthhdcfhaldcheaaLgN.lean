/- A function's body over logical values, and the contract that comes of it. -/
import Derived.Test.YthhdcfhaldcheaaLgM
set_option linter.unusedVariables false
set_option linter.unusedSimpArgs false
namespace Go.Lg

inductive LEx where
  | normal
  | exit (id : Nat)
  | ret

def thenL (K : St → Prop) (Q : LEx → St → Prop) : LEx → St → Prop
  | .normal, L => K L
  | e, L => Q e L
def blockL (id : Nat) (Q : LEx → St → Prop) : LEx → St → Prop
  | .exit i, L => if i = id then Q .normal L else Q (.exit i) L
  | e, L => Q e L

def dstsOk (n : Nat) : Code → Bool
  | .region _ ops _ => ops.toList.all fun o => match o.dst with | some t => decide (t < n) | none => true
  | .seq x y => dstsOk n x && dstsOk n y
  | .cond _ x y => dstsOk n x && dstsOk n y
  | .block _ c => dstsOk n c
  | .loop c => dstsOk n c
  | _ => true

def PostL (n : Nat) (W : World) (X Z0 : Nat → Prop) (Q : LEx → St → Prop) : Exit → Act → World → Prop
  | .normal, a, w => ∃ L, Q .normal L ∧ Sim n W X Z0 L a w
  | .exit id, a, w => ∃ L, Q (.exit id) L ∧ Sim n W X Z0 L a w
  | .ret, a, w => ∃ L, Q .ret L ∧ Sim n W X Z0 L a w
  | _, _, _ => False

def wpL (P : Program) : Code → (LEx → St → Prop) → St → Prop
  | .skip, Q, L => Q .normal L
  | .region _ ops d, Q, L => ∃ L0, Weak L L0 ∧ (((d = true → ∃ m, drawOk ops m = true) ∧ opsL P d ops ops.toList L0 (Q .normal)) ∨ (d = true ∧ anyL P ops ops.size (Array.replicate ops.size false) L0 (Q .normal)) ∨
      ∀ n W X Z0 a w, Sim n W X Z0 L0 a w → dstsOk n (.region 0 ops d) = true → ∀ id, (Code.region id ops d).wp P (PostL n W X Z0 Q) a w)
  | .seq x y, Q, L => wpL P x (thenL (wpL P y Q) Q) L
  | .cond c x y, Q, L => ∃ t, L.ev c = .v (.bool t) ∧ (t = true → wpL P x Q L) ∧ (t = false → wpL P y Q L)
  | .block id c, Q, L => wpL P c (blockL id Q) L
  | .loop c, Q, L => ∃ (I : Nat → St → Prop) (n0 : Nat), (∃ L0, Weak L L0 ∧ I n0 L0) ∧ ∀ n L, I n L → wpL P c (thenL (fun L' => ∃ L'' n', Weak L' L'' ∧ I n' L'' ∧ n' < n) Q) L
  | .exit id, Q, L => Q (.exit id) L
  | .ret, Q, L => Q .ret L
  | _, _, _ => False

section
variable {P : Program} {W w w' : World} {X Z0 Z : Nat → Prop} {μ : Nat → Option Nat} {H : Heap} {a : Act} {L L' : St} {n : Nat}

theorem wp_loop_g {γ : Type} {c : Code} {Q : Exit → Act → World → Prop} {a : Act} {w : World} (I : γ → Act → World → Prop) (μ : γ → Nat) (g : γ) (h₀ : I g a w)
    (round : ∀ g a w, I g a w → c.wp P (Exit.then (fun a' w' => ∃ g', I g' a' w' ∧ μ g' < μ g) Q) a w) : (Code.loop c).wp P Q a w := by
  intro b k cs
  have key : ∀ n g a w, μ g = n → I g a w → ∃ e a' w', Q e a' w' ∧ Arrives P (lone (b.at a (.code c :: .inLoop c :: k)) cs w) b k cs e a' w' := by
    intro n
    induction n using Nat.strongRecOn with
    | _ n ih =>
      intro g a w hn hI
      obtain ⟨e, a₁, w₁, hq, harr⟩ := round g a w hI b (.inLoop c :: k) cs
      cases e with
      | normal =>
        obtain ⟨g', hI₁, hlt⟩ := hq
        obtain ⟨e₂, a₂, w₂, hq₂, harr₂⟩ := ih (μ g') (hn ▸ hlt) g' a₁ w₁ rfl hI₁
        exact ⟨e₂, a₂, w₂, hq₂, .of_steps (Steps.trans harr (.one step_inLoop)) harr₂⟩
      | exit id => exact ⟨_, a₁, w₁, hq, .pass (x := .inLoop c) rfl (fun _ _ => .inl (by simp)) harr⟩
      | goto l => exact ⟨_, a₁, w₁, hq, .pass (x := .inLoop c) rfl (fun _ _ => .inl (by simp)) harr⟩
      | ret => exact ⟨_, a₁, w₁, hq, .pass (x := .inLoop c) rfl (fun _ _ => .inl (by simp)) harr⟩
      | panic ch => exact ⟨_, a₁, w₁, hq, .pass (x := .inLoop c) rfl (fun _ _ => .inl (by simp)) harr⟩
      | outgrown => exact ⟨_, a₁, w₁, hq, .pass (x := .inLoop c) rfl (fun _ _ => .inl (by simp)) harr⟩
  obtain ⟨e, a', w', hq, harr⟩ := key _ g a w rfl h₀
  exact ⟨e, a', w', hq, .of_steps (.one step_loop) harr⟩

theorem wpL_sound (hfol : P.follows .mixedOrders = true) : ∀ (c : Code) (Q : LEx → St → Prop) (L : St) (a : Act) (w : World), Sim n W X Z0 L a w → wpL P c Q L → dstsOk n c = true →
    c.wp P (PostL n W X Z0 Q) a w
  | .skip, Q, L, a, w, hs, h, _ => wp_skip ⟨L, h, hs⟩
  | .region id ops d, Q, L, a, w, hs, h, hd => by
      obtain ⟨L0, hw, hdL⟩ := h
      have hd' : ∀ o ∈ ops.toList, ∀ t, o.dst = some t → t < n := fun o ho t ht => by
        simp only [dstsOk, List.all_eq_true] at hd
        have := hd o ho
        rw [ht] at this
        simpa using this
      rcases hdL with ⟨hdr, hL⟩ | ⟨rfl, hL⟩ | hL
      case inr.inr => exact hL _ _ _ _ _ _ (hw _ _ _ _ _ _ hs) hd id
      case inr.inl => exact any_sound hfol (hw _ _ _ _ _ _ hs) hL hd' (fun L' a' w' hk hs' => ⟨L', hk, hs'⟩)
      cases d with
      | true =>
        obtain ⟨m, hm⟩ := hdr rfl
        exact draw_sound hfol hm (hw _ _ _ _ _ _ hs) hL hd' (fun L' a' w' hk hs' => ⟨L', hk, hs'⟩)
      | false => exact wp_region_list (opsL_sound _ _ _ _ (hw _ _ _ _ _ _ hs) hL hd' (fun L' a' w' hk hs' => ⟨L', hk, hs'⟩))
  | .seq x y, Q, L, a, w, hs, h, hd => by
      simp only [dstsOk, Bool.and_eq_true] at hd
      refine wp_seq (wp_mono (wpL_sound hfol x _ L a w hs h hd.1) fun e a' w' q => ?_)
      cases e with
      | normal => obtain ⟨L', q1, q2⟩ := q; exact wpL_sound hfol y Q L' a' w' q2 q1 hd.2
      | exit id => exact q
      | ret => exact q
      | _ => exact q.elim
  | .cond c x y, Q, L, a, w, hs, h, hd => by
      simp only [dstsOk, Bool.and_eq_true] at hd
      obtain ⟨t, h1, h2, h3⟩ := h
      have hc : a.eval c = .bool t := by
        obtain ⟨_, _, μ, Z, hc, hr⟩ := hs
        have := ev_rep (L := L) hr c
        rw [h1] at this
        exact this.v_eq
      exact wp_cond_split hc (fun e => wpL_sound hfol x Q L a w hs (h2 e) hd.1) (fun e => wpL_sound hfol y Q L a w hs (h3 e) hd.2)
  | .block id c, Q, L, a, w, hs, h, hd => by
      refine wp_block (wp_mono (wpL_sound hfol c _ L a w hs h hd) fun e a' w' q => ?_)
      cases e with
      | normal => exact q
      | exit i =>
        obtain ⟨L', q1, q2⟩ := q
        simp only [blockL] at q1
        simp only [Exit.inBlock]
        split
        · rename_i e; rw [if_pos e] at q1; exact ⟨L', q1, q2⟩
        · rename_i e; rw [if_neg e] at q1; exact ⟨L', q1, q2⟩
      | ret => exact q
      | _ => exact q.elim
  | .loop c, Q, L, a, w, hs, h, hd => by
      obtain ⟨I, n0, ⟨L0, hw, h0⟩, h1⟩ := h
      refine wp_loop_g (γ := Nat × St) (fun g a w => I g.1 g.2 ∧ Sim n W X Z0 g.2 a w) (fun g => g.1) (n0, L0) ⟨h0, hw _ _ _ _ _ _ hs⟩ fun g a w ⟨q1, q2⟩ => ?_
      refine wp_mono (wpL_sound hfol c _ g.2 a w q2 (h1 g.1 g.2 q1) hd) fun e a' w' q => ?_
      cases e with
      | normal =>
        obtain ⟨L', ⟨L'', n', k1, k2, k3⟩, k4⟩ := q
        exact ⟨(n', L''), ⟨k2, k1 _ _ _ _ _ _ k4⟩, k3⟩
      | exit id => exact q
      | ret => exact q
      | _ => exact q.elim
  | .exit id, Q, L, a, w, hs, h, _ => wp_exit ⟨L, h, hs⟩
  | .ret, Q, L, a, w, hs, h, _ => wp_ret ⟨L, h, hs⟩
  | .rangeFunc .., _, _, _, _, _, h, _ => h.elim
  | .scope _, _, _, _, _, _, h, _ => h.elim
  | .label _, _, _, _, _, _, h, _ => h.elim
  | .goto _, _, _, _, _, _, h, _ => h.elim
  | .refuse _, _, _, _, _, _, h, _ => h.elim
end

/-! ### What a call hands back -/
def resAt (P : Program) (L : St) : ResultVar → LV → Prop
  | .tmp t, x => L.slot t = x
  | .cell a T, x => ∃ b sz i o blk y n ag, L.slot a = .eptr b sz i o ∧ L.heap b = some blk ∧ blk.sz = sz ∧ blk.vals[i]? = some y ∧ y.csize = sz ∧ y.at o n ag = some x ∧ TyIs P T n ag

inductive ResL (P : Program) (L : St) : List ResultVar → List LV → Prop
  | nil : ResL P L [] []
  | cons {v x vs xs} (h : resAt P L v x) (t : ResL P L vs xs) : ResL P L (v :: vs) (x :: xs)

inductive Ret1 (H : Heap) (own : List Nat) : LV → LV → Prop
  | imm {x y} (h : Imm H x y) : Ret1 H own x y
  | ref {b sz off len k} (hk : own[k]? = some b) : Ret1 H own (.ref b sz off len) (.ref (k + 1) sz off len)
  | ptr {b sz i o k} (hk : own[k]? = some b) : Ret1 H own (.eptr b sz i o) (.eptr (k + 1) sz i o)

inductive RetLs (H : Heap) (own : List Nat) : List LV → List LV → Prop
  | nil : RetLs H own [] []
  | cons {x y xs ys} (h : Ret1 H own x y) (t : RetLs H own xs ys) : RetLs H own (x :: xs) (y :: ys)

def one_or_tup : List LV → LV
  | [y] => y
  | ys => .tup ys

def RetL (P : Program) (rs : List ResultVar) (L : St) (r : LV) (bs : List Blk) : Prop :=
  ∃ (xs ys : List LV) (H1 : Heap) (own : List Nat), ResL P L rs xs ∧ L.heap.le H1 ∧ RetLs H1 own xs ys ∧ own.Nodup ∧ own.length = bs.length ∧
    (∀ (k b : Nat), own[k]? = some b → ∃ blk : Blk, H1 b = some blk ∧ bs[k]? = some blk ∧ pures blk.vals = true) ∧ r = one_or_tup ys

def St0 (args : List LV) : St := ⟨fun t => args.getD t .any, fun _ => none⟩

section
variable {P : Program} {W w w' : World} {X Z0 Z : Nat → Prop} {μ : Nat → Option Nat} {H : Heap} {a : Act} {L L' : St} {n : Nat}

def resSem (tmps : Array Value) (v : ResultVar) : Sem Value :=
  match v with
  | .tmp t => pure (tmps.getD t undef)
  | .cell p T => do loadVar T (← asAddr (tmps.getD p undef))
theorem results_eq (fn : Func) (tmps : Array Value) : results fn tmps = (do let vs ← fn.results.mapM (resSem tmps); pure (if h : vs.size = 1 then vs[0] else .tuple vs)) := by
  rfl
theorem resAt_sound {v : ResultVar} {x : LV} (hc : Core W X Z0 μ Z L.heap w) (hr : ∀ t, RepV Z μ w (L.slot t) (a.tmps.getD t undef)) (h : resAt P L v x) (hx : x ≠ .any ∧ ∀ l, x ≠ .tup l) :
    ∃ u, (resSem a.tmps v).run P w = .ok u w ∧ RepV1 Z μ w x u := by
  cases v with
  | tmp t =>
    simp only [resAt] at h
    have := hr t
    rw [h] at this
    exact ⟨_, rfl, RepV.to1 hx.2 hx.1 this⟩
  | cell p T =>
    obtain ⟨b, sz, i, o, blk, y, m, ag, h1, h2, h3, h4, h5, h6, h7⟩ := h
    have e1 := hr p
    rw [h1] at e1
    have hl : OpP P L.heap L.ev (.load T (.tmp p)) x := .loadE (b := b) (sz := sz) h1 h2 h3 h4 h5 h6 h7
    obtain ⟨u, r1, r2⟩ := hl.sound (a := a) (fun y hy => ev_rep (L := L) hr y) hc.heap none 0 "" #[] none
    have e2 := e1.2 rfl
    simp only [Rep] at e2
    obtain ⟨id, q1, q2⟩ := e2
    simp only [List.cons.injEq, and_true] at q1
    have hev : a.eval (.tmp p) = a.tmps.getD p undef := rfl
    refine ⟨u, ?_, RepV.to1 hx.2 hx.1 r2⟩
    simp only [execOp, hev, q1, Instr.loadAt, Instr.sureAddr, Sem.run_bind, Sem.run_pure, Result.andThen_ok] at r1
    simp only [resSem, q1, asAddr, Sem.run_bind, Sem.run_pure, Result.andThen_ok]
    cases hq : (loadVar T ⟨id, i * sz + o, none⟩).run P w with
    | ok v' w'' =>
      rw [hq] at r1
      simp only [Result.andThen_ok, Result.ok.injEq, Next.value.injEq] at r1
      rw [r1.1, r1.2]
    | halt x' w'' => rw [hq] at r1; simp at r1

theorem Ret1.ne {own : List Nat} {x y : LV} (h : Ret1 H own x y) : x ≠ .any ∧ ∀ l, x ≠ .tup l := by
  cases h with
  | imm h => exact h.ne
  | ref _ => exact ⟨by simp, by simp⟩
  | ptr _ => exact ⟨by simp, by simp⟩

def ownMap (μ : Nat → Option Nat) (own : List Nat) : Nat → Option Nat := fun k => if k = 0 then none else (own[k - 1]?).bind μ

theorem Ret1.sound {own : List Nat} {x y : LV} {u : Value} (hc : Core W X Z0 μ Z H w) (h : Ret1 H own x y) (hu : RepV1 Z μ w x u) : RepV1 Z (ownMap μ own) w y u := by
  cases h with
  | imm h => exact Imm.soundV hc h (RepV.of1 h.ne.2 hu)
  | @ref b sz off len k hk =>
    have := hu.2 rfl
    refine ⟨by simp [LV.isAgg], fun _ => ?_⟩
    simp only [Rep] at this ⊢
    rcases this with h | ⟨id, cap, c, T, fz, h1, h2, h3⟩
    · exact .inl h
    exact .inr ⟨id, cap, c, T, fz, h1, by simp [ownMap, hk, h2], h3⟩
  | @ptr b sz i o k hk =>
    have := hu.2 rfl
    refine ⟨by simp [LV.isAgg], fun _ => ?_⟩
    simp only [Rep] at this ⊢
    obtain ⟨id, h1, h2⟩ := this
    exact ⟨id, h1, by simp [ownMap, hk, h2]⟩

theorem results_sound {own : List Nat} (hc : Core W X Z0 μ Z L.heap w) (hr : ∀ t, RepV Z μ w (L.slot t) (a.tmps.getD t undef)) {Z1 : Nat → Prop} {H1 : Heap} (hc1 : Core W X Z0 μ Z1 H1 w) (hz : ∀ id, Z id → Z1 id) :
    ∀ (rs : List ResultVar) (xs ys : List LV), ResL P L rs xs → RetLs H1 own xs ys →
    ∃ us, (rs.mapM (resSem a.tmps)).run P w = .ok us w ∧ RepVL Z1 (ownMap μ own) w ys us
  | _, _, _, .nil, .nil => ⟨[], rfl, rfl⟩
  | _, _, _, .cons (vs := vs) (xs := xs) h t, .cons (ys := ys) h' t' => by
      obtain ⟨u, q1, q2⟩ := resAt_sound hc hr h h'.ne
      obtain ⟨us, q3, q4⟩ := results_sound hc hr hc1 hz _ _ _ t t'
      refine ⟨u :: us, ?_, u, us, rfl, h'.sound hc1 (q2.mono hz (fun _ _ h => h) ⟨fun _ _ => rfl, (Frame.refl Z μ w).m⟩), q4⟩
      rw [List.mapM_cons, Sem.run_bind, q1]
      simp only [Result.andThen_ok, Sem.run_bind, q3, Sem.run_pure]

theorem St0_rep : ∀ (args : List LV) (vs us : List Value), RepVL Z μ w args vs → ∀ t, RepV Z μ w ((St0 args).slot t) ((vs ++ us).toArray.getD t undef)
  | [], _, us, h, t => by simp only [St0, List.getD_nil]; trivial
  | x :: xs, _, us, ⟨v, vs', e, h1, h2⟩, t => by
      subst e
      cases t with
      | zero =>
        have : ∀ l, x ≠ .tup l := fun l e => by subst e; have := h1.2 rfl; simp [Rep] at this
        simpa [St0] using RepV.of1 this h1
      | succ t =>
        have := St0_rep xs vs' us h2 t
        simpa [St0] using this

theorem repVL_length : ∀ (args : List LV) (vs : List Value), RepVL Z μ w args vs → vs.length = args.length
  | [], _, h => by cases h; rfl
  | _ :: xs, _, ⟨v, vs', e, _, h2⟩ => by subst e; simp [repVL_length xs vs' h2]

theorem callOK_of {f : FuncId} {fn : Func} {c : Code} {args : List LV} {r : LV} {bs : List Blk} (hfol : P.follows .mixedOrders = true) (hf : P.funcs[f]? = some fn) (hb : fn.body = some c)
    (hn : (fn.name == "runtime.NumGoroutine") = false) (hd : dstsOk fn.ntmps c = true) (hlen : args.length ≤ fn.ntmps)
    (h : wpL P c (fun e L => match e with | .exit _ => False | _ => RetL P fn.results.toList L r bs) (St0 args)) : CallOK P f args r bs := by
  refine ⟨⟨fn, hf, by rw [hb]; rfl, hn⟩, fun W Z0 vs hz hargs => ?_⟩
  have hvl := repVL_length _ _ hargs
  refine calls_of_wp hf hb ?_
  have hsim : Sim fn.ntmps W (fun _ => False) Z0 (St0 args) ⟨vs.toArray ++ Array.replicate (fn.ntmps - vs.toArray.size) undef, []⟩ W := by
    have hn0 : ∀ {p : Prop} (b id : Nat), (fun _ : Nat => (none : Option Nat)) b = some id → p := fun b id h => by cases h
    refine ⟨rfl, by simp; omega, fun _ => none, Z0, ⟨Kept.refl _ _, hz, fun _ h => h, fun _ h => .inl h, fun b _ id h _ => hn0 b id h, fun b id h => hn0 b id h, fun b id h _ => hn0 b id h, fun _ h => False.elim h, fun _ h => False.elim h,
      fun b id _ h _ _ => hn0 b id h, fun b id _ h _ _ => hn0 b id h, fun b id h => hn0 b id h⟩, fun t => ?_⟩
    have e : vs.toArray ++ Array.replicate (fn.ntmps - vs.toArray.size) undef = (vs ++ List.replicate (fn.ntmps - vs.toArray.size) undef).toArray := by apply Array.ext'; simp
    show RepV Z0 (fun _ => none) W ((St0 args).slot t) ((vs.toArray ++ Array.replicate (fn.ntmps - vs.toArray.size) undef).getD t undef)
    rw [e]
    exact St0_rep (Z := Z0) (μ := fun _ => none) (w := W) args vs _ hargs t
  refine wp_mono (wpL_sound hfol c _ _ _ _ hsim h hd) fun e a w q => ?_
  have main : ∀ L, RetL P fn.results.toList L r bs → Sim fn.ntmps W (fun _ => False) Z0 L a w →
      a.defers = [] ∧ ∃ v, (results fn a.tmps).run P w = .ok v w ∧ ∃ v' μ Z, Ending.returned v = .returned v' ∧ Core W (fun _ => False) Z0 μ Z (outHeap bs) w ∧ RepV Z μ w r v' := by
    rintro L ⟨xs, ys, H1, own, h1, h2, h3, h4, h5, h6, h7⟩ ⟨hdf, hsz, μ, Z, hc, hr⟩
    obtain ⟨Z1, k1, k2⟩ := hc.widen h2
    obtain ⟨us, q1, q2⟩ := results_sound hc hr k1 k2 _ _ _ h1 h3
    have hinv : ∀ k id, ownMap μ own k = some id → ∃ b, k ≠ 0 ∧ own[k - 1]? = some b ∧ μ b = some id := fun k id hk => by
      unfold ownMap at hk
      split at hk
      · cases hk
      · rename_i h0
        rw [Option.bind_eq_some_iff] at hk
        obtain ⟨b, g1, g2⟩ := hk
        exact ⟨b, h0, g1, g2⟩
    have hout : ∀ k b, k ≠ 0 → own[k - 1]? = some b → ∃ blk, H1 b = some blk ∧ outHeap bs k = some blk ∧ pures blk.vals = true := fun k b h0 hb => by
      obtain ⟨blk, g1, g2, g3⟩ := h6 _ b hb
      exact ⟨blk, g1, by simp [outHeap, h0, g2], g3⟩
    have hcore : Core W (fun _ => False) Z0 (ownMap μ own) Z1 (outHeap bs) w := by
      refine ⟨k1.keep, k1.zone, k1.zsup, k1.zsub, ?_, ?_, fun _ _ _ h => h.elim, fun _ h => h.elim, fun _ h => h.elim, ?_, ?_, ?_⟩
      · intro k k' id hk hk'
        obtain ⟨b, g0, g1, g2⟩ := hinv k id hk
        obtain ⟨b', g0', g1', g2'⟩ := hinv k' id hk'
        have := k1.inj b b' id g2 g2'
        subst this
        obtain ⟨l1, e1⟩ := List.getElem?_eq_some_iff.1 g1
        obtain ⟨l2, e2⟩ := List.getElem?_eq_some_iff.1 g1'
        have hp := List.pairwise_iff_getElem.1 h4
        rcases Nat.lt_trichotomy (k - 1) (k' - 1) with h | h | h
        · exact absurd (e1.trans e2.symm) (hp _ _ l1 l2 h)
        · omega
        · exact absurd (e2.trans e1.symm) (hp _ _ l2 l1 h)
      · intro k id hk
        obtain ⟨b, g0, g1, g2⟩ := hinv k id hk
        exact k1.own b id g2
      · intro k id blk hk hb hm
        obtain ⟨b, g0, g1, g2⟩ := hinv k id hk
        obtain ⟨blk', j1, j2, _⟩ := hout k b g0 g1
        rw [hb] at j2; cases j2
        exact k1.mutz b id blk g2 j1 hm
      · intro k id blk hk hb hm
        obtain ⟨b, g0, g1, g2⟩ := hinv k id hk
        obtain ⟨blk', j1, j2, _⟩ := hout k b g0 g1
        rw [hb] at j2; cases j2
        exact k1.frz b id blk g2 j1 hm
      · intro k id hk
        obtain ⟨b, g0, g1, g2⟩ := hinv k id hk
        obtain ⟨blk', j1, j2, j3⟩ := hout k b g0 g1
        obtain ⟨bk, l1, cc, T, part, rest, l2, l3, l4⟩ := k1.heap b id g2
        rw [j1] at l1; cases l1
        exact ⟨_, j2, cc, T, part, rest, l2, l3, RepAll.repure (fun _ h => h) (fun _ _ => rfl) _ _ _ j3 l4⟩
    have hrs : (fn.results.mapM (resSem a.tmps)).run P w = .ok us.toArray w := by
      rw [Array.mapM_eq_mapM_toList, Sem.run_map, q1]; rfl
    refine ⟨hdf, (if h : us.toArray.size = 1 then us.toArray[0] else .tuple us.toArray), ?_, _, ownMap μ own, Z1, rfl, hcore, ?_⟩
    · rw [results_eq, Sem.run_bind, hrs]
      rfl
    · subst h7
      have hyl := repVL_length _ _ q2
      match ys, us, q2, hyl with
      | [y], [u], q2, _ =>
        obtain ⟨v, vs', e, g1, g2⟩ := q2
        simp only [List.cons.injEq] at e
        obtain ⟨rfl, _⟩ := e
        have hnt : ∀ l, y ≠ .tup l := fun l e => by subst e; have := g1.2 rfl; simp [Rep] at this
        exact RepV.of1 hnt g1
      | [], [], q2, _ => exact ⟨_, rfl, by simpa using q2⟩
      | y :: y' :: ys, u :: u' :: us, q2, _ =>
        refine ⟨(u :: u' :: us).toArray, by simp, by simpa using q2⟩
  cases e with
  | normal => obtain ⟨L, q1, q2⟩ := q; exact main L q1 q2
  | ret => obtain ⟨L, q1, q2⟩ := q; exact main L q1 q2
  | exit id => obtain ⟨L, q1, q2⟩ := q; exact q1.elim
  | _ => exact q.elim
/-! ### A function that writes a block of its caller's -/
def StM (args : List LV) (blk : Blk) : St := ⟨fun t => args.getD t .any, fun n => if n = 0 then some blk else none⟩
def RetM (P : Program) (rs : List ResultVar) (L : St) (r : LV) (blk' : Blk) : Prop :=
  ∃ (xs ys : List LV) (H1 : Heap), ResL P L rs xs ∧ L.heap.le H1 ∧ ArgML H1 0 xs ys ∧ H1 0 = some blk' ∧ blk'.mt = true ∧ pures blk'.vals = true ∧ r = one_or_tup ys

theorem resultsM_sound {i0 : Nat} (hc : Core W X Z0 μ Z L.heap w) (hr : ∀ t, RepV Z μ w (L.slot t) (a.tmps.getD t undef)) {Z1 : Nat → Prop} {H1 : Heap} (hc1 : Core W X Z0 μ Z1 H1 w) (hz : ∀ id, Z id → Z1 id) (h0 : μ 0 = some i0) :
    ∀ (rs : List ResultVar) (xs ys : List LV), ResL P L rs xs → ArgML H1 0 xs ys →
    ∃ us, (rs.mapM (resSem a.tmps)).run P w = .ok us w ∧ RepVL Z1 (mu0 i0) w ys us
  | _, _, _, .nil, .nil => ⟨[], rfl, rfl⟩
  | _, _, _, .cons (vs := vs) (xs := xs) h t, .cons (ys := ys) h' t' => by
      obtain ⟨u, q1, q2⟩ := resAt_sound hc hr h h'.ne
      obtain ⟨us, q3, q4⟩ := resultsM_sound hc hr hc1 hz h0 _ _ _ t t'
      refine ⟨u :: us, ?_, u, us, rfl, h'.sound hc1 h0 (RepV.of1 h'.ne.2 (q2.mono hz (fun _ _ h => h) ⟨fun _ _ => rfl, (Frame.refl Z μ w).m⟩)), q4⟩
      rw [List.mapM_cons, Sem.run_bind, q1]
      simp only [Result.andThen_ok, Sem.run_bind, q3, Sem.run_pure]

theorem callOKM_of {f : FuncId} {fn : Func} {c : Code} {args : List LV} {r : LV} {blk blk' : Blk} (hfol : P.follows .mixedOrders = true) (hf : P.funcs[f]? = some fn) (hb : fn.body = some c)
    (hn : (fn.name == "runtime.NumGoroutine") = false) (hd : dstsOk fn.ntmps c = true) (hlen : args.length ≤ fn.ntmps) (hmt : blk.mt = true)
    (h : wpL P c (fun e L => match e with | .exit _ => False | _ => RetM P fn.results.toList L r blk') (StM args blk)) : CallOKM P f blk args r blk' := by
  refine ⟨⟨fn, hf, by rw [hb]; rfl, hn⟩, fun W Z0 vs i0 hz hnz hbr hargs => ?_⟩
  have hvl := repVL_length _ _ hargs
  refine calls_of_wp hf hb ?_
  have hm0 : ∀ b id, mu0 i0 b = some id → b = 0 ∧ id = i0 := fun b id h => by
    unfold mu0 at h; split at h
    · cases h; exact ⟨by assumption, rfl⟩
    · cases h
  have hlt : i0 < W.heap.size := by
    obtain ⟨c, T, part, rest, h1, _⟩ := hbr
    exact (Array.getElem?_eq_some_iff.1 h1).1
  have hsim : Sim fn.ntmps W (fun k => k = i0) Z0 (StM args blk) ⟨vs.toArray ++ Array.replicate (fn.ntmps - vs.toArray.size) undef, []⟩ W := by
    refine ⟨rfl, by simp; omega, mu0 i0, Z0, ⟨Kept.refl _ _, hz, fun _ h => h, fun _ h => .inl h, fun b b' id h h' => (hm0 b id h).1.trans (hm0 b' id h').1.symm, fun b id h => .inr (hm0 b id h).2,
      fun b id h _ => (hm0 b id h).1, fun id h => by subst h; exact hlt, fun id h => by subst h; rfl, fun b id bk h _ _ => by rw [(hm0 b id h).2]; exact hnz,
      fun b id bk h g hm => ?_, fun b id h => ?_⟩, fun t => ?_⟩
    · obtain ⟨rfl, rfl⟩ := hm0 b id h
      simp only [StM, if_true] at g; cases g
      rw [hmt] at hm; cases hm
    · obtain ⟨rfl, rfl⟩ := hm0 b id h
      exact ⟨blk, rfl, hbr⟩
    · have e : vs.toArray ++ Array.replicate (fn.ntmps - vs.toArray.size) undef = (vs ++ List.replicate (fn.ntmps - vs.toArray.size) undef).toArray := by apply Array.ext'; simp
      show RepV Z0 (mu0 i0) W ((St0 args).slot t) ((vs.toArray ++ Array.replicate (fn.ntmps - vs.toArray.size) undef).getD t undef)
      rw [e]
      exact St0_rep args vs _ hargs t
  refine wp_mono (wpL_sound hfol c _ _ _ _ hsim h hd) fun e a w q => ?_
  have main : ∀ L, RetM P fn.results.toList L r blk' → Sim fn.ntmps W (fun k => k = i0) Z0 L a w →
      a.defers = [] ∧ ∃ v, (results fn a.tmps).run P w = .ok v w ∧ ∃ v' μ Z, Ending.returned v = .returned v' ∧ Core W (fun k => k = i0) Z0 μ Z (heapM blk') w ∧ RepV Z μ w r v' := by
    rintro L ⟨xs, ys, H1, h1, h2, h3, h4, h5, h6, h7⟩ ⟨hdf, hsz, μ, Z, hc, hr⟩
    obtain ⟨Z1, k1, k2⟩ := hc.widen h2
    have h0 := k1.x1 i0 rfl
    obtain ⟨us, q1, q2⟩ := resultsM_sound hc hr k1 k2 h0 _ _ _ h1 h3
    have hcore : Core W (fun k => k = i0) Z0 (mu0 i0) Z1 (heapM blk') w := by
      refine ⟨k1.keep, k1.zone, k1.zsup, k1.zsub, fun b b' id h h' => (hm0 b id h).1.trans (hm0 b' id h').1.symm, fun b id h => .inr (hm0 b id h).2, fun b id h _ => (hm0 b id h).1, k1.xlt, fun id h => by subst h; rfl, ?_, ?_, ?_⟩
      · intro b id bk h g hm
        obtain ⟨rfl, rfl⟩ := hm0 b id h
        exact k1.mutz 0 id blk' h0 h4 h5
      · intro b id bk h g hm
        obtain ⟨rfl, rfl⟩ := hm0 b id h
        simp only [heapM, if_true] at g; cases g
        rw [h5] at hm; cases hm
      · intro b id h
        obtain ⟨rfl, rfl⟩ := hm0 b id h
        obtain ⟨bk, l1, cc, T, part, rest, l2, l3, l4⟩ := k1.heap 0 id h0
        rw [h4] at l1; cases l1
        exact ⟨_, rfl, cc, T, part, rest, l2, l3, RepAll.repure (fun _ h => h) (fun _ _ => rfl) _ _ _ h6 l4⟩
    have hrs : (fn.results.mapM (resSem a.tmps)).run P w = .ok us.toArray w := by
      rw [Array.mapM_eq_mapM_toList, Sem.run_map, q1]; rfl
    refine ⟨hdf, (if h : us.toArray.size = 1 then us.toArray[0] else .tuple us.toArray), ?_, _, mu0 i0, Z1, rfl, hcore, ?_⟩
    · rw [results_eq, Sem.run_bind, hrs]
      rfl
    · subst h7
      have hyl := repVL_length _ _ q2
      match ys, us, q2, hyl with
      | [y], [u], q2, _ =>
        obtain ⟨v, vs', e, g1, g2⟩ := q2
        simp only [List.cons.injEq] at e
        obtain ⟨rfl, _⟩ := e
        have hnt : ∀ l, y ≠ .tup l := fun l e => by subst e; have := g1.2 rfl; simp [Rep] at this
        exact RepV.of1 hnt g1
      | [], [], q2, _ => exact ⟨_, rfl, by simpa using q2⟩
      | y :: y' :: ys, u :: u' :: us, q2, _ =>
        refine ⟨(u :: u' :: us).toArray, by simp, by simpa using q2⟩
  cases e with
  | normal => obtain ⟨L, q1, q2⟩ := q; exact main L q1 q2
  | ret => obtain ⟨L, q1, q2⟩ := q; exact main L q1 q2
  | exit id => obtain ⟨L, q1, q2⟩ := q; exact q1.elim
  | _ => exact q.elim
end
end Go.Lg
