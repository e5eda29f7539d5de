/- One operation after the other; a region in the order of its text. -/
import Derived.Test.YthhdcfhaldcheaaLgJ
set_option linter.unusedVariables false
set_option linter.unusedSimpArgs false
namespace Go.Lg

def GuardIs (ops : Array Oper) (L : St) (o : Oper) (res : Bool) : Prop :=
  match o.guard with
  | none => res = true
  | some (j, want) => ∃ d b, (ops[j]?).bind (·.dst) = some d ∧ L.slot d = .v (.bool b) ∧ res = (b == want)

inductive Step (P : Program) (dr : Bool) (ops : Array Oper) (o : Oper) (L L' : St) : Prop
  | skip (hg : GuardIs ops L o false) (h : L' = L.put o.dst .any)
  | val {r fr H1} (hg : GuardIs ops L o true) (hle : L.heap.le H1) (hfr : ∀ b blk, (b, blk) ∈ fr → L.heap b = none ∧ ∃ m, H1 b = some ⟨blk.sz, blk.vals, m⟩ ∧ (blk.mt = false → m = false))
      (ho : OpV P H1 L.ev (o.dst.getD 0) o.op r fr) (h : L' = ⟨(L.put o.dst r).slot, H1⟩)
  | st (hg : GuardIs ops L o true) (ho : OpT P L o.dst o.op L')
  | stM (hdr : dr = false) (hg : GuardIs ops L o true) (ho : OpM P L o.dst o.op L')

def opsL (P : Program) (dr : Bool) (ops : Array Oper) : List Oper → St → (St → Prop) → Prop
  | [], L, K => K L
  | o :: r, L, K => ∃ L', Step P dr ops o L L' ∧ opsL P dr ops r L' K

section
variable {P : Program} {W w w' : World} {X Z0 Z : Nat → Prop} {μ : Nat → Option Nat} {H : Heap} {a : Act} {L L' : St} {n : Nat} {dr : Bool} {ops : Array Oper}

theorem guard_wanted {o : Oper} {res : Bool} {L : St} (hr : ∀ t, RepV Z μ w (L.slot t) (a.tmps.getD t undef)) (hg : GuardIs ops L o res) : Region.wanted o (yielded ops a.tmps) = res := by
  unfold GuardIs at hg
  unfold Region.wanted
  split at hg
  · rename_i h; rw [h]; exact hg.symm
  · rename_i j want h
    rw [h]
    obtain ⟨d, b, h1, h2, rfl⟩ := hg
    have h3 := hr d
    rw [h2] at h3
    have h4 := h3.v_eq
    have h5 : a.tmps[d]? = some (.bool b) := by
      rw [Array.getD_eq_getD_getElem?] at h4
      cases hq : a.tmps[d]? with
      | none => rw [hq] at h4; simp [undef] at h4
      | some u => rw [hq] at h4; simpa using h4
    have h6 : ((ops[j]?).bind (·.dst)).bind (fun t => a.tmps[t]?) = some (.bool b) := by rw [h1]; simpa using h5
    simp only [yielded, h6]
    cases b <;> cases want <;> rfl

theorem opsL_mono {P : Program} {ops : Array Oper} {dr : Bool} {K K' : St → Prop} (hk : ∀ L, K L → K' L) : ∀ (l : List Oper) (L : St), opsL P dr ops l L K → opsL P dr ops l L K'
  | [], L, h => hk L h
  | o :: r, L, ⟨L', h1, h2⟩ => ⟨L', h1, opsL_mono hk r L' h2⟩

theorem step_sound {o : Oper} (hs : Sim n W X Z0 L a w) (hst : Step P dr ops o L L') (hd : ∀ t, o.dst = some t → t < n) {K : Act → World → Prop} {Q : Exit → Act → World → Prop}
    (hK : ∀ a' w', Sim n W X Z0 L' a' w' → K a' w') : if Region.wanted o (yielded ops a.tmps) then o.wp P a w K Q else K (a.put o.dst undef) w := by
  obtain ⟨hdf, hsz, μ, Z, hc, hr⟩ := hs
  have hd' : ∀ t, o.dst = some t → t < a.tmps.size := fun t h => by rw [hsz]; exact hd t h
  cases hst with
  | skip hg h =>
    rw [guard_wanted hr hg]
    simp only [Bool.false_eq_true, if_false]
    subst h
    exact hK _ _ ⟨by rw [put_defers]; exact hdf, by rw [put_size]; exact hsz, μ, Z, by rw [put_heap]; exact hc, put_rep hd' hr trivial⟩
  | @val r fr H1 hg hle hfr ho h =>
    rw [guard_wanted hr hg]
    simp only [if_true]
    obtain ⟨Z1, k1, k2⟩ := hc.widen hle
    have hr1 : ∀ t, RepV Z1 μ w (L.slot t) (a.tmps.getD t undef) := fun t => (hr t).mono k2 (fun _ _ h => h) ⟨fun _ _ => rfl, (Frame.refl Z μ w).m⟩
    obtain ⟨dst, op, ty, pos, after, g⟩ := o
    refine OpV.sound k1 ho (fun x _ => ev_rep (L := L) hr1 x) (fun b blk hb => ?_) dst ty pos after g ?_
    · obtain ⟨h1, m, h2, h3⟩ := hfr b blk hb
      exact ⟨m, h2, h3, mu_none hc h1⟩
    · intro v w' μ' Z' haf
      subst h
      refine hK _ _ ⟨by rw [put_defers]; exact hdf, by rw [put_size]; exact hsz, μ', Z', haf.core, ?_⟩
      exact put_rep (L := L) hd' (fun t => (hr1 t).mono haf.hz haf.hm haf.hf) haf.rep
  | st hg ho =>
    rw [guard_wanted hr hg]
    simp only [if_true]
    obtain ⟨dst, op, ty, pos, after, g⟩ := o
    simp only at ho hd'
    cases ho with
    | store hp hb hss hm hi hy hput hT hne =>
      obtain ⟨w', h1, h2, h3⟩ := store_sound (P := P) hc hr hp hb hss hm hi hy hput hT hne dst ty pos after g
      unfold Oper.wp
      rw [h1, Oper.upon_skip]
      refine hK _ _ ⟨by rw [put_defers]; exact hdf, by rw [put_size]; exact hsz, μ, Z, by rw [put_heap]; exact h2, ?_⟩
      exact put_rep hd' (fun t => (hr t).mono (fun _ h => h) (fun _ _ h => h) h3) trivial
    | @app T U E E' d b sz len blk x y news z by_ hdd hx hb hss hm hlen hbd hb0 hT hU hz hE hzs hby hy hbsz h63 hs0 =>
      obtain ⟨v, w', μ', Z', r1, r2, r3, r4⟩ := app_sound (P := P) (ty := ty) hc hr hx hb hss hm hlen hbd hb0 hT hU hz hE hzs hby hy hbsz h63
      have hrun : (execOp a.eval ⟨dst, .call ⟨.builtin .append, #[x, y], #[T, U]⟩, ty, pos, after, g⟩).run P w = .ok (.value v) w' := by
        simp only [execOp, resolve, Sem.run_bind, Sem.run_pure, Result.andThen_ok, invoke, builtin]
        simp only [List.map_toArray, List.map_cons, List.map_nil, r1, Result.andThen_ok]
      unfold Oper.wp
      rw [hrun, Oper.upon_value]
      refine hK _ _ ⟨by rw [put_defers]; exact hdf, by rw [put_size]; exact hsz, μ', Z', by rw [put_heap]; exact r2, ?_⟩
      exact put_rep hd' r3 r4
    | @app0 T U E E' d sz x y news z by_ hdd hx hbd hT hU hz hE hzs hby hy hn hbsz h63 hs0 =>
      obtain ⟨v, w', μ', Z', r1, r2, r3, r4⟩ := app0_sound (P := P) (ty := ty) hc hr hx hbd hT hU hz hE hzs hby hy hn hbsz h63
      have hrun : (execOp a.eval ⟨dst, .call ⟨.builtin .append, #[x, y], #[T, U]⟩, ty, pos, after, g⟩).run P w = .ok (.value v) w' := by
        simp only [execOp, resolve, Sem.run_bind, Sem.run_pure, Result.andThen_ok, invoke, builtin]
        simp only [List.map_toArray, List.map_cons, List.map_nil, r1, Result.andThen_ok]
      unfold Oper.wp
      rw [hrun, Oper.upon_value]
      refine hK _ _ ⟨by rw [put_defers]; exact hdf, by rw [put_size]; exact hsz, μ', Z', by rw [put_heap]; exact r2, ?_⟩
      exact put_rep hd' r3 r4
  | stM _ hg ho =>
    rw [guard_wanted hr hg]
    simp only [if_true]
    obtain ⟨dst, op, ty, pos, after, g⟩ := o
    simp only at ho hd'
    cases ho with
    | call hb hm hp ha hn hk hm' hp' =>
      refine callM_sound hc hr hb hm hp ha hn hk hm' hp' fun v w' Z' h1 h2 h3 => ?_
      refine hK _ _ ⟨by rw [put_defers]; exact hdf, by rw [put_size]; exact hsz, μ, Z', by rw [put_heap]; exact h1, ?_⟩
      exact put_rep (L := L.setB _ _) hd' h2 h3

theorem opsL_sound {Q : Exit → Act → World → Prop} {K : St → Prop} : ∀ (l : List Oper) (L : St) (a : Act) (w : World), Sim n W X Z0 L a w → opsL P dr ops l L K → (∀ o ∈ l, ∀ t, o.dst = some t → t < n) →
    (∀ L' a' w', K L' → Sim n W X Z0 L' a' w' → Q .normal a' w') → wpList P ops Q l a w
  | [], L, a, w, hs, hk, _, hq => hq L a w hk hs
  | o :: r, L, a, w, hs, ⟨L', h1, h2⟩, hd, hq => by
      have := step_sound (Q := Q) (K := wpList P ops Q r) hs h1 (hd o (by simp)) (fun a' w' hs' => opsL_sound r L' a' w' hs' h2 (fun o' ho' => hd o' (by simp [ho'])) hq)
      unfold wpList
      split
      · rename_i h; rw [if_pos h] at this; exact .inl this
      · rename_i h; rw [if_neg h] at this; exact this
end

/-- What is known may be forgotten or told otherwise. -/
def Weak (L L' : St) : Prop := ∀ n W X Z0 a w, Sim n W X Z0 L a w → Sim n W X Z0 L' a w
theorem Weak.refl (L : St) : Weak L L := fun _ _ _ _ _ _ h => h
theorem Weak.trans {L L' L'' : St} (h : Weak L L') (h' : Weak L' L'') : Weak L L'' := fun n W X Z0 a w k => h' n W X Z0 a w (h n W X Z0 a w k)
theorem Weak.kill (L : St) (b : Nat) (h0 : b ≠ 0 := by decide) : Weak L (L.kill b) := fun _ _ _ _ _ _ ⟨h1, h2, _, Z, hc, hr⟩ => ⟨h1, h2, _, Z, hc.kill b h0, kill_rep b hr⟩
end Go.Lg
