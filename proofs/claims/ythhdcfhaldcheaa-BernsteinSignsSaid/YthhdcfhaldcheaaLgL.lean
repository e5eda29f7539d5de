/- A region that draws its order: one evaluation in the order of the text serves for every order. -/
import Derived.Test.YthhdcfhaldcheaaLgK
set_option linter.unusedVariables false
set_option linter.unusedSimpArgs false
namespace Go.Lg

def dirs (o : Oper) : List Nat := o.after.toList.filterMap fun e => if Region.binds .any e then some e.on else none
inductive Anc (ops : Array Oper) : Nat → Nat → Prop
  | one {j i o} (ho : ops[i]? = some o) (h : j ∈ dirs o) : Anc ops j i
  | step {j k i o} (h : Anc ops j k) (ho : ops[i]? = some o) (hk : k ∈ dirs o) : Anc ops j i

def mask (acc : List Nat) (o : Oper) : Nat := (dirs o).foldl (fun s j => s ||| (2 ^ j ||| acc.getD j 0)) 0
def bef : List Oper → List Nat → List Nat
  | [], acc => acc
  | o :: r, acc => bef r (acc ++ [mask acc o])

def opTail : Op → Bool
  | .store .. => true
  | .call ⟨.builtin .append, _, _⟩ => true
  | _ => false

def okPair (ops : Array Oper) (b : List Nat) (i j : Nat) : Bool :=
  match (ops.getD j default).dst with
  | none => true
  | some d => (ops.getD i default).dst != some d &&
      (!((ops.getD i default).looksAt ops).contains d || (if j < i then (b.getD i 0).testBit j else (b.getD j 0).testBit i))

def drawOk (ops : Array Oper) (m : Nat) : Bool :=
  decide (m ≤ ops.size) &&
  (List.range ops.size).all (fun i => (dirs (ops.getD i default)).all (· < i) &&
    (if m ≤ i then (List.range i).all (fun j => ((bef ops.toList []).getD i 0).testBit j) else !opTail (ops.getD i default).op)) &&
  (List.range m).all fun i => (List.range m).all fun j => i == j || okPair ops (bef ops.toList []) i j

theorem mask_foldl (acc : List Nat) (t : Nat) : ∀ (l : List Nat) (s : Nat), (l.foldl (fun s j => s ||| (2 ^ j ||| acc.getD j 0)) s).testBit t = true →
    s.testBit t = true ∨ ∃ j ∈ l, t = j ∨ (acc.getD j 0).testBit t = true
  | [], s, h => .inl h
  | j :: l, s, h => by
      rcases mask_foldl acc t l _ h with h | ⟨k, hk, h⟩
      · rw [Nat.testBit_or, Nat.testBit_or, Bool.or_eq_true, Bool.or_eq_true] at h
        rcases h with h | h | h
        · exact .inl h
        · rw [Nat.testBit_two_pow] at h
          exact .inr ⟨j, by simp, .inl (by simpa using h.symm : j = t).symm⟩
        · exact .inr ⟨j, by simp, .inr h⟩
      · exact .inr ⟨k, by simp [hk], h⟩
theorem bef_anc (ops : Array Oper) : ∀ (l : List Oper) (acc : List Nat), (∀ i, l[i]? = ops[acc.length + i]?) → (∀ i t, (acc.getD i 0).testBit t = true → Anc ops t i) →
    ∀ i t, ((bef l acc).getD i 0).testBit t = true → Anc ops t i
  | [], acc, _, h => h
  | o :: r, acc, hl, h => by
      refine bef_anc ops r (acc ++ [mask acc o]) (fun i => ?_) (fun i t ht => ?_)
      · have := hl (i + 1)
        simp only [List.getElem?_cons_succ] at this
        rw [this]; congr 1; simp; omega
      · by_cases hi : i < acc.length
        · rw [List.getD_eq_getElem?_getD, List.getElem?_append_left hi, ← List.getD_eq_getElem?_getD] at ht
          exact h i t ht
        · by_cases he : i = acc.length
          · subst he
            have ho : ops[acc.length]? = some o := by have := hl 0; simpa using this.symm
            rw [List.getD_eq_getElem?_getD, List.getElem?_append_right (by omega)] at ht
            simp only [Nat.sub_self, List.getElem?_cons_zero, Option.getD_some] at ht
            rcases mask_foldl acc t (dirs o) 0 ht with h0 | ⟨j, hj, rfl | h2⟩
            · simp at h0
            · exact .one ho hj
            · exact .step (h j t h2) ho hj
          · have : (acc ++ [mask acc o]).getD i 0 = 0 := by
              rw [List.getD_eq_getElem?_getD, List.getElem?_eq_none (by simp; omega)]; rfl
            rw [this] at ht; simp at ht

/-- every order of the edges -/
theorem ready_spec {ops : Array Oper} {listed : Array Bool} (_hsz : listed.size = ops.size) {i : Nat} : i ∈ Region.ready .any ops listed ↔
    ∃ o, ops[i]? = some o ∧ listed.getD i true = false ∧ ∀ j ∈ dirs o, listed.getD j false = true := by
  unfold Region.ready
  simp only [List.mem_filter, List.mem_range, Bool.and_eq_true, Bool.not_eq_true']
  constructor
  · rintro ⟨h1, h2, h3⟩
    refine ⟨ops[i], Array.getElem?_eq_getElem h1, h2, fun j hj => ?_⟩
    rw [Array.getElem?_eq_getElem h1] at h3
    simp only [Option.map_some, Option.getD_some, Array.all_eq_true_iff_forall_mem] at h3
    simp only [dirs, List.mem_filterMap] at hj
    obtain ⟨e, he, hj⟩ := hj
    have := h3 e (by simpa using he)
    split at hj
    · rename_i hb
      simp only [Option.some.injEq] at hj
      subst hj
      simpa [hb] using this
    · cases hj
  · rintro ⟨o, h1, h2, h3⟩
    have hi := (Array.getElem?_eq_some_iff.1 h1).1
    refine ⟨hi, h2, ?_⟩
    rw [h1]
    simp only [Option.map_some, Option.getD_some, Array.all_eq_true_iff_forall_mem]
    intro e he
    cases hb : Region.binds .any e with
    | false => simp
    | true =>
      have := h3 e.on (by simp only [dirs, List.mem_filterMap]; exact ⟨e, by simpa using he, by simp [hb]⟩)
      simpa using this

theorem countP_lt {α : Type} (p q : α → Bool) : ∀ (l : List α), (∀ x ∈ l, p x = true → q x = true) → (∃ x ∈ l, q x = true ∧ p x = false) → l.countP p < l.countP q
  | [], _, ⟨x, hx, _⟩ => by simp at hx
  | y :: l, h, ⟨x, hx, h1, h2⟩ => by
      have hle : ∀ (l : List α), (∀ x ∈ l, p x = true → q x = true) → l.countP p ≤ l.countP q := fun l h => List.countP_mono_left h
      simp only [List.countP_cons]
      rcases List.mem_cons.1 hx with rfl | hx
      · have := hle l (fun z hz => h z (by simp [hz]))
        simp [h1, h2]; omega
      · have ih := countP_lt p q l (fun z hz => h z (by simp [hz])) ⟨x, hx, h1, h2⟩
        have hy := h y (by simp)
        cases hp : p y with
        | false => simp; split <;> omega
        | true => simp [hy hp]; omega

/-- A region whose order is drawn: what holds between the operations holds for the listed ones. -/
theorem wpAny_inv {P : Program} {ops : Array Oper} {Q : Exit → Act → World → Prop} (Inv : Array Bool → Act → World → Prop)
    (hdir : ∀ i o, ops[i]? = some o → ∀ j ∈ dirs o, j < i)
    (hstep : ∀ listed a w i o, listed.size = ops.size → Inv listed a w → ops[i]? = some o → listed.getD i true = false → (∀ j ∈ dirs o, listed.getD j false = true) →
      if Region.wanted o (yielded ops a.tmps) then o.wp P a w (fun a' w' => Inv (listed.setIfInBounds i true) a' w') Q else Inv (listed.setIfInBounds i true) (a.put o.dst undef) w)
    (hend : ∀ listed a w, listed.size = ops.size → Inv listed a w → (∀ i, i < ops.size → listed.getD i false = true) → Q .normal a w) :
    ∀ (fuel : Nat) (listed : Array Bool) (a : Act) (w : World), listed.size = ops.size → (List.range ops.size).countP (fun i => !listed.getD i true) ≤ fuel → Inv listed a w → wpAny P .any ops Q fuel listed a w := by
  have hall : ∀ (listed : Array Bool), listed.size = ops.size → Region.ready .any ops listed = [] → ∀ i, i < ops.size → listed.getD i false = true := by
    intro listed hsz hr i
    induction i using Nat.strongRecOn with
    | _ i ih =>
      intro hi
      cases hl : listed.getD i false with
      | true => rfl
      | false =>
        have h1 : listed.getD i true = false := by
          rw [Array.getD_eq_getD_getElem?, Array.getElem?_eq_getElem (by omega)] at hl ⊢
          simpa using hl
        have : i ∈ Region.ready .any ops listed := (ready_spec hsz).2 ⟨ops[i], Array.getElem?_eq_getElem hi, h1, fun j hj => by
          have hji := hdir i _ (Array.getElem?_eq_getElem hi) j hj
          exact ih j hji (by omega)⟩
        rw [hr] at this; cases this
  intro fuel
  induction fuel with
  | zero =>
    intro listed a w hsz hc hI
    have hr : Region.ready .any ops listed = [] := by
      apply List.eq_nil_iff_forall_not_mem.2
      intro i hi
      obtain ⟨o, h1, h2, _⟩ := (ready_spec hsz).1 hi
      have hpos : 0 < (List.range ops.size).countP (fun i => !listed.getD i true) :=
        List.countP_pos_iff.2 ⟨i, by simpa using (Array.getElem?_eq_some_iff.1 h1).1, by rw [h2]; rfl⟩
      omega
    exact ⟨hr, hend listed a w hsz hI (hall listed hsz hr)⟩
  | succ fuel ih =>
    intro listed a w hsz hc hI
    refine ⟨fun hr => hend listed a w hsz hI (hall listed hsz hr), fun i hi => ?_⟩
    obtain ⟨o, h1, h2, h3⟩ := (ready_spec hsz).1 hi
    have hi' := (Array.getElem?_eq_some_iff.1 h1).1
    have hs := hstep listed a w i o hsz hI h1 h2 h3
    have hcnt : (List.range ops.size).countP (fun k => !(listed.setIfInBounds i true).getD k true) < (List.range ops.size).countP (fun k => !listed.getD k true) := by
      apply countP_lt
      · intro k _ hk
        by_cases e : i = k
        · subst e
          rw [Array.getD_eq_getD_getElem?, Array.getElem?_setIfInBounds_self_of_lt (by omega)] at hk
          simp at hk
        · rw [Array.getD_eq_getD_getElem?, Array.getElem?_setIfInBounds_ne e] at hk
          rw [Array.getD_eq_getD_getElem?]; exact hk
      · refine ⟨i, by simpa using hi', by rw [h2]; rfl, ?_⟩
        rw [Array.getD_eq_getD_getElem?, Array.getElem?_setIfInBounds_self_of_lt (by omega)]; rfl
    have hcont : ∀ a' w', Inv (listed.setIfInBounds i true) a' w' → wpAny P .any ops Q fuel (listed.setIfInBounds i true) a' w' := fun a' w' h =>
      ih _ a' w' (by simpa using hsz) (by omega) h
    unfold wpOp
    rw [h1]
    simp only
    split
    · rename_i hw; rw [if_pos hw] at hs; exact .inl (Oper.wp_mono hcont hs)
    · rename_i hw; rw [if_neg hw] at hs; exact hcont _ _ hs
end Go.Lg
