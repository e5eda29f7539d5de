/- A region that draws its order, evaluated in the order of its text. -/
import Derived.Test.YthhdcfhaldcheaaLgL
set_option linter.unusedVariables false
set_option linter.unusedSimpArgs false
namespace Go.Lg

theorem Heap.le_refl (H : Heap) : H.le H := fun _ blk h => ⟨blk.mt, h, fun h => h, fun h1 h2 => by rw [h1] at h2; cases h2⟩
theorem Heap.le_trans {H H' H'' : Heap} (h : H.le H') (h' : H'.le H'') : H.le H'' := fun b blk hb => by
  obtain ⟨m, g1, g2, g3⟩ := h b blk hb
  obtain ⟨m', k1, k2, k3⟩ := h' b _ g1
  refine ⟨m', k1, fun e => k2 (g2 e), fun e1 e2 => ?_⟩
  cases hm : m with
  | false => exact g3 e1 hm
  | true => exact k3 hm e2

section
variable {P : Program} {W w : World} {X Z0 Z : Nat → Prop} {μ : Nat → Option Nat} {a : Act} {n : Nat} {ops : Array Oper}

theorem opsL_chain {K : St → Prop} : ∀ (l : List Oper) (L : St), opsL P true ops l L K → ∃ f : Nat → St, f 0 = L ∧ (∀ i o, l[i]? = some o → Step P true ops o (f i) (f (i + 1))) ∧ K (f l.length)
  | [], L, h => ⟨fun _ => L, rfl, fun i o h => by simp at h, h⟩
  | o :: r, L, ⟨L', h1, h2⟩ => by
      obtain ⟨f, g1, g2, g3⟩ := opsL_chain r L' h2
      refine ⟨fun i => match i with | 0 => L | i + 1 => f i, rfl, fun i o' h => ?_, g3⟩
      cases i with
      | zero => simp only [List.getElem?_cons_zero, Option.some.injEq] at h; subst h; rw [← g1] at h1; exact h1
      | succ i => exact g2 i o' (by simpa using h)

theorem OpT.tail {L L' : St} {dst : Option Tmp} {op : Op} (h : OpT P L dst op L') : opTail op = true := by cases h <;> rfl
theorem step_tail {o : Oper} {L L' : St} (ht : opTail o.op = false) (h : Step P true ops o L L') : L.heap.le L'.heap ∧ ∀ t, o.dst ≠ some t → L'.slot t = L.slot t := by
  have hput : ∀ (r : LV) t, o.dst ≠ some t → (L.put o.dst r).slot t = L.slot t := fun r t hne => by
    unfold St.put
    cases hd : o.dst with
    | none => rfl
    | some d => exact (put_slot L d r t).trans (if_neg (fun e => hne (by rw [hd, e])))
  cases h with
  | skip hg h => subst h; exact ⟨by rw [put_heap]; exact Heap.le_refl _, hput _⟩
  | val hg hle hfr ho h => subst h; exact ⟨hle, hput _⟩
  | st hg ho =>
    obtain ⟨dst, op, ty, pos, after, g⟩ := o
    cases ho <;> simp [opTail] at ht
  | stM hdr _ _ => cases hdr

open Classical in
/-- the slots when the operations of D have been done -/
noncomputable def slotD (ops : Array Oper) (f : Nat → St) (m : Nat) (D : Array Bool) (t : Nat) : LV :=
  if ∃ i o, i < m ∧ D.getD i false = true ∧ ops[i]? = some o ∧ o.dst = some t then (f m).slot t else (f 0).slot t

def newAt (f : Nat → St) (i b : Nat) : Prop := (f i).heap b = none ∧ (f (i + 1)).heap b ≠ none

theorem draw_sound {m id : Nat} {K : St → Prop} {Q : Exit → Act → World → Prop} {L : St} (hfol : P.follows .mixedOrders = true) (hok : drawOk ops m = true) (hs : Sim n W X Z0 L a w)
    (hL : opsL P true ops ops.toList L K) (hd : ∀ o ∈ ops.toList, ∀ t, o.dst = some t → t < n) (hq : ∀ L' a' w', K L' → Sim n W X Z0 L' a' w' → Q .normal a' w') :
    (Code.region id ops true).wp P Q a w := by
  obtain ⟨f, f0, fs, fK⟩ := opsL_chain _ _ hL
  have fs' : ∀ i o, ops[i]? = some o → Step P true ops o (f i) (f (i + 1)) := fun i o h => fs i o (by simpa using h)
  rw [Array.length_toList] at fK
  -- what the check says
  unfold drawOk at hok
  simp only [Bool.and_eq_true, decide_eq_true_eq, List.all_eq_true, List.mem_range] at hok
  obtain ⟨⟨hmn, h1⟩, h2⟩ := hok
  have getD_of : ∀ i o, ops[i]? = some o → ops.getD i default = o := fun i o h => by rw [Array.getD_eq_getD_getElem?, h]; rfl
  have lt_of : ∀ i o, ops[i]? = some o → i < ops.size := fun i o h => (Array.getElem?_eq_some_iff.1 h).1
  have some_of : ∀ i, i < ops.size → ∃ o, ops[i]? = some o := fun i h => ⟨_, Array.getElem?_eq_getElem h⟩
  have hdir : ∀ i o, ops[i]? = some o → ∀ j ∈ dirs o, j < i := fun i o h j hj => by
    have := (h1 i (lt_of i o h)).1 j (by rw [getD_of i o h]; exact hj)
    simpa using this
  have hanc := bef_anc ops ops.toList [] (fun i => by simp) (fun i t h => by simp at h)
  have htail : ∀ i o, ops[i]? = some o → m ≤ i → ∀ j, j < i → Anc ops j i := fun i o h hmi j hj => by
    have := (h1 i (lt_of i o h)).2
    rw [if_pos hmi] at this
    exact hanc i j (by simpa using (List.all_eq_true.1 this) j (by simpa using hj))
  have hpre : ∀ i o, ops[i]? = some o → i < m → opTail o.op = false := fun i o h hmi => by
    have := (h1 i (lt_of i o h)).2
    rw [if_neg (by omega), getD_of i o h] at this
    simpa using this
  have hpair : ∀ i j oi oj d, ops[i]? = some oi → ops[j]? = some oj → i < m → j < m → i ≠ j → oj.dst = some d → oi.dst ≠ some d ∧ (d ∈ oi.looksAt ops → if j < i then Anc ops j i else Anc ops i j) := by
    intro i j oi oj d hi hj him hjm hne hdj
    have := h2 i him j hjm
    simp only [Bool.or_eq_true, beq_iff_eq] at this
    rcases this with h | h
    · exact absurd h hne
    · unfold okPair at h
      rw [getD_of j oj hj, getD_of i oi hi, hdj] at h
      simp only [Bool.and_eq_true, bne_iff_ne, ne_eq, Bool.or_eq_true, Bool.not_eq_true'] at h
      refine ⟨h.1, fun hmem => ?_⟩
      rcases h.2 with h' | h'
      · rw [List.contains_iff_mem.2 hmem] at h'; cases h'
      · split
        · rename_i hlt; rw [if_pos hlt] at h'; exact hanc i j h'
        · rename_i hlt; rw [if_neg hlt] at h'; exact hanc j i h'
  -- the chain before the tail
  have hstep : ∀ i o, ops[i]? = some o → i < m → (f i).heap.le (f (i + 1)).heap ∧ ∀ t, o.dst ≠ some t → (f (i + 1)).slot t = (f i).slot t := fun i o h him => step_tail (hpre i o h him) (fs' i o h)
  have hle : ∀ i j, i ≤ j → j ≤ m → (f i).heap.le (f j).heap := by
    intro i j hij
    induction j with
    | zero => intro _; have : i = 0 := by omega
              subst this; exact Heap.le_refl _
    | succ j ih =>
      intro hjm
      by_cases e : i = j + 1
      · subst e; exact Heap.le_refl _
      · obtain ⟨o, ho⟩ := some_of j (by omega)
        exact Heap.le_trans (ih (by omega) (by omega)) (hstep j o ho (by omega)).1
  have hconst : ∀ i j t, i ≤ j → j ≤ m → (∀ k o, i ≤ k → k < j → ops[k]? = some o → o.dst ≠ some t) → (f j).slot t = (f i).slot t := by
    intro i j t hij
    induction j with
    | zero => intro _ _; have : i = 0 := by omega
              subst this; rfl
    | succ j ih =>
      intro hjm hk
      by_cases e : i = j + 1
      · subst e; rfl
      · obtain ⟨o, ho⟩ := some_of j (by omega)
        rw [(hstep j o ho (by omega)).2 t (hk j o (by omega) (by omega) ho)]
        exact ih (by omega) (by omega) (fun k o h1 h2 => hk k o h1 (by omega))
  have hle_ne : ∀ i j b, i ≤ j → j ≤ m → (f i).heap b ≠ none → (f j).heap b ≠ none := fun i j b hij hjm hb => by
    obtain ⟨blk, hblk⟩ := Option.ne_none_iff_exists'.1 hb
    obtain ⟨mm, g, _⟩ := hle i j hij hjm b blk hblk
    rw [g]; simp
  have hslot : ∀ i o t, ops[i]? = some o → i < m → o.dst = some t → (f m).slot t = (f (i + 1)).slot t := fun i o t ho him hdt =>
    hconst (i + 1) m t (by omega) (Nat.le_refl _) (fun k ok h1 h2 hk e => (hpair i k o ok t ho hk him h2 (by omega) e).1 hdt)
  -- the invariant
  let closed : Array Bool → Prop := fun D => ∀ i o, ops[i]? = some o → D.getD i false = true → ∀ j ∈ dirs o, D.getD j false = true
  have hclosed : ∀ D, closed D → ∀ j i, Anc ops j i → (∀ o, ops[i]? = some o → ∀ k ∈ dirs o, D.getD k false = true) → D.getD j false = true := by
    intro D hD j i hA
    induction hA with
    | @one i o ho h => intro hr; exact hr o ho _ h
    | @step k i o hA ho hk ih => intro hr; exact ih (fun o' ho' k' hk' => hD k o' ho' (hr o ho k hk) k' hk')
  let PhA : Array Bool → Act → World → Prop := fun D a w => (∀ i, D.getD i false = true → i < m) ∧ a.defers = [] ∧ a.tmps.size = n ∧ ∃ μ Z, Core W X Z0 μ Z (f m).heap w ∧
    (∀ b, μ b ≠ none → (f 0).heap b ≠ none ∨ ∃ i, i < m ∧ D.getD i false = true ∧ newAt f i b) ∧ ∀ t, RepV Z μ w (slotD ops f m D t) (a.tmps.getD t undef)
  let PhB : Array Bool → Act → World → Prop := fun D a w => ∃ k, m ≤ k ∧ (∀ i, i < ops.size → (D.getD i false = true ↔ i < k)) ∧ k ≤ ops.size ∧ Sim n W X Z0 (f k) a w
  have hAB : ∀ D a w, PhA D a w → (∀ i, i < m → D.getD i false = true) → Sim n W X Z0 (f m) a w := by
    rintro D a w ⟨_, hdf, hsz, μ, Z, hc, _, hr⟩ hall
    refine ⟨hdf, hsz, μ, Z, hc, fun t => ?_⟩
    have := hr t
    unfold slotD at this
    split at this
    · exact this
    · rename_i hno
      rw [hconst 0 m t (Nat.zero_le _) (Nat.le_refl _) (fun k o _ hkm hk e => hno ⟨k, o, hkm, hall k hkm, hk, e⟩)]
      exact this
  refine wp_region_any hfol (wpAny_inv (fun D a w => closed D ∧ (PhA D a w ∨ PhB D a w)) hdir ?_ ?_ ops.size _ _ _ (by simp) ?_ ?_)
  · -- one more operation
    intro D a w i o hDs ⟨hcl, hI⟩ ho hni hrd
    have hin := lt_of i o ho
    have hni' : D.getD i false = false := by
      rw [Array.getD_eq_getD_getElem?, Array.getElem?_eq_getElem (by omega)] at hni ⊢
      simpa using hni
    have hset : ∀ k, (D.setIfInBounds i true).getD k false = true ↔ k = i ∨ D.getD k false = true := fun k => by
      by_cases e : i = k
      · subst e
        rw [Array.getD_eq_getD_getElem?, Array.getElem?_setIfInBounds_self_of_lt (by omega)]; simp
      · rw [Array.getD_eq_getD_getElem?, Array.getElem?_setIfInBounds_ne e, ← Array.getD_eq_getD_getElem?]
        constructor
        · exact fun h => .inr h
        · rintro (h | h)
          · exact absurd h.symm e
          · exact h
    have hcl' : closed (D.setIfInBounds i true) := fun k ok hk hDk j hj => by
      rcases (hset k).1 hDk with rfl | h
      · rw [ho] at hk; cases hk
        exact (hset j).2 (.inr (hrd j hj))
      · exact (hset j).2 (.inr (hcl k ok hk h j hj))
    have hrd' : ∀ o', ops[i]? = some o' → ∀ k ∈ dirs o', D.getD k false = true := fun o' ho' k hk => (by rw [ho] at ho'; cases ho'; exact hrd k hk)
    have hdo : ∀ t, o.dst = some t → t < n := hd o (by rw [Array.mem_toList_iff]; exact Array.mem_of_getElem? ho)
    have tail : ∀ k, m ≤ k → (∀ j, j < ops.size → (D.getD j false = true ↔ j < k)) → k = i → Sim n W X Z0 (f k) a w →
        if Region.wanted o (yielded ops a.tmps) then o.wp P a w (fun a' w' => closed (D.setIfInBounds i true) ∧ (PhA (D.setIfInBounds i true) a' w' ∨ PhB (D.setIfInBounds i true) a' w')) Q
        else closed (D.setIfInBounds i true) ∧ (PhA (D.setIfInBounds i true) (a.put o.dst undef) w ∨ PhB (D.setIfInBounds i true) (a.put o.dst undef) w) := by
      intro k hmk hDk e hsim
      subst e
      refine step_sound hsim (fs' k o ho) hdo (K := fun a' w' => closed (D.setIfInBounds k true) ∧ (PhA (D.setIfInBounds k true) a' w' ∨ PhB (D.setIfInBounds k true) a' w')) (fun a' w' hs' => ⟨hcl', .inr ⟨k + 1, by omega, fun j hj => ?_, by omega, hs'⟩⟩)
      rw [hset j, hDk j hj]; omega
    rcases hI with hA | ⟨k, hmk, hDk, hkn, hsim⟩
    · by_cases him : i < m
      · obtain ⟨hDm, hdf, hsz, μ, Z, hc, hnew, hr⟩ := hA
        -- operands read the same
        have hread : ∀ t, t ∈ o.looksAt ops → (f i).slot t = slotD ops f m D t := by
          intro t ht
          by_cases hex : ∃ j oj, j < m ∧ ops[j]? = some oj ∧ oj.dst = some t
          · obtain ⟨j, oj, hjm, hj, hdj⟩ := hex
            have huniq : ∀ k ok, k < m → ops[k]? = some ok → ok.dst = some t → k = j := fun k ok hkm hk hdk =>
              Classical.byContradiction fun hne => (hpair k j ok oj t hk hj hkm hjm hne hdj).1 hdk
            by_cases hji : j = i
            · subst hji
              have e1 : (f j).slot t = (f 0).slot t := hconst 0 j t (Nat.zero_le _) (by omega) (fun k ok _ hkj hk e => by have := huniq k ok (by omega) hk e; omega)
              have e2 : slotD ops f m D t = (f 0).slot t := by
                unfold slotD
                rw [if_neg]
                rintro ⟨k, ok, hkm, hDk, hk, hdk⟩
                have := huniq k ok hkm hk hdk
                subst this
                rw [hni'] at hDk; cases hDk
              rw [e1, e2]
            · have hp := (hpair i j o oj t ho hj him hjm (Ne.symm hji) hdj).2 ht
              by_cases hlt : j < i
              · rw [if_pos hlt] at hp
                have hDj := hclosed D hcl j i hp hrd'
                have e2 : slotD ops f m D t = (f m).slot t := by
                  unfold slotD
                  rw [if_pos ⟨j, oj, hjm, hDj, hj, hdj⟩]
                rw [e2, hslot j oj t hj hjm hdj]
                exact hconst (j + 1) i t (by omega) (by omega) (fun k ok hjk hki hk e => by have := huniq k ok (by omega) hk e; omega)
              · rw [if_neg hlt] at hp
                have e1 : (f i).slot t = (f 0).slot t := hconst 0 i t (Nat.zero_le _) (by omega) (fun k ok _ hki hk e => by have := huniq k ok (by omega) hk e; omega)
                have e2 : slotD ops f m D t = (f 0).slot t := by
                  unfold slotD
                  rw [if_neg]
                  rintro ⟨k, ok, hkm, hDk, hk, hdk⟩
                  have := huniq k ok hkm hk hdk
                  subst this
                  have := hclosed D hcl i k hp (fun o' ho' k' hk' => hcl k o' ho' hDk k' hk')
                  rw [hni'] at this; cases this
                rw [e1, e2]
          · have e1 : (f i).slot t = (f 0).slot t := hconst 0 i t (Nat.zero_le _) (by omega) (fun k ok _ hki hk e => hex ⟨k, ok, by omega, hk, e⟩)
            have e2 : slotD ops f m D t = (f 0).slot t := by
              unfold slotD
              rw [if_neg]
              rintro ⟨k, ok, hkm, hDk, hk, hdk⟩
              exact hex ⟨k, ok, hkm, hk, hdk⟩
            rw [e1, e2]
        -- the slots behind it
        have hafter : ∀ t, slotD ops f m (D.setIfInBounds i true) t = if o.dst = some t then (f (i + 1)).slot t else slotD ops f m D t := by
          intro t
          by_cases hdt : o.dst = some t
          · rw [if_pos hdt]
            unfold slotD
            rw [if_pos ⟨i, o, him, (hset i).2 (.inl rfl), ho, hdt⟩]
            exact hslot i o t ho him hdt
          · rw [if_neg hdt]
            unfold slotD
            congr 1
            apply propext
            constructor
            · rintro ⟨k, ok, hkm, hDk, hk, hdk⟩
              rcases (hset k).1 hDk with rfl | h
              · rw [ho] at hk; cases hk; exact absurd hdk hdt
              · exact ⟨k, ok, hkm, h, hk, hdk⟩
            · rintro ⟨k, ok, hkm, hDk, hk, hdk⟩
              exact ⟨k, ok, hkm, (hset k).2 (.inr hDk), hk, hdk⟩
        have hDm' : ∀ k, (D.setIfInBounds i true).getD k false = true → k < m := fun k hk => by
          rcases (hset k).1 hk with rfl | h
          · exact him
          · exact hDm k h
        have hd' : ∀ t, o.dst = some t → t < a.tmps.size := fun t h => by rw [hsz]; exact hdo t h
        -- the guard
        have hguard : ∀ res, GuardIs ops (f i) o res → Region.wanted o (yielded ops a.tmps) = res := by
          intro res hg
          refine guard_wanted (L := ⟨slotD ops f m D, (f m).heap⟩) hr ?_
          unfold GuardIs at hg ⊢
          cases h : o.guard with
          | none => rw [h] at hg; exact hg
          | some p =>
            obtain ⟨j, want⟩ := p
            rw [h] at hg
            obtain ⟨d, b, q1, q2, q3⟩ := hg
            refine ⟨d, b, q1, ?_, q3⟩
            show slotD ops f m D d = _
            rw [← hread d (by unfold Oper.looksAt; rw [h]; simp [q1])]
            exact q2
        have hfin : ∀ (r : LV) (v : Value) (w' : World) (μ' : Nat → Option Nat) (Z' : Nat → Prop), (∀ t, o.dst = some t → (f (i + 1)).slot t = r) → Core W X Z0 μ' Z' (f m).heap w' →
            (∀ b, μ' b ≠ none → μ b ≠ none ∨ newAt f i b) → (∀ t, RepV Z' μ' w' (slotD ops f m D t) (a.tmps.getD t undef)) → RepV Z' μ' w' r v →
            closed (D.setIfInBounds i true) ∧ (PhA (D.setIfInBounds i true) (a.put o.dst v) w' ∨ PhB (D.setIfInBounds i true) (a.put o.dst v) w') := by
          intro r v w' μ' Z' hrs hc' hnw hr' hv
          refine ⟨hcl', .inl ⟨hDm', by rw [put_defers]; exact hdf, by rw [put_size]; exact hsz, μ', Z', hc', fun b hb => ?_, fun t => ?_⟩⟩
          · rcases hnw b hb with h | h
            · rcases hnew b h with h | ⟨k, hkm, hDk, hk⟩
              · exact .inl h
              · exact .inr ⟨k, hkm, (hset k).2 (.inr hDk), hk⟩
            · exact .inr ⟨i, him, (hset i).2 (.inl rfl), h⟩
          · rw [hafter t]
            have := put_rep (L := ⟨slotD ops f m D, (f m).heap⟩) (d := o.dst) hd' hr' hv t
            split
            · rename_i hdt
              rw [hrs t hdt]
              rw [hdt, put_slot, if_pos rfl] at this
              rw [hdt]; exact this
            · rename_i hdt
              cases hdd : o.dst with
              | none => rw [hdd] at this; exact this
              | some d =>
                rw [hdd] at this hdt
                rwa [put_slot, if_neg (fun e => hdt (by rw [e]))] at this
        have hstp := fs' i o ho
        cases hstp' : hstp with
        | skip hg h =>
          rw [hguard false hg]
          simp only [Bool.false_eq_true, if_false]
          exact hfin .any undef w μ Z (fun t ht => by rw [h, ht, put_slot, if_pos rfl]) hc (fun b hb => .inl hb) hr trivial
        | @val r fr H1 hg hH hfr hov h =>
          rw [hguard true hg]
          simp only [if_true]
          have hH1 : H1 = (f (i + 1)).heap := by rw [h]
          have hle1 : H1.le (f m).heap := by rw [hH1]; exact hle (i + 1) m (by omega) (Nat.le_refl _)
          have hov' := hov.le hle1
          obtain ⟨dst, op, ty, pos, after, g⟩ := o
          have hops : ∀ x ∈ op.operands, RepV Z μ w ((f i).ev x) (a.eval x) := by
            intro x hx
            cases x with
            | tmp t =>
              have ht : t ∈ Oper.looksAt ops ⟨dst, op, ty, pos, after, g⟩ := by
                unfold Oper.looksAt
                simp only [List.mem_append, List.mem_filterMap]
                exact .inl ⟨.tmp t, by simpa using hx, rfl⟩
              show RepV Z μ w ((f i).slot t) (a.tmps.getD t undef)
              rw [hread t ht]; exact hr t
            | const v => exact ev_rep (L := ⟨slotD ops f m D, (f m).heap⟩) hr (.const v)
            | func g => exact ev_rep (L := ⟨slotD ops f m D, (f m).heap⟩) hr (.func g)
            | global g => exact ev_rep (L := ⟨slotD ops f m D, (f m).heap⟩) hr (.global g)
          refine OpV.sound hc hov' hops (fun b blk hb => ?_) dst ty pos after g (fun v w' μ' Z' haf => ?_)
          · obtain ⟨q1, mm, q2, q3⟩ := hfr b blk hb
            obtain ⟨m2, q4, q5, _⟩ := hle1 b _ q2
            refine ⟨m2, q4, fun e => q5 (q3 e), ?_⟩
            cases hμ : μ b with
            | none => rfl
            | some id =>
              rcases hnew b (by rw [hμ]; simp) with h0 | ⟨k, hkm, hDk, hk1, hk2⟩
              · exact absurd q1 (hle_ne 0 i b (Nat.zero_le _) (by omega) h0)
              · have hki : k ≠ i := by rintro rfl; rw [hni'] at hDk; cases hDk
                by_cases hlt : k < i
                · exact absurd q1 (hle_ne (k + 1) i b (by omega) (by omega) hk2)
                · have : (f (i + 1)).heap b ≠ none := by rw [← hH1, q2]; simp
                  exact absurd hk1 (hle_ne (i + 1) k b (by omega) (by omega) this)
          · refine hfin r v w' μ' Z' (fun t ht => by rw [h]; simp only at ht; subst ht; exact (put_slot _ _ _ _).trans (if_pos rfl)) haf.core (fun b hb => ?_) (fun t => (hr t).mono haf.hz haf.hm haf.hf) haf.rep
            rcases haf.new b hb with h' | h'
            · exact .inl h'
            · simp only [List.mem_map] at h'
              obtain ⟨⟨b', blk⟩, hb', rfl⟩ := h'
              obtain ⟨q1, mm, q2, _⟩ := hfr b' blk hb'
              exact .inr ⟨q1, by rw [← hH1, q2]; simp⟩
        | st hg ho' =>
          have := hpre i o ho him
          rw [ho'.tail] at this; cases this
        | stM hdr _ _ => cases hdr
      · have hall : ∀ j, j < i → D.getD j false = true := fun j hj => hclosed D hcl j i (htail i o ho (by omega) j hj) hrd'
        have him' : i = m := by
          by_cases e : i = m
          · exact e
          · have := hA.1 (i - 1) (hall (i - 1) (by omega)); omega
        subst him'
        exact tail i (Nat.le_refl _) (fun j hj => ⟨fun h => hA.1 j h, fun h => hall j h⟩) rfl (hAB D a w hA hall)
    · have hik : k ≤ i := by
        by_cases e : i < k
        · have := (hDk i hin).2 e; rw [hni'] at this; cases this
        · omega
      have : k = i := by
        by_cases e : k = i
        · exact e
        · have := hclosed D hcl k i (htail i o ho (by omega) k (by omega)) hrd'
          have := (hDk k (by omega)).1 this; omega
      exact tail k hmk hDk this hsim
  · -- the end
    rintro D a w hDs ⟨hcl, hI⟩ hall
    rcases hI with hA | ⟨k, hmk, hDk, hkn, hsim⟩
    · have hmn' : m = ops.size := by
        by_cases e : m = ops.size
        · exact e
        · have := hA.1 m (hall m (by omega)); omega
      exact hq _ a w (hmn' ▸ fK) (hAB D a w hA (fun i hi => hall i (by omega)))
    · have : k = ops.size := by
        by_cases e : k = ops.size
        · exact e
        · have := (hDk k (by omega)).1 (hall k (by omega)); omega
      subst this
      exact hq _ a w fK hsim
  · -- how many operations
    refine Nat.le_trans List.countP_le_length ?_
    simp
  · -- the beginning
    have hD0 : ∀ i, (Array.replicate ops.size false).getD i false = false := fun i => by
      rw [Array.getD_eq_getD_getElem?, Array.getElem?_replicate]; split <;> rfl
    refine ⟨fun i o _ h => (by rw [hD0] at h; cases h), .inl ⟨fun i h => (by rw [hD0] at h; cases h), ?_⟩⟩
    rw [← f0] at hs
    obtain ⟨hdf, hsz, μ, Z, hc, hr⟩ := hs
    obtain ⟨Z1, k1, k2⟩ := hc.widen (hle 0 m (Nat.zero_le _) (Nat.le_refl _))
    have hfrm : ∀ (w' : World), w'.heap = w.heap → Frame Z μ w w' := fun w' h => ⟨fun _ _ => by rw [h], fun _ id _ c _ _ hh => ⟨c, by rw [h]; exact hh, rfl⟩⟩
    have hfrm1 : ∀ (w' : World), w'.heap = w.heap → Frame Z1 μ w w' := fun w' h => ⟨fun _ _ => by rw [h], fun _ id _ c _ _ hh => ⟨c, by rw [h]; exact hh, rfl⟩⟩
    refine ⟨hdf, hsz, μ, Z1, ⟨⟨k1.keep.os, k1.keep.tape, k1.keep.output, k1.keep.size, k1.keep.block, k1.keep.xsz⟩, k1.zone, k1.zsup, k1.zsub, k1.inj, k1.own, k1.x0, k1.xlt, k1.x1, k1.mutz, k1.frz, fun b id hb => ?_⟩, fun b hb => ?_, fun t => ?_⟩
    · obtain ⟨blk, g1, g2⟩ := k1.heap b id hb
      exact ⟨blk, g1, g2.mono (fun _ h => h) (fun _ _ h => h) (hfrm1 _ rfl) rfl⟩
    · left
      obtain ⟨id, hid⟩ := Option.ne_none_iff_exists'.1 hb
      obtain ⟨blk, g1, _⟩ := hc.heap b id hid
      rw [g1]; simp
    · have : slotD ops f m (Array.replicate ops.size false) t = (f 0).slot t := by
        unfold slotD
        rw [if_neg]
        rintro ⟨i, o, _, h, _⟩
        rw [hD0] at h; cases h
      rw [this]
      exact (hr t).mono k2 (fun _ _ h => h) (hfrm { w with drawn := w.drawn + 1 } rfl)
/-- every order, written out -/
def anyL (P : Program) (ops : Array Oper) : Nat → Array Bool → St → (St → Prop) → Prop
  | 0, D, L, K => Region.ready .any ops D = [] ∧ K L
  | fuel + 1, D, L, K => (Region.ready .any ops D = [] → K L) ∧ ∀ i ∈ Region.ready .any ops D, ∃ o L', ops[i]? = some o ∧ Step P false ops o L L' ∧ anyL P ops fuel (D.setIfInBounds i true) L' K

theorem anyL_mono {K K' : St → Prop} (hk : ∀ L, K L → K' L) : ∀ (fuel : Nat) (D : Array Bool) (L : St), anyL P ops fuel D L K → anyL P ops fuel D L K'
  | 0, D, L, h => ⟨h.1, hk L h.2⟩
  | fuel + 1, D, L, h => ⟨fun e => hk L (h.1 e), fun i hi => by obtain ⟨o, L', h1, h2, h3⟩ := h.2 i hi; exact ⟨o, L', h1, h2, anyL_mono hk fuel _ L' h3⟩⟩

theorem Sim.drew {L : St} {w' : World} (hs : Sim n W X Z0 L a w) (hh : w'.heap = w.heap) (h1 : w'.os = w.os) (h2 : w'.tape = w.tape) (h3 : w'.output = w.output) : Sim n W X Z0 L a w' := by
  obtain ⟨hdf, hsz, μ, Z, hc, hr⟩ := hs
  have hfr : Frame Z μ w w' := ⟨fun _ _ => by rw [hh], fun _ id _ c _ _ h => ⟨c, by rw [hh]; exact h, rfl⟩⟩
  refine ⟨hdf, hsz, μ, Z, ⟨⟨h1.trans hc.keep.os, h2.trans hc.keep.tape, h3.trans hc.keep.output, by rw [hh]; exact hc.keep.size, by rw [hh]; exact hc.keep.block, by rw [hh]; exact hc.keep.xsz⟩, by rw [hh]; exact hc.zone, hc.zsup, hc.zsub,
    hc.inj, hc.own, hc.x0, hc.xlt, hc.x1, hc.mutz, hc.frz, fun b id hb => ?_⟩, fun t => (hr t).mono (fun _ h => h) (fun _ _ h => h) hfr⟩
  obtain ⟨blk, g1, g2⟩ := hc.heap b id hb
  exact ⟨blk, g1, g2.mono (fun _ h => h) (fun _ _ h => h) hfr (by rw [hh])⟩

theorem anyL_sound {K : St → Prop} {Q : Exit → Act → World → Prop} (hd : ∀ o ∈ ops.toList, ∀ t, o.dst = some t → t < n) (hq : ∀ L' a' w', K L' → Sim n W X Z0 L' a' w' → Q .normal a' w') :
    ∀ (fuel : Nat) (D : Array Bool) (L : St) (a : Act) (w : World), Sim n W X Z0 L a w → anyL P ops fuel D L K → wpAny P .any ops Q fuel D a w
  | 0, D, L, a, w, hs, h => ⟨h.1, hq L a w h.2 hs⟩
  | fuel + 1, D, L, a, w, hs, h => by
      refine ⟨fun e => hq L a w (h.1 e) hs, fun i hi => ?_⟩
      obtain ⟨o, L', h1, h2, h3⟩ := h.2 i hi
      unfold wpOp
      rw [h1]
      simp only
      have := step_sound (Q := Q) (K := wpAny P .any ops Q fuel (D.setIfInBounds i true)) hs h2 (hd o (by rw [Array.mem_toList_iff]; exact Array.mem_of_getElem? h1)) (fun a' w' hs' => anyL_sound hd hq fuel _ L' a' w' hs' h3)
      split
      · rename_i hw; rw [if_pos hw] at this; exact .inl this
      · rename_i hw; rw [if_neg hw] at this; exact this
theorem any_sound {id : Nat} {K : St → Prop} {Q : Exit → Act → World → Prop} {L : St} (hfol : P.follows .mixedOrders = true) (hs : Sim n W X Z0 L a w)
    (hL : anyL P ops ops.size (Array.replicate ops.size false) L K) (hd : ∀ o ∈ ops.toList, ∀ t, o.dst = some t → t < n) (hq : ∀ L' a' w', K L' → Sim n W X Z0 L' a' w' → Q .normal a' w') :
    (Code.region id ops true).wp P Q a w :=
  wp_region_any hfol (anyL_sound hd hq _ _ L a _ (hs.drew rfl rfl rfl rfl) hL)
end
end Go.Lg
