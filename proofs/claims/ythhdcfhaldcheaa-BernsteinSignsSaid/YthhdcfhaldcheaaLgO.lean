/- Rules for stepping through a body over logical values. -/
import Derived.Test.YthhdcfhaldcheaaLgN
set_option linter.unusedVariables false
set_option linter.unusedSimpArgs false
namespace Go.Lg

def St.frz (L : St) (bs : List Nat) : St := ⟨L.slot, fun c => (L.heap c).map fun blk => ⟨blk.sz, blk.vals, blk.mt && !bs.contains c⟩⟩

section
variable {P : Program} {dr : Bool} {ops : Array Oper} {rest : List Oper} {L : St} {K : St → Prop} {dst : Option Tmp} {ty : TypeId} {pos : String} {af : Array Edge} {g : Option (Nat × Bool)}

theorem frz_le (bs : List Nat) (h0 : bs.contains 0 = false) : L.heap.le (L.frz bs).heap := fun b blk h => by
  refine ⟨blk.mt && !bs.contains b, by simp [St.frz, h], fun e => by simp [e], fun e1 e2 => ?_⟩
  rintro rfl
  rw [e1, h0] at e2; cases e2

theorem st_pure {op : Op} {r : LV} (hg : GuardIs ops L ⟨dst, op, ty, pos, af, g⟩ true) (h : OpP P L.heap L.ev op r) (k : opsL P dr ops rest (L.put dst r) K) :
    opsL P dr ops (⟨dst, op, ty, pos, af, g⟩ :: rest) L K := by
  refine ⟨L.put dst r, .val hg (Heap.le_refl _) (fr := []) (fun _ _ h => by cases h) (.pure h) ?_, k⟩
  cases dst <;> rfl
theorem st_skip {op : Op} (hg : GuardIs ops L ⟨dst, op, ty, pos, af, g⟩ false) (k : opsL P dr ops rest (L.put dst .any) K) : opsL P dr ops (⟨dst, op, ty, pos, af, g⟩ :: rest) L K :=
  ⟨_, .skip hg rfl, k⟩
theorem st_alloc {op : Op} {d : Nat} {r : LV} {blk : Blk} (hg : GuardIs ops L ⟨some d, op, ty, pos, af, g⟩ true) (hd : L.heap d = none) (h : OpA P L.ev d op r blk)
    (k : opsL P dr ops rest ((L.setB d (some blk)).put (some d) r) K) : opsL P dr ops (⟨some d, op, ty, pos, af, g⟩ :: rest) L K := by
  refine ⟨_, .val hg (r := r) (fr := [(d, blk)]) (H1 := (L.setB d (some blk)).heap) ?_ ?_ (.alloc h) ?_, k⟩
  · intro b bk hb
    have : b ≠ d := by rintro rfl; rw [hd] at hb; cases hb
    exact ⟨bk.mt, by simp only [St.setB, if_neg this]; exact hb, fun h => h, fun h1 h2 => by rw [h1] at h2; cases h2⟩
  · intro b bk hb
    simp only [List.mem_singleton, Prod.mk.injEq] at hb
    obtain ⟨rfl, rfl⟩ := hb
    exact ⟨hd, bk.mt, by simp [St.setB], fun h => h⟩
  · rfl
theorem st_opc {op : Op} {r r' : LV} (bs : List Nat) (hg : GuardIs ops L ⟨dst, op, ty, pos, af, g⟩ true) (h0 : bs.contains 0 = false) (h : OpC P (L.frz bs).heap L.ev (dst.getD 0) op r []) (hr : r = r')
    (k : opsL P dr ops rest ((L.frz bs).put dst r') K) : opsL P dr ops (⟨dst, op, ty, pos, af, g⟩ :: rest) L K := by
  subst hr
  refine ⟨(L.frz bs).put dst r, .val hg (r := r) (fr := []) (H1 := (L.frz bs).heap) (frz_le bs h0) (fun _ _ h => by cases h) (.call h) ?_, k⟩
  cases dst <;> rfl
/-- a call whose result is no memory of the caller's -/
theorem st_call {f : FuncId} {xs : Array Operand} {as : Array TypeId} {args : List LV} {r : LV} (bs : List Nat) (hg : GuardIs ops L ⟨dst, .call ⟨.value (.func f), xs, as⟩, ty, pos, af, g⟩ true) (h0 : bs.contains 0 = false)
    (ha : ImmL (L.frz bs).heap (xs.toList.map L.ev) args) (hk : CallOK P f args r []) (hr : r.ren (callName (dst.getD 0)) = r)
    (k : opsL P dr ops rest ((L.frz bs).put dst r) K) : opsL P dr ops (⟨dst, .call ⟨.value (.func f), xs, as⟩, ty, pos, af, g⟩ :: rest) L K :=
  st_opc bs hg h0 (.func ha hk (by simp) (by simp)) hr k
theorem frz_nil : L.frz [] = L := by
  cases L
  simp only [St.frz, St.mk.injEq, true_and]
  funext c
  rename_i s h
  cases h c <;> simp
/-- the same where no block of the caller's goes in -/
theorem st_call0 {f : FuncId} {xs : Array Operand} {as : Array TypeId} {args : List LV} {r : LV} (hg : GuardIs ops L ⟨dst, .call ⟨.value (.func f), xs, as⟩, ty, pos, af, g⟩ true)
    (ha : ImmL L.heap (xs.toList.map L.ev) args) (hk : CallOK P f args r []) (hr : r.ren (callName (dst.getD 0)) = r)
    (k : opsL P dr ops rest (L.put dst r) K) : opsL P dr ops (⟨dst, .call ⟨.value (.func f), xs, as⟩, ty, pos, af, g⟩ :: rest) L K :=
  st_call [] hg rfl (by rw [frz_nil]; exact ha) hk hr (by rw [frz_nil]; exact k)
/-- a call that hands back one block of the caller's own -/
theorem st_call1 {f : FuncId} {xs : Array Operand} {as : Array TypeId} {args : List LV} {r : LV} {blk : Blk} {d : Nat} (bs : List Nat) (hg : GuardIs ops L ⟨some d, .call ⟨.value (.func f), xs, as⟩, ty, pos, af, g⟩ true) (h0 : bs.contains 0 = false)
    (ha : ImmL (L.frz bs).heap (xs.toList.map L.ev) args) (hk : CallOK P f args r [blk]) (hp : pures blk.vals = true) (hd : L.heap (callName d 1) = none)
    (k : opsL P dr ops rest (((L.frz bs).setB (callName d 1) (some blk)).put (some d) (r.ren (callName d))) K) : opsL P dr ops (⟨some d, .call ⟨.value (.func f), xs, as⟩, ty, pos, af, g⟩ :: rest) L K := by
  have hd' : (L.frz bs).heap (callName d 1) = none := by simp [St.frz, hd]
  refine ⟨_, .val hg (r := r.ren (callName d)) (fr := [blk].mapIdx fun i blk => (callName d (i + 1), blk)) (H1 := ((L.frz bs).setB (callName d 1) (some blk)).heap) (Heap.le_trans (frz_le bs h0) ?_) ?_
    (.call (.func (ImmL.le ?_ ha) hk (by simp) (by simpa using hp))) ?_, k⟩
  · exact le_set hd'
  · intro b bk hb
    simp only [List.mapIdx_cons, List.mapIdx_nil, List.mem_singleton, Prod.mk.injEq] at hb
    obtain ⟨rfl, rfl⟩ := hb
    exact ⟨hd, bk.mt, by simp [St.setB], fun h => h⟩
  · exact le_set hd'
  · rfl
theorem st_store {op : Op} {L' : St} (hg : GuardIs ops L ⟨dst, op, ty, pos, af, g⟩ true) (h : OpT P L dst op L') (k : opsL P dr ops rest L' K) : opsL P dr ops (⟨dst, op, ty, pos, af, g⟩ :: rest) L K :=
  ⟨_, .st hg h, k⟩
theorem st_callM {f : FuncId} {xs : Array Operand} {as : Array TypeId} {args : List LV} {r : LV} {ops : Array Oper} (b : Nat) {blk blk' : Blk} (hg : GuardIs ops L ⟨dst, .call ⟨.value (.func f), xs, as⟩, ty, pos, af, g⟩ true)
    (hb : L.heap b = some blk) (hm : blk.mt = true) (hp : pures blk.vals = true) (ha : ArgML L.heap b (xs.toList.map L.ev) args) (hn : Names b (xs.toList.map L.ev)) (hk : CallOKM P f blk args r blk')
    (hm' : blk'.mt = true) (hp' : pures blk'.vals = true) (k : opsL P false ops rest ((L.setB b (some blk')).put dst (r.ren fun _ => b)) K) :
    opsL P false ops (⟨dst, .call ⟨.value (.func f), xs, as⟩, ty, pos, af, g⟩ :: rest) L K :=
  ⟨_, .stM rfl hg (.call hb hm hp ha hn hk hm' hp'), k⟩
theorem st_nil (k : K L) : opsL P dr ops [] L K := k
end

/-! ### Encodings of elements -/
structure EncOK {α : Type} (e : α → LV) (sz : Nat) (ag : Bool) : Prop where
  csize : ∀ a, (e a).csize = sz
  isAgg : ∀ a, (e a).isAgg = ag
  pure : ∀ a, (e a).pure = true

theorem pures_map {α : Type} {e : α → LV} {sz : Nat} {ag : Bool} (h : EncOK e sz ag) (l : List α) : pures (l.map e) = true := by
  rw [pures_iff]; intro x hx
  obtain ⟨a, _, rfl⟩ := List.mem_map.1 hx
  exact h.pure a

theorem at_self (x : LV) (h : x.pure = true) : x.at 0 x.csize x.isAgg = some x := by
  cases x <;> simp_all [LV.at, LV.csize, LV.isAgg, LV.pure]
theorem put_whole (x y : LV) (h1 : x.csize = y.csize) (h2 : x.isAgg = y.isAgg) : x.put 0 y = some y := by
  cases x <;> simp_all [LV.put, LV.csize, LV.isAgg]

section
variable {P : Program} {H : Heap} {ρ : Operand → LV} {α : Type} {e : α → LV}

theorem OpP.idxLm [Inhabited α] {T E : TypeId} {x i : Operand} {sz : Nat} {l : List α} {k : IntKind} {n : Int} {ag : Bool} (he : EncOK e sz ag) (hx : ρ x = .list sz (l.map e)) (hT : P.underlying T = some (.slice E)) (hE : TyIs P E sz ag)
    (hi : ρ i = .v (.int k n)) (h0 : 0 ≤ n) (hn : n < l.length) : OpP P H ρ (.indexAddr T x i) (.boxp (e (l.getD n.toNat default))) := by
  have hlt : n.toNat < l.length := by omega
  refine .idxL hx hT hE hi h0 ?_ (he.csize _)
  rw [List.getElem?_map, List.getElem?_eq_getElem hlt, List.getD_eq_getElem?_getD, List.getElem?_eq_getElem hlt]; rfl
theorem OpP.loadBm {T : TypeId} {p : Operand} {sz : Nat} {ag : Bool} {a : α} (he : EncOK e sz ag) (hp : ρ p = .boxp (e a)) (hT : TyIs P T sz ag) : OpP P H ρ (.load T p) (e a) :=
  .loadB hp (by rw [he.csize, he.isAgg]; exact hT) (he.pure a)
theorem OpP.loadEm [Inhabited α] {T : TypeId} {p : Operand} {b sz i : Nat} {l : List α} {m : Bool} {ag : Bool} (he : EncOK e sz ag) (hp : ρ p = .eptr b sz i 0) (hb : H b = some ⟨sz, l.map e, m⟩) (hT : TyIs P T sz ag)
    (hi : i < l.length) : OpP P H ρ (.load T p) (e (l.getD i default)) := by
  have hv : (l.map e)[i]? = some (e (l.getD i default)) := by
    rw [List.getElem?_map, List.getElem?_eq_getElem hi, List.getD_eq_getElem?_getD, List.getElem?_eq_getElem hi]; rfl
  refine .loadE (blk := ⟨sz, l.map e, m⟩) (n := sz) (ag := ag) hp hb rfl hv (he.csize _) ?_ hT
  have := at_self (e (l.getD i default)) (he.pure _)
  rwa [he.csize, he.isAgg] at this
theorem OpT.storeM [Inhabited α] {L : St} {dst : Option Tmp} {T : TypeId} {p x : Operand} {b sz i : Nat} {l : List α} {ag : Bool} {a : α} (he : EncOK e sz ag) (hp : L.ev p = .eptr b sz i 0) (hb : L.heap b = some ⟨sz, l.map e, true⟩)
    (hx : L.ev x = e a) (hT : TyIs P T sz ag) (hi : i < l.length) : OpT P L dst (.store T p x) ((L.setB b (some ⟨sz, (l.set i a).map e, true⟩)).put dst .any) := by
  have hv : (l.map e)[i]? = some (e l[i]) := by rw [List.getElem?_map, List.getElem?_eq_getElem hi]; rfl
  have := OpT.store (P := P) (L := L) (dst := dst) (T := T) (p := p) (x := x) (y' := e a) hp hb rfl rfl hv (he.csize _) (by rw [hx]; exact put_whole _ _ (by rw [he.csize, he.csize]) (by rw [he.isAgg, he.isAgg]))
    (by rw [hx, he.csize, he.isAgg]; exact hT) (by rw [hx]; exact ⟨LV.pure_ne_any (he.pure _), LV.pure_ne_tup (he.pure _)⟩)
  rwa [← List.map_set] at this
theorem OpA.makeM {T E : TypeId} {x c : Operand} {kl kc : IntKind} {d sz by_ n m : Nat} {ag : Bool} {z : α} (he : EncOK e sz ag) (hT : P.underlying T = some (.slice E)) (hz : ZeroOK P E (e z)) (hE : TyIs P E sz ag) (hb : TyBytes P E by_)
    (hl : ρ x = .v (.int kl (n : Nat))) (hc : ρ c = .v (.int kc (m : Nat))) (hnm : n ≤ m) (hm : by_ * m ≤ 281474976710656) (hm2 : m ≤ 9223372036854775807) :
    OpA P ρ d (.makeSlice T x c) (.ref d sz 0 n) ⟨sz, (List.replicate n z).map e, true⟩ := by
  rw [List.map_replicate]
  exact .make hT hz (by rw [he.isAgg]; exact hE) (he.csize z) hb hl hc hnm hm hm2
theorem OpA.lit1 {T E : TypeId} {x : Operand} {d sz : Nat} {ag : Bool} {z a : α} (he : EncOK e sz ag) (hT : P.underlying T = some (.slice E)) (hz : ZeroOK P E (e z)) (hE : TyIs P E sz ag) (hx : ρ x = e a) (hs0 : 0 < sz) (hs1 : sz ≤ 1000) :
    OpA P ρ d (.buildSlice T 1 #[(0, x)]) (.ref d sz 0 1) ⟨sz, [a].map e, true⟩ := by
  have := OpA.lit (P := P) (ρ := ρ) (d := d) (T := T) (n := 1) (ps := #[(0, x)]) hT hz (by rw [he.isAgg]; exact hE) (he.csize z) (by omega) (by omega) hs0 (by
    intro p hp
    simp only [List.mem_singleton] at hp
    subst hp
    refine ⟨by simp, ?_, by rw [hx]; exact LV.pure_ne_any (he.pure _), by rw [hx]; exact LV.pure_ne_tup (he.pure _)⟩
    simp [lay, hx, he.csize, he.isAgg])
  simpa [buildL, hx, List.replicate] using this
end

/-! ### Integers -/
section
variable {a b : Int}
theorem add64 (h1 : -9223372036854775808 ≤ a + b) (h2 : a + b ≤ 9223372036854775807) : binI .add .i64 a b = some (.int .i64 (a + b)) := by
  simp only [binI]; rw [IntWalk.i64_in _ ⟨h1, h2⟩]
theorem sub64 (h1 : -9223372036854775808 ≤ a - b) (h2 : a - b ≤ 9223372036854775807) : binI .sub .i64 a b = some (.int .i64 (a - b)) := by
  simp only [binI]; rw [IntWalk.i64_in _ ⟨h1, h2⟩]
theorem mul64 (h1 : -9223372036854775808 ≤ a * b) (h2 : a * b ≤ 9223372036854775807) : binI .mul .i64 a b = some (.int .i64 (a * b)) := by
  simp only [binI]; rw [IntWalk.i64_in _ ⟨h1, h2⟩]
end

/-! ### Code -/
section
variable {P : Program} {L L0 : St} {Q : LEx → St → Prop} {K : St → Prop}
theorem wl_reg {l : List Oper} {id : Nat} (h : opsL P false l.toArray l L (Q .normal)) : wpL P (.region id l.toArray false) Q L := ⟨L, Weak.refl L, .inl ⟨fun e => absurd e (by decide), h⟩⟩
theorem wl_regD {l : List Oper} {id : Nat} (m : Nat) (hm : drawOk l.toArray m = true) (h : opsL P true l.toArray l L (Q .normal)) : wpL P (.region id l.toArray true) Q L := ⟨L, Weak.refl L, .inl ⟨fun _ => ⟨m, hm⟩, h⟩⟩
theorem wl_regW {l : List Oper} {id : Nat} (hw : Weak L L0) (h : opsL P false l.toArray l L0 (Q .normal)) : wpL P (.region id l.toArray false) Q L := ⟨L0, hw, .inl ⟨fun e => absurd e (by decide), h⟩⟩
theorem wl_regDW {l : List Oper} {id : Nat} (m : Nat) (hm : drawOk l.toArray m = true) (hw : Weak L L0) (h : opsL P true l.toArray l L0 (Q .normal)) : wpL P (.region id l.toArray true) Q L := ⟨L0, hw, .inl ⟨fun _ => ⟨m, hm⟩, h⟩⟩
theorem wl_regA {ops : Array Oper} {id : Nat} (h : anyL P ops ops.size (Array.replicate ops.size false) L (Q .normal)) : wpL P (.region id ops true) Q L := ⟨L, Weak.refl L, .inr (.inl ⟨rfl, h⟩)⟩
theorem wl_regE {ops : Array Oper} {id : Nat} {d : Bool} (h : ∀ n W X Z0 a w, Sim n W X Z0 L a w → dstsOk n (.region 0 ops d) = true → ∀ id, (Code.region id ops d).wp P (PostL n W X Z0 Q) a w) : wpL P (.region id ops d) Q L := ⟨L, Weak.refl L, .inr (.inr h)⟩
theorem wl_seq {x y : Code} (h : wpL P x (thenL (wpL P y Q) Q) L) : wpL P (.seq x y) Q L := h
theorem wl_cond {c : Operand} {x y : Code} {t : Bool} (hc : L.ev c = .v (.bool t)) (h1 : t = true → wpL P x Q L) (h2 : t = false → wpL P y Q L) : wpL P (.cond c x y) Q L := ⟨t, hc, h1, h2⟩
theorem wl_condT {c : Operand} {x y : Code} (hc : L.ev c = .v (.bool true)) (h : wpL P x Q L) : wpL P (.cond c x y) Q L := ⟨true, hc, fun _ => h, fun e => absurd e (by decide)⟩
theorem wl_condF {c : Operand} {x y : Code} (hc : L.ev c = .v (.bool false)) (h : wpL P y Q L) : wpL P (.cond c x y) Q L := ⟨false, hc, fun e => absurd e (by decide), fun _ => h⟩
theorem wl_block {c : Code} {id : Nat} (h : wpL P c (blockL id Q) L) : wpL P (.block id c) Q L := h
theorem wl_skip (h : Q .normal L) : wpL P .skip Q L := h
theorem wl_ret (h : Q .ret L) : wpL P .ret Q L := h
theorem wl_exit {id : Nat} (h : Q (.exit id) L) : wpL P (.exit id) Q L := h
theorem then_n (h : K L) : thenL K Q .normal L := h
theorem then_e {i : Nat} (h : Q (.exit i) L) : thenL K Q (.exit i) L := h
theorem then_r (h : Q .ret L) : thenL K Q .ret L := h
theorem blk_n {id : Nat} (h : Q .normal L) : blockL id Q .normal L := h
theorem blk_r {id : Nat} (h : Q .ret L) : blockL id Q .ret L := h
theorem blk_e {id : Nat} (h : Q .normal L) : blockL id Q (.exit id) L := by simp only [blockL, if_pos]; exact h
theorem blk_o {id i : Nat} (hne : i ≠ id) (h : Q (.exit i) L) : blockL id Q (.exit i) L := by simp only [blockL, if_neg hne]; exact h
theorem wpL_mono : ∀ {c : Code} {Q Q' : LEx → St → Prop} {L : St}, (∀ e L, Q e L → Q' e L) → wpL P c Q L → wpL P c Q' L := by
  intro c
  induction c with
  | skip => exact fun hq h => hq _ _ h
  | region id ops d => exact fun hq ⟨L0, a, h⟩ => ⟨L0, a, h.imp (fun ⟨b, h⟩ => ⟨b, opsL_mono (hq _) _ _ h⟩) (fun h => h.imp (fun ⟨b, h⟩ => ⟨b, anyL_mono (hq _) _ _ _ h⟩) (fun h n W X Z0 a w hs hd id => wp_mono (h n W X Z0 a w hs hd id) fun e a w p => by
    cases e with
    | normal => obtain ⟨L, q1, q2⟩ := p; exact ⟨L, hq _ _ q1, q2⟩
    | exit i => obtain ⟨L, q1, q2⟩ := p; exact ⟨L, hq _ _ q1, q2⟩
    | ret => obtain ⟨L, q1, q2⟩ := p; exact ⟨L, hq _ _ q1, q2⟩
    | _ => exact p.elim))⟩
  | seq x y ihx ihy =>
    intro Q Q' L hq h
    refine ihx (fun e L h => ?_) h
    cases e with
    | normal => exact ihy hq h
    | exit i => exact hq _ _ h
    | ret => exact hq _ _ h
  | cond c x y ihx ihy => exact fun hq ⟨t, a, b, c⟩ => ⟨t, a, fun e => ihx hq (b e), fun e => ihy hq (c e)⟩
  | block id c ih =>
    intro Q Q' L hq h
    refine ih (fun e L h => ?_) h
    cases e with
    | normal => exact hq _ _ h
    | exit i =>
      simp only [blockL] at h ⊢
      split
      · rename_i e; rw [if_pos e] at h; exact hq _ _ h
      · rename_i e; rw [if_neg e] at h; exact hq _ _ h
    | ret => exact hq _ _ h
  | loop c ih =>
    rintro Q Q' L hq ⟨I, n0, a, b⟩
    refine ⟨I, n0, a, fun n L hI => ih (fun e L h => ?_) (b n L hI)⟩
    cases e with
    | normal => exact h
    | exit i => exact hq _ _ h
    | ret => exact hq _ _ h
  | exit id => exact fun hq h => hq _ _ h
  | ret => exact fun hq h => hq _ _ h
  | rangeFunc => exact fun _ h => h.elim
  | scope => exact fun _ h => h.elim
  | label => exact fun _ h => h.elim
  | goto => exact fun _ h => h.elim
  | refuse => exact fun _ h => h.elim
/-- A loop: what its head knows is a state S a over whatever else there is. -/
theorem wl_loop {c : Code} {α : Type} (S : α → St → St) (C : α → Prop) (μ : α → Nat) (a0 : α) (hC : C a0) (h0 : ∃ L1, Weak L (S a0 L1))
    (hr : ∀ a L1, C a → wpL P c (thenL (fun L' => ∃ a' L2, C a' ∧ μ a' < μ a ∧ Weak L' (S a' L2)) Q) (S a L1)) : wpL P (.loop c) Q L := by
  obtain ⟨L1, h1⟩ := h0
  refine ⟨fun n L => ∃ a L1, C a ∧ L = S a L1 ∧ μ a = n, μ a0, ⟨_, h1, a0, L1, hC, rfl, rfl⟩, ?_⟩
  rintro n L ⟨a, L1, hCa, rfl, rfl⟩
  refine wpL_mono (fun e L h => ?_) (hr a L1 hCa)
  cases e with
  | normal =>
    obtain ⟨a', L2, g1, g2, g3⟩ := h
    exact ⟨_, μ a', g3, ⟨a', L2, g1, rfl, rfl⟩, g2⟩
  | exit i => exact h
  | ret => exact h
/-- what a stretch of code leaves, said once -/
theorem wl_cut {c : Code} (K : St → Prop) (h : wpL P c (thenL K Q) L) (hk : ∀ L, K L → Q .normal L) : wpL P c Q L :=
  wpL_mono (fun e L h => by cases e with | normal => exact hk L h | exit i => exact h | ret => exact h) h
end

/-! ### Small steps of a proof -/
theorem put_id {L : St} {t : Nat} {r : LV} (h : L.slot t = r) : L.put (some t) r = L := by
  cases L with
  | mk s hp =>
    simp only [St.put, St.mk.injEq, and_true]
    funext k
    have := put_slot ⟨s, hp⟩ t r k
    simp only [St.put] at this
    rw [this]
    split
    · rename_i hk; subst hk; exact h.symm
    · rfl
theorem put_id' {L L' : St} {t : Nat} {r : LV} (h0 : L' = L) (h : L.slot t = r) : L'.put (some t) r = L := by rw [h0]; exact put_id h
theorem setB_id' {L L' : St} {b : Nat} {x : Option Blk} (h0 : L' = L) (h : L.heap b = x) : L'.setB b x = L := by
  subst h0
  cases L' with
  | mk s hp =>
    simp only [St.setB, St.mk.injEq, true_and]
    funext k
    split
    · rename_i hk; subst hk; exact h.symm
    · rfl
theorem Weak.of_eq {L L' : St} (h : L' = L) : Weak L L' := by subst h; exact Weak.refl _
theorem put_put_ne (L : St) (t : Nat) (r : LV) (s : Nat) (h : (s == t) = false) : (L.put (some t) r).slot s = L.slot s := by
  rw [put_slot, if_neg (by simpa using h)]
theorem put_same (L : St) (t : Nat) (r : LV) : (L.put (some t) r).slot t = r := by rw [put_slot, if_pos rfl]
theorem setB_slot (L : St) (b : Nat) (x : Option Blk) (s : Nat) : (L.setB b x).slot s = L.slot s := rfl
theorem frz_slot (L : St) (bs : List Nat) (s : Nat) : (L.frz bs).slot s = L.slot s := rfl
theorem kill_slot (L : St) (b : Nat) (s : Nat) : (L.kill b).slot s = (L.slot s).kill b := rfl
theorem ev_tmp (L : St) (t : Nat) : L.ev (.tmp t) = L.slot t := rfl
theorem ev_int (L : St) (k : IntKind) (n : Int) : L.ev (.const (.int k n)) = .v (.int k n) := rfl
theorem ev_bool (L : St) (b : Bool) : L.ev (.const (.bool b)) = .v (.bool b) := rfl
theorem ev_nil (L : St) : L.ev (.const (.slice none 0 0)) = .v (.slice none 0 0) := rfl
theorem put_none (L : St) (r : LV) : L.put none r = L := rfl

section
variable {P : Program} {dr : Bool} {ops : Array Oper} {rest : List Oper} {L : St} {K : St → Prop} {dst : Option Tmp} {op : Op} {ty : TypeId} {pos : String} {af : Array Edge}
theorem guardT {j d : Nat} {b want res : Bool} (h1 : (ops[j]?).bind (·.dst) = some d) (h2 : L.slot d = .v (.bool b)) (h3 : (b == want) = res) :
    GuardIs ops L ⟨dst, op, ty, pos, af, some (j, want)⟩ res := ⟨d, b, h1, h2, h3.symm⟩
theorem guardX {j d : Nat} {b v want res : Bool} (h1 : (ops[j]?).bind (·.dst) = some d) (h2 : L.slot d = .v (.bool b)) (h3 : b = v) (h4 : (v == want) = res) :
    GuardIs ops L ⟨dst, op, ty, pos, af, some (j, want)⟩ res := ⟨d, b, h1, h2, by rw [h3, h4]⟩
/-- the end of a region, its state told anew -/
theorem st_end {L' : St} (h : L = L') (k : K L') : opsL P dr ops [] L K := by subst h; exact k
end
section
variable {P : Program} {L : St}
theorem ret1 {t : Nat} {x y : LV} (h : L.slot t = x) (hi : Imm L.heap x y) : RetL P [.tmp t] L y [] :=
  ⟨[x], [y], L.heap, [], .cons h .nil, Heap.le_refl _, .cons (.imm hi) .nil, List.nodup_nil, rfl, fun k b h => by simp at h, rfl⟩
theorem ret1f {t : Nat} {x y : LV} (bs : List Nat) (h0 : bs.contains 0 = false) (h : L.slot t = x) (hi : Imm (L.frz bs).heap x y) : RetL P [.tmp t] L y [] :=
  ⟨[x], [y], (L.frz bs).heap, [], .cons h .nil, frz_le bs h0, .cons (.imm hi) .nil, List.nodup_nil, rfl, fun k b h => by simp at h, rfl⟩
theorem ret2 {t u : Nat} {x y x' y' : LV} (h : L.slot t = x) (hi : Imm L.heap x y) (h' : L.slot u = x') (hi' : Imm L.heap x' y') : RetL P [.tmp t, .tmp u] L (.tup [y, y']) [] :=
  ⟨[x, x'], [y, y'], L.heap, [], .cons h (.cons h' .nil), Heap.le_refl _, .cons (.imm hi) (.cons (.imm hi') .nil), List.nodup_nil, rfl, fun k b h => by simp at h, rfl⟩
theorem ret2f {t u : Nat} {x y x' y' : LV} (bs : List Nat) (h0 : bs.contains 0 = false) (h : L.slot t = x) (hi : Imm (L.frz bs).heap x y) (h' : L.slot u = x') (hi' : Imm (L.frz bs).heap x' y') : RetL P [.tmp t, .tmp u] L (.tup [y, y']) [] :=
  ⟨[x, x'], [y, y'], (L.frz bs).heap, [], .cons h (.cons h' .nil), frz_le bs h0, .cons (.imm hi) (.cons (.imm hi') .nil), List.nodup_nil, rfl, fun k b h => by simp at h, rfl⟩
theorem ret3f {t u s : Nat} {x y x' y' x'' y'' : LV} (bs : List Nat) (h0 : bs.contains 0 = false) (h : L.slot t = x) (hi : Imm (L.frz bs).heap x y) (h' : L.slot u = x') (hi' : Imm (L.frz bs).heap x' y')
    (h'' : L.slot s = x'') (hi'' : Imm (L.frz bs).heap x'' y'') : RetL P [.tmp t, .tmp u, .tmp s] L (.tup [y, y', y'']) [] :=
  ⟨[x, x', x''], [y, y', y''], (L.frz bs).heap, [], .cons h (.cons h' (.cons h'' .nil)), frz_le bs h0, .cons (.imm hi) (.cons (.imm hi') (.cons (.imm hi'') .nil)), List.nodup_nil, rfl, fun k b h => by simp at h, rfl⟩
/-- a slice of the call's own, handed back as the caller's -/
theorem ret1own {t b sz len : Nat} {blk : Blk} (h : L.slot t = .ref b sz 0 len) (hb : L.heap b = some blk) (hp : pures blk.vals = true) : RetL P [.tmp t] L (.ref 1 sz 0 len) [blk] :=
  ⟨[.ref b sz 0 len], [.ref 1 sz 0 len], L.heap, [b], .cons h .nil, Heap.le_refl _, .cons (.ref (k := 0) rfl) .nil, by simp, rfl, fun k c hk => by
    cases k with
    | zero => simp at hk; subst hk; exact ⟨blk, hb, rfl, hp⟩
    | succ k => simp at hk, rfl⟩
/-- a result that lies in a variable -/
theorem retC {a : Nat} {T : TypeId} {b sz : Nat} {x y : LV} {m : Bool} {n : Nat} {ag : Bool} (bs : List Nat) (h0 : bs.contains 0 = false) (h : L.slot a = .eptr b sz 0 0) (hb : L.heap b = some ⟨sz, [x], m⟩)
    (hx : x.csize = sz) (hat : x.at 0 n ag = some x) (hT : TyIs P T n ag) (hi : Imm (L.frz bs).heap x y) : RetL P [.cell a T] L y [] :=
  ⟨[x], [y], (L.frz bs).heap, [], .cons ⟨b, sz, 0, 0, _, x, n, ag, h, hb, rfl, rfl, hx, hat, hT⟩ .nil, frz_le bs h0, .cons (.imm hi) .nil, List.nodup_nil, rfl, fun k b h => by simp at h, rfl⟩
theorem imm_ref {bs : List Nat} {b sz off len : Nat} {vals : List LV} {m : Bool} (hb : L.heap b = some ⟨sz, vals, m⟩) (hbs : bs.contains b = true) (hp : pures vals = true) (hl : off + len ≤ vals.length) :
    Imm (L.frz bs).heap (.ref b sz off len) (.list sz ((vals.drop off).take len)) :=
  Imm.ref (blk := ⟨sz, vals, m && !bs.contains b⟩) (by simp [St.frz, hb]) rfl hp hl (by rw [hbs]; simp)
theorem imm_refm {α : Type} {e : α → LV} {ag : Bool} {bs : List Nat} {b sz len : Nat} {l : List α} {m : Bool} (he : EncOK e sz ag) (hb : L.heap b = some ⟨sz, l.map e, m⟩) (hbs : bs.contains b = true) (hl : len = l.length) :
    Imm (L.frz bs).heap (.ref b sz 0 len) (.list sz (l.map e)) := by
  have := imm_ref (L := L) (bs := bs) (off := 0) (len := len) hb hbs (pures_map he l) (by simp [hl])
  rwa [List.drop_zero, List.take_of_length_le (by simp [hl])] at this
end

section
variable {P : Program} {H : Heap} {ρ : Operand → LV}
theorem OpP.pickT {c x y : Operand} {t : Bool} (h : ρ c = .v (.bool t)) (ht : t = true) : OpP P H ρ (.pick c x y) (ρ x) := by
  have := OpP.pick (P := P) (H := H) (x := x) (y := y) h
  rwa [if_pos ht] at this
theorem OpP.pickF {c x y : Operand} {t : Bool} (h : ρ c = .v (.bool t)) (ht : t = false) : OpP P H ρ (.pick c x y) (ρ y) := by
  have := OpP.pick (P := P) (H := H) (x := x) (y := y) h
  rwa [if_neg (by simp [ht])] at this
end
section
variable {P : Program} {dr : Bool} {ops : Array Oper} {rest : List Oper} {L : St} {K : St → Prop} {dst : Option Tmp} {ty : TypeId} {pos : String} {af : Array Edge} {x : Operand}
theorem mv (k : opsL P dr ops rest (L.put dst (L.ev x)) K) : opsL P dr ops (⟨dst, .move x, ty, pos, af, none⟩ :: rest) L K := st_pure rfl (.move _) k
theorem asg (k : opsL P dr ops rest (L.put dst (L.ev x)) K) : opsL P dr ops (⟨dst, .assign x, ty, pos, af, none⟩ :: rest) L K := st_pure rfl (.assign _) k
theorem bn {op : BinOp} {T U : TypeId} {y : Operand} {k : IntKind} {a b : Int} {r : Value} (hx : L.ev x = .v (.int k a)) (hy : L.ev y = .v (.int k b)) (h : binI op k a b = some r) (kk : opsL P dr ops rest (L.put dst (.v r)) K) :
    opsL P dr ops (⟨dst, .binOp op T x y U, ty, pos, af, none⟩ :: rest) L K := st_pure rfl (.bin hx hy h) kk
end
section
variable {P : Program} {H : Heap} {ρ : Operand → LV} {α : Type} {e : α → LV} {sz : Nat} {ag : Bool} {T E : TypeId} {x y z : Operand} {l : List α} {a h : Nat} {k k' : IntKind}
theorem OpP.sliceLb (_he : EncOK e sz ag) (hx : ρ x = .list sz (l.map e)) (hT : P.underlying T = some (.slice E)) (hE : TyIs P E sz ag) (hlo : ρ y = .v (.int k (a : Nat))) (hhi : ρ z = .v (.int k' (h : Nat))) (h1 : a ≤ h) (h2 : h ≤ l.length) :
    OpP P H ρ (.slice T x (some y) (some z) none) (.list sz (((l.take h).drop a).map e)) := by
  have := OpP.sliceL (P := P) (H := H) (ρ := ρ) (la := some y) (ha := some z) (a := a) (h := h) hx hT hE (fun w hw => by cases hw; exact ⟨_, hlo⟩) (fun h => by cases h) (fun w hw => by cases hw; exact ⟨_, hhi⟩) (fun h => by cases h) h1 (by simpa using h2)
  rwa [← List.map_take, ← List.map_drop] at this
theorem OpP.sliceLl (_he : EncOK e sz ag) (hx : ρ x = .list sz (l.map e)) (hT : P.underlying T = some (.slice E)) (hE : TyIs P E sz ag) (hlo : ρ y = .v (.int k (a : Nat))) (h1 : a ≤ l.length) :
    OpP P H ρ (.slice T x (some y) none none) (.list sz ((l.drop a).map e)) := by
  have := OpP.sliceL (P := P) (H := H) (ρ := ρ) (la := some y) (ha := none) (a := a) (h := (l.map e).length) hx hT hE (fun w hw => by cases hw; exact ⟨_, hlo⟩) (fun h => by cases h) (fun w hw => by cases hw) (fun _ => rfl) (by simpa using h1) (Nat.le_refl _)
  rwa [List.take_length, ← List.map_drop] at this
theorem OpP.sliceLh (_he : EncOK e sz ag) (hx : ρ x = .list sz (l.map e)) (hT : P.underlying T = some (.slice E)) (hE : TyIs P E sz ag) (hhi : ρ z = .v (.int k' (h : Nat))) (h2 : h ≤ l.length) :
    OpP P H ρ (.slice T x none (some z) none) (.list sz ((l.take h).map e)) := by
  have := OpP.sliceL (P := P) (H := H) (ρ := ρ) (la := none) (ha := some z) (a := 0) (h := h) hx hT hE (fun w hw => by cases hw) (fun _ => rfl) (fun w hw => by cases hw; exact ⟨_, hhi⟩) (fun h => by cases h) (by omega) (by simpa using h2)
  rwa [List.drop_zero, ← List.map_take] at this
theorem pure_lst (he : EncOK e sz ag) (n : Nat) (l : List α) : (LV.list n (l.map e)).pure = true := by simp only [LV.pure]; exact pures_map he l
end
/-! short names of what a region's end uses -/
theorem e1 (L : St) (t : Nat) : L.ev (.tmp t) = L.slot t := rfl
theorem e2 (L : St) (k : IntKind) (n : Int) : L.ev (.const (.int k n)) = .v (.int k n) := rfl
theorem e3 (L : St) (b : Bool) : L.ev (.const (.bool b)) = .v (.bool b) := rfl
theorem e4 (L : St) : L.ev (.const (.slice none 0 0)) = .v (.slice none 0 0) := rfl
theorem p1 (L : St) (t : Nat) (r : LV) : (L.put (some t) r).slot t = r := put_same L t r
theorem p2 (L : St) (t : Nat) (r : LV) (s : Nat) (h : (s == t) = false) : (L.put (some t) r).slot s = L.slot s := put_put_ne L t r s h
theorem p3 (L : St) (r : LV) : L.put none r = L := rfl
theorem q1 (L : St) (b : Nat) (x : Option Blk) (s : Nat) : (L.setB b x).slot s = L.slot s := rfl
theorem q2 (L : St) (bs : List Nat) (s : Nat) : (L.frz bs).slot s = L.slot s := rfl
theorem q3 (L : St) (b : Nat) (s : Nat) : (L.kill b).slot s = (L.slot s).kill b := rfl
theorem l1 {α β : Type} (f : α → β) (l : List α) : (l.map f).length = l.length := List.length_map f
end Go.Lg
