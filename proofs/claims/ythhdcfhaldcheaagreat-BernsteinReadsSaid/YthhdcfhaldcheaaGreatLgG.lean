/- Steps of a walk that find themselves: type facts as instances, helpers of the walk. -/
import Derived.Test.YthhdcfhaldcheaaGreatLgR
set_option linter.unusedVariables false
set_option linter.unusedSimpArgs false
namespace Go.Lg
section
variable {P : Program} {ρ : Operand → LV} {α : Type} {e : α → LV}
theorem OpA.lit3 {T E : TypeId} {x y w : Operand} {d sz : Nat} {ag : Bool} {z a b c : α} (he : EncOK e sz ag) (hT : P.underlying T = some (.slice E)) (hz : ZeroOK P E (e z)) (hE : TyIs P E sz ag) (hx : ρ x = e a) (hy : ρ y = e b) (hw : ρ w = e c) (hs0 : 0 < sz) (hs1 : sz ≤ 1000) :
    OpA P ρ d (.buildSlice T 3 #[(0, x), (1, y), (2, w)]) (.ref d sz 0 3) ⟨sz, [a, b, c].map e, true⟩ := by
  have hne : ∀ v, ρ v = e a ∨ ρ v = e b ∨ ρ v = e c → lay (ρ v) = lay (e z) ∧ ρ v ≠ .any ∧ ∀ m, ρ v ≠ .tup m := by
    rintro v (h | h | h) <;> rw [h] <;> exact ⟨by simp [lay, he.csize, he.isAgg], LV.pure_ne_any (he.pure _), LV.pure_ne_tup (he.pure _)⟩
  have := OpA.lit (P := P) (ρ := ρ) (d := d) (T := T) (n := 3) (ps := #[(0, x), (1, y), (2, w)]) hT hz (by rw [he.isAgg]; exact hE) (he.csize z) (by omega) (by omega) hs0 (by
    intro p hp
    simp only [List.mem_cons, List.not_mem_nil, or_false] at hp
    rcases hp with rfl | rfl | rfl
    · exact ⟨by show 0 < 3; omega, hne x (.inl hx)⟩
    · exact ⟨by show 1 < 3; omega, hne y (.inr (.inl hy))⟩
    · exact ⟨by show 2 < 3; omega, hne w (.inr (.inr hw))⟩)
  simpa [buildL, hx, hy, hw, List.replicate] using this
theorem OpA.lit4 {T E : TypeId} {x y w z' : Operand} {d sz : Nat} {ag : Bool} {z a b c f : α} (he : EncOK e sz ag) (hT : P.underlying T = some (.slice E)) (hz : ZeroOK P E (e z)) (hE : TyIs P E sz ag) (hx : ρ x = e a) (hy : ρ y = e b) (hw : ρ w = e c) (hf : ρ z' = e f) (hs0 : 0 < sz) (hs1 : sz ≤ 1000) :
    OpA P ρ d (.buildSlice T 4 #[(0, x), (1, y), (2, w), (3, z')]) (.ref d sz 0 4) ⟨sz, [a, b, c, f].map e, true⟩ := by
  have hne : ∀ v, ρ v = e a ∨ ρ v = e b ∨ ρ v = e c ∨ ρ v = e f → lay (ρ v) = lay (e z) ∧ ρ v ≠ .any ∧ ∀ m, ρ v ≠ .tup m := by
    rintro v (h | h | h | h) <;> rw [h] <;> exact ⟨by simp [lay, he.csize, he.isAgg], LV.pure_ne_any (he.pure _), LV.pure_ne_tup (he.pure _)⟩
  have := OpA.lit (P := P) (ρ := ρ) (d := d) (T := T) (n := 4) (ps := #[(0, x), (1, y), (2, w), (3, z')]) hT hz (by rw [he.isAgg]; exact hE) (he.csize z) (by omega) (by omega) hs0 (by
    intro p hp
    simp only [List.mem_cons, List.not_mem_nil, or_false] at hp
    rcases hp with rfl | rfl | rfl | rfl
    · exact ⟨by show 0 < 4; omega, hne x (.inl hx)⟩
    · exact ⟨by show 1 < 4; omega, hne y (.inr (.inl hy))⟩
    · exact ⟨by show 2 < 4; omega, hne w (.inr (.inr (.inl hw)))⟩
    · exact ⟨by show 3 < 4; omega, hne z' (.inr (.inr (.inr hf)))⟩)
  simpa [buildL, hx, hy, hw, hf, List.replicate] using this
end
theorem wl_weak {P : Program} {L L0 : St} {c : Code} {Q : LEx → St → Prop} (hw : Weak L L0) (h : wpL P (.loop c) Q L0) : wpL P (.loop c) Q L := by
  obtain ⟨I, n0, ⟨L1, h1, h2⟩, h3⟩ := h
  exact ⟨I, n0, ⟨L1, hw.trans h1, h2⟩, h3⟩
section
variable {P : Program} {ops : Array Oper} {D : Array Bool} {L : St} {K : St → Prop} {fuel : Nat}
theorem any_0 (hr : Region.ready .any ops D = []) (k : K L) : anyL P ops fuel D L K := by
  cases fuel with
  | zero => exact ⟨hr, k⟩
  | succ n => exact ⟨fun _ => k, fun i hi => by rw [hr] at hi; cases hi⟩
theorem any_1 (i : Nat) (o : Oper) (hr : Region.ready .any ops D = [i]) (ho : ops[i]? = some o) (h : opsL P false ops [o] L (fun L' => anyL P ops fuel (D.setIfInBounds i true) L' K)) : anyL P ops (fuel + 1) D L K := by
  refine ⟨fun e => (by rw [hr] at e; cases e), fun j hj => ?_⟩
  rw [hr, List.mem_singleton] at hj
  subst hj
  obtain ⟨L', h1, h2⟩ := h
  exact ⟨o, L', ho, h1, h2⟩
theorem any_2 (i j : Nat) (o o2 : Oper) (hr : Region.ready .any ops D = [i, j]) (ho : ops[i]? = some o) (ho2 : ops[j]? = some o2) (h : opsL P false ops [o] L (fun L' => anyL P ops fuel (D.setIfInBounds i true) L' K))
    (h2 : opsL P false ops [o2] L (fun L' => anyL P ops fuel (D.setIfInBounds j true) L' K)) : anyL P ops (fuel + 1) D L K := by
  refine ⟨fun e => (by rw [hr] at e; cases e), fun x hx => ?_⟩
  rw [hr] at hx
  simp only [List.mem_cons, List.not_mem_nil, or_false] at hx
  rcases hx with rfl | rfl
  · obtain ⟨L', h1, h3⟩ := h
    exact ⟨o, L', ho, h1, h3⟩
  · obtain ⟨L', h1, h3⟩ := h2
    exact ⟨o2, L', ho2, h1, h3⟩
end
class UN (P : Program) (T : TypeId) (d : outParam TypeDesc) : Prop where
  h : P.underlying T = some d
class TI (P : Program) (T : TypeId) (sz : outParam Nat) (ag : outParam Bool) : Prop where
  h : TyIs P T sz ag
class SI (P : Program) (T : TypeId) (l : outParam (List (Nat × Bool))) : Prop where
  h : StructLay P T l
class BI (P : Program) (T : TypeId) (n : outParam Nat) : Prop where
  h : TyBytes P T n
class ZI (P : Program) (T : TypeId) (z : outParam LV) : Prop where
  h : ZeroOK P T z
class EC (P : Program) (T : TypeId) {α : outParam Type} (e : outParam (α → LV)) (sz : outParam Nat) (ag : outParam Bool) (z : outParam α) : Prop where
  h : EncOK e sz ag
  z : ZeroOK P T (e z)
  t : TyIs P T sz ag
class AE (P : Program) (T : TypeId) {α : outParam Type} (e : outParam (α → LV)) (sz : outParam Nat) (ag : outParam Bool) (z : outParam α) : Prop where
  h : EncOK e sz ag
  z : ZeroOK P T (e z)
theorem zHs {p : Prop} (h : p := by first | (simp only [hce, l1, t0, t1, dflt, val_dig]; exact rfl) | exact rfl) : p := h
theorem ex_eq {S : St → St} {L L1 : St} (h : S L1 = L) : ∃ L1, Weak L (S L1) := ⟨L1, Weak.of_eq h⟩
def cmpOp : BinOp → Bool
  | .eql | .neq | .lss | .leq | .gtr | .geq => true
  | _ => false
section
variable {P : Program} {H : Heap} {ρ : Operand → LV} {α : Type} {e : α → LV} {sz : Nat} {ag : Bool} {z a : α} {T E : TypeId} {p x i : Operand} {L L0 : St} {Q : LEx → St → Prop} {K : St → Prop}
theorem OpP.ldB [c : EC P T e sz ag z] (hp : ρ p = .boxp (e a)) : OpP P H ρ (.load T p) (e a) := .loadBm c.h hp c.t
theorem OpP.ldE [Inhabited α] [c : EC P T e sz ag z] {b i : Nat} {l : List α} {m : Bool} (hp : ρ p = .eptr b sz i 0) (hb : H b = some ⟨sz, l.map e, m⟩) (hi : i < l.length) : OpP P H ρ (.load T p) (e (l.getD i default)) := .loadEm c.h hp hb c.t hi
theorem OpP.ixL [Inhabited α] [u : UN P T (.slice E)] [c : EC P E e sz ag z] {l : List α} {k : IntKind} {n : Int} (hx : ρ x = .list sz (l.map e)) (hi : ρ i = .v (.int k n)) (h0 : 0 ≤ n) (hn : n < l.length) :
    OpP P H ρ (.indexAddr T x i) (.boxp (e (l.getD n.toNat default))) := .idxLm c.h hx u.h c.t hi h0 hn
theorem OpP.ixR [u : UN P T (.slice E)] [c : TI P E sz ag] {b off len : Nat} {k : IntKind} {n : Int} (hx : ρ x = .ref b sz off len) (hi : ρ i = .v (.int k n)) (h0 : 0 ≤ n) (hn : n < len) :
    OpP P H ρ (.indexAddr T x i) (.eptr b sz (off + n.toNat) 0) := .idxR hx u.h c.h hi h0 hn
theorem OpP.cmp {op : BinOp} {U : TypeId} {y : Operand} {k : IntKind} {a b : Int} {r : Value} (hc : cmpOp op = true) (hx : ρ x = .v (.int k a)) (hy : ρ y = .v (.int k b)) (h : binI op k a b = some r) : OpP P H ρ (.binOp op T x y U) (.v r) := .bin hx hy h
theorem OpT.stE [Inhabited α] [c : EC P T e sz ag z] {dst : Option Tmp} {b i : Nat} {l : List α} (hp : L.ev p = .eptr b sz i 0) (hb : L.heap b = some ⟨sz, l.map e, true⟩) (hx : L.ev x = e a) (hi : i < l.length) :
    OpT P L dst (.store T p x) ((L.setB b (some ⟨sz, (l.set i a).map e, true⟩)).put dst .any) := .storeM c.h hp hb hx c.t hi
theorem OpA.mkE {by_ : Nat} [u : UN P T (.slice E)] [c : EC P E e sz ag z] [b : BI P E by_] {d n m : Nat} {kl kc : IntKind} (hl : ρ x = .v (.int kl (n : Nat))) (hc : ρ i = .v (.int kc (m : Nat))) (hnm : n ≤ m) (hm : by_ * m ≤ 281474976710656) (hm2 : m ≤ 9223372036854775807) :
    OpA P ρ d (.makeSlice T x i) (.ref d sz 0 n) ⟨sz, (List.replicate n z).map e, true⟩ := .makeM c.h u.h c.z c.t b.h hl hc hnm hm hm2
theorem OpA.bxE [c : EC P T e sz ag z] {d : Nat} (hx : ρ x = e a) : OpA P ρ d (.box T x) (.eptr d sz 0 0) ⟨sz, [e a], true⟩ := .boxE c.h hx
/-- conditions, with what they say -/
theorem wl_if {c : Operand} {x y : Code} {t : Bool} {u v : Prop} (hc : L.ev c = .v (.bool t)) (h1 : t = true → u → wpL P x Q L) (h2 : t = false → v → wpL P y Q L)
    (e1 : (t = true) = u := by exact zHs) (e2 : (t = false) = v := by exact zHs) : wpL P (.cond c x y) Q L := wl_cond hc (fun h => h1 h (e1 ▸ h)) (fun h => h2 h (e2 ▸ h))
theorem OpA.alE [c : AE P T e sz ag z] {d : Nat} : OpA P ρ d (.alloc T) (.eptr d sz 0 0) ⟨sz, [e z], true⟩ := .allocE c.h c.z
theorem OpA.l0 [u : UN P T (.slice E)] [t : TI P E sz ag] {d : Nat} : OpA P ρ d (.buildSlice T 0 #[]) (.ref d sz 0 0) ⟨sz, [], true⟩ := .lit0 u.h t.h
theorem OpA.l1 [u : UN P T (.slice E)] [c : EC P E e sz ag z] {d : Nat} {x0 : Operand} {a0 : α} (h0 : ρ x0 = e a0) (hs0 : 0 < sz := by decide) (hs1 : sz ≤ 1000 := by decide) : OpA P ρ d (.buildSlice T 1 #[(0, x0)]) (.ref d sz 0 1) ⟨sz, [a0].map e, true⟩ := .lit1 c.h u.h c.z c.t h0 hs0 hs1
theorem OpA.l2 [u : UN P T (.slice E)] [c : EC P E e sz ag z] {d : Nat} {x0 x1 : Operand} {a0 a1 : α} (h0 : ρ x0 = e a0) (h1 : ρ x1 = e a1) (hs0 : 0 < sz := by decide) (hs1 : sz ≤ 1000 := by decide) : OpA P ρ d (.buildSlice T 2 #[(0, x0), (1, x1)]) (.ref d sz 0 2) ⟨sz, [a0, a1].map e, true⟩ := .lit2 c.h u.h c.z c.t h0 h1 hs0 hs1
theorem OpA.l3 [u : UN P T (.slice E)] [c : EC P E e sz ag z] {d : Nat} {x0 x1 x2 : Operand} {a0 a1 a2 : α} (h0 : ρ x0 = e a0) (h1 : ρ x1 = e a1) (h2 : ρ x2 = e a2) (hs0 : 0 < sz := by decide) (hs1 : sz ≤ 1000 := by decide) : OpA P ρ d (.buildSlice T 3 #[(0, x0), (1, x1), (2, x2)]) (.ref d sz 0 3) ⟨sz, [a0, a1, a2].map e, true⟩ := .lit3 c.h u.h c.z c.t h0 h1 h2 hs0 hs1
theorem OpA.l4 [u : UN P T (.slice E)] [c : EC P E e sz ag z] {d : Nat} {x0 x1 x2 x3 : Operand} {a0 a1 a2 a3 : α} (h0 : ρ x0 = e a0) (h1 : ρ x1 = e a1) (h2 : ρ x2 = e a2) (h3 : ρ x3 = e a3) (hs0 : 0 < sz := by decide) (hs1 : sz ≤ 1000 := by decide) : OpA P ρ d (.buildSlice T 4 #[(0, x0), (1, x1), (2, x2), (3, x3)]) (.ref d sz 0 4) ⟨sz, [a0, a1, a2, a3].map e, true⟩ := .lit4 c.h u.h c.z c.t h0 h1 h2 h3 hs0 hs1
theorem op_if {dr : Bool} {ops : Array Oper} {l : List Oper} (d : Nat) {b : Bool} {u v : Prop} (h : L.slot d = .v (.bool b)) (ht : b = true → u → opsL P dr ops l L K) (hf : b = false → v → opsL P dr ops l L K)
    (e1 : (b = true) = u := by exact zHs) (e2 : (b = false) = v := by exact zHs) : opsL P dr ops l L K := opsL_split h (fun h => ht h (e1 ▸ h)) (fun h => hf h (e2 ▸ h))
theorem OpP.bd {zs : List LV} {l : List (Nat × Bool)} {ps : Array (Nat × Operand)} [z : ZI P T (.agg zs)] [s : SI P T l] (h : zs.map lay = l) (hp : ∀ p ∈ ps.toList, ∃ z, zs[p.1]? = some z ∧ lay (ρ p.2) = lay z ∧ ρ p.2 ≠ .any ∧ ∀ m, ρ p.2 ≠ .tup m) :
    OpP P H ρ (.build T ps) (.agg (buildL zs (ps.toList.map fun p => (p.1, ρ p.2)))) := .build (h ▸ s.h) z.h hp
end
namespace H0
theorem zSm {p q : Prop} (k : q) (e : p = q := by simp only [e1, e2, e3, e4, p1, p2, p3, q1, q2, q3, l1, t0, t1, r1, r2, r3, r4, Nat.zero_add, Nat.reduceMul, Nat.reduceAdd, b1, b2, b3, b4, b5, b6, i1, i2, i3, i4, i5, i6, Nat.reduceBEq]; exact rfl) : p := e.mpr k
end H0
theorem oo {p : Prop} (h : p := by omega) : p := h
theorem om {p : Prop} (h : p := by first | (refine zSm ?_; omega) | omega) : p := h
theorem nf {p : Prop} (h : p := by first | (refine zSm ?_; exact rfl) | exact rfl) : p := h
theorem cl {p : Prop} (h : p := by first | rfl | (refine zSm ?_; first | exact trivial | rfl | (congr 3 <;> omega) | (congr 2 <;> omega))) : p := h
theorem ml {p : Prop} (h : p := by first | rfl | (refine zSm ?_; first | exact trivial | rfl | (congr 2 <;> omega))) : p := h
theorem nt1 : (!true) = false := rfl
theorem nt2 : (!false) = true := rfl
theorem as0 {p : Prop} (h : p := by first | assumption | with_reducible rfl | with_reducible exact nt1 | with_reducible exact nt2) : p := h
theorem gd {p : Prop} (h : p := by first | exact rfl | exact guardX (v := true) rfl rfl as0 rfl | exact guardX (v := false) rfl rfl as0 rfl) : p := h
theorem nes {p : Prop} (h : p := by first | (intro p hp; cases hp; done) | (simp only [List.forall_mem_cons]; first | exact ⟨⟨_, rfl, rfl, ne0⟩, fun _ h => by cases h⟩ | exact ⟨⟨_, rfl, rfl, ne0⟩, ⟨_, rfl, rfl, ne0⟩, fun _ h => by cases h⟩ | exact ⟨⟨_, rfl, rfl, ne0⟩, ⟨_, rfl, rfl, ne0⟩, ⟨_, rfl, rfl, ne0⟩, fun _ h => by cases h⟩ | exact ⟨⟨_, rfl, rfl, ne0⟩, ⟨_, rfl, rfl, ne0⟩, ⟨_, rfl, rfl, ne0⟩, ⟨_, rfl, rfl, ne0⟩, fun _ h => by cases h⟩)) : p := h
theorem am1 {p : Prop} (h : p := by exact .cons im0 .nil) : p := h
theorem am2 {p : Prop} (h : p := by exact .cons im0 (.cons im0 .nil)) : p := h
theorem am3 {p : Prop} (h : p := by exact .cons im0 (.cons im0 (.cons im0 .nil))) : p := h
theorem am4 {p : Prop} (h : p := by exact .cons im0 (.cons im0 (.cons im0 (.cons im0 .nil)))) : p := h
theorem am5 {p : Prop} (h : p := by exact .cons im0 (.cons im0 (.cons im0 (.cons im0 (.cons im0 .nil))))) : p := h
theorem am0 {p : Prop} (h : p := by exact .nil) : p := h
theorem fm0 {p : Prop} (h : p := by exact .nil) : p := h
theorem fm1 {p : Prop} (h : p := by exact .cons im1 .nil) : p := h
theorem fm2 {p : Prop} (h : p := by exact .cons im1 (.cons im1 .nil)) : p := h
theorem fm3 {p : Prop} (h : p := by exact .cons im1 (.cons im1 (.cons im1 .nil))) : p := h
theorem fm4 {p : Prop} (h : p := by exact .cons im1 (.cons im1 (.cons im1 (.cons im1 .nil)))) : p := h
theorem fm5 {p : Prop} (h : p := by exact .cons im1 (.cons im1 (.cons im1 (.cons im1 (.cons im1 .nil))))) : p := h
section
variable {P : Program} {dr : Bool} {ops : Array Oper} {rest : List Oper} {L : St} {K : St → Prop} {dst : Option Tmp} {ty : TypeId} {pos : String} {af : Array Edge} {g : Option (Nat × Bool)}
theorem cp {f : FuncId} {xs : Array Operand} {as : Array TypeId} {args : List LV} {r : LV} (ha : ImmL L.heap (xs.toList.map L.ev) args) (hk : CallP P f args r) (k : opsL P dr ops rest (L.put dst r) K)
    (hg : GuardIs ops L ⟨dst, .call ⟨.value (.func f), xs, as⟩, ty, pos, af, g⟩ true := by exact gd) : opsL P dr ops (⟨dst, .call ⟨.value (.func f), xs, as⟩, ty, pos, af, g⟩ :: rest) L K := st_callP hg ha hk k
theorem cpf {f : FuncId} {xs : Array Operand} {as : Array TypeId} {args : List LV} {r : LV} (bs : List Nat) (ha : ImmL (L.frz bs).heap (xs.toList.map L.ev) args) (hk : CallP P f args r) (k : opsL P dr ops rest ((L.frz bs).put dst r) K)
    (hg : GuardIs ops L ⟨dst, .call ⟨.value (.func f), xs, as⟩, ty, pos, af, g⟩ true := by exact gd) (h0 : bs.contains 0 = false := by exact rfl) : opsL P dr ops (⟨dst, .call ⟨.value (.func f), xs, as⟩, ty, pos, af, g⟩ :: rest) L K := st_callPf bs hg h0 ha hk k
end
/-! ### Loops -/
def Nx1 {α : Type} (S : α → St → St) (C : α → Prop) (μ : α → Nat) (a : α) (L : St) : Prop := ∃ a' L2, C a' ∧ μ a' < μ a ∧ Weak L (S a' L2)
theorem lp1 {α : Type} {P : Program} {Q : LEx → St → Prop} {L : St} {k : Code} (S : α → St → St) (C : α → Prop) (μ : α → Nat) (a : α) (hC : C a) (hr : ∀ a' L1, C a' → wpL P k (thenL (Nx1 S C μ a') Q) (S a' L1))
    (h0 : ∃ L1, Weak L (S a L1) := by apply ex_eq; repeat (first | exact mk_id' cl | refine put_id' ?_ cl)) : wpL P (.loop k) Q L := by
  refine wl_loop (α := α) (fun x => S x) (fun x => C x) (fun x => μ x) a hC h0 ?_
  rintro a' L1 hc
  refine wpL_mono (fun e L h => ?_) (hr a' L1 hc)
  cases e with
  | normal =>
    obtain ⟨a1, L2, h1, h2, h3⟩ := h
    exact ⟨a1, L2, h1, h2, h3⟩
  | exit i => exact h
  | ret => exact h
theorem nx1 {α : Type} {S : α → St → St} {C : α → Prop} {μ : α → Nat} {a : α} {L L2 : St} (a' : α) (hc : C a') (hm : μ a' < μ a := by omega) (he : Weak L (S a' L2) := by apply Weak.of_eq; repeat (first | exact mk_id' cl | refine put_id' ?_ cl)) : Nx1 S C μ a L := ⟨a', L2, hc, hm, he⟩
def Nx2 {α β : Type} (S : α → β → St → St) (C : α → β → Prop) (μ : α → β → Nat) (a : α) (b : β) (L : St) : Prop := ∃ a' b' L2, C a' b' ∧ μ a' b' < μ a b ∧ Weak L (S a' b' L2)
theorem lp2 {α β : Type} {P : Program} {Q : LEx → St → Prop} {L : St} {k : Code} (S : α → β → St → St) (C : α → β → Prop) (μ : α → β → Nat) (a : α) (b : β) (hC : C a b) (hr : ∀ a' b' L1, C a' b' → wpL P k (thenL (Nx2 S C μ a' b') Q) (S a' b' L1))
    (h0 : ∃ L1, Weak L (S a b L1) := by apply ex_eq; repeat (first | exact mk_id' cl | refine put_id' ?_ cl)) : wpL P (.loop k) Q L := by
  refine wl_loop (α := α × β) (fun x => S x.1 x.2) (fun x => C x.1 x.2) (fun x => μ x.1 x.2) (a, b) hC h0 ?_
  rintro ⟨a', b'⟩ L1 hc
  refine wpL_mono (fun e L h => ?_) (hr a' b' L1 hc)
  cases e with
  | normal =>
    obtain ⟨a1, b1, L2, h1, h2, h3⟩ := h
    exact ⟨(a1, b1), L2, h1, h2, h3⟩
  | exit i => exact h
  | ret => exact h
theorem nx2 {α β : Type} {S : α → β → St → St} {C : α → β → Prop} {μ : α → β → Nat} {a : α} {b : β} {L L2 : St} (a' : α) (b' : β) (hc : C a' b') (hm : μ a' b' < μ a b := by omega) (he : Weak L (S a' b' L2) := by apply Weak.of_eq; repeat (first | exact mk_id' cl | refine put_id' ?_ cl)) : Nx2 S C μ a b L := ⟨a', b', L2, hc, hm, he⟩
def Nx3 {α β γ : Type} (S : α → β → γ → St → St) (C : α → β → γ → Prop) (μ : α → β → γ → Nat) (a : α) (b : β) (c : γ) (L : St) : Prop := ∃ a' b' c' L2, C a' b' c' ∧ μ a' b' c' < μ a b c ∧ Weak L (S a' b' c' L2)
theorem lp3 {α β γ : Type} {P : Program} {Q : LEx → St → Prop} {L : St} {k : Code} (S : α → β → γ → St → St) (C : α → β → γ → Prop) (μ : α → β → γ → Nat) (a : α) (b : β) (c : γ) (hC : C a b c) (hr : ∀ a' b' c' L1, C a' b' c' → wpL P k (thenL (Nx3 S C μ a' b' c') Q) (S a' b' c' L1))
    (h0 : ∃ L1, Weak L (S a b c L1) := by apply ex_eq; repeat (first | exact mk_id' cl | refine put_id' ?_ cl)) : wpL P (.loop k) Q L := by
  refine wl_loop (α := α × β × γ) (fun x => S x.1 x.2.1 x.2.2) (fun x => C x.1 x.2.1 x.2.2) (fun x => μ x.1 x.2.1 x.2.2) (a, b, c) hC h0 ?_
  rintro ⟨a', b', c'⟩ L1 hc
  refine wpL_mono (fun e L h => ?_) (hr a' b' c' L1 hc)
  cases e with
  | normal =>
    obtain ⟨a1, b1, c1, L2, h1, h2, h3⟩ := h
    exact ⟨(a1, b1, c1), L2, h1, h2, h3⟩
  | exit i => exact h
  | ret => exact h
theorem nx3 {α β γ : Type} {S : α → β → γ → St → St} {C : α → β → γ → Prop} {μ : α → β → γ → Nat} {a : α} {b : β} {c : γ} {L L2 : St} (a' : α) (b' : β) (c' : γ) (hc : C a' b' c') (hm : μ a' b' c' < μ a b c := by omega) (he : Weak L (S a' b' c' L2) := by apply Weak.of_eq; repeat (first | exact mk_id' cl | refine put_id' ?_ cl)) : Nx3 S C μ a b c L := ⟨a', b', c', L2, hc, hm, he⟩
def Nx4 {α β γ δ : Type} (S : α → β → γ → δ → St → St) (C : α → β → γ → δ → Prop) (μ : α → β → γ → δ → Nat) (a : α) (b : β) (c : γ) (d : δ) (L : St) : Prop := ∃ a' b' c' d' L2, C a' b' c' d' ∧ μ a' b' c' d' < μ a b c d ∧ Weak L (S a' b' c' d' L2)
theorem lp4 {α β γ δ : Type} {P : Program} {Q : LEx → St → Prop} {L : St} {k : Code} (S : α → β → γ → δ → St → St) (C : α → β → γ → δ → Prop) (μ : α → β → γ → δ → Nat) (a : α) (b : β) (c : γ) (d : δ) (hC : C a b c d) (hr : ∀ a' b' c' d' L1, C a' b' c' d' → wpL P k (thenL (Nx4 S C μ a' b' c' d') Q) (S a' b' c' d' L1))
    (h0 : ∃ L1, Weak L (S a b c d L1) := by apply ex_eq; repeat (first | exact mk_id' cl | refine put_id' ?_ cl)) : wpL P (.loop k) Q L := by
  refine wl_loop (α := α × β × γ × δ) (fun x => S x.1 x.2.1 x.2.2.1 x.2.2.2) (fun x => C x.1 x.2.1 x.2.2.1 x.2.2.2) (fun x => μ x.1 x.2.1 x.2.2.1 x.2.2.2) (a, b, c, d) hC h0 ?_
  rintro ⟨a', b', c', d'⟩ L1 hc
  refine wpL_mono (fun e L h => ?_) (hr a' b' c' d' L1 hc)
  cases e with
  | normal =>
    obtain ⟨a1, b1, c1, d1, L2, h1, h2, h3⟩ := h
    exact ⟨(a1, b1, c1, d1), L2, h1, h2, h3⟩
  | exit i => exact h
  | ret => exact h
theorem nx4 {α β γ δ : Type} {S : α → β → γ → δ → St → St} {C : α → β → γ → δ → Prop} {μ : α → β → γ → δ → Nat} {a : α} {b : β} {c : γ} {d : δ} {L L2 : St} (a' : α) (b' : β) (c' : γ) (d' : δ) (hc : C a' b' c' d') (hm : μ a' b' c' d' < μ a b c d := by omega) (he : Weak L (S a' b' c' d' L2) := by apply Weak.of_eq; repeat (first | exact mk_id' cl | refine put_id' ?_ cl)) : Nx4 S C μ a b c d L := ⟨a', b', c', d', L2, hc, hm, he⟩
def Nx5 {α β γ δ ε : Type} (S : α → β → γ → δ → ε → St → St) (C : α → β → γ → δ → ε → Prop) (μ : α → β → γ → δ → ε → Nat) (a : α) (b : β) (c : γ) (d : δ) (e : ε) (L : St) : Prop := ∃ a' b' c' d' e' L2, C a' b' c' d' e' ∧ μ a' b' c' d' e' < μ a b c d e ∧ Weak L (S a' b' c' d' e' L2)
theorem lp5 {α β γ δ ε : Type} {P : Program} {Q : LEx → St → Prop} {L : St} {k : Code} (S : α → β → γ → δ → ε → St → St) (C : α → β → γ → δ → ε → Prop) (μ : α → β → γ → δ → ε → Nat) (a : α) (b : β) (c : γ) (d : δ) (e : ε) (hC : C a b c d e) (hr : ∀ a' b' c' d' e' L1, C a' b' c' d' e' → wpL P k (thenL (Nx5 S C μ a' b' c' d' e') Q) (S a' b' c' d' e' L1))
    (h0 : ∃ L1, Weak L (S a b c d e L1) := by apply ex_eq; repeat (first | exact mk_id' cl | refine put_id' ?_ cl)) : wpL P (.loop k) Q L := by
  refine wl_loop (α := α × β × γ × δ × ε) (fun x => S x.1 x.2.1 x.2.2.1 x.2.2.2.1 x.2.2.2.2) (fun x => C x.1 x.2.1 x.2.2.1 x.2.2.2.1 x.2.2.2.2) (fun x => μ x.1 x.2.1 x.2.2.1 x.2.2.2.1 x.2.2.2.2) (a, b, c, d, e) hC h0 ?_
  rintro ⟨a', b', c', d', e'⟩ L1 hc
  refine wpL_mono (fun e L h => ?_) (hr a' b' c' d' e' L1 hc)
  cases e with
  | normal =>
    obtain ⟨a1, b1, c1, d1, e1, L2, h1, h2, h3⟩ := h
    exact ⟨(a1, b1, c1, d1, e1), L2, h1, h2, h3⟩
  | exit i => exact h
  | ret => exact h
theorem nx5 {α β γ δ ε : Type} {S : α → β → γ → δ → ε → St → St} {C : α → β → γ → δ → ε → Prop} {μ : α → β → γ → δ → ε → Nat} {a : α} {b : β} {c : γ} {d : δ} {e : ε} {L L2 : St} (a' : α) (b' : β) (c' : γ) (d' : δ) (e' : ε) (hc : C a' b' c' d' e') (hm : μ a' b' c' d' e' < μ a b c d e := by omega) (he : Weak L (S a' b' c' d' e' L2) := by apply Weak.of_eq; repeat (first | exact mk_id' cl | refine put_id' ?_ cl)) : Nx5 S C μ a b c d e L := ⟨a', b', c', d', e', L2, hc, hm, he⟩
def Nx6 {α β γ δ ε ζ : Type} (S : α → β → γ → δ → ε → ζ → St → St) (C : α → β → γ → δ → ε → ζ → Prop) (μ : α → β → γ → δ → ε → ζ → Nat) (a : α) (b : β) (c : γ) (d : δ) (e : ε) (f : ζ) (L : St) : Prop := ∃ a' b' c' d' e' f' L2, C a' b' c' d' e' f' ∧ μ a' b' c' d' e' f' < μ a b c d e f ∧ Weak L (S a' b' c' d' e' f' L2)
theorem lp6 {α β γ δ ε ζ : Type} {P : Program} {Q : LEx → St → Prop} {L : St} {k : Code} (S : α → β → γ → δ → ε → ζ → St → St) (C : α → β → γ → δ → ε → ζ → Prop) (μ : α → β → γ → δ → ε → ζ → Nat) (a : α) (b : β) (c : γ) (d : δ) (e : ε) (f : ζ) (hC : C a b c d e f) (hr : ∀ a' b' c' d' e' f' L1, C a' b' c' d' e' f' → wpL P k (thenL (Nx6 S C μ a' b' c' d' e' f') Q) (S a' b' c' d' e' f' L1))
    (h0 : ∃ L1, Weak L (S a b c d e f L1) := by apply ex_eq; repeat (first | exact mk_id' cl | refine put_id' ?_ cl)) : wpL P (.loop k) Q L := by
  refine wl_loop (α := α × β × γ × δ × ε × ζ) (fun x => S x.1 x.2.1 x.2.2.1 x.2.2.2.1 x.2.2.2.2.1 x.2.2.2.2.2) (fun x => C x.1 x.2.1 x.2.2.1 x.2.2.2.1 x.2.2.2.2.1 x.2.2.2.2.2) (fun x => μ x.1 x.2.1 x.2.2.1 x.2.2.2.1 x.2.2.2.2.1 x.2.2.2.2.2) (a, b, c, d, e, f) hC h0 ?_
  rintro ⟨a', b', c', d', e', f'⟩ L1 hc
  refine wpL_mono (fun e L h => ?_) (hr a' b' c' d' e' f' L1 hc)
  cases e with
  | normal =>
    obtain ⟨a1, b1, c1, d1, e1, f1, L2, h1, h2, h3⟩ := h
    exact ⟨(a1, b1, c1, d1, e1, f1), L2, h1, h2, h3⟩
  | exit i => exact h
  | ret => exact h
theorem nx6 {α β γ δ ε ζ : Type} {S : α → β → γ → δ → ε → ζ → St → St} {C : α → β → γ → δ → ε → ζ → Prop} {μ : α → β → γ → δ → ε → ζ → Nat} {a : α} {b : β} {c : γ} {d : δ} {e : ε} {f : ζ} {L L2 : St} (a' : α) (b' : β) (c' : γ) (d' : δ) (e' : ε) (f' : ζ) (hc : C a' b' c' d' e' f') (hm : μ a' b' c' d' e' f' < μ a b c d e f := by omega) (he : Weak L (S a' b' c' d' e' f' L2) := by apply Weak.of_eq; repeat (first | exact mk_id' cl | refine put_id' ?_ cl)) : Nx6 S C μ a b c d e f L := ⟨a', b', c', d', e', f', L2, hc, hm, he⟩
/-! ### One step, and runs of steps -/
structure Hold (q : Prop) : Prop where
  h : q

theorem ldA {P : Program} {H : Heap} {ρ : Operand → LV} {T : TypeId} {p : Operand} {x : LV} (h : OpP P H ρ (.load T p) x := by first | (apply OpP.ldB; exact rfl) | exact .ldRat rfl rfl rfl TI.h | exact .ldSp rfl rfl rfl TI.h | (apply OpP.ldE; exact rfl; exact rfl; exact om) | exact .ldLo rfl rfl rfl TI.h | exact .ldHi rfl rfl rfl TI.h | exact .ldDen rfl rfl rfl TI.h | exact .ldNum rfl rfl rfl TI.h | exact .ldNeg rfl rfl rfl TI.h | exact .loadE rfl rfl rfl rfl rfl rfl TI.h) : OpP P H ρ (.load T p) x := h
section
variable {P : Program} {H : Heap} {ρ : Operand → LV} {T U : TypeId} {x y : Operand}
theorem OpP.aI {a b : Int} (hx : ρ x = .v (.int .i64 a)) (hy : ρ y = .v (.int .i64 b)) (h1 : -9223372036854775808 ≤ a + b) (h2 : a + b ≤ 9223372036854775807) : OpP P H ρ (.binOp .add T x y U) (.v (.int .i64 (a + b))) := .bin hx hy (add64 h1 h2)
theorem OpP.sI {a b : Int} (hx : ρ x = .v (.int .i64 a)) (hy : ρ y = .v (.int .i64 b)) (h1 : -9223372036854775808 ≤ a - b) (h2 : a - b ≤ 9223372036854775807) : OpP P H ρ (.binOp .sub T x y U) (.v (.int .i64 (a - b))) := .bin hx hy (sub64 h1 h2)
theorem OpP.mI {a b : Int} (hx : ρ x = .v (.int .i64 a)) (hy : ρ y = .v (.int .i64 b)) (h1 : -9223372036854775808 ≤ a * b) (h2 : a * b ≤ 9223372036854775807) : OpP P H ρ (.binOp .mul T x y U) (.v (.int .i64 (a * b))) := .bin hx hy (mul64 h1 h2)
theorem OpP.aU {a b : Nat} (hx : ρ x = .v (.int .u64 (a : Nat))) (hy : ρ y = .v (.int .u64 (b : Nat))) (h : a + b < 18446744073709551616) : OpP P H ρ (.binOp .add T x y U) (.v (.int .u64 ((a + b : Nat) : Int))) := .bin hx hy (addU h)
theorem OpP.mU {a b : Nat} (hx : ρ x = .v (.int .u64 (a : Nat))) (hy : ρ y = .v (.int .u64 (b : Nat))) (h : a * b < 18446744073709551616) : OpP P H ρ (.binOp .mul T x y U) (.v (.int .u64 ((a * b : Nat) : Int))) := .bin hx hy (mulU h)
theorem OpP.sU {a b : Nat} (hx : ρ x = .v (.int .u64 (a : Nat))) (hy : ρ y = .v (.int .u64 (b : Nat))) (h : b ≤ a) (h1 : a < 18446744073709551616) : OpP P H ρ (.binOp .sub T x y U) (.v (.int .u64 ((a - b : Nat) : Int))) := .bin hx hy (subU h h1)
theorem OpP.qU {a b : Nat} (hx : ρ x = .v (.int .u64 (a : Nat))) (hy : ρ y = .v (.int .u64 (b : Nat))) (h : 0 < b) (h1 : a < 18446744073709551616) : OpP P H ρ (.binOp .quo T x y U) (.v (.int .u64 ((a / b : Nat) : Int))) := .bin hx hy (quoU h h1)
theorem OpP.rU {a b : Nat} (hx : ρ x = .v (.int .u64 (a : Nat))) (hy : ρ y = .v (.int .u64 (b : Nat))) (h : 0 < b) : OpP P H ρ (.binOp .rem T x y U) (.v (.int .u64 ((a % b : Nat) : Int))) := .bin hx hy (remU h)
theorem OpP.oU {a b : Nat} (hx : ρ x = .v (.int .u64 ((a * 4294967296 : Nat) : Int))) (hy : ρ y = .v (.int .u64 (b : Nat))) (h : b < 4294967296) (h1 : a < 4294967296) : OpP P H ρ (.binOp .or T x y U) (.v (.int .u64 ((a * 4294967296 + b : Nat) : Int))) := .bin hx hy (orU h h1)
theorem OpP.hl {a : Nat} {k : IntKind} (hx : ρ x = .v (.int .u64 (a : Nat))) (hy : ρ y = .v (.int k 32)) (h : a * 4294967296 < 18446744073709551616) : OpP P H ρ (.binOp .shl T x y U) (.v (.int .u64 ((a * 4294967296 : Nat) : Int))) := .sh hx hy (shl32 h)
theorem OpP.hr {a : Nat} {k : IntKind} (hx : ρ x = .v (.int .u64 (a : Nat))) (hy : ρ y = .v (.int k 32)) : OpP P H ρ (.binOp .shr T x y U) (.v (.int .u64 ((a / 4294967296 : Nat) : Int))) := .sh hx hy shr32
theorem OpP.hs63 {a : Nat} {k : IntKind} (hx : ρ x = .v (.int .u64 (a : Nat))) (hy : ρ y = .v (.int k 63)) : OpP P H ρ (.binOp .shr T x y U) (.v (.int .u64 ((a / 9223372036854775808 : Nat) : Int))) := .sh hx hy shr63
end
theorem biA {P : Program} {H : Heap} {ρ : Operand → LV} {o : BinOp} {T U : TypeId} {p y : Operand} {x : LV} (h : OpP P H ρ (.binOp o T p y U) x := by first | (apply OpP.cmp; exact rfl; exact rfl; exact rfl; exact rfl) | (apply OpP.aI; exact rfl; exact rfl; exact om; exact om) | (apply OpP.sI; exact rfl; exact rfl; exact om; exact om) | (apply OpP.mI; exact rfl; exact rfl; exact om; exact om) | (apply OpP.aU; exact rfl; exact rfl; exact om) | (apply OpP.mU; exact rfl; exact rfl; exact om) | (apply OpP.sU; exact rfl; exact rfl; exact om; exact om) | (apply OpP.qU; exact rfl; exact rfl; exact om; exact om) | (apply OpP.rU; exact rfl; exact rfl; exact om) | (apply OpP.oU; exact rfl; exact rfl; exact om; exact om) | (apply OpP.hl; exact rfl; exact rfl; exact om) | (apply OpP.hr; exact rfl; exact rfl) | (apply OpP.hs63; exact rfl; exact rfl) | (apply OpP.beq; exact rfl; exact rfl; exact UN.h) | (apply OpP.bne; exact rfl; exact rfl; exact UN.h)) : OpP P H ρ (.binOp o T p y U) x := h
theorem lnA {P : Program} {H : Heap} {ρ : Operand → LV} {b : Builtin} {xs : Array Operand} {as : Array TypeId} {x : LV} (h : OpP P H ρ (.call ⟨.builtin b, xs, as⟩) x := by first | exact .lenLm rfl rfl UN.h | exact .lenL rfl rfl UN.h | exact .lenR rfl rfl UN.h | exact .lenN rfl rfl UN.h | exact .min2 rfl rfl | exact .max2 rfl rfl) : OpP P H ρ (.call ⟨.builtin b, xs, as⟩) x := h
theorem srA {P : Program} {L L' : St} {dst : Option Tmp} {T : TypeId} {p x : Operand} (h : OpT P L dst (.store T p x) L' := by first | exact .stRat rfl rfl rfl rfl TI.h | exact .stR1 rfl rfl rfl TI.h | exact .stSp rfl rfl rfl TI.h | (apply OpT.stE; exact rfl; exact rfl; exact rfl; exact om) | exact .store rfl rfl rfl rfl rfl rfl rfl TI.h ne0) : OpT P L dst (.store T p x) L' := h
theorem cvA {P : Program} {H : Heap} {ρ : Operand → LV} {S D : TypeId} {p : Operand} {x : LV} (h : OpP P H ρ (.convert S D p) x := by first | exact .cv32 UN.h UN.h rfl | (apply OpP.cv64; exact UN.h; exact UN.h; exact rfl; exact om) | (apply OpP.cvI; exact UN.h; exact UN.h; exact rfl; exact om; exact om) | exact .conv UN.h UN.h rfl) : OpP P H ρ (.convert S D p) x := h
theorem faA {P : Program} {H : Heap} {ρ : Operand → LV} {T : TypeId} {p : Operand} {k : Nat} {x : LV} (h : OpP P H ρ (.fieldAddr T p k) x := by first | exact .fieldAddrE rfl SI.h (by decide) | exact .fieldAddrB rfl SI.h rfl) : OpP P H ρ (.fieldAddr T p k) x := h
theorem ixA {P : Program} {H : Heap} {ρ : Operand → LV} {T : TypeId} {p i : Operand} {x : LV} (h : OpP P H ρ (.indexAddr T p i) x := by first | (apply OpP.ixL; exact rfl; exact rfl; exact om; exact om) | (apply OpP.ixR; exact rfl; exact rfl; exact om; exact om)) : OpP P H ρ (.indexAddr T p i) x := h
section
variable {P : Program} {dr : Bool} {ops : Array Oper} {rest : List Oper} {L L' : St} {K : St → Prop} {dst : Option Tmp} {d : Nat} {ty : TypeId} {pos : String} {af : Array Edge} {j : Nat} {w : Bool} {r : LV} {bk : Blk}
theorem s0ld {T : TypeId} {p : Operand} (h : OpP P L.heap L.ev (.load T p) r) (kk : opsL P dr ops rest (L.put dst r) K) : opsL P dr ops (⟨dst, (.load T p), ty, pos, af, none⟩ :: rest) L K := st_pure rfl h kk
theorem s1ld {T : TypeId} {p : Operand} (hg : GuardIs ops L ⟨dst, (.load T p), ty, pos, af, some (j, w)⟩ true) (h : OpP P L.heap L.ev (.load T p) r) (kk : opsL P dr ops rest (L.put dst r) K) : opsL P dr ops (⟨dst, (.load T p), ty, pos, af, some (j, w)⟩ :: rest) L K := st_pure hg h kk
theorem s0bi {o : BinOp} {T U : TypeId} {p y : Operand} (h : OpP P L.heap L.ev (.binOp o T p y U) r) (kk : opsL P dr ops rest (L.put dst r) K) : opsL P dr ops (⟨dst, (.binOp o T p y U), ty, pos, af, none⟩ :: rest) L K := st_pure rfl h kk
theorem s1bi {o : BinOp} {T U : TypeId} {p y : Operand} (hg : GuardIs ops L ⟨dst, (.binOp o T p y U), ty, pos, af, some (j, w)⟩ true) (h : OpP P L.heap L.ev (.binOp o T p y U) r) (kk : opsL P dr ops rest (L.put dst r) K) : opsL P dr ops (⟨dst, (.binOp o T p y U), ty, pos, af, some (j, w)⟩ :: rest) L K := st_pure hg h kk
theorem s0ln {b : Builtin} {xs : Array Operand} {as : Array TypeId} (h : OpP P L.heap L.ev (.call ⟨.builtin b, xs, as⟩) r) (kk : opsL P dr ops rest (L.put dst r) K) : opsL P dr ops (⟨dst, (.call ⟨.builtin b, xs, as⟩), ty, pos, af, none⟩ :: rest) L K := st_pure rfl h kk
theorem s1ln {b : Builtin} {xs : Array Operand} {as : Array TypeId} (hg : GuardIs ops L ⟨dst, (.call ⟨.builtin b, xs, as⟩), ty, pos, af, some (j, w)⟩ true) (h : OpP P L.heap L.ev (.call ⟨.builtin b, xs, as⟩) r) (kk : opsL P dr ops rest (L.put dst r) K) : opsL P dr ops (⟨dst, (.call ⟨.builtin b, xs, as⟩), ty, pos, af, some (j, w)⟩ :: rest) L K := st_pure hg h kk
theorem s0fa {T : TypeId} {p : Operand} {k : Nat} (h : OpP P L.heap L.ev (.fieldAddr T p k) r) (kk : opsL P dr ops rest (L.put dst r) K) : opsL P dr ops (⟨dst, (.fieldAddr T p k), ty, pos, af, none⟩ :: rest) L K := st_pure rfl h kk
theorem s1fa {T : TypeId} {p : Operand} {k : Nat} (hg : GuardIs ops L ⟨dst, (.fieldAddr T p k), ty, pos, af, some (j, w)⟩ true) (h : OpP P L.heap L.ev (.fieldAddr T p k) r) (kk : opsL P dr ops rest (L.put dst r) K) : opsL P dr ops (⟨dst, (.fieldAddr T p k), ty, pos, af, some (j, w)⟩ :: rest) L K := st_pure hg h kk
theorem s0ix {T : TypeId} {p y : Operand} (h : OpP P L.heap L.ev (.indexAddr T p y) r) (kk : opsL P dr ops rest (L.put dst r) K) : opsL P dr ops (⟨dst, (.indexAddr T p y), ty, pos, af, none⟩ :: rest) L K := st_pure rfl h kk
theorem s1ix {T : TypeId} {p y : Operand} (hg : GuardIs ops L ⟨dst, (.indexAddr T p y), ty, pos, af, some (j, w)⟩ true) (h : OpP P L.heap L.ev (.indexAddr T p y) r) (kk : opsL P dr ops rest (L.put dst r) K) : opsL P dr ops (⟨dst, (.indexAddr T p y), ty, pos, af, some (j, w)⟩ :: rest) L K := st_pure hg h kk
theorem s0ex {p : Operand} {k : Nat} (h : OpP P L.heap L.ev (.extract p k) r) (kk : opsL P dr ops rest (L.put dst r) K) : opsL P dr ops (⟨dst, (.extract p k), ty, pos, af, none⟩ :: rest) L K := st_pure rfl h kk
theorem s1ex {p : Operand} {k : Nat} (hg : GuardIs ops L ⟨dst, (.extract p k), ty, pos, af, some (j, w)⟩ true) (h : OpP P L.heap L.ev (.extract p k) r) (kk : opsL P dr ops rest (L.put dst r) K) : opsL P dr ops (⟨dst, (.extract p k), ty, pos, af, some (j, w)⟩ :: rest) L K := st_pure hg h kk
theorem s0pk {p y z : Operand} (h : OpP P L.heap L.ev (.pick p y z) r) (kk : opsL P dr ops rest (L.put dst r) K) : opsL P dr ops (⟨dst, (.pick p y z), ty, pos, af, none⟩ :: rest) L K := st_pure rfl h kk
theorem s1pk {p y z : Operand} (hg : GuardIs ops L ⟨dst, (.pick p y z), ty, pos, af, some (j, w)⟩ true) (h : OpP P L.heap L.ev (.pick p y z) r) (kk : opsL P dr ops rest (L.put dst r) K) : opsL P dr ops (⟨dst, (.pick p y z), ty, pos, af, some (j, w)⟩ :: rest) L K := st_pure hg h kk
theorem s0cv {T U : TypeId} {p : Operand} (h : OpP P L.heap L.ev (.convert T U p) r) (kk : opsL P dr ops rest (L.put dst r) K) : opsL P dr ops (⟨dst, (.convert T U p), ty, pos, af, none⟩ :: rest) L K := st_pure rfl h kk
theorem s1cv {T U : TypeId} {p : Operand} (hg : GuardIs ops L ⟨dst, (.convert T U p), ty, pos, af, some (j, w)⟩ true) (h : OpP P L.heap L.ev (.convert T U p) r) (kk : opsL P dr ops rest (L.put dst r) K) : opsL P dr ops (⟨dst, (.convert T U p), ty, pos, af, some (j, w)⟩ :: rest) L K := st_pure hg h kk
theorem s0un {u : UnOp} {T : TypeId} {p : Operand} (h : OpP P L.heap L.ev (.unOp u T p) r) (kk : opsL P dr ops rest (L.put dst r) K) : opsL P dr ops (⟨dst, (.unOp u T p), ty, pos, af, none⟩ :: rest) L K := st_pure rfl h kk
theorem s1un {u : UnOp} {T : TypeId} {p : Operand} (hg : GuardIs ops L ⟨dst, (.unOp u T p), ty, pos, af, some (j, w)⟩ true) (h : OpP P L.heap L.ev (.unOp u T p) r) (kk : opsL P dr ops rest (L.put dst r) K) : opsL P dr ops (⟨dst, (.unOp u T p), ty, pos, af, some (j, w)⟩ :: rest) L K := st_pure hg h kk
theorem s0fi {T : TypeId} {p : Operand} {k : Nat} (h : OpP P L.heap L.ev (.field T p k) r) (kk : opsL P dr ops rest (L.put dst r) K) : opsL P dr ops (⟨dst, (.field T p k), ty, pos, af, none⟩ :: rest) L K := st_pure rfl h kk
theorem s1fi {T : TypeId} {p : Operand} {k : Nat} (hg : GuardIs ops L ⟨dst, (.field T p k), ty, pos, af, some (j, w)⟩ true) (h : OpP P L.heap L.ev (.field T p k) r) (kk : opsL P dr ops rest (L.put dst r) K) : opsL P dr ops (⟨dst, (.field T p k), ty, pos, af, some (j, w)⟩ :: rest) L K := st_pure hg h kk
theorem s0nc {p : Operand} (h : OpP P L.heap L.ev (.nilCheck p) r) (kk : opsL P dr ops rest (L.put dst r) K) : opsL P dr ops (⟨dst, (.nilCheck p), ty, pos, af, none⟩ :: rest) L K := st_pure rfl h kk
theorem s1nc {p : Operand} (hg : GuardIs ops L ⟨dst, (.nilCheck p), ty, pos, af, some (j, w)⟩ true) (h : OpP P L.heap L.ev (.nilCheck p) r) (kk : opsL P dr ops rest (L.put dst r) K) : opsL P dr ops (⟨dst, (.nilCheck p), ty, pos, af, some (j, w)⟩ :: rest) L K := st_pure hg h kk
theorem s0bd {T : TypeId} {ps : Array (Nat × Operand)} (h : OpP P L.heap L.ev (.build T ps) r) (kk : opsL P dr ops rest (L.put dst r) K) : opsL P dr ops (⟨dst, (.build T ps), ty, pos, af, none⟩ :: rest) L K := st_pure rfl h kk
theorem s1bd {T : TypeId} {ps : Array (Nat × Operand)} (hg : GuardIs ops L ⟨dst, (.build T ps), ty, pos, af, some (j, w)⟩ true) (h : OpP P L.heap L.ev (.build T ps) r) (kk : opsL P dr ops rest (L.put dst r) K) : opsL P dr ops (⟨dst, (.build T ps), ty, pos, af, some (j, w)⟩ :: rest) L K := st_pure hg h kk
theorem s1mv {p : Operand} (hg : GuardIs ops L ⟨dst, (.move p), ty, pos, af, some (j, w)⟩ true) (h : OpP P L.heap L.ev (.move p) r) (kk : opsL P dr ops rest (L.put dst r) K) : opsL P dr ops (⟨dst, (.move p), ty, pos, af, some (j, w)⟩ :: rest) L K := st_pure hg h kk
theorem s1as {p : Operand} (hg : GuardIs ops L ⟨dst, (.assign p), ty, pos, af, some (j, w)⟩ true) (h : OpP P L.heap L.ev (.assign p) r) (kk : opsL P dr ops rest (L.put dst r) K) : opsL P dr ops (⟨dst, (.assign p), ty, pos, af, some (j, w)⟩ :: rest) L K := st_pure hg h kk
theorem s0bx {T : TypeId} {p : Operand} (hd : L.heap d = none) (h : OpA P L.ev d (.box T p) r bk) (kk : opsL P dr ops rest ((L.setB d (some bk)).put (some d) r) K) : opsL P dr ops (⟨some d, (.box T p), ty, pos, af, none⟩ :: rest) L K := st_alloc rfl hd h kk
theorem s1bx {T : TypeId} {p : Operand} (hg : GuardIs ops L ⟨some d, (.box T p), ty, pos, af, some (j, w)⟩ true) (hd : L.heap d = none) (h : OpA P L.ev d (.box T p) r bk) (kk : opsL P dr ops rest ((L.setB d (some bk)).put (some d) r) K) : opsL P dr ops (⟨some d, (.box T p), ty, pos, af, some (j, w)⟩ :: rest) L K := st_alloc hg hd h kk
theorem s0al {T : TypeId} (hd : L.heap d = none) (h : OpA P L.ev d (.alloc T) r bk) (kk : opsL P dr ops rest ((L.setB d (some bk)).put (some d) r) K) : opsL P dr ops (⟨some d, (.alloc T), ty, pos, af, none⟩ :: rest) L K := st_alloc rfl hd h kk
theorem s1al {T : TypeId} (hg : GuardIs ops L ⟨some d, (.alloc T), ty, pos, af, some (j, w)⟩ true) (hd : L.heap d = none) (h : OpA P L.ev d (.alloc T) r bk) (kk : opsL P dr ops rest ((L.setB d (some bk)).put (some d) r) K) : opsL P dr ops (⟨some d, (.alloc T), ty, pos, af, some (j, w)⟩ :: rest) L K := st_alloc hg hd h kk
theorem s0bs {T : TypeId} {n : Nat} {ps : Array (Nat × Operand)} (hd : L.heap d = none) (h : OpA P L.ev d (.buildSlice T n ps) r bk) (kk : opsL P dr ops rest ((L.setB d (some bk)).put (some d) r) K) : opsL P dr ops (⟨some d, (.buildSlice T n ps), ty, pos, af, none⟩ :: rest) L K := st_alloc rfl hd h kk
theorem s1bs {T : TypeId} {n : Nat} {ps : Array (Nat × Operand)} (hg : GuardIs ops L ⟨some d, (.buildSlice T n ps), ty, pos, af, some (j, w)⟩ true) (hd : L.heap d = none) (h : OpA P L.ev d (.buildSlice T n ps) r bk) (kk : opsL P dr ops rest ((L.setB d (some bk)).put (some d) r) K) : opsL P dr ops (⟨some d, (.buildSlice T n ps), ty, pos, af, some (j, w)⟩ :: rest) L K := st_alloc hg hd h kk
theorem s0sr {T : TypeId} {p y : Operand} (h : OpT P L dst (.store T p y) L') (kk : opsL P dr ops rest L' K) : opsL P dr ops (⟨dst, .store T p y, ty, pos, af, none⟩ :: rest) L K := st_store rfl h kk
theorem s1sr {T : TypeId} {p y : Operand} (hg : GuardIs ops L ⟨dst, .store T p y, ty, pos, af, some (j, w)⟩ true) (h : OpT P L dst (.store T p y) L') (kk : opsL P dr ops rest L' K) : opsL P dr ops (⟨dst, .store T p y, ty, pos, af, some (j, w)⟩ :: rest) L K := st_store hg h kk
theorem s1sk {op : Op} (hg : GuardIs ops L ⟨dst, op, ty, pos, af, some (j, w)⟩ false) (kk : opsL P dr ops rest (L.put dst .any) K) : opsL P dr ops (⟨dst, op, ty, pos, af, some (j, w)⟩ :: rest) L K := st_skip hg kk
end
theorem zGt {p : Prop} (h : p := by first | exact guardX (v := true) rfl rfl as0 rfl | exact guardX (v := false) rfl rfl as0 rfl) : p := h
theorem zGf {p : Prop} (h : p := by first | exact guardX (v := true) rfl rfl as0 rfl | exact guardX (v := false) rfl rfl as0 rfl) : p := h
theorem zSt {p q : Prop} (k : q) (h : Hold q → p := by intro kk; first | (apply then_n; exact kk.h) | (apply wl_seq; exact kk.h) | (apply mv; exact kk.h) | (apply asg; exact kk.h) | (apply st_end; exact nf; exact kk.h) | (apply wl_reg; exact kk.h) | (apply s0ld; exact ldA; exact kk.h) | (apply s0bi; exact biA; exact kk.h) | (apply s0ln; exact lnA; exact kk.h) | (apply s0fa; exact faA; exact kk.h) | (apply s0ix; exact ixA; exact kk.h) | (apply s0ex; exact .extract rfl rfl nt0; exact kk.h) | (apply s0sr; exact srA; exact kk.h) | (apply s0bx; exact rfl; (first | (apply OpA.bxE; exact rfl) | exact .box ne0); exact kk.h) | (apply s0al; exact rfl; (first | exact .alE | exact .alloc ZI.h); exact kk.h) | (apply s0pk; (first | exact .pickT rfl as0 | exact .pickF rfl as0); exact kk.h) | (apply s0cv; exact cvA; exact kk.h) | (apply s0un; (first | exact .not rfl | exact .neg rfl); exact kk.h) | (apply s0fi; exact .field rfl SI.h rfl rfl; exact kk.h) | (apply s0bs; exact rfl; (first | (apply OpA.l1; exact rfl; decide; decide) | exact .l0 | (apply OpA.l2; exact rfl; exact rfl; decide; decide) | (apply OpA.l3; exact rfl; exact rfl; exact rfl; decide; decide) | (apply OpA.l4; exact rfl; exact rfl; exact rfl; exact rfl; decide; decide)); exact kk.h) | (apply s0bd; (first | exact .buildSp SI.h ZI.h rfl rfl | exact .bd rfl nes); exact kk.h) | (apply s0nc; (first | exact .nilChkE rfl | exact .nilChkB rfl); exact kk.h) | (apply wl_skip; exact kk.h) | (apply wl_block; exact kk.h) | (apply then_e; exact kk.h) | (apply blk_e; exact kk.h) | (apply blk_n; exact kk.h) | (apply wl_condX; exact rfl; exact as0; exact kk.h) | (apply wl_condY; exact rfl; exact as0; exact kk.h) | (apply wl_ret; exact kk.h) | (apply then_r; exact kk.h) | (apply wl_exit; exact kk.h) | (apply blk_r; exact kk.h) | (apply blk_o; decide; exact kk.h) | (apply s1sk; exact zGf; exact kk.h) | (apply s1mv; exact zGt; (exact .move _); exact kk.h) | (apply s1ld; exact zGt; (exact ldA); exact kk.h) | (apply s1bi; exact zGt; (exact biA); exact kk.h) | (apply s1ln; exact zGt; (exact lnA); exact kk.h) | (apply s1fa; exact zGt; (exact faA); exact kk.h) | (apply s1ix; exact zGt; (exact ixA); exact kk.h) | (apply s1ex; exact zGt; (exact .extract rfl rfl nt0); exact kk.h) | (apply s1sr; exact zGt; exact srA; exact kk.h) | (apply s1as; exact zGt; (exact .assign _); exact kk.h) | (apply s1bx; exact zGt; exact rfl; (first | (apply OpA.bxE; exact rfl) | exact .box ne0); exact kk.h) | (apply s1al; exact zGt; exact rfl; (first | exact .alE | exact .alloc ZI.h); exact kk.h) | (apply s1pk; exact zGt; (first | exact .pickT rfl as0 | exact .pickF rfl as0); exact kk.h) | (apply s1cv; exact zGt; (exact cvA); exact kk.h) | (apply s1un; exact zGt; (first | exact .not rfl | exact .neg rfl); exact kk.h) | (apply s1fi; exact zGt; (exact .field rfl SI.h rfl rfl); exact kk.h) | (apply s1bs; exact zGt; exact rfl; (first | (apply OpA.l1; exact rfl; decide; decide) | exact .l0 | (apply OpA.l2; exact rfl; exact rfl; decide; decide) | (apply OpA.l3; exact rfl; exact rfl; exact rfl; decide; decide) | (apply OpA.l4; exact rfl; exact rfl; exact rfl; exact rfl; decide; decide)); exact kk.h) | (apply s1bd; exact zGt; (first | exact .buildSp SI.h ZI.h rfl rfl | exact .bd rfl nes); exact kk.h) | (apply s1nc; exact zGt; (first | exact .nilChkE rfl | exact .nilChkB rfl); exact kk.h)) : p := h ⟨k⟩
theorem zg1 {p q : Prop} (k : q) (h : Hold q → p := by intro hq; (iterate 1 refine zSt ?_); exact hq.h) : p := h ⟨k⟩
theorem zg2 {p q : Prop} (k : q) (h : Hold q → p := by intro hq; (iterate 2 refine zSt ?_); exact hq.h) : p := h ⟨k⟩
theorem zg3 {p q : Prop} (k : q) (h : Hold q → p := by intro hq; (iterate 3 refine zSt ?_); exact hq.h) : p := h ⟨k⟩
theorem zg4 {p q : Prop} (k : q) (h : Hold q → p := by intro hq; (iterate 4 refine zSt ?_); exact hq.h) : p := h ⟨k⟩
theorem zg5 {p q : Prop} (k : q) (h : Hold q → p := by intro hq; (iterate 5 refine zSt ?_); exact hq.h) : p := h ⟨k⟩
theorem zg6 {p q : Prop} (k : q) (h : Hold q → p := by intro hq; (iterate 6 refine zSt ?_); exact hq.h) : p := h ⟨k⟩
theorem zg7 {p q : Prop} (k : q) (h : Hold q → p := by intro hq; (iterate 7 refine zSt ?_); exact hq.h) : p := h ⟨k⟩
theorem zg8 {p q : Prop} (k : q) (h : Hold q → p := by intro hq; (iterate 8 refine zSt ?_); exact hq.h) : p := h ⟨k⟩
theorem zg9 {p q : Prop} (k : q) (h : Hold q → p := by intro hq; (iterate 9 refine zSt ?_); exact hq.h) : p := h ⟨k⟩
theorem zg10 {p q : Prop} (k : q) (h : Hold q → p := by intro hq; (iterate 10 refine zSt ?_); exact hq.h) : p := h ⟨k⟩
theorem zg11 {p q : Prop} (k : q) (h : Hold q → p := by intro hq; (iterate 11 refine zSt ?_); exact hq.h) : p := h ⟨k⟩
theorem zg12 {p q : Prop} (k : q) (h : Hold q → p := by intro hq; (iterate 12 refine zSt ?_); exact hq.h) : p := h ⟨k⟩
theorem zg13 {p q : Prop} (k : q) (h : Hold q → p := by intro hq; (iterate 13 refine zSt ?_); exact hq.h) : p := h ⟨k⟩
theorem zg14 {p q : Prop} (k : q) (h : Hold q → p := by intro hq; (iterate 14 refine zSt ?_); exact hq.h) : p := h ⟨k⟩
theorem zg15 {p q : Prop} (k : q) (h : Hold q → p := by intro hq; (iterate 15 refine zSt ?_); exact hq.h) : p := h ⟨k⟩
theorem zg16 {p q : Prop} (k : q) (h : Hold q → p := by intro hq; (iterate 16 refine zSt ?_); exact hq.h) : p := h ⟨k⟩
theorem zg17 {p q : Prop} (k : q) (h : Hold q → p := by intro hq; (iterate 17 refine zSt ?_); exact hq.h) : p := h ⟨k⟩
theorem zg18 {p q : Prop} (k : q) (h : Hold q → p := by intro hq; (iterate 18 refine zSt ?_); exact hq.h) : p := h ⟨k⟩
theorem zg19 {p q : Prop} (k : q) (h : Hold q → p := by intro hq; (iterate 19 refine zSt ?_); exact hq.h) : p := h ⟨k⟩
theorem zg20 {p q : Prop} (k : q) (h : Hold q → p := by intro hq; (iterate 20 refine zSt ?_); exact hq.h) : p := h ⟨k⟩
theorem zg21 {p q : Prop} (k : q) (h : Hold q → p := by intro hq; (iterate 21 refine zSt ?_); exact hq.h) : p := h ⟨k⟩
theorem zg22 {p q : Prop} (k : q) (h : Hold q → p := by intro hq; (iterate 22 refine zSt ?_); exact hq.h) : p := h ⟨k⟩
theorem zg23 {p q : Prop} (k : q) (h : Hold q → p := by intro hq; (iterate 23 refine zSt ?_); exact hq.h) : p := h ⟨k⟩
theorem zg24 {p q : Prop} (k : q) (h : Hold q → p := by intro hq; (iterate 24 refine zSt ?_); exact hq.h) : p := h ⟨k⟩
theorem zg25 {p q : Prop} (k : q) (h : Hold q → p := by intro hq; (iterate 25 refine zSt ?_); exact hq.h) : p := h ⟨k⟩
theorem zg26 {p q : Prop} (k : q) (h : Hold q → p := by intro hq; (iterate 26 refine zSt ?_); exact hq.h) : p := h ⟨k⟩
theorem zg27 {p q : Prop} (k : q) (h : Hold q → p := by intro hq; (iterate 27 refine zSt ?_); exact hq.h) : p := h ⟨k⟩
theorem zg28 {p q : Prop} (k : q) (h : Hold q → p := by intro hq; (iterate 28 refine zSt ?_); exact hq.h) : p := h ⟨k⟩
theorem zg29 {p q : Prop} (k : q) (h : Hold q → p := by intro hq; (iterate 29 refine zSt ?_); exact hq.h) : p := h ⟨k⟩
theorem zg30 {p q : Prop} (k : q) (h : Hold q → p := by intro hq; (iterate 30 refine zSt ?_); exact hq.h) : p := h ⟨k⟩
theorem zg31 {p q : Prop} (k : q) (h : Hold q → p := by intro hq; (iterate 31 refine zSt ?_); exact hq.h) : p := h ⟨k⟩
theorem zg32 {p q : Prop} (k : q) (h : Hold q → p := by intro hq; (iterate 32 refine zSt ?_); exact hq.h) : p := h ⟨k⟩
theorem zg33 {p q : Prop} (k : q) (h : Hold q → p := by intro hq; (iterate 33 refine zSt ?_); exact hq.h) : p := h ⟨k⟩
theorem zg34 {p q : Prop} (k : q) (h : Hold q → p := by intro hq; (iterate 34 refine zSt ?_); exact hq.h) : p := h ⟨k⟩
theorem zg35 {p q : Prop} (k : q) (h : Hold q → p := by intro hq; (iterate 35 refine zSt ?_); exact hq.h) : p := h ⟨k⟩
theorem zg36 {p q : Prop} (k : q) (h : Hold q → p := by intro hq; (iterate 36 refine zSt ?_); exact hq.h) : p := h ⟨k⟩
theorem zg37 {p q : Prop} (k : q) (h : Hold q → p := by intro hq; (iterate 37 refine zSt ?_); exact hq.h) : p := h ⟨k⟩
theorem zg38 {p q : Prop} (k : q) (h : Hold q → p := by intro hq; (iterate 38 refine zSt ?_); exact hq.h) : p := h ⟨k⟩
theorem zg39 {p q : Prop} (k : q) (h : Hold q → p := by intro hq; (iterate 39 refine zSt ?_); exact hq.h) : p := h ⟨k⟩
theorem zg40 {p q : Prop} (k : q) (h : Hold q → p := by intro hq; (iterate 40 refine zSt ?_); exact hq.h) : p := h ⟨k⟩
theorem zg41 {p q : Prop} (k : q) (h : Hold q → p := by intro hq; (iterate 41 refine zSt ?_); exact hq.h) : p := h ⟨k⟩
theorem zg42 {p q : Prop} (k : q) (h : Hold q → p := by intro hq; (iterate 42 refine zSt ?_); exact hq.h) : p := h ⟨k⟩
theorem zg43 {p q : Prop} (k : q) (h : Hold q → p := by intro hq; (iterate 43 refine zSt ?_); exact hq.h) : p := h ⟨k⟩
theorem zg44 {p q : Prop} (k : q) (h : Hold q → p := by intro hq; (iterate 44 refine zSt ?_); exact hq.h) : p := h ⟨k⟩
theorem zg45 {p q : Prop} (k : q) (h : Hold q → p := by intro hq; (iterate 45 refine zSt ?_); exact hq.h) : p := h ⟨k⟩
theorem zg46 {p q : Prop} (k : q) (h : Hold q → p := by intro hq; (iterate 46 refine zSt ?_); exact hq.h) : p := h ⟨k⟩
theorem zg47 {p q : Prop} (k : q) (h : Hold q → p := by intro hq; (iterate 47 refine zSt ?_); exact hq.h) : p := h ⟨k⟩
theorem zg48 {p q : Prop} (k : q) (h : Hold q → p := by intro hq; (iterate 48 refine zSt ?_); exact hq.h) : p := h ⟨k⟩
theorem zg49 {p q : Prop} (k : q) (h : Hold q → p := by intro hq; (iterate 49 refine zSt ?_); exact hq.h) : p := h ⟨k⟩
theorem zg50 {p q : Prop} (k : q) (h : Hold q → p := by intro hq; (iterate 50 refine zSt ?_); exact hq.h) : p := h ⟨k⟩
theorem zg51 {p q : Prop} (k : q) (h : Hold q → p := by intro hq; (iterate 51 refine zSt ?_); exact hq.h) : p := h ⟨k⟩
theorem zg52 {p q : Prop} (k : q) (h : Hold q → p := by intro hq; (iterate 52 refine zSt ?_); exact hq.h) : p := h ⟨k⟩
theorem zg53 {p q : Prop} (k : q) (h : Hold q → p := by intro hq; (iterate 53 refine zSt ?_); exact hq.h) : p := h ⟨k⟩
theorem zg54 {p q : Prop} (k : q) (h : Hold q → p := by intro hq; (iterate 54 refine zSt ?_); exact hq.h) : p := h ⟨k⟩
theorem zg55 {p q : Prop} (k : q) (h : Hold q → p := by intro hq; (iterate 55 refine zSt ?_); exact hq.h) : p := h ⟨k⟩
theorem zg56 {p q : Prop} (k : q) (h : Hold q → p := by intro hq; (iterate 56 refine zSt ?_); exact hq.h) : p := h ⟨k⟩
theorem zg57 {p q : Prop} (k : q) (h : Hold q → p := by intro hq; (iterate 57 refine zSt ?_); exact hq.h) : p := h ⟨k⟩
theorem zg58 {p q : Prop} (k : q) (h : Hold q → p := by intro hq; (iterate 58 refine zSt ?_); exact hq.h) : p := h ⟨k⟩
theorem zg59 {p q : Prop} (k : q) (h : Hold q → p := by intro hq; (iterate 59 refine zSt ?_); exact hq.h) : p := h ⟨k⟩
theorem zg60 {p q : Prop} (k : q) (h : Hold q → p := by intro hq; (iterate 60 refine zSt ?_); exact hq.h) : p := h ⟨k⟩
end Go.Lg
