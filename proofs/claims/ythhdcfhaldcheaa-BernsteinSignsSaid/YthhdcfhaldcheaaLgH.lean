/- The state of a call over logical values; stores and appends; regions in the order of their text. -/
import Derived.Test.YthhdcfhaldcheaaLgG
set_option linter.unusedVariables false
set_option linter.unusedSimpArgs false
namespace Go.Lg

mutual
def LV.kill (b : Nat) : LV → LV
  | .ref c sz off len => if c = b then .any else .ref c sz off len
  | .eptr c sz i o => if c = b then .any else .eptr c sz i o
  | .agg l => .agg (kills b l)
  | .tup l => .tup (kills b l)
  | .any => .any
  | .v x => .v x
  | .list sz l => .list sz l
  | .boxp c => .boxp c
  | .clo f l => .clo f l
def kills (b : Nat) : List LV → List LV
  | [] => []
  | x :: xs => x.kill b :: kills b xs
end
mutual
theorem LV.kill_csize (b : Nat) : ∀ (x : LV), (x.kill b).csize = x.csize
  | .any => rfl | .v _ => rfl | .list .. => rfl | .boxp _ => rfl | .clo .. => rfl
  | .tup _ => rfl
  | .ref c sz off len => by simp only [LV.kill]; split <;> rfl
  | .eptr c sz i o => by simp only [LV.kill]; split <;> rfl
  | .agg l => by simp only [LV.kill, LV.csize, kills_csize b l]
theorem kills_csize (b : Nat) : ∀ (l : List LV), csizes (kills b l) = csizes l
  | [] => rfl
  | x :: xs => by simp only [kills, csizes, LV.kill_csize b x, kills_csize b xs]
end
theorem LV.kill_isAgg (b : Nat) (x : LV) : (x.kill b).isAgg = x.isAgg := by
  cases x with
  | ref c sz off len => simp only [LV.kill]; split <;> rfl
  | eptr c sz i o => simp only [LV.kill]; split <;> rfl
  | _ => rfl
mutual
theorem LV.kill_pure (b : Nat) : ∀ (x : LV), x.pure = true → x.kill b = x
  | .any, _ => rfl
  | .v _, _ => rfl
  | .list sz l, _ => rfl
  | .agg l, h => by simp only [LV.kill, kills_pure b l (by simpa [LV.pure] using h)]
  | .ref .., h => by simp [LV.pure] at h
  | .eptr .., h => by simp [LV.pure] at h
  | .boxp c, _ => rfl
  | .clo g l, _ => rfl
  | .tup l, h => by simp [LV.pure] at h
theorem kills_pure (b : Nat) : ∀ (l : List LV), pures l = true → kills b l = l
  | [], _ => rfl
  | x :: xs, h => by simp only [kills, LV.kill_pure b x (pure_cons h).1, kills_pure b xs (pure_cons h).2]
end

section
variable {Z Z' : Nat → Prop} {μ μ' : Nat → Option Nat} {w w' : World} {b : Nat}
mutual
theorem Rep.kill (hz : ∀ id, Z id → Z' id) (hm : ∀ c id, c ≠ b → μ c = some id → μ' c = some id) (hf : Frame Z μ w w') :
    ∀ (lv : LV) (cs : List Value), Rep Z μ w lv cs → Rep Z' μ' w' (lv.kill b) cs
  | .any, _, h => by simpa [Rep, LV.kill] using h
  | .v x, cs, h => by simpa [Rep, LV.kill] using h
  | .list sz l, cs, h => by
      have hp : (LV.list sz l).pure = true := by
        simp only [Rep] at h
        obtain ⟨a, len, cap, _, _, _, _, h9⟩ := h
        simpa [LV.pure] using h9
      exact Rep.repure hz hf.z _ _ hp h
  | .agg l, cs, h => by
      simp only [Rep, LV.kill] at h ⊢
      exact RepFs.kill hz hm hf l cs h
  | .ref c sz off len, cs, h => by
      simp only [LV.kill]
      split
      · exact fun u hu => Rep.one _ _ h u hu
      · rename_i hne
        simp only [Rep] at h ⊢
        rcases h with h | ⟨id, cap, c', T, fz, h1, h2, h3, h4, h5⟩
        · exact .inl h
        obtain ⟨c2, h6, h7⟩ := hf.m c id h2 c' T fz h4
        exact .inr ⟨id, cap, c2, T, fz, h1, hm _ _ hne h2, h3, h6, by omega⟩
  | .eptr c sz i o, cs, h => by
      simp only [LV.kill]
      split
      · exact fun u hu => Rep.one _ _ h u hu
      · rename_i hne
        simp only [Rep] at h ⊢
        obtain ⟨id, h1, h2⟩ := h
        exact ⟨id, h1, hm _ _ hne h2⟩
  | .boxp c, cs, h => by
      have hp : (LV.boxp c).pure = true := by
        simp only [Rep] at h
        obtain ⟨blk, off, cc, T, fz, part, rest, _, _, _, _, _, _, h7⟩ := h
        simpa [LV.pure] using h7
      exact Rep.repure hz hf.z _ _ hp h
  | .clo f cap, cs, h => by
      have hp : (LV.clo f cap).pure = true := by
        simp only [Rep] at h
        obtain ⟨vs, _, _, h3⟩ := h
        simpa [LV.pure] using h3
      exact Rep.repure hz hf.z _ _ hp h
  | .tup _, _, h => by simp [Rep] at h
theorem RepFs.kill (hz : ∀ id, Z id → Z' id) (hm : ∀ c id, c ≠ b → μ c = some id → μ' c = some id) (hf : Frame Z μ w w') :
    ∀ (l : List LV) (cs : List Value), RepFs Z μ w l cs → RepFs Z' μ' w' (kills b l) cs
  | [], cs, h => by simpa [RepFs, kills] using h
  | x :: xs, cs, h => by
      simp only [RepFs, kills] at h ⊢
      obtain ⟨c1, c2, h1, h2, h3, h4⟩ := h
      exact ⟨c1, c2, h1, by rw [LV.kill_csize]; exact h2, Rep.kill hz hm hf x c1 h3, RepFs.kill hz hm hf xs c2 h4⟩
end
theorem RepAll.kill {sz : Nat} (hz : ∀ id, Z id → Z' id) (hm : ∀ c id, c ≠ b → μ c = some id → μ' c = some id) (hf : Frame Z μ w w') :
    ∀ (l : List LV) (cs : List Value), RepAll Z μ w sz l cs → RepAll Z' μ' w' sz (kills b l) cs
  | [], cs, h => by simpa [RepAll, kills] using h
  | x :: xs, cs, h => by
      simp only [RepAll, kills] at h ⊢
      obtain ⟨c1, c2, h1, h2, h3, h4⟩ := h
      exact ⟨c1, c2, h1, h2, Rep.kill hz hm hf x c1 h3, RepAll.kill hz hm hf xs c2 h4⟩
theorem RepV1.kill (hz : ∀ id, Z id → Z' id) (hm : ∀ c id, c ≠ b → μ c = some id → μ' c = some id) (hf : Frame Z μ w w') {lv : LV} {v : Value}
    (h : RepV1 Z μ w lv v) : RepV1 Z' μ' w' (lv.kill b) v :=
  ⟨fun e => let ⟨cs, h1, h2⟩ := h.1 (by rwa [LV.kill_isAgg] at e); ⟨cs, h1, Rep.kill hz hm hf _ _ h2⟩, fun e => Rep.kill hz hm hf _ _ (h.2 (by rwa [LV.kill_isAgg] at e))⟩
theorem RepVL.kill (hz : ∀ id, Z id → Z' id) (hm : ∀ c id, c ≠ b → μ c = some id → μ' c = some id) (hf : Frame Z μ w w') :
    ∀ (l : List LV) (vs : List Value), RepVL Z μ w l vs → RepVL Z' μ' w' (kills b l) vs
  | [], _, h => h
  | _ :: xs, _, ⟨v, vs', h1, h2, h3⟩ => ⟨v, vs', h1, h2.kill hz hm hf, RepVL.kill hz hm hf xs vs' h3⟩
theorem RepV.kill (hz : ∀ id, Z id → Z' id) (hm : ∀ c id, c ≠ b → μ c = some id → μ' c = some id) (hf : Frame Z μ w w') {lv : LV} {v : Value}
    (h : RepV Z μ w lv v) : RepV Z' μ' w' (lv.kill b) v := by
  cases lv with
  | tup l => obtain ⟨vs, h1, h2⟩ := h; exact ⟨vs, h1, RepVL.kill hz hm hf _ _ h2⟩
  | any => trivial
  | _ =>
    refine RepV.of1 (fun l e => ?_) (RepV1.kill hz hm hf h)
    simp only [LV.kill] at e
    first
      | cases e
      | (split at e <;> cases e)
end

structure St where
  slot : Nat → LV
  heap : Heap

def St.ev (L : St) : Operand → LV
  | .tmp t => L.slot t
  | .const v => if v.oneCell' then .v v else .any
  | .func f => .clo f []
  | .global _ => .any
def St.put (L : St) (d : Option Nat) (r : LV) : St :=
  match d with
  | some t => ⟨fun s => bif Nat.beq s t then r else L.slot s, L.heap⟩
  | none => L
theorem put_slot (L : St) (t : Nat) (r : LV) (s : Nat) : (L.put (some t) r).slot s = if s = t then r else L.slot s := by
  show (bif Nat.beq s t then r else L.slot s) = _
  by_cases h : s = t
  · subst h; simp
  · have : Nat.beq s t = false := by rw [← Bool.not_eq_true, Nat.beq_eq]; exact h
    rw [this, if_neg h]; rfl
def St.setB (L : St) (b : Nat) (x : Option Blk) : St := ⟨L.slot, fun c => if c = b then x else L.heap c⟩
def St.kill (L : St) (b : Nat) : St :=
  ⟨fun t => (L.slot t).kill b, fun c => if c = b then none else (L.heap c).map fun blk => ⟨blk.sz, kills b blk.vals, blk.mt⟩⟩

def Sim (n : Nat) (W : World) (X Z0 : Nat → Prop) (L : St) (a : Act) (w : World) : Prop :=
  a.defers = [] ∧ a.tmps.size = n ∧ ∃ μ Z, Core W X Z0 μ Z L.heap w ∧ ∀ t, RepV Z μ w (L.slot t) (a.tmps.getD t undef)

/-- arguments of a call that writes the block b -/
inductive ArgM (H : Heap) (b : Nat) : LV → LV → Prop
  | imm {x y} (h : Imm H x y) : ArgM H b x y
  | ref {sz off len} : ArgM H b (.ref b sz off len) (.ref 0 sz off len)
  | ptr {sz i o} : ArgM H b (.eptr b sz i o) (.eptr 0 sz i o)
inductive ArgML (H : Heap) (b : Nat) : List LV → List LV → Prop
  | nil : ArgML H b [] []
  | cons {x y xs ys} (h : ArgM H b x y) (t : ArgML H b xs ys) : ArgML H b (x :: xs) (y :: ys)

/-- some argument names the block -/
inductive Names (b : Nat) : List LV → Prop
  | ref {sz off len xs} (h : 0 < len) : Names b (.ref b sz off len :: xs)
  | ptr {sz i o xs} : Names b (.eptr b sz i o :: xs)
  | tl {x xs} (h : Names b xs) : Names b (x :: xs)

/-- A call that writes a block of the caller's. -/
inductive OpM (P : Program) (L : St) (dst : Option Tmp) : Op → St → Prop
  | call {f xs as args r b blk blk'} (hb : L.heap b = some blk) (hm : blk.mt = true) (hp : pures blk.vals = true) (ha : ArgML L.heap b (xs.toList.map L.ev) args) (hn : Names b (xs.toList.map L.ev)) (hk : CallOKM P f blk args r blk')
      (hm' : blk'.mt = true) (hp' : pures blk'.vals = true) :
      OpM P L dst (.call ⟨.value (.func f), xs, as⟩) ((L.setB b (some blk')).put dst (r.ren fun _ => b))

/-- Operations that change a block. -/
inductive OpT (P : Program) (L : St) (dst : Option Tmp) : Op → St → Prop
  | store {T p x b sz i o blk y y'} (hp : L.ev p = .eptr b sz i o) (hb : L.heap b = some blk) (hs : blk.sz = sz) (hm : blk.mt = true) (hi : blk.vals[i]? = some y) (hy : y.csize = sz)
      (hput : y.put o (L.ev x) = some y') (hT : TyIs P T (L.ev x).csize (L.ev x).isAgg) (hne : L.ev x ≠ .any ∧ ∀ l, L.ev x ≠ .tup l) :
      OpT P L dst (.store T p x) ((L.setB b (some ⟨sz, blk.vals.set i y', true⟩)).put dst .any)
  /-- append to a slice of the call's own -/
  | app {T U E E' d b sz len blk x y news z by_} (hd : dst = some d) (hx : L.ev x = .ref b sz 0 len) (hb : L.heap b = some blk) (hs : blk.sz = sz) (hm : blk.mt = true) (hlen : len ≤ blk.vals.length) (hbd : d = b ∨ L.heap d = none) (hb0 : b ≠ 0)
      (hT : P.underlying T = some (.slice E)) (hU : P.underlying U = some (.slice E')) (hz : ZeroOK P E z) (hE : TyIs P E sz z.isAgg) (hzs : z.csize = sz) (hby : TyBytes P E by_)
      (hy : (∃ c off blk2, L.ev y = .ref c sz off news.length ∧ c ≠ b ∧ L.heap c = some blk2 ∧ blk2.sz = sz ∧ off + news.length ≤ blk2.vals.length ∧ news = (blk2.vals.drop off).take news.length ∧ pures news = true) ∨
        L.ev y = .list sz news ∨ (L.ev y = .v (.slice none 0 0) ∧ news = []))
      (hsz : (len + news.length) * by_ ≤ 140737488355328) (h63 : len + news.length ≤ 4611686018427387904) (hs0 : 0 < sz) :
      OpT P L dst (.call ⟨.builtin .append, #[x, y], #[T, U]⟩) (((L.kill b).setB d (some ⟨sz, kills b (blk.vals.take len ++ news), true⟩)).put dst (.ref d sz 0 (len + news.length)))
  /-- append to the nil slice -/
  | app0 {T U E E' d sz x y news z by_} (hd : dst = some d) (hx : L.ev x = .v (.slice none 0 0)) (hbd : L.heap d = none)
      (hT : P.underlying T = some (.slice E)) (hU : P.underlying U = some (.slice E')) (hz : ZeroOK P E z) (hE : TyIs P E sz z.isAgg) (hzs : z.csize = sz) (hby : TyBytes P E by_)
      (hy : (∃ c off blk2, L.ev y = .ref c sz off news.length ∧ L.heap c = some blk2 ∧ blk2.sz = sz ∧ off + news.length ≤ blk2.vals.length ∧ news = (blk2.vals.drop off).take news.length ∧ pures news = true) ∨
        L.ev y = .list sz news)
      (hn : 0 < news.length) (hsz : news.length * by_ ≤ 140737488355328) (h63 : news.length ≤ 4611686018427387904) (hs0 : 0 < sz) :
      OpT P L dst (.call ⟨.builtin .append, #[x, y], #[T, U]⟩) ((L.setB d (some ⟨sz, news, true⟩)).put dst (.ref d sz 0 news.length))

section
variable {P : Program} {W w w' : World} {X Z0 Z : Nat → Prop} {μ : Nat → Option Nat} {H : Heap} {a : Act} {L L' : St} {n : Nat}

theorem undef_one : undef.oneCell' = false := rfl
theorem ev_rep (h : ∀ t, RepV Z μ w (L.slot t) (a.tmps.getD t undef)) (x : Operand) : RepV Z μ w (L.ev x) (a.eval x) := by
  cases x with
  | tmp t => exact h t
  | const v =>
    simp only [St.ev, Act.eval]
    split
    · exact RepV.v (by assumption)
    · trivial
  | func f =>
    simp only [St.ev, Act.eval]
    exact ⟨by simp [LV.isAgg], fun _ => by simp [Rep, RepAll, pures]⟩
  | global g => simp only [St.ev]; trivial

theorem put_rep {d : Option Nat} {r : LV} {v : Value} (hd : ∀ t, d = some t → t < a.tmps.size) (h : ∀ t, RepV Z μ w (L.slot t) (a.tmps.getD t undef)) (hv : RepV Z μ w r v) :
    ∀ t, RepV Z μ w ((L.put d r).slot t) ((a.put d v).tmps.getD t undef) := by
  intro t
  cases d with
  | none => exact h t
  | some s =>
    rw [put_slot]
    simp only [Act.put]
    by_cases hts : t = s
    · subst hts
      have := hd t rfl
      simp [this]
      exact hv
    · have := h t
      simp only [hts, if_false, Array.getD_eq_getD_getElem?, Array.getElem?_setIfInBounds_ne (Ne.symm hts)] at this ⊢
      exact this
theorem put_size (a : Act) (d : Option Nat) (v : Value) : (a.put d v).tmps.size = a.tmps.size := by cases d <;> simp [Act.put]
theorem put_defers (a : Act) (d : Option Nat) (v : Value) : (a.put d v).defers = a.defers := by cases d <;> rfl
theorem put_heap (L : St) (d : Option Nat) (r : LV) : (L.put d r).heap = L.heap := by cases d <;> rfl
end
end Go.Lg
