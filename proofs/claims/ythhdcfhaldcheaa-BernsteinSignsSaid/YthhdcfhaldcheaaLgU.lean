/- Arithmetic of machine integers over natural numbers, and rules for walks. -/
import Derived.Test.YthhdcfhaldcheaaLgV
set_option linter.unusedVariables false
set_option linter.unusedSimpArgs false
namespace Go.Lg

/-- natural numbers as machine integers -/
abbrev nU64 (n : Nat) : LV := .v (.int .u64 ((n : Nat) : Int))
abbrev nU32 (n : Nat) : LV := .v (.int .u32 ((n : Nat) : Int))
abbrev nI64 (n : Nat) : LV := .v (.int .i64 ((n : Nat) : Int))
abbrev bL (b : Bool) : LV := .v (.bool b)
abbrev iL (n : Int) : LV := .v (.int .i64 n)

section
variable {a b : Nat}
theorem addU (h : a + b < 18446744073709551616) : binI .add .u64 (a : Nat) (b : Nat) = some (.int .u64 ((a + b : Nat) : Int)) := by
  simp only [binI]; rw [IntWalk.u64_in _ (by omega)]; simp
theorem mulU (h : a * b < 18446744073709551616) : binI .mul .u64 (a : Nat) (b : Nat) = some (.int .u64 ((a * b : Nat) : Int)) := by
  simp only [binI]
  have e : ((a : Int) * (b : Int)) = ((a * b : Nat) : Int) := by simp
  rw [e, IntWalk.u64_in _ (by omega)]
theorem subU (h : b ≤ a) (h1 : a < 18446744073709551616) : binI .sub .u64 (a : Nat) (b : Nat) = some (.int .u64 ((a - b : Nat) : Int)) := by
  simp only [binI]; rw [IntWalk.u64_in _ (by omega)]; congr 2; omega
/-- below 0 -/
theorem subUw (h : a < b) (h1 : b ≤ 18446744073709551616) : binI .sub .u64 (a : Nat) (b : Nat) = some (.int .u64 ((18446744073709551616 + a - b : Nat) : Int)) := by
  simp only [binI]; rw [IntKind.wrap_u64]; congr 2; omega
/-- below 0 or not -/
theorem subW (h : b ≤ 18446744073709551616) : binI .sub .u64 (a : Nat) (b : Nat) = some (.int .u64 (((18446744073709551616 + a - b) % 18446744073709551616 : Nat) : Int)) := by
  simp only [binI]; rw [IntKind.wrap_u64]; congr 2; omega
theorem quoU (h : 0 < b) (h1 : a < 18446744073709551616) : binI .quo .u64 (a : Nat) (b : Nat) = some (.int .u64 ((a / b : Nat) : Int)) := by
  have e : ((a : Int).tdiv (b : Int)) = ((a / b : Nat) : Int) := by simp
  have h2 : a / b ≤ a := Nat.div_le_self a b
  simp only [binI]; rw [if_neg (by omega), e, IntWalk.u64_in _ ⟨Int.natCast_nonneg _, by omega⟩]
theorem remU (h : 0 < b) : binI .rem .u64 (a : Nat) (b : Nat) = some (.int .u64 ((a % b : Nat) : Int)) := by
  simp only [binI]; rw [if_neg (by omega)]; congr 2
theorem shl32 (h : a * 4294967296 < 18446744073709551616) : shI .shl .u64 (a : Nat) 32 = some (.int .u64 ((a * 4294967296 : Nat) : Int)) := by
  have e : (2 : Int) ^ min (32 : Int).toNat IntKind.u64.bits = 4294967296 := by decide
  simp only [shI]
  rw [if_neg (by omega), e, IntWalk.u64_in _ (by omega)]; simp
theorem shr32 : shI .shr .u64 (a : Nat) 32 = some (.int .u64 ((a / 4294967296 : Nat) : Int)) := by
  have e : (2 : Int) ^ min (32 : Int).toNat IntKind.u64.bits = 4294967296 := by decide
  simp only [shI]
  rw [if_neg (by omega), e, Int.fdiv_eq_ediv_of_nonneg _ (by omega)]
  congr 2
theorem shr63 : shI .shr .u64 (a : Nat) 63 = some (.int .u64 ((a / 9223372036854775808 : Nat) : Int)) := by
  have e : (2 : Int) ^ min (63 : Int).toNat IntKind.u64.bits = 9223372036854775808 := by decide
  simp only [shI]
  rw [if_neg (by omega), e, Int.fdiv_eq_ediv_of_nonneg _ (by omega)]
  congr 2
theorem bv_nat (n w : Nat) : (BitVec.ofInt w (n : Int)) = BitVec.ofNat w n := by simp
theorem orU {x : Nat} (hb : b < 4294967296) (hx : x < 4294967296) : binI .or .u64 ((x * 4294967296 : Nat) : Int) (b : Nat) = some (.int .u64 ((x * 4294967296 + b : Nat) : Int)) := by
  have e : (BitVec.ofInt IntKind.u64.bits ((x * 4294967296 : Nat) : Int) ||| BitVec.ofInt IntKind.u64.bits (b : Int)).toNat = x * 4294967296 + b := by
    rw [bv_nat, bv_nat, BitVec.toNat_or, BitVec.toNat_ofNat, BitVec.toNat_ofNat]
    have e1 : x * 4294967296 % 2 ^ IntKind.u64.bits = x * 4294967296 := Nat.mod_eq_of_lt (by show _ < 18446744073709551616; omega)
    have e2 : b % 2 ^ IntKind.u64.bits = b := Nat.mod_eq_of_lt (by show _ < 18446744073709551616; omega)
    rw [e1, e2]
    have := Nat.shiftLeft_add_eq_or_of_lt (i := 32) (b := b) (by simpa using hb) x
    rw [Nat.shiftLeft_eq] at this
    exact this.symm
  simp only [binI, e]
  rw [IntWalk.u64_in _ (by omega)]
theorem wrap32 : IntKind.u32.wrap (a : Nat) = ((a % 4294967296 : Nat) : Int) := by rw [IntKind.wrap_u32]; omega
theorem wrap64 (h : a < 18446744073709551616) : IntKind.u64.wrap (a : Nat) = (a : Int) := IntWalk.u64_in _ (by omega)
theorem mulLt {x y : Nat} (hx : x < 4294967296) (hy : y < 4294967296) : x * y ≤ 18446744065119617025 := by
  have := Nat.mul_le_mul (Nat.le_sub_one_of_lt hx) (Nat.le_sub_one_of_lt hy)
  simpa using this
end

section
variable {P : Program} {H : Heap} {ρ : Operand → LV} {S D : TypeId} {x : Operand} {n : Nat} {k' : IntKind}
theorem OpP.lenLm {α : Type} {e : α → LV} {sz : Nat} {l : List α} {T : TypeId} {d : TypeId} {as : Array TypeId} (hx : ρ x = .list sz (l.map e)) (has : as = #[T]) (hT : P.underlying T = some (.slice d)) :
    OpP P H ρ (.call ⟨.builtin .len, #[x], as⟩) (nI64 l.length) := by
  have := OpP.lenL (H := H) hx has hT
  rwa [List.length_map] at this
/-- conversions to 32 and 64 bits -/
theorem OpP.cv32 {d : TypeDesc} (hS : P.underlying S = some d) (hD : P.underlying D = some (.int .u32)) (hx : ρ x = .v (.int k' (n : Nat))) : OpP P H ρ (.convert S D x) (nU32 (n % 4294967296)) := by
  have := OpP.conv (H := H) hS hD hx
  rwa [wrap32] at this
theorem OpP.cv64 {d : TypeDesc} (hS : P.underlying S = some d) (hD : P.underlying D = some (.int .u64)) (hx : ρ x = .v (.int k' (n : Nat))) (h : n < 18446744073709551616) : OpP P H ρ (.convert S D x) (nU64 n) := by
  have := OpP.conv (H := H) hS hD hx
  rwa [wrap64 h] at this
theorem OpP.cvI {d : TypeDesc} {m : Int} (hS : P.underlying S = some d) (hD : P.underlying D = some (.int .i64)) (hx : ρ x = .v (.int k' m)) (h1 : -9223372036854775808 ≤ m) (h2 : m ≤ 9223372036854775807) : OpP P H ρ (.convert S D x) (iL m) := by
  have := OpP.conv (H := H) hS hD hx
  rwa [IntWalk.i64_in _ ⟨h1, h2⟩] at this
end

section
variable {P : Program} {Q : LEx → St → Prop} {L L0 : St} {K : St → Prop} {dr : Bool} {ops : Array Oper} {l : List Oper}
theorem opsL_split {d : Nat} {b : Bool} (h : L.slot d = .v (.bool b)) (ht : b = true → opsL P dr ops l L K) (hf : b = false → opsL P dr ops l L K) : opsL P dr ops l L K := by
  cases b with
  | true => exact ht rfl
  | false => exact hf rfl
theorem wl_condX {c : Operand} {x y : Code} {b : Bool} (hc : L.ev c = .v (.bool b)) (hb : b = true) (h : wpL P x Q L) : wpL P (.cond c x y) Q L := wl_cond hc (fun _ => h) (fun e => by rw [hb] at e; cases e)
theorem wl_condY {c : Operand} {x y : Code} {b : Bool} (hc : L.ev c = .v (.bool b)) (hb : b = false) (h : wpL P y Q L) : wpL P (.cond c x y) Q L := wl_cond hc (fun e => by rw [hb] at e; cases e) (fun _ => h)
end

/-- a nil slice, told as an empty block of the call's own -/
theorem Weak.own {L : St} {t : Nat} (d sz : Nat) (h : L.slot t = .v (.slice none 0 0)) (hd : L.heap d = none) : Weak L ((L.setB d (some ⟨sz, [], true⟩)).put (some t) (.ref d sz 0 0)) := by
  rintro n W X Z0 a w ⟨hdf, hsz, μ, Z, hc, hr⟩
  refine ⟨hdf, hsz, μ, Z, ?_, fun s => ?_⟩
  · rw [put_heap]
    refine hc.reheap fun c id hcd => ?_
    have : c ≠ d := by rintro rfl; rw [mu_none hc hd] at hcd; cases hcd
    simp [St.setB, this]
  · rw [put_slot]
    split
    · rename_i hst
      subst hst
      have e := hr s
      rw [h] at e
      rw [e.v_eq]
      exact ⟨by simp [LV.isAgg], fun _ => by simp [Rep]⟩
    · exact hr s
/-- a slot that is not looked at any more -/
theorem Weak.any (L : St) (t : Nat) : Weak L (L.put (some t) .any) := by
  rintro n W X Z0 a w ⟨hdf, hsz, μ, Z, hc, hr⟩
  refine ⟨hdf, hsz, μ, Z, by rw [put_heap]; exact hc, fun s => ?_⟩
  rw [put_slot]
  split
  · trivial
  · exact hr s
/-- an empty list of either kind is the nil slice's or an empty one's -/
theorem Weak.nilL {L : St} {t : Nat} (sz : Nat) (h : L.slot t = .v (.slice none 0 0)) : Weak L (L.put (some t) (.list sz [])) := by
  rintro n W X Z0 a w ⟨hdf, hsz, μ, Z, hc, hr⟩
  refine ⟨hdf, hsz, μ, Z, by rw [put_heap]; exact hc, fun s => ?_⟩
  rw [put_slot]
  split
  · rename_i hst
    subst hst
    have e := hr s
    rw [h] at e
    rw [e.v_eq]
    exact ⟨by simp [LV.isAgg], fun _ => by simp only [Rep]; exact ⟨none, 0, 0, rfl, rfl, Nat.le_refl _, .inl trivial, rfl⟩⟩
  · exact hr s

/-! ### Heaps as lists -/
def hp : List (Nat × Blk) → Heap
  | [], _ => none
  | (b, x) :: l, c => bif Nat.beq c b then some x else hp l c
def ins (b : Nat) (x : Blk) : List (Nat × Blk) → List (Nat × Blk)
  | [] => [(b, x)]
  | (c, y) :: l => bif Nat.beq c b then (b, x) :: l else (c, y) :: ins b x l
def killH (b : Nat) : List (Nat × Blk) → List (Nat × Blk)
  | [] => []
  | (c, y) :: l => bif Nat.beq c b then killH b l else (c, ⟨y.sz, kills b y.vals, y.mt⟩) :: killH b l
def frzH (bs : List Nat) : List (Nat × Blk) → List (Nat × Blk)
  | [] => []
  | (c, y) :: l => (c, ⟨y.sz, y.vals, y.mt && !bs.contains c⟩) :: frzH bs l
theorem beq_eq {a b : Nat} (h : Nat.beq a b = true) : a = b := Nat.eq_of_beq_eq_true h
theorem beq_self (a : Nat) : Nat.beq a a = true := by rw [Nat.beq_eq]
theorem beq_ne {a b : Nat} (h : a ≠ b) : Nat.beq a b = false := by rw [← Bool.not_eq_true, Nat.beq_eq]; exact h
theorem hp_ins (b : Nat) (x : Blk) : ∀ (l : List (Nat × Blk)) (c : Nat), hp (ins b x l) c = if c = b then some x else hp l c
  | [], c => by
      simp only [ins, hp]
      by_cases h : c = b
      · subst h; rw [beq_self]; simp
      · rw [beq_ne h, if_neg h]; rfl
  | (d, y) :: l, c => by
      simp only [ins]
      by_cases hdb : d = b
      · subst hdb
        rw [beq_self]
        simp only [cond_true, hp]
        by_cases h : c = d
        · subst h; rw [beq_self]; simp
        · rw [beq_ne h, if_neg h]; rfl
      · rw [beq_ne hdb]
        simp only [cond_false, hp, hp_ins b x l c]
        by_cases h : c = d
        · subst h; rw [beq_self]; simp [hdb]
        · rw [beq_ne h]; rfl
theorem hp_kill (b : Nat) : ∀ (l : List (Nat × Blk)) (c : Nat), hp (killH b l) c = if c = b then none else (hp l c).map fun blk => ⟨blk.sz, kills b blk.vals, blk.mt⟩
  | [], c => by simp [killH, hp]
  | (d, y) :: l, c => by
      simp only [killH]
      by_cases hdb : d = b
      · subst hdb
        rw [beq_self]
        simp only [cond_true, hp_kill d l c, hp]
        by_cases h : c = d
        · rw [if_pos h, if_pos h]
        · rw [if_neg h, if_neg h, beq_ne h]; rfl
      · rw [beq_ne hdb]
        simp only [cond_false, hp, hp_kill b l c]
        by_cases h : c = d
        · subst h; rw [beq_self]; simp [hdb]
        · rw [beq_ne h]; rfl
theorem hp_frz (bs : List Nat) : ∀ (l : List (Nat × Blk)) (c : Nat), hp (frzH bs l) c = (hp l c).map fun blk => ⟨blk.sz, blk.vals, blk.mt && !bs.contains c⟩
  | [], c => rfl
  | (d, y) :: l, c => by
      simp only [frzH, hp, hp_frz bs l c]
      by_cases h : c = d
      · subst h; rw [beq_self]; rfl
      · rw [beq_ne h]; rfl
theorem b1 (s : Nat → LV) (l : List (Nat × Blk)) (b : Nat) (x : Blk) : (St.mk s (hp l)).setB b (some x) = St.mk s (hp (ins b x l)) := by
  simp only [St.setB, St.mk.injEq, true_and]; funext c; rw [hp_ins]
theorem b2 (L : St) (t : Nat) (r : LV) (b : Nat) (x : Option Blk) : (L.put (some t) r).setB b x = (L.setB b x).put (some t) r := rfl
theorem b3 (s : Nat → LV) (l : List (Nat × Blk)) (b : Nat) : (St.mk s (hp l)).kill b = St.mk (fun t => (s t).kill b) (hp (killH b l)) := by
  simp only [St.kill, St.mk.injEq, true_and]; funext c; rw [hp_kill]
theorem b4 (L : St) (t : Nat) (r : LV) (b : Nat) : (L.put (some t) r).kill b = (L.kill b).put (some t) (r.kill b) := by
  simp only [St.kill, St.put, St.mk.injEq, and_true]
  funext s
  cases Nat.beq s t <;> rfl
theorem b5 (s : Nat → LV) (l : List (Nat × Blk)) (bs : List Nat) : (St.mk s (hp l)).frz bs = St.mk s (hp (frzH bs l)) := by
  simp only [St.frz, St.mk.injEq, true_and]; funext c; rw [hp_frz]
theorem b6 (L : St) (t : Nat) (r : LV) (bs : List Nat) : (L.put (some t) r).frz bs = (L.frz bs).put (some t) r := rfl
theorem i1 (b : Nat) (x : Blk) : ins b x [] = [(b, x)] := rfl
theorem i2 (b c : Nat) (x y : Blk) (l : List (Nat × Blk)) (h : (c == b) = true) : ins b x ((c, y) :: l) = (b, x) :: l := by
  simp only [beq_iff_eq] at h; simp only [ins, h, beq_self, cond_true]
theorem i3 (b c : Nat) (x y : Blk) (l : List (Nat × Blk)) (h : (c == b) = false) : ins b x ((c, y) :: l) = (c, y) :: ins b x l := by
  have h' : c ≠ b := by simpa using h
  simp only [ins, beq_ne h', cond_false]
theorem i4 (b : Nat) : killH b [] = [] := rfl
theorem i5 (b c : Nat) (y : Blk) (l : List (Nat × Blk)) (h : (c == b) = true) : killH b ((c, y) :: l) = killH b l := by
  simp only [beq_iff_eq] at h; simp only [killH, h, beq_self, cond_true]
theorem i6 (b c : Nat) (y : Blk) (l : List (Nat × Blk)) (h : (c == b) = false) : killH b ((c, y) :: l) = (c, ⟨y.sz, kills b y.vals, y.mt⟩) :: killH b l := by
  have h' : c ≠ b := by simpa using h
  simp only [killH, beq_ne h', cond_false]
theorem mk_id' {L : St} {l : List (Nat × Blk)} (h : L.heap = hp l) : St.mk L.slot (hp l) = L := by rw [← h]
theorem hp_nil : (fun _ => none : Heap) = hp [] := rfl

/-! ### Contracts of functions that hand back values only -/
def CallP (P : Program) (f : FuncId) (args : List LV) (r : LV) : Prop := CallOK P f args r [] ∧ ∀ g, r.ren g = r
section
variable {P : Program} {dr : Bool} {ops : Array Oper} {rest : List Oper} {L : St} {K : St → Prop} {dst : Option Tmp} {ty : TypeId} {pos : String} {af : Array Edge} {g : Option (Nat × Bool)}
theorem st_callP {f : FuncId} {xs : Array Operand} {as : Array TypeId} {args : List LV} {r : LV} (hg : GuardIs ops L ⟨dst, .call ⟨.value (.func f), xs, as⟩, ty, pos, af, g⟩ true)
    (ha : ImmL L.heap (xs.toList.map L.ev) args) (hk : CallP P f args r) (k : opsL P dr ops rest (L.put dst r) K) :
    opsL P dr ops (⟨dst, .call ⟨.value (.func f), xs, as⟩, ty, pos, af, g⟩ :: rest) L K := st_call0 hg ha hk.1 (hk.2 _) k
theorem st_callPf {f : FuncId} {xs : Array Operand} {as : Array TypeId} {args : List LV} {r : LV} (bs : List Nat) (hg : GuardIs ops L ⟨dst, .call ⟨.value (.func f), xs, as⟩, ty, pos, af, g⟩ true) (h0 : bs.contains 0 = false)
    (ha : ImmL (L.frz bs).heap (xs.toList.map L.ev) args) (hk : CallP P f args r) (k : opsL P dr ops rest ((L.frz bs).put dst r) K) :
    opsL P dr ops (⟨dst, .call ⟨.value (.func f), xs, as⟩, ty, pos, af, g⟩ :: rest) L K := st_call bs hg h0 ha hk.1 (hk.2 _) k
theorem callP_of {f : FuncId} {fn : Func} {c : Code} {args : List LV} {r : LV} (hfol : P.follows .mixedOrders = true) (hf : P.funcs[f]? = some fn) (hb : fn.body = some c)
    (hn : (fn.name == "runtime.NumGoroutine") = false) (hd : dstsOk fn.ntmps c = true) (hlen : args.length ≤ fn.ntmps) (ht : ∀ g, r.ren g = r)
    (h : wpL P c (fun e L => match e with | .exit _ => False | _ => RetL P fn.results.toList L r []) (St.mk (fun t => args.getD t .any) (hp []))) : CallP P f args r := ⟨callOK_of hfol hf hb hn hd hlen h, ht⟩
end
theorem callO_of {P : Program} {f : FuncId} {fn : Func} {c : Code} {args : List LV} {r : LV} {bs : List Blk} (hfol : P.follows .mixedOrders = true) (hf : P.funcs[f]? = some fn) (hb : fn.body = some c)
    (hn : (fn.name == "runtime.NumGoroutine") = false) (hd : dstsOk fn.ntmps c = true) (hlen : args.length ≤ fn.ntmps)
    (h : wpL P c (fun e L => match e with | .exit _ => False | _ => RetL P fn.results.toList L r bs) (St.mk (fun t => args.getD t .any) (hp []))) : CallOK P f args r bs := callOK_of hfol hf hb hn hd hlen h
theorem callM_of {P : Program} {f : FuncId} {fn : Func} {c : Code} {args : List LV} {r : LV} {blk blk' : Blk} (hfol : P.follows .mixedOrders = true) (hf : P.funcs[f]? = some fn) (hb : fn.body = some c)
    (hn : (fn.name == "runtime.NumGoroutine") = false) (hd : dstsOk fn.ntmps c = true) (hlen : args.length ≤ fn.ntmps) (hmt : blk.mt = true)
    (h : wpL P c (fun e L => match e with | .exit _ => False | _ => RetM P fn.results.toList L r blk') (St.mk (fun t => args.getD t .any) (hp [(0, blk)]))) : CallOKM P f blk args r blk' := by
  refine callOKM_of hfol hf hb hn hd hlen hmt ?_
  have : StM args blk = St.mk (fun t => args.getD t .any) (hp [(0, blk)]) := by
    simp only [StM, St.mk.injEq, true_and]
    funext c
    simp only [hp]
    by_cases hc : c = 0
    · subst hc; rfl
    · rw [beq_ne hc, if_neg hc]; rfl
  rw [this]; exact h
theorem tame {x : LV} (h : x.pure = true) : ∀ g, x.ren g = x := fun g => LV.ren_pure g x h
theorem tame2 {x y : LV} (h : x.pure = true) (h' : y.pure = true) : ∀ g, (LV.tup [x, y]).ren g = .tup [x, y] := fun g => by
  simp only [LV.ren, rens, LV.ren_pure g x h, LV.ren_pure g y h']
theorem tame3 {x y z : LV} (h : x.pure = true) (h' : y.pure = true) (h'' : z.pure = true) : ∀ g, (LV.tup [x, y, z]).ren g = .tup [x, y, z] := fun g => by
  simp only [LV.ren, rens, LV.ren_pure g x h, LV.ren_pure g y h', LV.ren_pure g z h'']
theorem limL_pure (l : List Nat) : (limL l).pure = true := pure_lst u32E 1 l
theorem t1 (n : Nat) : ((n : Nat) : Int).toNat = n := rfl
theorem t2 (k : IntKind) (n : Nat) : u32L n = .v (.int .u32 (n : Nat)) := rfl

theorem imm_refT {L : St} {α : Type} {e : α → LV} {ag : Bool} {bs : List Nat} {b sz len : Nat} {l : List α} {m : Bool} (he : EncOK e sz ag) (hb : L.heap b = some ⟨sz, l.map e, m⟩) (hbs : bs.contains b = true) (hl : len ≤ l.length) :
    Imm (L.frz bs).heap (.ref b sz 0 len) (.list sz ((l.take len).map e)) := by
  have := imm_ref (L := L) (bs := bs) (off := 0) (len := len) hb hbs (pures_map he l) (by simp [hl])
  rwa [List.drop_zero, ← List.map_take] at this
/-! results of a function that writes a block of its caller's -/
theorem retM1 {P : Program} {L : St} {t : Nat} {x y : LV} {blk : Blk} (h : L.slot t = x) (hi : ArgM L.heap 0 x y) (hb : L.heap 0 = some blk) (hm : blk.mt = true) (hp : pures blk.vals = true) : RetM P [.tmp t] L y blk :=
  ⟨[x], [y], L.heap, .cons h .nil, Heap.le_refl _, .cons hi .nil, hb, hm, hp, rfl⟩
theorem retM0 {P : Program} {L : St} {blk : Blk} (hb : L.heap 0 = some blk) (hm : blk.mt = true) (hp : pures blk.vals = true) : RetM P [] L (.tup []) blk :=
  ⟨[], [], L.heap, .nil, Heap.le_refl _, .nil, hb, hm, hp, rfl⟩
/-! what a block's name becomes -/
theorem r1 (f : Nat → Nat) (b sz off len : Nat) : (LV.ref b sz off len).ren f = .ref (f b) sz off len := rfl
theorem r2 (f : Nat → Nat) (b sz i o : Nat) : (LV.eptr b sz i o).ren f = .eptr (f b) sz i o := rfl
theorem r3 (f : Nat → Nat) (x : Value) : (LV.v x).ren f = .v x := rfl
theorem r4 (d k : Nat) : callName d k = 1000000 + d * 16 + k := rfl

section
variable {P : Program} {H : Heap} {ρ : Operand → LV} {T E : TypeId} {x z : Operand} {b sz off len h : Nat} {k' : IntKind} {ag : Bool}
theorem OpP.sliceRh (hx : ρ x = .ref b sz off len) (hT : P.underlying T = some (.slice E)) (hE : TyIs P E sz ag) (hhi : ρ z = .v (.int k' (h : Nat))) (h2 : h ≤ len) (h0 : 0 < len) :
    OpP P H ρ (.slice T x none (some z) none) (.ref b sz off h) := by
  have := OpP.sliceR (P := P) (H := H) (ρ := ρ) (la := none) (ha := some z) (a := 0) (h := h) hx hT hE (fun w hw => by cases hw) (fun _ => rfl) (fun w hw => by cases hw; exact ⟨_, hhi⟩) (fun h => by cases h) (by omega) h2 h0
  simpa using this
end
end Go.Lg
