/- Numbers out of dice. -/
import Derived.Test.YthhdcfhaldcheaaGreatB1
set_option linter.unusedVariables false
set_option linter.unusedSimpArgs false
set_option maxHeartbeats 8000000
set_option maxRecDepth 100000
attribute [local irreducible] Go.Lg.opsL Go.Lg.wpL Go.Lg.thenL Go.Lg.blockL
namespace Go.Proofs.YthhdcfhaldcheaaGreat
open Go.Lg
/-! ### the dice -/
def diceL (l : List Int) (k : Nat) : LV := .agg [.list 1 (l.map i64L), .v (.int .i64 (k : Nat))]
theorem dice_pure (l : List Int) (k : Nat) : pures [diceL l k] = true := by simp [pures, diceL, LV.pure, pures_map i64E]
theorem rem64 {a b : Int} (h : b ≠ 0) : binI .rem .i64 a b = some (.int .i64 (a.tmod b)) := by simp [binI, h]
theorem dfi : (default : Int) = 0 := rfl
def nxV (l : List Int) (k : Nat) (n : Int) : Int := if k < l.length then l.getD k 0 % n else 0
def nxK (l : List Int) (k : Nat) : Nat := if k < l.length then k + 1 else k
theorem nxV_lt {l : List Int} {k : Nat} {n : Int} (h : 0 < n) : 0 ≤ nxV l k n ∧ nxV l k n < n := by
  unfold nxV; split
  · exact ⟨Int.emod_nonneg _ (by omega), Int.emod_lt_of_pos _ h⟩
  · omega
theorem mod_fix {a m : Int} (hm : 0 < m) : a % m = if a.tmod m < 0 then a.tmod m + m else a.tmod m := by
  have h1 := Int.emod_nonneg a (show m ≠ 0 by omega)
  have h2 := Int.emod_lt_of_pos a hm
  rw [Int.tmod_eq_emod]
  split <;> split <;> omega
theorem retMC {P : Program} {L : St} {a : Nat} {T : TypeId} {b sz : Nat} {x y : LV} {m : Bool} {n : Nat} {ag : Bool} {blk : Blk} (h : L.slot a = .eptr b sz 0 0) (hb : L.heap b = some ⟨sz, [x], m⟩)
    (hx : x.csize = sz) (hat : x.at 0 n ag = some x) (hT : TyIs P T n ag) (hi : Imm L.heap x y) (h0 : L.heap 0 = some blk) (hm : blk.mt = true) (hp : pures blk.vals = true) : RetM P [.cell a T] L y blk :=
  ⟨[x], [y], L.heap, .cons ⟨b, sz, 0, 0, _, x, n, ag, h, hb, rfl, rfl, hx, hat, hT⟩ .nil, Heap.le_refl _, .cons (.imm hi) .nil, h0, hm, hp, rfl⟩
theorem retMf {P : Program} {L : St} {t : Nat} {x y : LV} {blk : Blk} (bs : List Nat) (h0 : bs.contains 0 = false) (h : L.slot t = x) (hi : Imm (L.frz bs).heap x y) (hb : (L.frz bs).heap 0 = some blk) (hm : blk.mt = true) (hp : pures blk.vals = true) : RetM P [.tmp t] L y blk :=
  ⟨[x], [y], (L.frz bs).heap, .cons h .nil, frz_le bs h0, .cons (.imm hi) .nil, hb, hm, hp, rfl⟩
def nbV (l : List Int) (k : Nat) : Rat × Nat :=
  if nxV l (nxK l k) 4 = 3 then (((nxV l k 13 - 6 : Int) : Rat) / ((1 + nxV l (nxK l (nxK l k)) 4 : Int) : Rat), nxK l (nxK l (nxK l k))) else (((nxV l k 13 - 6 : Int) : Rat), nxK l (nxK l k))
theorem rl_ints {n d : Int} (h1 : n.natAbs < 4294967296) (h2 : d.natAbs < 4294967296) : rl ((n : Rat) / (d : Rat)) ≤ 1 := by
  rw [← qv_ints]
  have := rl_qv (k := 1) (decide (n < 0) != decide (d < 0)) (by simpa using h1) (by simpa using h2)
  omega
theorem rl_int {n : Int} (h1 : n.natAbs < 4294967296) : rl (n : Rat) ≤ 1 := by
  have := rl_ints (n := n) (d := 1) h1 (by decide)
  rwa [show ((1 : Int) : Rat) = 1 from rfl, Rat.div_def, show (1 : Rat)⁻¹ = 1 by grind, Rat.mul_one] at this
theorem nb_rl (l : List Int) (k : Nat) : rl (nbV l k).1 ≤ 1 := by
  have h1 := nxV_lt (l := l) (k := k) (n := 13) (by decide)
  have h2 := nxV_lt (l := l) (k := nxK l (nxK l k)) (n := 4) (by decide)
  unfold nbV; split
  · exact rl_ints (by omega) (by omega)
  · exact rl_int (by omega)
/-- numbers one after the other -/
def plV (l : List Int) : Nat → Nat → List Rat
  | _, 0 => []
  | k, c + 1 => (nbV l k).1 :: plV l (nbV l k).2 c
def plK (l : List Int) : Nat → Nat → Nat
  | k, 0 => k
  | k, c + 1 => plK l (nbV l k).2 c
theorem plV_len (l : List Int) : ∀ k c, (plV l k c).length = c
  | _, 0 => rfl
  | k, c + 1 => by simp [plV, plV_len l]
theorem plV_rl (l : List Int) : ∀ k c, ∀ x ∈ plV l k c, rl x ≤ 1
  | _, 0, x, h => by simp [plV] at h
  | k, c + 1, x, h => by
      simp only [plV, List.mem_cons] at h
      rcases h with rfl | h
      · exact nb_rl l k
      · exact plV_rl l _ c x h
theorem ret1ptr {P : Program} {L : St} {t b sz : Nat} {blk : Blk} (h : L.slot t = .eptr b sz 0 0) (hb : L.heap b = some blk) (hp : pures blk.vals = true) : RetL P [.tmp t] L (.eptr 1 sz 0 0) [blk] :=
  ⟨[.eptr b sz 0 0], [.eptr 1 sz 0 0], L.heap, [b], .cons h .nil, Heap.le_refl _, .cons (.ptr (k := 0) rfl) .nil, by simp, rfl, fun k c hk => by
    cases k with
    | zero => simp at hk; subst hk; exact ⟨blk, hb, rfl, hp⟩
    | succ k => simp at hk, rfl⟩
theorem nxK_le {l : List Int} {k : Nat} (hl : l.length ≤ 500) (hk : k ≤ 500) : nxK l k ≤ 500 := by unfold nxK; split <;> omega
theorem nbK_le {l : List Int} {k : Nat} (hl : l.length ≤ 500) (hk : k ≤ 500) : (nbV l k).2 ≤ 500 := by
  have h1 := nxK_le (l := l) hl hk
  have h2 := nxK_le (l := l) hl h1
  unfold nbV; split
  · exact nxK_le hl h2
  · exact h2
def poV (l : List Int) (k : Nat) (n : Int) : List Rat := plV l (nxK l k) ((nxV l k (n + 1)).toNat + 1)
def poK (l : List Int) (k : Nat) (n : Int) : Nat := plK l (nxK l k) ((nxV l k (n + 1)).toNat + 1)
theorem plK_le {l : List Int} (hl : l.length ≤ 500) : ∀ (k c : Nat), k ≤ 500 → plK l k c ≤ 500
  | k, 0, h => h
  | k, c + 1, h => plK_le hl _ c (nbK_le hl h)
theorem poK_le {l : List Int} {k : Nat} {n : Int} (hl : l.length ≤ 500) (hk : k ≤ 500) : poK l k n ≤ 500 := plK_le hl _ _ (nxK_le hl hk)
theorem po_len {l : List Int} {k : Nat} {n : Int} (hn : 0 ≤ n) : 1 ≤ (poV l k n).length ∧ ((poV l k n).length : Int) ≤ n + 1 := by
  have := nxV_lt (l := l) (k := k) (n := n + 1) (by omega)
  rw [poV, plV_len]; omega
theorem po_rl {l : List Int} {k : Nat} {n : Int} : ∀ x ∈ poV l k n, rl x ≤ 1 := plV_rl l _ _
theorem dice_kill (l : List Int) (k b : Nat) : (diceL l k).kill b = diceL l k := LV.kill_pure b _ (by simp [diceL, LV.pure, pures, pures_map i64E])
open H0 in
theorem c_Mod (n m : Int) (hm : 0 < m) (hm2 : m ≤ 4611686018427387904) : CallP Tryz.prog 90 [iL n, iL m] (iL (n % m)) := by
  have hE := mod_fix (a := n) hm
  have hb := Int.tmod_lt_of_pos n hm
  have hb2 := Int.lt_tmod_of_pos n hm
  refine fnP Tryz.func90 ?_
  refine zg9 ?_
  refine st_pure rfl (.bin rfl rfl (rem64 (by omega))) ?_
  refine zg10 ?_
  refine wl_cut (fun L => ∃ (r : Int) (L1 : St), (r = n % m) ∧ L = ((St.mk L1.slot (hp [])).put (some 0) (iL r))) ?_ ?_
  · refine wl_if rfl (fun h9r h9 => ?_) (fun h9r h9 => ?_)
    · refine zg3 ?_
      refine st_pure rfl (.bin rfl rfl (add64 (by omega) (by omega))) ?_
      refine zg3 ?_
      exact ⟨n.tmod m + m, _, by rw [hE, if_pos h9], ((put_id' (mk_id' cl) cl)).symm⟩
    · refine zg2 ?_
      exact ⟨n.tmod m, _, by rw [hE, if_neg h9], ((put_id' (mk_id' cl) cl)).symm⟩
  · rintro _ ⟨r, LC9, hr, rfl⟩
    refine zg8 ?_
    rw [← hr]
    exact ret1 rfl (by first | exact .pure rfl | exact .pure (limL_pure _) | exact .pure (magL_pure _) | exact .pure (ratE.pure _) | exact .pure (pure_lst u32E _ _) | exact .pure (pure_lst ratE _ _))
open H0 in
theorem c_Light (l : List Int) (h : l.length ≤ 9223372036854775807) : CallP Tryz.prog 9 [.list 1 (l.map i64L)] (bL (decide (l.length ≤ 500))) := by
  refine fnP Tryz.func9 ?_
  refine zg14 ?_
  refine ret1 (x := .v (.bool (decide (((l.length : Nat) : Int) ≤ 500)))) rfl ?_
  rw [show decide (((l.length : Nat) : Int) ≤ 500) = decide (l.length ≤ 500) by rw [decide_eq_decide]; omega]
  exact .pure rfl
open H0 in
theorem c_Roll (l : List Int) : CallOK Tryz.prog 11 [.list 1 (l.map i64L)] (.eptr 1 2 0 0) [⟨2, [diceL l 0], true⟩] := by
  refine fnO Tryz.func11 ?_
  refine zg8 ?_
  refine st_pure rfl (.build (zs := [.v (.slice none 0 0), .v (.int .i64 0)]) SL78 Z78 (by simp only [List.forall_mem_cons]; exact ⟨⟨_, rfl, rfl, ne0⟩, fun _ h => by cases h⟩)) ?_
  refine st_alloc rfl rfl (.box ne0) ?_
  refine zg4 ?_
  exact ret1ptr rfl rfl (dice_pure l 0)
namespace H_c_Next
theorem zSm {p q : Prop} (k : q) (e : p = q := by simp only [e1, e2, e3, e4, p1, p2, p3, q1, q2, q3, l1, t0, t1, r1, r2, r3, r4, Nat.zero_add, Nat.reduceMul, Nat.reduceAdd, b1, b2, b3, b4, b5, b6, i1, i2, i3, i4, i5, i6, Nat.reduceBEq, l1, ek1, dfi]; exact rfl) : p := e.mpr k
end H_c_Next
open H_c_Next in
theorem c_Next (l : List Int) (k : Nat) (n : Int) (hl : l.length ≤ 500) (hk : k ≤ 500) (hn : 0 < n) (hn2 : n ≤ 1000) : CallOKM Tryz.prog 88 ⟨2, [diceL l k], true⟩ [.eptr 0 2 0 0, iL n] (iL (nxV l k n)) ⟨2, [diceL l (nxK l k)], true⟩ := by
  refine fnM Tryz.func88 ?_
  have ek1 : True := trivial
  refine zg7 ?_
  refine wl_regD 10 (by decide +kernel) ?_
  refine zg12 ?_
  refine wl_if rfl (fun h14r h14 => ?_) (fun h14r h14 => ?_)
  · have hk1 : ¬ k < l.length := by omega
    refine zg7 ?_
    rw [nxV, if_neg hk1, nxK, if_neg hk1]
    exact retM1 rfl (.imm (.pure rfl)) rfl rfl (dice_pure l _)
  · have hk1 : k < l.length := by omega
    have ek1 : (((k + 1 : Nat) : Int) - 1).toNat = k := by omega
    refine zg11 ?_
    refine st_store rfl (.store (y := diceL l k) (y' := diceL l (k + 1)) rfl rfl rfl rfl rfl rfl rfl T3 ne0) ?_
    refine zg3 ?_
    refine wl_regD 14 (by decide +kernel) ?_
    refine zg8 ?_
    refine st_pure rfl (.bin rfl rfl (sub64 (by first | omega | (simp; omega)) (by first | omega | (simp; omega)))) ?_
    refine zg3 ?_
    refine cp am2 (c_Mod _ _ (by omega) (by omega)) ?_
    refine zg4 ?_
    rw [nxV, if_pos hk1, nxK, if_pos hk1]
    exact retM1 rfl (.imm (.pure rfl)) rfl rfl (dice_pure l _)
namespace H_c_number
theorem zSm {p q : Prop} (k : q) (e : p = q := by simp only [e1, e2, e3, e4, p1, p2, p3, q1, q2, q3, l1, t0, t1, r1, r2, r3, r4, Nat.zero_add, Nat.reduceMul, Nat.reduceAdd, b1, b2, b3, b4, b5, b6, i1, i2, i3, i4, i5, i6, Nat.reduceBEq, l1]; exact rfl) : p := e.mpr k
end H_c_number
open H_c_number in
theorem c_number (l : List Int) (k : Nat) (hl : l.length ≤ 500) (hk : k ≤ 500) : CallOKM Tryz.prog 89 ⟨2, [diceL l k], true⟩ [.eptr 0 2 0 0] (ratL (nbV l k).1) ⟨2, [diceL l (nbV l k).2], true⟩ := by
  have k1 := nxK_le (l := l) hl hk
  have k2 := nxK_le (l := l) hl k1
  have hb1 := nxV_lt (l := l) (k := k) (n := 13) (by decide)
  have hb2 := nxV_lt (l := l) (k := nxK l (nxK l k)) (n := 4) (by decide)
  refine fnM Tryz.func89 ?_
  refine zg8 ?_
  refine st_callM 0 rfl rfl rfl (dice_pure l _) (.cons .ptr (.cons (.imm (.pure rfl)) .nil)) .ptr (c_Next l k 13 (by omega) (by omega) (by decide) (by decide)) rfl (dice_pure l _) ?_
  refine zg7 ?_
  refine st_callM 0 rfl rfl rfl (dice_pure l _) (.cons .ptr (.cons (.imm (.pure rfl)) .nil)) .ptr (c_Next l (nxK l k) 4 (by omega) (by omega) (by decide) (by decide)) rfl (dice_pure l _) ?_
  refine zg3 ?_
  refine wl_if rfl (fun h8r h8 => ?_) (fun h8r h8 => ?_)
  · refine zg3 ?_
    refine st_pure rfl (.bin rfl rfl (sub64 (by omega) (by omega))) ?_
    refine zg1 ?_
    refine st_callM 0 rfl rfl rfl (dice_pure l _) (.cons .ptr (.cons (.imm (.pure rfl)) .nil)) .ptr (c_Next l (nxK l (nxK l k)) 4 (by omega) (by omega) (by decide) (by decide)) rfl (dice_pure l _) ?_
    refine st_pure rfl (.bin rfl rfl (add64 (by omega) (by omega))) ?_
    refine cp am2 (c_FFrac (nxV l k 13 - 6) (1 + nxV l (nxK l (nxK l k)) 4) (by omega) (by omega) (by omega) (by omega) (by omega)) ?_
    refine zg5 ?_
    rw [nbV, if_pos h8]
    exact retMC rfl rfl (ratE.csize _) (ratL_all _) T33 (.pure (ratE.pure _)) rfl rfl (dice_pure l _)
  · refine zg5 ?_
    refine st_pure rfl (.bin rfl rfl (sub64 (by omega) (by omega))) ?_
    refine cp am1 (c_FInt (nxV l k 13 - 6) (by omega) (by omega)) ?_
    refine zg4 ?_
    rw [nbV, if_neg h8]
    exact retMC rfl rfl (ratE.csize _) (ratL_all _) T33 (.pure (ratE.pure _)) rfl rfl (dice_pure l _)
namespace H_c_Poly
theorem zSm {p q : Prop} (k : q) (e : p = q := by simp only [e1, e2, e3, e4, p1, p2, p3, q1, q2, q3, l1, t0, t1, r1, r2, r3, r4, Nat.zero_add, Nat.reduceMul, Nat.reduceAdd, b1, b2, b3, b4, b5, b6, i1, i2, i3, i4, i5, i6, Nat.reduceBEq, l1, hNx, ratL_ren, take_map_len, map_snoc, len_snoc, List.length_cons, List.length_nil, kills_map ratE, LV.kill, kills, dice_kill, ek]; exact rfl) : p := e.mpr k
end H_c_Poly
open H_c_Poly in
theorem c_Poly (l : List Int) (k0 : Nat) (n : Int) (hl : l.length ≤ 500) (hk : k0 ≤ 500) (hn : 0 ≤ n) (hn2 : n ≤ 100) : CallOKM Tryz.prog 28 ⟨2, [diceL l k0], true⟩ [.eptr 0 2 0 0, iL n] (.list 3 ((poV l k0 n).map ratL)) ⟨2, [diceL l (poK l k0 n)], true⟩ := by
  have hb1 := nxV_lt (l := l) (k := k0) (n := n + 1) (by omega)
  obtain ⟨N, hN⟩ : ∃ N : Nat, nxV l k0 (n + 1) = (N : Int) := ⟨(nxV l k0 (n + 1)).toNat, by omega⟩
  have hNN : (nxV l k0 (n + 1)).toNat = N := by omega
  have hNx : nxV l k0 (n + 1) = ((N + 1 : Nat) : Int) - 1 := by omega
  refine fnM Tryz.func28 ?_
  have ek : True := trivial
  refine zg16 ?_
  refine st_callM 0 rfl rfl rfl (dice_pure l _) (.cons .ptr (.cons (.imm (.pure rfl)) .nil)) .ptr (c_Next l k0 (n + 1) (by omega) (by omega) (by omega) (by omega)) rfl (dice_pure l _) ?_
  refine zg4 ?_
  refine wl_weak (Weak.own (t := 5) 19 3 rfl rfl) ?_
  refine lp3 (fun (c k : Nat) (o : List Rat) L => ((((St.mk L.slot (hp [(0, ⟨2, [diceL l k], true⟩), (19, ⟨3, o.map ratL, true⟩)])).put (some 0) (.eptr 0 2 0 0)).put (some 5) (.ref 19 3 0 o.length)).put (some 6) (iL ((c : Int) - 1)))) (fun c k o => k ≤ 500 ∧ o.length + c = N + 1 ∧ o ++ plV l k c = poV l k0 n ∧ plK l k c = poK l k0 n) (fun c k o => c) (N + 1) (nxK l k0) ([]) ⟨nxK_le hl hk, by simp, by rw [poV, hNN]; rfl, by rw [poK, hNN]⟩ ?_
  rintro c k o L1 ⟨hk1, ho, hV, hK⟩
  refine zg7 ?_
  refine wl_if rfl (fun h12r h12 => ?_) (fun h12r h12 => ?_)
  · obtain ⟨j, rfl⟩ : ∃ j, c = j + 1 := ⟨c - 1, by omega⟩
    have ek : (((j + 1 : Nat) : Int) - 1) = (j : Int) := by omega
    refine zg7 ?_
    refine st_callM 0 rfl rfl rfl (dice_pure l _) (.cons .ptr .nil) .ptr (c_number l k (by omega) (by omega)) rfl (dice_pure l _) ?_
    simp only [ratL_ren]
    refine zg1 ?_
    refine st_store rfl (.app (news := [ratL (nbV l k).1]) rfl rfl rfl rfl rfl (by simp) (.inl rfl) (by decide) Tryz.underlying38 Tryz.underlying38 Z33a T33 rfl B33 (.inl ⟨18, 0, _, rfl, by decide, rfl, rfl, by simp, rfl, by simp [pures, ratE.pure]⟩) (by simp; omega) (by simp; omega) (by decide)) ?_
    refine zg4 ?_
    refine wl_regW (Weak.kill _ 18) ?_
    refine zg5 ?_
    exact nx3 j ((nbV l k).2) (o ++ [(nbV l k).1]) ⟨nbK_le hl hk1, by simp; omega, by rw [List.append_assoc]; exact hV, hK⟩
  · obtain rfl : c = 0 := by omega
    rw [plV, List.append_nil] at hV
    rw [plK] at hK
    refine zg12 ?_
    rw [← hV, ← hK]
    exact retMf [19] rfl rfl (imm_refm ratE rfl rfl rfl) rfl rfl (dice_pure l _)
end Go.Proofs.YthhdcfhaldcheaaGreat
