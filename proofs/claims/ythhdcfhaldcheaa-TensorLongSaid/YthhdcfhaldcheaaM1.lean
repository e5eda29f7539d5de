/- Numbers out of dice. -/
import Derived.Test.YthhdcfhaldcheaaB1
set_option linter.unusedVariables false
set_option linter.unusedSimpArgs false
namespace Go.Proofs.Ythhdcfhaldcheaa
open Go.Lg
/-! ### the dice -/
def diceL (l : List Int) (k : Nat) : LV := .agg [.list 1 (l.map i64L), .v (.int .i64 (k : Nat))]
theorem dice_pure (l : List Int) (k : Nat) : pures [diceL l k] = true := by simp [pures, diceL, LV.pure, pures_map i64E]
theorem rem64 {a b : Int} (h : b ≠ 0) : binI .rem .i64 a b = some (.int .i64 (a.tmod b)) := by simp [binI, h]
theorem dfi : (default : Int) = 0 := rfl
def nxV (l : List Int) (k : Nat) (n : Int) : Int := if k < l.length then l.getD k 0 % n else 0
def nxK (l : List Int) (k : Nat) : Nat := if k < l.length then k + 1 else k
theorem nxV_lt {l : List Int} {k : Nat} {n : Int} (h : 0 < n) : 0 ≤ nxV l k n ∧ nxV l k n < n := by
  unfold nxV; split
  · exact ⟨Int.emod_nonneg _ (by omega), Int.emod_lt_of_pos _ h⟩
  · omega
theorem mod_fix {a m : Int} (hm : 0 < m) : a % m = if a.tmod m < 0 then a.tmod m + m else a.tmod m := by
  have h1 := Int.emod_nonneg a (show m ≠ 0 by omega)
  have h2 := Int.emod_lt_of_pos a hm
  rw [Int.tmod_eq_emod]
  split <;> split <;> omega
theorem retMC {P : Program} {L : St} {a : Nat} {T : TypeId} {b sz : Nat} {x y : LV} {m : Bool} {n : Nat} {ag : Bool} {blk : Blk} (h : L.slot a = .eptr b sz 0 0) (hb : L.heap b = some ⟨sz, [x], m⟩)
    (hx : x.csize = sz) (hat : x.at 0 n ag = some x) (hT : TyIs P T n ag) (hi : Imm L.heap x y) (h0 : L.heap 0 = some blk) (hm : blk.mt = true) (hp : pures blk.vals = true) : RetM P [.cell a T] L y blk :=
  ⟨[x], [y], L.heap, .cons ⟨b, sz, 0, 0, _, x, n, ag, h, hb, rfl, rfl, hx, hat, hT⟩ .nil, Heap.le_refl _, .cons (.imm hi) .nil, h0, hm, hp, rfl⟩
theorem retMf {P : Program} {L : St} {t : Nat} {x y : LV} {blk : Blk} (bs : List Nat) (h0 : bs.contains 0 = false) (h : L.slot t = x) (hi : Imm (L.frz bs).heap x y) (hb : (L.frz bs).heap 0 = some blk) (hm : blk.mt = true) (hp : pures blk.vals = true) : RetM P [.tmp t] L y blk :=
  ⟨[x], [y], (L.frz bs).heap, .cons h .nil, frz_le bs h0, .cons (.imm hi) .nil, hb, hm, hp, rfl⟩
def nbV (l : List Int) (k : Nat) : Rat × Nat :=
  if nxV l (nxK l k) 4 = 3 then (((nxV l k 13 - 6 : Int) : Rat) / ((1 + nxV l (nxK l (nxK l k)) 4 : Int) : Rat), nxK l (nxK l (nxK l k))) else (((nxV l k 13 - 6 : Int) : Rat), nxK l (nxK l k))
theorem rl_ints {n d : Int} (h1 : n.natAbs < 4294967296) (h2 : d.natAbs < 4294967296) : rl ((n : Rat) / (d : Rat)) ≤ 1 := by
  rw [← qv_ints]
  have := rl_qv (k := 1) (decide (n < 0) != decide (d < 0)) (by simpa using h1) (by simpa using h2)
  omega
theorem rl_int {n : Int} (h1 : n.natAbs < 4294967296) : rl (n : Rat) ≤ 1 := by
  have := rl_ints (n := n) (d := 1) h1 (by decide)
  rwa [show ((1 : Int) : Rat) = 1 from rfl, Rat.div_def, show (1 : Rat)⁻¹ = 1 by grind, Rat.mul_one] at this
theorem nb_rl (l : List Int) (k : Nat) : rl (nbV l k).1 ≤ 1 := by
  have h1 := nxV_lt (l := l) (k := k) (n := 13) (by decide)
  have h2 := nxV_lt (l := l) (k := nxK l (nxK l k)) (n := 4) (by decide)
  unfold nbV; split
  · exact rl_ints (by omega) (by omega)
  · exact rl_int (by omega)
/-- numbers one after the other -/
def plV (l : List Int) : Nat → Nat → List Rat
  | _, 0 => []
  | k, c + 1 => (nbV l k).1 :: plV l (nbV l k).2 c
def plK (l : List Int) : Nat → Nat → Nat
  | k, 0 => k
  | k, c + 1 => plK l (nbV l k).2 c
theorem plV_len (l : List Int) : ∀ k c, (plV l k c).length = c
  | _, 0 => rfl
  | k, c + 1 => by simp [plV, plV_len l]
theorem plV_rl (l : List Int) : ∀ k c, ∀ x ∈ plV l k c, rl x ≤ 1
  | _, 0, x, h => by simp [plV] at h
  | k, c + 1, x, h => by
      simp only [plV, List.mem_cons] at h
      rcases h with rfl | h
      · exact nb_rl l k
      · exact plV_rl l _ c x h
theorem ret1ptr {P : Program} {L : St} {t b sz : Nat} {blk : Blk} (h : L.slot t = .eptr b sz 0 0) (hb : L.heap b = some blk) (hp : pures blk.vals = true) : RetL P [.tmp t] L (.eptr 1 sz 0 0) [blk] :=
  ⟨[.eptr b sz 0 0], [.eptr 1 sz 0 0], L.heap, [b], .cons h .nil, Heap.le_refl _, .cons (.ptr (k := 0) rfl) .nil, by simp, rfl, fun k c hk => by
    cases k with
    | zero => simp at hk; subst hk; exact ⟨blk, hb, rfl, hp⟩
    | succ k => simp at hk, rfl⟩
theorem nxK_le {l : List Int} {k : Nat} (hl : l.length ≤ 500) (hk : k ≤ 500) : nxK l k ≤ 500 := by unfold nxK; split <;> omega
theorem nbK_le {l : List Int} {k : Nat} (hl : l.length ≤ 500) (hk : k ≤ 500) : (nbV l k).2 ≤ 500 := by
  have h1 := nxK_le (l := l) hl hk
  have h2 := nxK_le (l := l) hl h1
  unfold nbV; split
  · exact nxK_le hl h2
  · exact h2
def poV (l : List Int) (k : Nat) (n : Int) : List Rat := plV l (nxK l k) ((nxV l k (n + 1)).toNat + 1)
def poK (l : List Int) (k : Nat) (n : Int) : Nat := plK l (nxK l k) ((nxV l k (n + 1)).toNat + 1)
theorem plK_le {l : List Int} (hl : l.length ≤ 500) : ∀ (k c : Nat), k ≤ 500 → plK l k c ≤ 500
  | k, 0, h => h
  | k, c + 1, h => plK_le hl _ c (nbK_le hl h)
theorem poK_le {l : List Int} {k : Nat} {n : Int} (hl : l.length ≤ 500) (hk : k ≤ 500) : poK l k n ≤ 500 := plK_le hl _ _ (nxK_le hl hk)
theorem po_len {l : List Int} {k : Nat} {n : Int} (hn : 0 ≤ n) : 1 ≤ (poV l k n).length ∧ ((poV l k n).length : Int) ≤ n + 1 := by
  have := nxV_lt (l := l) (k := k) (n := n + 1) (by omega)
  rw [poV, plV_len]; omega
theorem po_rl {l : List Int} {k : Nat} {n : Int} : ∀ x ∈ poV l k n, rl x ≤ 1 := plV_rl l _ _
theorem dice_kill (l : List Int) (k b : Nat) : (diceL l k).kill b = diceL l k := LV.kill_pure b _ (by simp [diceL, LV.pure, pures, pures_map i64E])
open H0 in
set_option maxHeartbeats 1000000 in
set_option maxRecDepth 100000 in
theorem c_Mod (n m : Int) (hm : 0 < m) (hm2 : m ≤ 4611686018427387904) : CallP Try.prog 28 [iL n, iL m] (iL (n % m)) := by
  have hE := mod_fix (a := n) hm
  have hb := Int.tmod_lt_of_pos n hm
  have hb2 := Int.lt_tmod_of_pos n hm
  refine callP_of fol Try.func28 rfl (by decide +kernel) (by decide +kernel) (Nat.le_of_ble_eq_true rfl) tm0 ?_
  refine wl_seq (wl_reg (asg ?_))
  refine st_end nf0 ?_
  refine then_n (wl_seq (wl_reg (mv (mv ?_))))
  refine st_pure rfl (.bin rfl rfl (rem64 (by omega))) ?_
  refine asg ?_
  refine st_end nf0 ?_
  refine then_n (wl_seq (wl_seq (wl_reg (mv ?_))))
  refine st_pure rfl (.bin rfl rfl rfl) ?_
  refine st_end nf0 ?_
  refine then_n ?_
  refine wl_cut (fun L => ∃ (r : Int) (L1 : St), (r = n % m) ∧ L = ((St.mk L1.slot (hp [])).put (some 0) (iL r))) ?_ ?_
  · skip
    refine wl_cond rfl (fun h9 => ?_) (fun h9 => ?_)
    · skip
      have h9r := h9
      try simp only [hce, l1, t0, t1, dflt, val_dig] at h9
      refine wl_reg (mv (mv ?_))
      refine st_pure rfl (.bin rfl rfl (add64 (by omega) (by omega))) ?_
      refine asg ?_
      refine st_end nf0 ?_
      refine then_n ?_
      exact ⟨n.tmod m + m, _, by rw [hE, if_pos h9], ((put_id' (mk_id' cl0) cl0)).symm⟩
    · skip
      have h9r := h9
      try simp only [hce, l1, t0, t1, dflt, val_dig] at h9
      refine wl_skip (then_n ?_)
      exact ⟨n.tmod m, _, by rw [hE, if_neg h9], ((put_id' (mk_id' cl0) cl0)).symm⟩
  · skip
    rintro _ ⟨r, LC9, hr, rfl⟩
    refine then_n (wl_seq (wl_reg (mv (asg ?_))))
    refine st_end nf0 ?_
    refine then_n (wl_ret ?_)
    rw [← hr]
    exact ret1 rfl (by first | exact .pure rfl | exact .pure (limL_pure _) | exact .pure (magL_pure _) | exact .pure (ratE.pure _) | exact .pure (pure_lst u32E _ _) | exact .pure (pure_lst ratE _ _))
open H0 in
set_option maxHeartbeats 1000000 in
set_option maxRecDepth 100000 in
theorem c_Light (l : List Int) (h : l.length ≤ 9223372036854775807) : CallP Try.prog 10 [.list 1 (l.map i64L)] (bL (decide (l.length ≤ 500))) := by
  refine callP_of fol Try.func10 rfl (by decide +kernel) (by decide +kernel) (Nat.le_of_ble_eq_true rfl) tm0 ?_
  refine wl_seq (wl_reg (asg ?_))
  refine st_end nf0 ?_
  refine then_n (wl_seq (wl_reg (mv ?_)))
  refine st_pure rfl ln22 ?_
  refine st_pure rfl (.bin rfl rfl rfl) ?_
  refine asg ?_
  refine st_end nf0 ?_
  refine then_n (wl_ret ?_)
  refine ret1 (x := .v (.bool (decide (((l.length : Nat) : Int) ≤ 500)))) rfl ?_
  rw [show decide (((l.length : Nat) : Int) ≤ 500) = decide (l.length ≤ 500) by rw [decide_eq_decide]; omega]
  exact .pure rfl
open H0 in
set_option maxHeartbeats 1000000 in
set_option maxRecDepth 100000 in
theorem c_Roll (l : List Int) : CallOK Try.prog 12 [.list 1 (l.map i64L)] (.eptr 1 2 0 0) [⟨2, [diceL l 0], true⟩] := by
  refine callO_of fol Try.func12 rfl (by decide +kernel) (by decide +kernel) (Nat.le_of_ble_eq_true rfl) ?_
  refine wl_seq (wl_reg (asg ?_))
  refine st_end nf0 ?_
  refine then_n (wl_seq (wl_reg (mv ?_)))
  refine st_pure rfl (.build (zs := [.v (.slice none 0 0), .v (.int .i64 0)]) SL79 Z79 (by simp only [List.forall_mem_cons]; exact ⟨⟨_, rfl, rfl, ne0⟩, fun _ h => by cases h⟩)) ?_
  refine st_alloc rfl rfl (.box ne0) ?_
  refine asg ?_
  refine st_end nf0 ?_
  refine then_n (wl_ret ?_)
  exact ret1ptr rfl rfl (dice_pure l 0)
theorem nfc_Next_0 {p : Prop} (h : p := by (try simp only [e1, e2, e3, e4, p1, p2, p3, q1, q2, q3, l1, t0, t1, r1, r2, r3, r4, Nat.zero_add, Nat.reduceMul, Nat.reduceAdd, b1, b2, b3, b4, b5, b6, i1, i2, i3, i4, i5, i6, Nat.reduceBEq, l1, ek1, dfi]); exact rfl) : p := h
namespace H_c_Next
theorem om {p : Prop} (h : p := by first | (simp only [e1, e2, e3, e4, p1, p2, p3, q1, q2, q3, l1, t0, t1, r1, r2, r3, r4, Nat.zero_add, Nat.reduceMul, Nat.reduceAdd, b1, b2, b3, b4, b5, b6, i1, i2, i3, i4, i5, i6, Nat.reduceBEq, l1, ek1, dfi]; omega) | omega) : p := h
end H_c_Next
open H_c_Next in
set_option maxHeartbeats 1000000 in
set_option maxRecDepth 100000 in
theorem c_Next (l : List Int) (k : Nat) (n : Int) (hl : l.length ≤ 500) (hk : k ≤ 500) (hn : 0 < n) (hn2 : n ≤ 1000) : CallOKM Try.prog 54 ⟨2, [diceL l k], true⟩ [.eptr 0 2 0 0, iL n] (iL (nxV l k n)) ⟨2, [diceL l (nxK l k)], true⟩ := by
  refine callM_of fol Try.func54 rfl (by decide +kernel) (by decide +kernel) (Nat.le_of_ble_eq_true rfl) rfl ?_
  have ek1 : True := trivial
  refine wl_seq (wl_reg (asg ?_))
  refine st_end nfc_Next_0 ?_
  refine then_n (wl_seq (wl_seq ?_))
  refine wl_regD 10 (by decide +kernel) ?_
  refine mv ?_
  refine st_pure rfl (by first | exact .nilChkE rfl | exact .nilChkB rfl) ?_
  refine st_pure rfl fa79 ?_
  refine st_pure rfl ld3 ?_
  refine mv ?_
  refine st_pure rfl (by first | exact .nilChkE rfl | exact .nilChkB rfl) ?_
  refine st_pure rfl fa79 ?_
  refine st_pure rfl ld22 ?_
  refine st_pure rfl ln22 ?_
  refine st_pure rfl (.bin rfl rfl rfl) ?_
  refine st_end nfc_Next_0 ?_
  refine then_n ?_
  refine wl_cond rfl (fun h14 => ?_) (fun h14 => ?_)
  · skip
    have h14r := h14
    try simp only [hce, l1, t0, t1, dflt, val_dig] at h14
    have hk1 : ¬ k < l.length := by omega
    refine wl_seq (wl_reg (asg ?_))
    refine st_end nfc_Next_0 ?_
    refine then_n (wl_ret (then_r ?_))
    rw [nxV, if_neg hk1, nxK, if_neg hk1]
    exact retM1 rfl (.imm (.pure rfl)) rfl rfl (dice_pure l _)
  · skip
    have h14r := h14
    try simp only [hce, l1, t0, t1, dflt, val_dig] at h14
    have hk1 : k < l.length := by omega
    have ek1 : (((k + 1 : Nat) : Int) - 1).toNat = k := by omega
    refine wl_skip (then_n (wl_seq (wl_reg (mv ?_))))
    refine st_pure rfl (by first | exact .nilChkE rfl | exact .nilChkB rfl) ?_
    refine st_pure rfl fa79 ?_
    refine st_pure rfl ld3 ?_
    refine st_pure rfl (.bin rfl rfl (add64 om om)) ?_
    refine st_pure rfl (by first | exact .nilChkE rfl | exact .nilChkB rfl) ?_
    refine st_pure rfl fa79 ?_
    refine st_store rfl (.store (y := diceL l k) (y' := diceL l (k + 1)) rfl rfl rfl rfl rfl rfl rfl T3 ne0) ?_
    refine st_end nfc_Next_0 ?_
    refine then_n (wl_seq ?_)
    refine wl_regD 14 (by decide +kernel) ?_
    refine mv ?_
    refine st_pure rfl (by first | exact .nilChkE rfl | exact .nilChkB rfl) ?_
    refine st_pure rfl fa79 ?_
    refine st_pure rfl ld22 ?_
    refine mv ?_
    refine st_pure rfl (by first | exact .nilChkE rfl | exact .nilChkB rfl) ?_
    refine st_pure rfl fa79 ?_
    refine st_pure rfl ld3 ?_
    refine st_pure rfl (.bin rfl rfl (sub64 (by first | omega | (simp; omega)) (by first | omega | (simp; omega)))) ?_
    refine st_pure rfl ix22 ?_
    refine st_pure rfl ld3 ?_
    refine mv ?_
    refine st_callP rfl (.cons im0 (.cons im0 .nil)) (c_Mod _ _ (by omega) (by omega)) ?_
    refine asg ?_
    refine st_end nfc_Next_0 ?_
    refine then_n (wl_ret ?_)
    rw [nxV, if_pos hk1, nxK, if_pos hk1]
    exact retM1 rfl (.imm (.pure rfl)) rfl rfl (dice_pure l _)
theorem nfc_number_0 {p : Prop} (h : p := by (try simp only [e1, e2, e3, e4, p1, p2, p3, q1, q2, q3, l1, t0, t1, r1, r2, r3, r4, Nat.zero_add, Nat.reduceMul, Nat.reduceAdd, b1, b2, b3, b4, b5, b6, i1, i2, i3, i4, i5, i6, Nat.reduceBEq, l1]); exact rfl) : p := h
namespace H_c_number
theorem om {p : Prop} (h : p := by first | (simp only [e1, e2, e3, e4, p1, p2, p3, q1, q2, q3, l1, t0, t1, r1, r2, r3, r4, Nat.zero_add, Nat.reduceMul, Nat.reduceAdd, b1, b2, b3, b4, b5, b6, i1, i2, i3, i4, i5, i6, Nat.reduceBEq, l1]; omega) | omega) : p := h
end H_c_number
open H_c_number in
set_option maxHeartbeats 1000000 in
set_option maxRecDepth 100000 in
theorem c_number (l : List Int) (k : Nat) (hl : l.length ≤ 500) (hk : k ≤ 500) : CallOKM Try.prog 55 ⟨2, [diceL l k], true⟩ [.eptr 0 2 0 0] (ratL (nbV l k).1) ⟨2, [diceL l (nbV l k).2], true⟩ := by
  have k1 := nxK_le (l := l) hl hk
  have k2 := nxK_le (l := l) hl k1
  have hb1 := nxV_lt (l := l) (k := k) (n := 13) (by decide)
  have hb2 := nxV_lt (l := l) (k := nxK l (nxK l k)) (n := 4) (by decide)
  refine callM_of fol Try.func55 rfl (by decide +kernel) (by decide +kernel) (Nat.le_of_ble_eq_true rfl) rfl ?_
  refine wl_seq (wl_reg ?_)
  refine st_alloc rfl rfl (.alloc Z34a) ?_
  refine st_end nfc_number_0 ?_
  refine then_n (wl_seq (wl_reg (mv ?_)))
  refine st_callM 0 rfl rfl rfl (dice_pure l _) (.cons .ptr (.cons (.imm (.pure rfl)) .nil)) .ptr (c_Next l k 13 (by omega) (by omega) (by decide) (by decide)) rfl (dice_pure l _) ?_
  refine asg ?_
  refine st_end nfc_number_0 ?_
  refine then_n (wl_seq (wl_seq (wl_reg (mv ?_))))
  refine st_callM 0 rfl rfl rfl (dice_pure l _) (.cons .ptr (.cons (.imm (.pure rfl)) .nil)) .ptr (c_Next l (nxK l k) 4 (by omega) (by omega) (by decide) (by decide)) rfl (dice_pure l _) ?_
  refine st_pure rfl (.bin rfl rfl rfl) ?_
  refine st_end nfc_number_0 ?_
  refine then_n ?_
  refine wl_cond rfl (fun h8 => ?_) (fun h8 => ?_)
  · skip
    have h8r := h8
    try simp only [hce, l1, t0, t1, dflt, val_dig] at h8
    refine wl_seq (wl_reg (mv ?_))
    refine st_pure rfl (.bin rfl rfl (sub64 (by omega) (by omega))) ?_
    refine mv ?_
    refine st_callM 0 rfl rfl rfl (dice_pure l _) (.cons .ptr (.cons (.imm (.pure rfl)) .nil)) .ptr (c_Next l (nxK l (nxK l k)) 4 (by omega) (by omega) (by decide) (by decide)) rfl (dice_pure l _) ?_
    refine st_pure rfl (.bin rfl rfl (add64 (by omega) (by omega))) ?_
    refine st_callP rfl (.cons im0 (.cons im0 .nil)) (c_FFrac (nxV l k 13 - 6) (1 + nxV l (nxK l (nxK l k)) 4) (by omega) (by omega) (by omega) (by omega) (by omega)) ?_
    refine st_store rfl sr34 ?_
    refine st_end nfc_number_0 ?_
    refine then_n (wl_ret (then_r ?_))
    rw [nbV, if_pos h8]
    exact retMC rfl rfl (ratE.csize _) (ratL_all _) T34 (.pure (ratE.pure _)) rfl rfl (dice_pure l _)
  · skip
    have h8r := h8
    try simp only [hce, l1, t0, t1, dflt, val_dig] at h8
    refine wl_skip (then_n (wl_seq (wl_reg (mv ?_))))
    refine st_pure rfl (.bin rfl rfl (sub64 (by omega) (by omega))) ?_
    refine st_callP rfl (.cons im0 .nil) (c_FInt (nxV l k 13 - 6) (by omega) (by omega)) ?_
    refine st_store rfl sr34 ?_
    refine st_end nfc_number_0 ?_
    refine then_n (wl_ret ?_)
    rw [nbV, if_neg h8]
    exact retMC rfl rfl (ratE.csize _) (ratL_all _) T34 (.pure (ratE.pure _)) rfl rfl (dice_pure l _)
theorem nfc_Poly_0 {p : Prop} (h : p := by (try simp only [e1, e2, e3, e4, p1, p2, p3, q1, q2, q3, l1, t0, t1, r1, r2, r3, r4, Nat.zero_add, Nat.reduceMul, Nat.reduceAdd, b1, b2, b3, b4, b5, b6, i1, i2, i3, i4, i5, i6, Nat.reduceBEq, l1, hNx, ratL_ren, take_map_len, map_snoc, len_snoc, List.length_cons, List.length_nil, kills_map ratE, LV.kill, kills, dice_kill, ek]); exact rfl) : p := h
theorem clc_Poly_1 {p : Prop} (h : p := by first | rfl | (simp only [e1, e2, e3, e4, p1, p2, p3, q1, q2, q3, l1, t0, t1, r1, r2, r3, r4, Nat.zero_add, Nat.reduceMul, Nat.reduceAdd, b1, b2, b3, b4, b5, b6, i1, i2, i3, i4, i5, i6, Nat.reduceBEq, l1, hNx, ratL_ren, take_map_len, map_snoc, len_snoc, List.length_cons, List.length_nil, kills_map ratE, LV.kill, kills, dice_kill, ek]; done) | (simp only [e1, e2, e3, e4, p1, p2, p3, q1, q2, q3, l1, t0, t1, r1, r2, r3, r4, Nat.zero_add, Nat.reduceMul, Nat.reduceAdd, b1, b2, b3, b4, b5, b6, i1, i2, i3, i4, i5, i6, Nat.reduceBEq, l1, hNx, ratL_ren, take_map_len, map_snoc, len_snoc, List.length_cons, List.length_nil, kills_map ratE, LV.kill, kills, dice_kill, ek]; rfl) | (simp only [e1, e2, e3, e4, p1, p2, p3, q1, q2, q3, l1, t0, t1, r1, r2, r3, r4, Nat.zero_add, Nat.reduceMul, Nat.reduceAdd, b1, b2, b3, b4, b5, b6, i1, i2, i3, i4, i5, i6, Nat.reduceBEq, l1, hNx, ratL_ren, take_map_len, map_snoc, len_snoc, List.length_cons, List.length_nil, kills_map ratE, LV.kill, kills, dice_kill, ek]; congr 3 <;> omega) | (simp only [e1, e2, e3, e4, p1, p2, p3, q1, q2, q3, l1, t0, t1, r1, r2, r3, r4, Nat.zero_add, Nat.reduceMul, Nat.reduceAdd, b1, b2, b3, b4, b5, b6, i1, i2, i3, i4, i5, i6, Nat.reduceBEq, l1, hNx, ratL_ren, take_map_len, map_snoc, len_snoc, List.length_cons, List.length_nil, kills_map ratE, LV.kill, kills, dice_kill, ek]; congr 2 <;> omega)) : p := h
namespace H_c_Poly
theorem om {p : Prop} (h : p := by first | (simp only [e1, e2, e3, e4, p1, p2, p3, q1, q2, q3, l1, t0, t1, r1, r2, r3, r4, Nat.zero_add, Nat.reduceMul, Nat.reduceAdd, b1, b2, b3, b4, b5, b6, i1, i2, i3, i4, i5, i6, Nat.reduceBEq, l1, hNx, ratL_ren, take_map_len, map_snoc, len_snoc, List.length_cons, List.length_nil, kills_map ratE, LV.kill, kills, dice_kill, ek]; omega) | omega) : p := h
end H_c_Poly
open H_c_Poly in
set_option maxHeartbeats 1000000 in
set_option maxRecDepth 100000 in
theorem c_Poly (l : List Int) (k0 : Nat) (n : Int) (hl : l.length ≤ 500) (hk : k0 ≤ 500) (hn : 0 ≤ n) (hn2 : n ≤ 100) : CallOKM Try.prog 17 ⟨2, [diceL l k0], true⟩ [.eptr 0 2 0 0, iL n] (.list 3 ((poV l k0 n).map ratL)) ⟨2, [diceL l (poK l k0 n)], true⟩ := by
  have hb1 := nxV_lt (l := l) (k := k0) (n := n + 1) (by omega)
  obtain ⟨N, hN⟩ : ∃ N : Nat, nxV l k0 (n + 1) = (N : Int) := ⟨(nxV l k0 (n + 1)).toNat, by omega⟩
  have hNN : (nxV l k0 (n + 1)).toNat = N := by omega
  have hNx : nxV l k0 (n + 1) = ((N + 1 : Nat) : Int) - 1 := by omega
  refine callM_of fol Try.func17 rfl (by decide +kernel) (by decide +kernel) (Nat.le_of_ble_eq_true rfl) rfl ?_
  have ek : True := trivial
  refine wl_seq (wl_reg (asg ?_))
  refine st_end nfc_Poly_0 ?_
  refine then_n (wl_seq (wl_reg (asg ?_)))
  refine st_end nfc_Poly_0 ?_
  refine then_n (wl_seq (wl_seq (wl_reg (mv (mv ?_)))))
  refine st_pure rfl (.bin rfl rfl (add64 om om)) ?_
  refine st_callM 0 rfl rfl rfl (dice_pure l _) (.cons .ptr (.cons (.imm (.pure rfl)) .nil)) .ptr (c_Next l k0 (n + 1) (by omega) (by omega) (by omega) (by omega)) rfl (dice_pure l _) ?_
  refine asg ?_
  refine st_end nfc_Poly_0 ?_
  refine then_n (wl_block ?_)
  refine wl_weak (Weak.own (t := 5) 19 3 rfl rfl) ?_
  refine wl_loop (α := Nat × Nat × List Rat) (fun st L => ((((St.mk L.slot (hp [(0, ⟨2, [diceL l st.2.1], true⟩), (19, ⟨3, st.2.2.map ratL, true⟩)])).put (some 0) (.eptr 0 2 0 0)).put (some 5) (.ref 19 3 0 st.2.2.length)).put (some 6) (iL ((st.1 : Int) - 1)))) (fun st => st.2.1 ≤ 500 ∧ st.2.2.length + st.1 = N + 1 ∧ st.2.2 ++ plV l st.2.1 st.1 = poV l k0 n ∧ plK l st.2.1 st.1 = poK l k0 n) (fun st => st.1) ((N + 1), (nxK l k0), []) (show ((nxK l k0)) ≤ 500 ∧ ([]).length + ((N + 1)) = N + 1 ∧ ([]) ++ plV l ((nxK l k0)) ((N + 1)) = poV l k0 n ∧ plK l ((nxK l k0)) ((N + 1)) = poK l k0 n from ⟨nxK_le hl hk, by simp, by rw [poV, hNN]; rfl, by rw [poK, hNN]⟩) ⟨_, Weak.of_eq (put_id' (put_id' (put_id' (mk_id' clc_Poly_1) clc_Poly_1) clc_Poly_1) clc_Poly_1)⟩ ?_
  rintro ⟨c, k, o⟩ L1 hLC
  obtain ⟨hk1, ho, hV, hK⟩ : k ≤ 500 ∧ o.length + c = N + 1 ∧ o ++ plV l k c = poV l k0 n ∧ plK l k c = poK l k0 n := hLC
  show wpL _ _ _ ((((St.mk L1.slot (hp [(0, ⟨2, [diceL l k], true⟩), (19, ⟨3, o.map ratL, true⟩)])).put (some 0) (.eptr 0 2 0 0)).put (some 5) (.ref 19 3 0 o.length)).put (some 6) (iL ((c : Int) - 1)))
  refine wl_seq (wl_seq (wl_reg (mv ?_)))
  refine st_pure rfl (.bin rfl rfl rfl) ?_
  refine st_end nfc_Poly_0 ?_
  refine then_n ?_
  refine wl_cond rfl (fun h12 => ?_) (fun h12 => ?_)
  · skip
    have h12r := h12
    try simp only [hce, l1, t0, t1, dflt, val_dig] at h12
    obtain ⟨j, rfl⟩ : ∃ j, c = j + 1 := ⟨c - 1, by omega⟩
    have ek : (((j + 1 : Nat) : Int) - 1) = (j : Int) := by omega
    refine wl_skip (then_n (wl_seq (wl_block (wl_reg (mv (mv ?_))))))
    refine st_callM 0 rfl rfl rfl (dice_pure l _) (.cons .ptr .nil) .ptr (c_number l k (by omega) (by omega)) rfl (dice_pure l _) ?_
    simp only [ratL_ren]
    refine st_alloc rfl rfl (.lit1 ratE Try.underlying37 Z34 T34 rfl (by decide) (by decide)) ?_
    refine st_store rfl (.app (news := [ratL (nbV l k).1]) rfl rfl rfl rfl rfl (by simp) (.inl rfl) (by decide) Try.underlying37 Try.underlying37 Z34a T34 rfl B34 (.inl ⟨18, 0, _, rfl, by decide, rfl, rfl, by simp, rfl, by simp [pures, ratE.pure]⟩) (by simp; omega) (by simp; omega) (by decide)) ?_
    refine asg ?_
    refine st_end nfc_Poly_0 ?_
    refine blk_n (then_n ?_)
    refine wl_regW (Weak.kill _ 18) ?_
    refine mv ?_
    refine st_pure rfl (.bin rfl rfl (sub64 om om)) ?_
    refine asg ?_
    refine st_end nfc_Poly_0 ?_
    refine then_n ?_
    exact ⟨(j, (nbV l k).2, o ++ [(nbV l k).1]), _, (show ((nbV l k).2) ≤ 500 ∧ (o ++ [(nbV l k).1]).length + (j) = N + 1 ∧ (o ++ [(nbV l k).1]) ++ plV l ((nbV l k).2) (j) = poV l k0 n ∧ plK l ((nbV l k).2) (j) = poK l k0 n from ⟨nbK_le hl hk1, by simp; omega, by rw [List.append_assoc]; exact hV, hK⟩), (show (j) < j + 1 from by omega), Weak.of_eq (put_id' (put_id' (put_id' (mk_id' clc_Poly_1) clc_Poly_1) clc_Poly_1) clc_Poly_1)⟩
  · skip
    have h12r := h12
    try simp only [hce, l1, t0, t1, dflt, val_dig] at h12
    obtain rfl : c = 0 := by omega
    rw [plV, List.append_nil] at hV
    rw [plK] at hK
    refine wl_exit ?_
    refine then_e (then_e (blk_e (then_n (wl_seq (wl_reg (mv (asg ?_)))))))
    refine st_end nfc_Poly_0 ?_
    refine then_n (wl_ret ?_)
    rw [← hV, ← hK]
    exact retMf [19] rfl rfl (imm_refm ratE rfl rfl rfl) rfl rfl (dice_pure l _)
end Go.Proofs.Ythhdcfhaldcheaa
