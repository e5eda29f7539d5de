/- The law BernsteinHull. -/
import Derived.Test.YthhdcfhaldcheaaH3
set_option linter.unusedVariables false
set_option linter.unusedSimpArgs false
namespace Go.Proofs.Ythhdcfhaldcheaa
open Go.Lg
end Go.Proofs.Ythhdcfhaldcheaa
namespace Go.Lg
/-- a call that writes a block of the caller and answers a value without places -/
theorem st_callMp {P : Program} {dst : Option Tmp} {ty : TypeId} {pos : String} {af : Array Edge} {g : Option (Nat × Bool)} {rest : List Oper} {L : St} {K : St → Prop} {f : FuncId} {xs : Array Operand} {ats : Array TypeId} {args : List LV} {r : LV} {ops : Array Oper} (b : Nat) {blk blk' : Blk} (hg : GuardIs ops L ⟨dst, .call ⟨.value (.func f), xs, ats⟩, ty, pos, af, g⟩ true)
    (hb : L.heap b = some blk) (hm : blk.mt = true) (hp : pures blk.vals = true) (ha : ArgML L.heap b (xs.toList.map L.ev) args) (hn : Names b (xs.toList.map L.ev)) (hk : CallOKM P f blk args r blk')
    (hm' : blk'.mt = true) (hp' : pures blk'.vals = true) (hr : r.pure = true) (k : opsL P false ops rest ((L.setB b (some blk')).put dst r) K) :
    opsL P false ops (⟨dst, .call ⟨.value (.func f), xs, ats⟩, ty, pos, af, g⟩ :: rest) L K :=
  st_callM b hg hb hm hp ha hn hk hm' hp' (by rw [LV.ren_pure _ _ hr]; exact k)
end Go.Lg
namespace Go.Proofs.Ythhdcfhaldcheaa
open Go.Lg
/-! ### the law BernsteinHull: what it needs of the numbers -/
theorem lo_hi (t : Rat) : ∀ (k : Nat) (q tl : List Rat), q.length = k + 1 → (hiF t (k + 1) q tl).getD 0 0 = (loF t (k + 1) q).getD k 0
  | 0, q, tl, h => by
    match q, h with
    | [x], _ => rfl
  | k + 1, q, tl, h => by
    have := lo_hi t k (stp t q) (q.getD (k + 1) 0 :: tl) (by rw [stp_len]; omega)
    rw [hiF, loF, List.getD_cons_succ]
    exact this
theorem hi_ev {p : List Rat} {t : Rat} (h : 0 < p.length) : (hiP p t).getD 0 0 = evP p t := by
  obtain ⟨k, hk⟩ : ∃ k, p.length = k + 1 := ⟨p.length - 1, by omega⟩
  unfold hiP evP loP
  rw [hk]
  exact lo_hi t k p [] hk
theorem lo_sz {t : Rat} {C M : Nat} (hC : rl (1 - t) + rl t + 1 ≤ C) : ∀ (k : Nat) (q : List Rat), q.length = k → (∀ x ∈ q, (rl x + C) * 2 ^ k ≤ M) → ∀ x ∈ loF t k q, rl x + C ≤ M
  | 0, q, _, _, x, hx => by cases hx
  | k + 1, q, hq, h, x, hx => by
    rw [loF, List.mem_cons] at hx
    rcases hx with rfl | hx
    · exact sz_rl (h _ (getD_mem (by omega)))
    · exact lo_sz hC k (stp t q) (by rw [stp_len]; omega) (stp_sz hC h) x hx
theorem hi_sz {t : Rat} {C M : Nat} (hC : rl (1 - t) + rl t + 1 ≤ C) : ∀ (k : Nat) (q tl : List Rat), q.length = k → (∀ x ∈ q, (rl x + C) * 2 ^ k ≤ M) → (∀ x ∈ tl, rl x + C ≤ M) → ∀ x ∈ hiF t k q tl, rl x + C ≤ M
  | 0, q, tl, hq, _, h2, x, hx => by
    obtain rfl : q = [] := List.eq_nil_of_length_eq_zero hq
    exact h2 x hx
  | k + 1, q, tl, hq, h, h2, x, hx => by
    refine hi_sz hC k (stp t q) _ (by rw [stp_len]; omega) (stp_sz hC h) (fun y hy => ?_) x hx
    rcases List.mem_cons.1 hy with rfl | hy
    · exact sz_rl (h _ (getD_mem (by omega)))
    · exact h2 y hy
theorem HS.lo {p : List Rat} {t : Rat} (h : HS p t) : ∀ x ∈ loP p t, Go.Lg.rl x ≤ 1073741824 := fun x hx => by
  obtain ⟨cc, h1, h2, h3⟩ := h
  have := lo_sz h1 p.length p rfl h3 x hx
  omega
theorem HS.hi {p : List Rat} {t : Rat} (h : HS p t) : ∀ x ∈ hiP p t, Go.Lg.rl x ≤ 1073741824 := fun x hx => by
  obtain ⟨cc, h1, h2, h3⟩ := h
  have := hi_sz h1 p.length p [] rfl h3 (fun y hy => by cases hy) x hx
  omega
theorem HS.ev {p : List Rat} {t : Rat} (h : HS p t) : Go.Lg.rl (evP p t) ≤ 1073741824 := getD_rl (by decide) h.lo _
theorem hs_of {p : List Rat} {t : Rat} (h1 : ∀ x ∈ p, rl x ≤ 1) (h2 : rl t ≤ 1) (h3 : p.length ≤ 25) : HS p t := by
  have h4 := rl_sub 1 t
  rw [show rl 1 = 1 from rfl] at h4
  refine ⟨6, by omega, by decide, fun x hx => ?_⟩
  have h5 := h1 x hx
  have h6 : 2 ^ p.length ≤ 2 ^ 25 := Nat.pow_le_pow_right (by decide) h3
  have h7 := Nat.mul_le_mul (show rl x + 6 ≤ 7 by omega) h6
  exact Nat.le_trans h7 (by decide)
theorem ups_of {p : List Rat} {n : Nat} (h1 : ∀ x ∈ p, rl x ≤ 1) (h2 : n + 1 - p.length ≤ 25) : upS p n := fun x hx => by
  have h5 := h1 x hx
  have h6 : 2 ^ (n + 1 - p.length) ≤ 2 ^ 25 := Nat.pow_le_pow_right (by decide) h2
  have h7 := Nat.mul_le_mul (show rl x + 3 ≤ 4 by omega) h6
  exact Nat.le_trans h7 (by decide)
theorem upS_up {p : List Rat} {n : Nat} (hn : n ≤ 1000) (h0 : 0 < p.length) (hl : p.length ≤ n + 1) (h : upS p n) : upS (upP p n) n := upS_it hn _ p h0 (by omega) h
theorem zip_self (a : List Rat) : ((zipG (· - ·) a a).any fun x => sgnR x != 0) = false := by
  rw [List.any_eq_false]
  intro x hx
  obtain ⟨i, _, rfl⟩ := List.mem_map.1 hx
  show ¬ (sgnR (a.getD i 0 - a.getD i 0) != 0) = true
  rw [Rat.sub_self]
  decide
theorem ptV_in (n : Int) : 0 ≤ ptV n ∧ ptV n ≤ 1 := by
  have hd := ptD_bd n
  have h1 := Int.emod_nonneg n (show ptD n + 1 ≠ 0 by omega)
  have h2 := Int.emod_lt_of_pos n (show (0 : Int) < ptD n + 1 by omega)
  have h3 := frac_ge (a := n % (ptD n + 1)) (b := ptD n) h1 (by omega)
  have h4 := frac_ge (a := ptD n - n % (ptD n + 1)) (b := ptD n) (by omega) (by omega)
  have h5 := frac_one (a := n % (ptD n + 1)) (b := ptD n - n % (ptD n + 1)) (c := ptD n) (by omega) (by omega)
  unfold ptV
  exact ⟨h3, by grind⟩
theorem ptV_rl (n : Int) : rl (ptV n) ≤ 1 := by
  have hd := ptD_bd n
  have h1 := Int.emod_nonneg n (show ptD n + 1 ≠ 0 by omega)
  have h2 := Int.emod_lt_of_pos n (show (0 : Int) < ptD n + 1 by omega)
  exact rl_ints (by omega) (by omega)
theorem vr_up {p : List Rat} {n : Nat} (h0 : 0 < p.length) : vrR (upP p n) ≤ vrR p := vr_it _ p h0
theorem ev_bnd {p : List Rat} {t : Rat} (h0 : 0 ≤ t) (h1 : t ≤ 1) (h : 0 < p.length) : hasR (bndP p) (evP p t) = true :=
  has_bnd (inR_lo h0 h1 _ p rfl (inR_bnd p) _ (by rw [loF_len]; omega))
theorem lo_bnd {p : List Rat} {t : Rat} (h0 : 0 ≤ t) (h1 : t ≤ 1) (h : 0 < p.length) : insR (bndP (loP p t)) (bndP p) = true :=
  ins_bnd (by rw [loP_len]; exact h) (inR_lo h0 h1 _ p rfl (inR_bnd p))
theorem hi_bnd {p : List Rat} {t : Rat} (h0 : 0 ≤ t) (h1 : t ≤ 1) (h : 0 < p.length) : insR (bndP (hiP p t)) (bndP p) = true :=
  ins_bnd (by rw [hiP_len]; exact h) (inR_hi h0 h1 _ p [] rfl (inR_bnd p) (fun i hi => by cases hi))
theorem up_bnd {p : List Rat} {n : Nat} (hl : p.length ≤ n + 1) (h : 0 < p.length) : insR (bndP (upP p n)) (bndP p) = true :=
  ins_bnd (by rw [upP_len hl]; omega) (inR_it _ p h (inR_bnd p))
theorem bnd_rl {p : List Rat} {R : Nat} (hR : 1 ≤ R) (h : ∀ x ∈ p, rl x ≤ R) : rl (bndP p).1 ≤ R ∧ rl (bndP p).2 ≤ R := bk_rl hR (getD_rl' hR h) p.length
theorem vrR_le (p : List Rat) : vrR p ≤ p.length := by have := vrs_le 0 (p.map sgnR); rw [List.length_map] at this; exact this
theorem nfc_BernsteinHull_0 {p : Prop} (h : p := by (try simp only [e1, e2, e3, e4, p1, p2, p3, q1, q2, q3, l1, t0, t1, r1, r2, r3, r4, Nat.zero_add, Nat.reduceMul, Nat.reduceAdd, b1, b2, b3, b4, b5, b6, i1, i2, i3, i4, i5, i6, Nat.reduceBEq, dfq, r1r, hqm, hll, hhl, kills_map ratE, ratL_kill, spL_kill, LV.kill, kills, dice_kill]); exact rfl) : p := h
namespace H_c_BernsteinHull
theorem om {p : Prop} (h : p := by first | (simp only [e1, e2, e3, e4, p1, p2, p3, q1, q2, q3, l1, t0, t1, r1, r2, r3, r4, Nat.zero_add, Nat.reduceMul, Nat.reduceAdd, b1, b2, b3, b4, b5, b6, i1, i2, i3, i4, i5, i6, Nat.reduceBEq, dfq, r1r, hqm, hll, hhl, kills_map ratE, ratL_kill, spL_kill, LV.kill, kills, dice_kill]; omega) | omega) : p := h
end H_c_BernsteinHull
open H_c_BernsteinHull in
set_option maxHeartbeats 4000000 in
set_option maxRecDepth 100000 in
theorem c_BernsteinHull (l : List Int) (i n : Int) (hl : l.length ≤ 9223372036854775807 ∧ ∀ n ∈ l, -9223372036854775808 ≤ n ∧ n ≤ 9223372036854775807) (hi : -9223372036854775808 ≤ i ∧ i ≤ 9223372036854775807) (hn : -9223372036854775808 ≤ n ∧ n ≤ 9223372036854775807) : CallP Try.prog 8 [.list 1 (l.map i64L), iL i, iL n] (bL true) := by
  have h1 := Int.emod_nonneg n (show (8 : Int) ≠ 0 by decide)
  have h2 := Int.emod_lt_of_pos n (show (0 : Int) < 8 by decide)
  obtain ⟨m, hqm⟩ : ∃ m : Nat, n % 8 = (m : Int) := ⟨(n % 8).toNat, by omega⟩
  have hMod := c_Mod n 8 (by decide) (by decide)
  rw [hqm] at hMod
  have hpl := po_len (l := l) (k := 0) (n := 8) (by decide)
  have hpr := po_rl (l := l) (k := 0) (n := 8)
  have ht := ptV_in i
  have htr := ptV_rl i
  have hS : HS (poV l 0 8) (ptV i) := hs_of hpr htr (by omega)
  have hU : upS (poV l 0 8) ((poV l 0 8).length - 1 + m) := ups_of hpr (by omega)
  have hUq : upS (upP (poV l 0 8) ((poV l 0 8).length - 1 + m)) ((poV l 0 8).length - 1 + m) := upS_up (by omega) (by omega) (by omega) hU
  have hql : (upP (poV l 0 8) ((poV l 0 8).length - 1 + m)).length = ((poV l 0 8).length - 1 + m) + 1 := upP_len (by omega)
  have hll := loP_len (poV l 0 8) (ptV i)
  have hhl := hiP_len (poV l 0 8) (ptV i)
  have hlr := hS.lo
  have hhr := hS.hi
  have her := hS.ev
  have hqr : ∀ x ∈ (upP (poV l 0 8) ((poV l 0 8).length - 1 + m)), rl x ≤ 1073741824 := fun x hx => by
    obtain ⟨j, hj, rfl⟩ := List.getElem_of_mem hx
    have := upS_rl hUq j
    rwa [List.getD_eq_getElem?_getD, List.getElem?_eq_getElem hj] at this
  have b1r := bnd_rl (R := 1073741824) (by decide) (fun x hx => Nat.le_trans (hpr x hx) (by decide))
  have b2r := bnd_rl (R := 1073741824) (by decide) hlr
  have b3r := bnd_rl (R := 1073741824) (by decide) hhr
  have b4r := bnd_rl (R := 1073741824) (by decide) hqr
  have v1r := vrR_le (loP (poV l 0 8) (ptV i))
  have v2r := vrR_le (hiP (poV l 0 8) (ptV i))
  have v3r := vrR_le (upP (poV l 0 8) ((poV l 0 8).length - 1 + m))
  have v4r := vrR_le (poV l 0 8)
  refine callP_of fol Try.func8 rfl (by decide +kernel) (by decide +kernel) (Nat.le_of_ble_eq_true rfl) tm0 ?_
  refine wl_seq (wl_reg (asg ?_))
  refine st_end nfc_BernsteinHull_0 ?_
  refine then_n (wl_seq (wl_seq (wl_reg (mv ?_))))
  refine st_callP rfl (.cons im0 .nil) (c_Light l (by omega)) ?_
  refine st_pure rfl (.not rfl) ?_
  refine st_end nfc_BernsteinHull_0 ?_
  refine then_n ?_
  refine wl_cond rfl (fun h17 => ?_) (fun h17 => ?_)
  · skip
    have h17r := h17
    try simp only [hce, l1, t0, t1, dflt, val_dig] at h17
    refine wl_seq (wl_reg ?_)
    refine st_callP rfl .nil (c_awake5) ?_
    refine asg ?_
    refine st_end nfc_BernsteinHull_0 ?_
    refine then_n (wl_ret (then_r ?_))
    exact ret1 rfl (by first | exact .pure rfl | exact .pure (limL_pure _) | exact .pure (magL_pure _) | exact .pure (ratE.pure _) | exact .pure (pure_lst u32E _ _) | exact .pure (pure_lst ratE _ _))
  · skip
    have h17r := h17
    try simp only [hce, l1, t0, t1, dflt, val_dig] at h17
    refine wl_skip (then_n (wl_seq (wl_reg (mv ?_))))
    refine st_call1 [] rfl rfl (.cons im0 .nil) (c_Roll l) (dice_pure l 0) rfl ?_
    refine st_callMp 1000321 rfl rfl rfl (dice_pure l _) (.cons .ptr (.cons (.imm (.pure rfl)) .nil)) .ptr (c_Poly l 0 8 (by omega) (by omega) (by decide) (by decide)) rfl (dice_pure l _) (pure_lst ratE _ _) ?_
    refine asg ?_
    refine st_end nfc_BernsteinHull_0 ?_
    refine then_n (wl_seq (wl_reg (mv ?_)))
    refine st_callP rfl (.cons im0 .nil) (c_MPart i hi) ?_
    refine st_alloc rfl rfl (.alloc Z34a) ?_
    refine st_store rfl sr34 ?_
    refine st_end nfc_BernsteinHull_0 ?_
    refine then_n (wl_seq (wl_reg (mv ?_)))
    refine st_pure rfl ld34 ?_
    refine st_callP rfl (.cons im0 (.cons im0 .nil)) (c_BSplit (poV l 0 8) (ptV i) hS) ?_
    refine mv ?_
    refine st_pure rfl (.extract rfl rfl nt0) ?_
    refine st_pure rfl (.extract rfl rfl nt0) ?_
    refine asg (asg ?_)
    refine st_end nfc_BernsteinHull_0 ?_
    refine then_n (wl_seq (wl_reg (mv (mv ?_))))
    refine st_pure rfl ln37 ?_
    refine st_pure rfl (.bin rfl rfl (sub1N (by omega) (by omega))) ?_
    refine mv ?_
    refine st_callP rfl (.cons im0 (.cons im0 .nil)) (hMod) ?_
    refine st_pure rfl (.bin rfl rfl (add64N (by omega))) ?_
    refine st_callP rfl (.cons im0 (.cons im0 .nil)) (c_Elev (poV l 0 8) ((poV l 0 8).length - 1 + m) (by omega) (by omega) (by omega) hU) ?_
    refine mv ?_
    refine st_pure rfl (.extract rfl rfl nt0) ?_
    refine st_pure rfl (.extract rfl rfl nt0) ?_
    refine asg (asg ?_)
    refine st_end nfc_BernsteinHull_0 ?_
    refine then_n (wl_seq (wl_seq (wl_reg (mv ?_))))
    refine st_pure rfl ln37 ?_
    refine mv ?_
    refine st_pure rfl ln37 ?_
    refine st_pure rfl (.bin rfl rfl rfl) ?_
    refine mv ?_
    refine st_pure (guardX (v := false) rfl rfl ((by rw [hll]; simp)) rfl) (.move _) ?_
    refine st_pure (guardX (v := false) rfl rfl ((by rw [hll]; simp)) rfl) ln37 ?_
    refine st_pure (guardX (v := false) rfl rfl ((by rw [hll]; simp)) rfl) (.move _) ?_
    refine st_pure (guardX (v := false) rfl rfl ((by rw [hll]; simp)) rfl) ln37 ?_
    refine st_pure (guardX (v := false) rfl rfl ((by rw [hll]; simp)) rfl) (.bin rfl rfl rfl) ?_
    refine st_pure rfl (.pickF rfl ((by rw [hll]; simp))) ?_
    refine mv ?_
    refine st_pure (guardX (v := false) rfl rfl ((by rw [hhl]; simp)) rfl) (.move _) ?_
    refine st_pure (guardX (v := false) rfl rfl ((by rw [hhl]; simp)) rfl) (.bin rfl rfl rfl) ?_
    refine st_pure rfl (.pickF rfl ((by rw [hhl]; simp))) ?_
    refine st_end nfc_BernsteinHull_0 ?_
    refine then_n ?_
    refine wl_condY (b := _) rfl (by decide) ?_
    refine wl_skip (then_n (wl_seq (wl_reg (mv ?_))))
    refine st_callP rfl (.cons im0 .nil) (c_Bounds (poV l 0 8) (by omega) (fun x hx => Nat.le_trans (hpr x hx) (by decide))) ?_
    refine st_alloc rfl rfl (.allocE (a := (0, 0)) spE Z67s) ?_
    refine st_store rfl sr67 ?_
    refine st_end nfc_BernsteinHull_0 ?_
    refine then_n (wl_seq (wl_reg (mv ?_)))
    refine st_pure rfl ld34 ?_
    refine st_callP rfl (.cons im0 (.cons im0 .nil)) (c_BEval (poV l 0 8) (ptV i) hS (by omega)) ?_
    refine st_alloc rfl rfl (.alloc Z34a) ?_
    refine st_store rfl sr34 ?_
    refine st_end nfc_BernsteinHull_0 ?_
    refine then_n (wl_seq ?_)
    refine wl_regD 64 (by decide +kernel) ?_
    refine st_pure rfl ld67 ?_
    refine st_pure rfl ld34 ?_
    refine st_callP rfl (.cons im0 (.cons im0 .nil)) (c_FHas (bndP (poV l 0 8)) (evP (poV l 0 8) (ptV i)) (by omega) (by omega)) ?_
    refine mv ?_
    refine st_pure (guardX (v := true) rfl rfl ((ev_bnd ht.1 ht.2 (by omega))) rfl) (.move _) ?_
    refine st_callP (guardX (v := true) rfl rfl ((ev_bnd ht.1 ht.2 (by omega))) rfl) (.cons im0 .nil) (c_Bounds (loP (poV l 0 8) (ptV i)) (by omega) (fun x hx => Nat.le_trans (hlr x hx) (by decide))) ?_
    refine st_pure (guardX (v := true) rfl rfl ((ev_bnd ht.1 ht.2 (by omega))) rfl) ld67 ?_
    refine st_callP (guardX (v := true) rfl rfl ((ev_bnd ht.1 ht.2 (by omega))) rfl) (.cons im0 (.cons im0 .nil)) (c_FInside (bndP (loP (poV l 0 8) (ptV i))) (bndP (poV l 0 8)) (by omega) (by omega) (by omega) (by omega)) ?_
    refine st_pure rfl (.pickT rfl ((ev_bnd ht.1 ht.2 (by omega)))) ?_
    refine mv ?_
    refine st_pure (guardX (v := true) rfl rfl ((lo_bnd ht.1 ht.2 (by omega))) rfl) (.move _) ?_
    refine st_callP (guardX (v := true) rfl rfl ((lo_bnd ht.1 ht.2 (by omega))) rfl) (.cons im0 .nil) (c_Bounds (hiP (poV l 0 8) (ptV i)) (by omega) (fun x hx => Nat.le_trans (hhr x hx) (by decide))) ?_
    refine st_pure (guardX (v := true) rfl rfl ((lo_bnd ht.1 ht.2 (by omega))) rfl) ld67 ?_
    refine st_callP (guardX (v := true) rfl rfl ((lo_bnd ht.1 ht.2 (by omega))) rfl) (.cons im0 (.cons im0 .nil)) (c_FInside (bndP (hiP (poV l 0 8) (ptV i))) (bndP (poV l 0 8)) (by omega) (by omega) (by omega) (by omega)) ?_
    refine st_pure rfl (.pickT rfl ((lo_bnd ht.1 ht.2 (by omega)))) ?_
    refine mv ?_
    refine st_pure (guardX (v := true) rfl rfl ((hi_bnd ht.1 ht.2 (by omega))) rfl) (.move _) ?_
    refine st_pure (guardX (v := true) rfl rfl ((hi_bnd ht.1 ht.2 (by omega))) rfl) (.move _) ?_
    refine st_pure (guardX (v := true) rfl rfl ((hi_bnd ht.1 ht.2 (by omega))) rfl) ln37 ?_
    refine st_pure (guardX (v := true) rfl rfl ((hi_bnd ht.1 ht.2 (by omega))) rfl) (.bin rfl rfl (sub1N (by omega) (by omega))) ?_
    refine st_pure (guardX (v := true) rfl rfl ((hi_bnd ht.1 ht.2 (by omega))) rfl) ix37 ?_
    refine st_pure (guardX (v := true) rfl rfl ((hi_bnd ht.1 ht.2 (by omega))) rfl) ld34 ?_
    refine st_pure (guardX (v := true) rfl rfl ((hi_bnd ht.1 ht.2 (by omega))) rfl) ld34 ?_
    refine st_callP (guardX (v := true) rfl rfl ((hi_bnd ht.1 ht.2 (by omega))) rfl) (.cons im0 (.cons im0 .nil)) (c_FSame ((loP (poV l 0 8) (ptV i)).getD ((loP (poV l 0 8) (ptV i)).length - 1) 0) (evP (poV l 0 8) (ptV i)) (by have := getD_rl (S := 1073741824) (by decide) hlr ((loP (poV l 0 8) (ptV i)).length - 1); omega)) ?_
    refine st_pure rfl (.pickT rfl ((hi_bnd ht.1 ht.2 (by omega)))) ?_
    refine mv ?_
    refine st_pure (guardX (v := true) rfl rfl ((decide_eq_true (by rw [hll]; rfl))) rfl) (.move _) ?_
    refine st_pure (guardX (v := true) rfl rfl ((decide_eq_true (by rw [hll]; rfl))) rfl) ix37 ?_
    refine st_pure (guardX (v := true) rfl rfl ((decide_eq_true (by rw [hll]; rfl))) rfl) ld34 ?_
    refine st_pure (guardX (v := true) rfl rfl ((decide_eq_true (by rw [hll]; rfl))) rfl) ld34 ?_
    refine st_callP (guardX (v := true) rfl rfl ((decide_eq_true (by rw [hll]; rfl))) rfl) (.cons im0 (.cons im0 .nil)) (c_FSame ((hiP (poV l 0 8) (ptV i)).getD 0 0) (evP (poV l 0 8) (ptV i)) (by have := getD_rl (S := 1073741824) (by decide) hhr 0; omega)) ?_
    refine st_pure rfl (.pickT rfl ((decide_eq_true (by rw [hll]; rfl)))) ?_
    refine mv ?_
    refine st_pure (guardX (v := true) rfl rfl ((decide_eq_true (hi_ev (by omega)))) rfl) (.move _) ?_
    refine st_pure (guardX (v := true) rfl rfl ((decide_eq_true (hi_ev (by omega)))) rfl) (.move _) ?_
    refine st_callP (guardX (v := true) rfl rfl ((decide_eq_true (hi_ev (by omega)))) rfl) (.cons im0 (.cons im0 .nil)) (c_BSame (poV l 0 8) (upP (poV l 0 8) ((poV l 0 8).length - 1 + m)) ((poV l 0 8).length - 1 + m) (by omega) (by omega) (by omega) (by omega) (by omega) (by omega) hU hUq) ?_
    refine st_pure rfl (.pickT rfl ((decide_eq_true (hi_ev (by omega))))) ?_
    refine mv ?_
    refine st_pure (guardX (v := true) rfl rfl ((by rw [upP_self (n := ((poV l 0 8).length - 1 + m)) (p := (upP (poV l 0 8) ((poV l 0 8).length - 1 + m))) (by omega), zip_self]; rfl)) rfl) (.move _) ?_
    refine st_callP (guardX (v := true) rfl rfl ((by rw [upP_self (n := ((poV l 0 8).length - 1 + m)) (p := (upP (poV l 0 8) ((poV l 0 8).length - 1 + m))) (by omega), zip_self]; rfl)) rfl) (.cons im0 .nil) (c_Variations (upP (poV l 0 8) ((poV l 0 8).length - 1 + m)) (by omega) (fun x hx => Nat.le_trans (hqr x hx) (by decide))) ?_
    refine st_pure (guardX (v := true) rfl rfl ((by rw [upP_self (n := ((poV l 0 8).length - 1 + m)) (p := (upP (poV l 0 8) ((poV l 0 8).length - 1 + m))) (by omega), zip_self]; rfl)) rfl) (.move _) ?_
    refine st_callP (guardX (v := true) rfl rfl ((by rw [upP_self (n := ((poV l 0 8).length - 1 + m)) (p := (upP (poV l 0 8) ((poV l 0 8).length - 1 + m))) (by omega), zip_self]; rfl)) rfl) (.cons im0 .nil) (c_Variations (poV l 0 8) (by omega) (fun x hx => Nat.le_trans (hpr x hx) (by decide))) ?_
    refine st_pure (guardX (v := true) rfl rfl ((by rw [upP_self (n := ((poV l 0 8).length - 1 + m)) (p := (upP (poV l 0 8) ((poV l 0 8).length - 1 + m))) (by omega), zip_self]; rfl)) rfl) (.bin rfl rfl rfl) ?_
    refine st_pure rfl (.pickT rfl ((by rw [upP_self (n := ((poV l 0 8).length - 1 + m)) (p := (upP (poV l 0 8) ((poV l 0 8).length - 1 + m))) (by omega), zip_self]; rfl))) ?_
    refine mv ?_
    refine st_pure (guardX (v := true) rfl rfl ((decide_eq_true (by have := vr_up (p := (poV l 0 8)) (n := ((poV l 0 8).length - 1 + m)) (by omega); omega))) rfl) (.move _) ?_
    refine st_callP (guardX (v := true) rfl rfl ((decide_eq_true (by have := vr_up (p := (poV l 0 8)) (n := ((poV l 0 8).length - 1 + m)) (by omega); omega))) rfl) (.cons im0 .nil) (c_Bounds (upP (poV l 0 8) ((poV l 0 8).length - 1 + m)) (by omega) (fun x hx => Nat.le_trans (hqr x hx) (by decide))) ?_
    refine st_pure (guardX (v := true) rfl rfl ((decide_eq_true (by have := vr_up (p := (poV l 0 8)) (n := ((poV l 0 8).length - 1 + m)) (by omega); omega))) rfl) ld67 ?_
    refine st_callP (guardX (v := true) rfl rfl ((decide_eq_true (by have := vr_up (p := (poV l 0 8)) (n := ((poV l 0 8).length - 1 + m)) (by omega); omega))) rfl) (.cons im0 (.cons im0 .nil)) (c_FInside (bndP (upP (poV l 0 8) ((poV l 0 8).length - 1 + m))) (bndP (poV l 0 8)) (by omega) (by omega) (by omega) (by omega)) ?_
    refine st_pure rfl (.pickT rfl ((decide_eq_true (by have := vr_up (p := (poV l 0 8)) (n := ((poV l 0 8).length - 1 + m)) (by omega); omega)))) ?_
    refine mv ?_
    refine st_pure (guardX (v := true) rfl rfl ((up_bnd (by omega) (by omega))) rfl) (.move _) ?_
    refine st_callP (guardX (v := true) rfl rfl ((up_bnd (by omega) (by omega))) rfl) (.cons im0 .nil) (c_Variations (loP (poV l 0 8) (ptV i)) (by omega) (fun x hx => Nat.le_trans (hlr x hx) (by decide))) ?_
    refine st_pure (guardX (v := true) rfl rfl ((up_bnd (by omega) (by omega))) rfl) (.move _) ?_
    refine st_callP (guardX (v := true) rfl rfl ((up_bnd (by omega) (by omega))) rfl) (.cons im0 .nil) (c_Variations (hiP (poV l 0 8) (ptV i)) (by omega) (fun x hx => Nat.le_trans (hhr x hx) (by decide))) ?_
    refine st_pure (guardX (v := true) rfl rfl ((up_bnd (by omega) (by omega))) rfl) (.bin rfl rfl (add64 om om)) ?_
    refine st_pure (guardX (v := true) rfl rfl ((up_bnd (by omega) (by omega))) rfl) (.move _) ?_
    refine st_callP (guardX (v := true) rfl rfl ((up_bnd (by omega) (by omega))) rfl) (.cons im0 .nil) (c_Variations (poV l 0 8) (by omega) (fun x hx => Nat.le_trans (hpr x hx) (by decide))) ?_
    refine st_pure (guardX (v := true) rfl rfl ((up_bnd (by omega) (by omega))) rfl) (.bin rfl rfl rfl) ?_
    refine st_pure rfl (.pickT rfl ((up_bnd (by omega) (by omega)))) ?_
    refine mv ?_
    refine st_callP (guardX (v := true) rfl rfl ((decide_eq_true (by have := vr_split ht.1 ht.2 (poV l 0 8); omega))) rfl) .nil (c_awake5) ?_
    refine st_pure rfl (.pickT rfl ((decide_eq_true (by have := vr_split ht.1 ht.2 (poV l 0 8); omega)))) ?_
    refine asg ?_
    refine st_end nfc_BernsteinHull_0 ?_
    refine then_n (wl_ret ?_)
    exact ret1 rfl (by first | exact .pure rfl | exact .pure (limL_pure _) | exact .pure (magL_pure _) | exact .pure (ratE.pure _) | exact .pure (pure_lst u32E _ _) | exact .pure (pure_lst ratE _ _))
end Go.Proofs.Ythhdcfhaldcheaa
