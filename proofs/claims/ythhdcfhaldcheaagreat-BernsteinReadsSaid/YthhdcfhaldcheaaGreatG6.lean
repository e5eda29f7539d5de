/- The law BernsteinReads. -/
import Derived.Test.YthhdcfhaldcheaaGreatG5
import Derived.Test.YthhdcfhaldcheaaGreatG3
set_option linter.unusedVariables false
set_option linter.unusedSimpArgs false
set_option maxHeartbeats 8000000
set_option maxRecDepth 100000
attribute [local irreducible] Go.Lg.opsL Go.Lg.wpL Go.Lg.thenL Go.Lg.blockL
namespace Go.Proofs.YthhdcfhaldcheaaGreat
open Go.Lg
theorem upT_sm {p : List Rat} {n : Nat} (h1 : ∀ x ∈ p, rl x ≤ 16) (hn : n ≤ 20) : upT p n := fun x hx => by
  have h5 := h1 x hx
  have h6 : 2 ^ (n + 1 - p.length) ≤ 2 ^ 21 := Nat.pow_le_pow_right (by decide) (by omega)
  have h7 := Nat.mul_le_mul (show rl x + 3 ≤ 19 by omega) h6
  exact Nat.le_trans h7 (by decide)
theorem upT_mem3 {p : List Rat} {n : Nat} (h : upT p n) : ∀ x ∈ p, rl x ≤ 1073741821 := fun x hx => by
  have h2 := Nat.le_trans (Nat.le_mul_of_pos_right (rl x + 3) (Nat.one_le_two_pow (n := n + 1 - p.length))) (h x hx)
  omega
theorem upS_sc2 {p : List Rat} {n : Nat} (hn : n ≤ 1000) (h0 : 0 < p.length) (h : upT p n) : upS (scP (-1) p) n := by
  have hr : rl (-1) ≤ 1 := by decide +kernel
  refine ⟨fun x hx => ?_, fun k hk x hx => ?_⟩
  · have := scP_rl hr (upT_mem3 h) x hx; omega
  · rw [scP_len] at hk
    rw [it_sc] at hx
    have := scP_rl hr (upT_mem3 (upT_it hn k p h0 hk h)) x hx; omega
theorem sz_of {p : List Rat} {R n M : Nat} (h1 : ∀ x ∈ p, rl x ≤ R) (hl : p.length ≤ n) (hM : (R + 1) * 2 ^ n ≤ M) : ∀ x ∈ p, (rl x + 1) * 2 ^ p.length ≤ M := fun x hx => by
  have h5 := h1 x hx
  exact Nat.le_trans (Nat.mul_le_mul (show rl x + 1 ≤ R + 1 by omega) (Nat.pow_le_pow_right (by decide) hl)) hM
theorem fpP_rlB {c : List Rat} {R : Nat} (hl : c.length ≤ 41) (hR : R ≤ 67108864) (hcR : ∀ x ∈ c, rl x ≤ R) : ∀ x ∈ fpP c, rl x ≤ 2751463631 := fun x hx => by
  obtain ⟨i, hi, rfl⟩ := List.mem_map.1 hx
  rw [List.mem_range] at hi
  have h1 := fpS_rl hl hi hcR (i + 1) (Nat.le_refl _)
  have h2 := fp_bd (k := i + 1) (i := i) (Nat.le_refl _) (by omega) hR
  show rl (fpS c i (i + 1)) ≤ _
  omega
namespace H_c_BernsteinReads
theorem zSm {p q : Prop} (k : q) (e : p = q := by simp only [e1, e2, e3, e4, p1, p2, p3, q1, q2, q3, l1, t0, t1, r1, r2, r3, r4, Nat.zero_add, Nat.reduceMul, Nat.reduceAdd, b1, b2, b3, b4, b5, b6, i1, i2, i3, i4, i5, i6, Nat.reduceBEq, dfq, kills_map ratE, ratL_kill, spL_kill, LV.kill, kills, dice_kill]; exact rfl) : p := e.mpr k
end H_c_BernsteinReads
open H_c_BernsteinReads in
theorem c_BernsteinReads (l : List Int) (c : Int) (hl : l.length ≤ 9223372036854775807 ∧ ∀ n ∈ l, -9223372036854775808 ≤ n ∧ n ≤ 9223372036854775807) (hc : -9223372036854775808 ≤ c ∧ c ≤ 9223372036854775807) : CallP Tryz.prog 7 [.list 1 (l.map i64L), iL c] (bL true) := by
  have hpl := po_len (l := l) (k := 0) (n := 7) (by decide)
  have hpr := po_rl (l := l) (k := 0) (n := 7)
  have hql := po_len (l := l) (k := poK l 0 7) (n := 7) (by decide)
  have hqr := po_rl (l := l) (k := poK l 0 7) (n := 7)
  have hSp := upS_cm (n := (poV l 0 7).length) hpr (by omega) (by omega) (by omega)
  have hUl := upP_len (p := (poV l 0 7)) (n := (poV l 0 7).length) (by omega)
  have hF := callP_own2 (c_FElev (poV l 0 7) (poV l 0 7).length (by omega) (by omega) (by omega) hSp) (pures_map ratE _) (by simp [hUl]) rfl
  have hUr := up_rl14 (n := (poV l 0 7).length) hpr (by omega) (by omega) (by omega) ((poV l 0 7).length + 1 - (poV l 0 7).length) (by omega)
  have hmn1 : (if (40 : Int) < ((poV l 0 7).length : Int) then 40 else ((poV l 0 7).length : Int)) = ((poV l 0 7).length : Int) := if_neg (by omega)
  refine fnP Tryz.func7 ?_
  refine zg9 ?_
  refine cp am1 (c_Light l (by omega)) ?_
  refine zg3 ?_
  refine wl_if rfl (fun h14r h14 => ?_) (fun h14r h14 => ?_)
  · refine zg2 ?_
    refine cp am0 (c_awake5) ?_
    refine zg5 ?_
    exact ret1 rfl (by first | exact .pure rfl | exact .pure (limL_pure _) | exact .pure (magL_pure _) | exact .pure (ratE.pure _) | exact .pure (pure_lst u32E _ _) | exact .pure (pure_lst ratE _ _))
  · have hk1 := poK_le (l := l) (k := 0) (n := 7) (by omega) (by omega)
    refine zg5 ?_
    refine st_call1 [] rfl rfl (.cons im0 .nil) (c_Roll l) (dice_pure l 0) rfl ?_
    refine zg6 ?_
    refine st_callMp 1000273 rfl rfl rfl (dice_pure l _) (.cons .ptr (.cons (.imm (.pure rfl)) .nil)) .ptr (c_Poly l 0 7 (by omega) (by omega) (by decide) (by decide)) rfl (dice_pure l _) (pure_lst ratE _ _) ?_
    refine zg1 ?_
    refine st_callMp 1000273 rfl rfl rfl (dice_pure l _) (.cons .ptr (.cons (.imm (.pure rfl)) .nil)) .ptr (c_Poly l (poK l 0 7) 7 (by omega) (by omega) (by decide) (by decide)) rfl (dice_pure l _) (pure_lst ratE _ _) ?_
    refine zg6 ?_
    refine wl_regW (Weak.kill _ 1000273) ?_
    refine zg1 ?_
    refine st_pure rfl (.bin rfl rfl (rem64 (b := 2) (by decide))) ?_
    refine zg3 ?_
    refine wl_cut (fun L => ∃ (q : List Rat) (L1 : St), (1 ≤ q.length ∧ q.length ≤ 9 ∧ ∀ x ∈ q, rl x ≤ 16) ∧ L = (((St.mk L1.slot (hp [])).put (some 6) (.list 3 ((poV l 0 7).map ratL))).put (some 7) (.list 3 (q.map ratL)))) ?_ ?_
    · refine wl_if rfl (fun h24r h24 => ?_) (fun h24r h24 => ?_)
      · refine zg5 ?_
        simp only [hmn1]
        refine cp am2 (hF) ?_
        refine zg6 ?_
        exact ⟨upP (poV l 0 7) (poV l 0 7).length, _, ⟨by omega, by omega, hUr⟩, ((put_id' (put_id' (mk_id' cl) cl) cl)).symm⟩
      · refine zg2 ?_
        exact ⟨(poV l (poK l 0 7) 7), _, ⟨by omega, by omega, (fun x hx => Nat.le_trans (hqr x hx) (by decide))⟩, ((put_id' (put_id' (mk_id' cl) cl) cl)).symm⟩
    · rintro _ ⟨q, LC24, ⟨hq1, hq9, hq16⟩, rfl⟩
      have hN : (max (poV l 0 7).length q.length - 1) ≤ 8 := by omega
      have hpq : (poV l 0 7).length = (max (poV l 0 7).length q.length - 1) + 1 ∨ q.length = (max (poV l 0 7).length q.length - 1) + 1 := by omega
      have hp16 : ∀ x ∈ (poV l 0 7), rl x ≤ 16 := (fun x hx => Nat.le_trans (hpr x hx) (by decide))
      have hTp := upT_sm (n := (max (poV l 0 7).length q.length - 1)) hp16 (by omega)
      have hTq := upT_sm (n := (max (poV l 0 7).length q.length - 1)) hq16 (by omega)
      have hBS := c_BSame (poV l 0 7) q (max (poV l 0 7).length q.length - 1) (by omega) (by omega) (by omega) (by omega) (by omega) hpq (upS_of (by omega) (by omega) hTp) (upS_of (by omega) (by omega) hTq)
      have hFS := c_FSame5 (poV l 0 7) q (max (poV l 0 7).length q.length - 1) (by omega) (by omega) (by omega) (by omega) (by omega) hpq (upS_of (by omega) (by omega) hTp) (upS_of (by omega) (by omega) hTq) (upS_sc2 (by omega) (by omega) hTq)
      have hBF := c_FP q 16 (by omega) (by omega) (by decide) hq16
      have hFF := c_FFP q 16 (by omega) (by omega) (by decide) hq16
      have hfl := fpP_len q
      have hfr := fpP_rlB (c := q) (R := 16) (by omega) (by decide) hq16
      have hsq := sz_of (n := 9) (M := 1048576) hq16 hq9 (by decide)
      have hBT := c_BTrim q (by omega) (by omega) hsq
      have hFT := c_FTrim5 q (by omega) (by omega) hsq
      have htq := topP_len q
      have htr := top_rlB (M := 1048576) (by decide) (by omega) hsq
      have hz0 := zN_le (topP q).length (topP q)
      have htl : (trmP q).length ≤ 41 := by rw [trmP, fpP_len, tr1, List.length_take]; omega
      have htR : ∀ x ∈ trmP q, rl x ≤ 2751463631 := fpP_rlB (R := 1048578) (by rw [tr1, List.length_take]; omega) (by decide) (fun x hx => htr x (List.mem_of_mem_take hx))
      have hsp := sz_of (n := 8) (M := 1073741824) hp16 (show (poV l 0 7).length ≤ 8 by omega) (by decide)
      have hsp2 := sz_of (n := 8) (M := 1048576) hp16 (show (poV l 0 7).length ≤ 8 by omega) (by decide)
      have htp := topP_len (poV l 0 7)
      have htpr := top_rlB (M := 1048576) (by decide) (by omega) hsp2
      have hb := bnd_rl (R := 16) (by decide) hp16
      refine zg4 ?_
      refine cp am1 (hBF) ?_
      refine zg10 ?_
      refine cp am1 (hFF) ?_
      refine zg10 ?_
      refine cp am1 (c_Bounds (poV l 0 7) (by omega) (fun x hx => Nat.le_trans (hpr x hx) (by decide))) ?_
      refine zg1 ?_
      refine cp am1 (c_FBounds (poV l 0 7) (by omega) (by omega) (fun x hx => Nat.le_trans (hpr x hx) (by decide))) ?_
      refine cp am2 (c_FSpSame (bndP (poV l 0 7)) (by omega) (by omega)) ?_
      refine zg2 ?_
      refine cp am1 (c_Variations (poV l 0 7) (by omega) (fun x hx => Nat.le_trans (hpr x hx) (by decide))) ?_
      refine zg1 ?_
      refine cp am1 (c_FVariations (poV l 0 7) (by omega)) ?_
      refine zg3 ?_
      refine st_pure (guardX (v := true) rfl rfl ((beq_self_eq_true _)) rfl) (.move _) ?_
      refine st_callP (guardX (v := true) rfl rfl ((beq_self_eq_true _)) rfl) (.cons im0 .nil) (c_Top (poV l 0 7) (by omega) (by omega) hsp) ?_
      refine st_pure (guardX (v := true) rfl rfl ((beq_self_eq_true _)) rfl) (.move _) ?_
      refine st_callP (guardX (v := true) rfl rfl ((beq_self_eq_true _)) rfl) (.cons im0 .nil) (c_FTop (poV l 0 7) (by omega) (by omega) hsp) ?_
      refine st_callP (guardX (v := true) rfl rfl ((beq_self_eq_true _)) rfl) (.cons im0 (.cons im0 .nil)) (c_FSameL (topP (poV l 0 7)) (topP (poV l 0 7)) (by omega) (by omega) (fun x hx => Nat.le_trans (htpr x hx) (by decide)) (fun x hx => Nat.le_trans (htpr x hx) (by decide))) ?_
      refine st_pure rfl (.pickT rfl ((beq_self_eq_true _))) ?_
      refine zg1 ?_
      refine st_pure (guardX (v := true) rfl rfl ((decide_eq_true rfl)) rfl) (.move _) ?_
      refine st_pure (guardX (v := true) rfl rfl ((decide_eq_true rfl)) rfl) (.move _) ?_
      refine st_pure (guardX (v := true) rfl rfl ((decide_eq_true rfl)) rfl) (.bin rfl rfl rfl) ?_
      refine st_pure rfl (.pickT rfl ((decide_eq_true rfl))) ?_
      refine zg1 ?_
      refine st_pure (guardX (v := true) rfl rfl ((beq_self_eq_true _)) rfl) (.move _) ?_
      refine st_pure (guardX (v := true) rfl rfl ((beq_self_eq_true _)) rfl) (.move _) ?_
      refine st_callP (guardX (v := true) rfl rfl ((beq_self_eq_true _)) rfl) (.cons im0 (.cons im0 .nil)) (c_same5 (fpP q) (fpP q) (by omega) (by omega) (fun x hx => Nat.le_trans (hfr x hx) (by decide)) (fun x hx => Nat.le_trans (hfr x hx) (by decide))) ?_
      refine st_pure rfl (.pickT rfl ((beq_self_eq_true _))) ?_
      refine zg1 ?_
      refine st_pure (guardX (v := true) rfl rfl ((decide_eq_true rfl)) rfl) (.move _) ?_
      refine st_callP (guardX (v := true) rfl rfl ((decide_eq_true rfl)) rfl) (.cons im0 .nil) (hBT) ?_
      refine st_pure (guardX (v := true) rfl rfl ((decide_eq_true rfl)) rfl) (.move _) ?_
      refine st_callP (guardX (v := true) rfl rfl ((decide_eq_true rfl)) rfl) (.cons im0 .nil) (hFT) ?_
      refine st_callP (guardX (v := true) rfl rfl ((decide_eq_true rfl)) rfl) (.cons im0 (.cons im0 .nil)) (c_same5 (trmP q) (trmP q) (by omega) (by omega) (fun x hx => Nat.le_trans (htR x hx) (by decide)) (fun x hx => Nat.le_trans (htR x hx) (by decide))) ?_
      refine st_pure rfl (.pickT rfl ((decide_eq_true rfl))) ?_
      refine zg1 ?_
      refine st_pure (guardX (v := true) rfl rfl ((decide_eq_true rfl)) rfl) (.move _) ?_
      refine st_pure (guardX (v := true) rfl rfl ((decide_eq_true rfl)) rfl) (.move _) ?_
      refine st_callP (guardX (v := true) rfl rfl ((decide_eq_true rfl)) rfl) (.cons im0 (.cons im0 .nil)) (hBS) ?_
      refine st_pure (guardX (v := true) rfl rfl ((decide_eq_true rfl)) rfl) (.move _) ?_
      refine st_pure (guardX (v := true) rfl rfl ((decide_eq_true rfl)) rfl) (.move _) ?_
      refine st_callP (guardX (v := true) rfl rfl ((decide_eq_true rfl)) rfl) (.cons im0 (.cons im0 .nil)) (hFS) ?_
      refine st_pure (guardX (v := true) rfl rfl ((decide_eq_true rfl)) rfl) (.beq rfl rfl Tryz.underlying4) ?_
      refine st_pure rfl (.pickT rfl ((decide_eq_true rfl))) ?_
      refine zg1 ?_
      refine st_pure (guardX (v := true) rfl rfl ((beq_self_eq_true _)) rfl) (.move _) ?_
      refine st_callP (guardX (v := true) rfl rfl ((beq_self_eq_true _)) rfl) (.cons im0 .nil) (c_BZero (poV l 0 7) (by omega) (fun x hx => Nat.le_trans (hpr x hx) (by decide))) ?_
      refine st_pure (guardX (v := true) rfl rfl ((beq_self_eq_true _)) rfl) (.move _) ?_
      refine st_callP (guardX (v := true) rfl rfl ((beq_self_eq_true _)) rfl) (.cons im0 .nil) (c_FZero (poV l 0 7) (by omega)) ?_
      refine st_pure (guardX (v := true) rfl rfl ((beq_self_eq_true _)) rfl) (.beq rfl rfl Tryz.underlying4) ?_
      refine st_pure rfl (.pickT rfl ((beq_self_eq_true _))) ?_
      refine zg1 ?_
      refine st_pure (guardX (v := true) rfl rfl ((beq_self_eq_true _)) rfl) (.build0 SL33 Z33a) ?_
      refine st_pure (guardX (v := true) rfl rfl ((beq_self_eq_true _)) rfl) (.build0 SL33 Z33a) ?_
      refine st_alloc (guardX (v := true) rfl rfl ((beq_self_eq_true _)) rfl) rfl (.lit2 ratE Tryz.underlying38 Z33 T33 rfl rfl (by decide) (by decide)) ?_
      refine st_callPf [98] (guardX (v := true) rfl rfl ((beq_self_eq_true _)) rfl) rfl (.cons (imm_refm ratE rfl rfl rfl) .nil) (c_BZero [0, 0] (by decide) (by decide +kernel)) ?_
      refine st_pure rfl (.pickT rfl ((beq_self_eq_true _))) ?_
      refine zg1 ?_
      refine st_callP (guardX (v := true) rfl rfl ((by decide +kernel)) rfl) .nil (c_awake5) ?_
      refine st_pure rfl (.pickT rfl ((by decide +kernel))) ?_
      refine zg4 ?_
      exact ret1 rfl (by first | exact .pure rfl | exact .pure (limL_pure _) | exact .pure (magL_pure _) | exact .pure (ratE.pure _) | exact .pure (pure_lst u32E _ _) | exact .pure (pure_lst ratE _ _))
end Go.Proofs.YthhdcfhaldcheaaGreat
