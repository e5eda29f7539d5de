/- The laws of chapter 5: the examples. -/
import Derived.Test.YthhdcfhaldcheaaB2
set_option linter.unusedVariables false
set_option linter.unusedSimpArgs false
namespace Go.Proofs.Ythhdcfhaldcheaa
open Go.Lg
end Go.Proofs.Ythhdcfhaldcheaa
namespace Go.Lg
section
variable {P : Program} {ρ : Operand → LV} {α : Type} {e : α → LV}
open Go.Proofs.Ythhdcfhaldcheaa in
theorem OpA.lit3 {T E : TypeId} {x y w : Operand} {d sz : Nat} {ag : Bool} {z a b c : α} (he : EncOK e sz ag) (hT : P.underlying T = some (.slice E)) (hz : ZeroOK P E (e z)) (hE : TyIs P E sz ag) (hx : ρ x = e a) (hy : ρ y = e b) (hw : ρ w = e c) (hs0 : 0 < sz) (hs1 : sz ≤ 1000) :
    OpA P ρ d (.buildSlice T 3 #[(0, x), (1, y), (2, w)]) (.ref d sz 0 3) ⟨sz, [a, b, c].map e, true⟩ := by
  have hne : ∀ v, ρ v = e a ∨ ρ v = e b ∨ ρ v = e c → lay (ρ v) = lay (e z) ∧ ρ v ≠ .any ∧ ∀ m, ρ v ≠ .tup m := by
    rintro v (h | h | h) <;> rw [h] <;> exact ⟨by simp [lay, he.csize, he.isAgg], LV.pure_ne_any (he.pure _), LV.pure_ne_tup (he.pure _)⟩
  have := OpA.lit (P := P) (ρ := ρ) (d := d) (T := T) (n := 3) (ps := #[(0, x), (1, y), (2, w)]) hT hz (by rw [he.isAgg]; exact hE) (he.csize z) (by omega) (by omega) hs0 (by
    intro p hp
    simp only [List.mem_cons, List.not_mem_nil, or_false] at hp
    rcases hp with rfl | rfl | rfl
    · exact ⟨by show 0 < 3; omega, hne x (.inl hx)⟩
    · exact ⟨by show 1 < 3; omega, hne y (.inr (.inl hy))⟩
    · exact ⟨by show 2 < 3; omega, hne w (.inr (.inr hw))⟩)
  simpa [buildL, hx, hy, hw, List.replicate] using this
end
end Go.Lg
namespace Go.Proofs.Ythhdcfhaldcheaa
open Go.Lg
theorem half_eq : (((1 : Int) : Rat) / ((2 : Int) : Rat)) = 1 / 2 := rfl
theorem aw_HS : HS [0, 0, 1] (1 / 2) := ⟨3, by decide +kernel, by decide, by decide +kernel⟩
theorem aw_lo : loP [0, 0, 1] (1 / 2) = [0, 0, 1 / 4] := by decide +kernel
theorem aw_hi : hiP [0, 0, 1] (1 / 2) = [1 / 4, 1 / 2, 1] := by decide +kernel
theorem aw_ev : evP [0, 0, 1] (1 / 2) = 1 / 4 := by decide +kernel
theorem c_tx14 : CallP Try.prog 52 [ratL (1 / 4)] (.v (.string ⟨#[49, 47, 52]⟩)) := by
  have := c_FText (1 / 4) (by decide +kernel) (by decide +kernel) (by decide +kernel)
  rw [show (1 / 4 : Rat).den = 4 by decide +kernel, show (1 / 4 : Rat).num.natAbs = 1 by decide +kernel] at this
  exact this
theorem c_tx12 : CallP Try.prog 52 [ratL (1 / 2)] (.v (.string ⟨#[49, 47, 50]⟩)) := by
  have := c_FText (1 / 2) (by decide +kernel) (by decide +kernel) (by decide +kernel)
  rw [show (1 / 2 : Rat).den = 2 by decide +kernel, show (1 / 2 : Rat).num.natAbs = 1 by decide +kernel] at this
  exact this
theorem tz2 : (2 : Int).toNat = 2 := rfl
theorem frz7 (x : Blk) : frzH [7] [(7, x)] = [(7, ⟨x.sz, x.vals, x.mt && false⟩)] := rfl
theorem nfc_awake5_0 {p : Prop} (h : p := by (try simp only [e1, e2, e3, e4, p1, p2, p3, q1, q2, q3, l1, t0, t1, r1, r2, r3, r4, Nat.zero_add, Nat.reduceMul, Nat.reduceAdd, b1, b2, b3, b4, b5, b6, i1, i2, i3, i4, i5, i6, Nat.reduceBEq, List.length_cons, List.length_nil, frz7, half_eq, r1r, aw_lo, aw_hi, aw_ev, tz2, tz1, dfq]); exact rfl) : p := h
namespace H_c_awake5
theorem om {p : Prop} (h : p := by first | (simp only [e1, e2, e3, e4, p1, p2, p3, q1, q2, q3, l1, t0, t1, r1, r2, r3, r4, Nat.zero_add, Nat.reduceMul, Nat.reduceAdd, b1, b2, b3, b4, b5, b6, i1, i2, i3, i4, i5, i6, Nat.reduceBEq, List.length_cons, List.length_nil, frz7, half_eq, r1r, aw_lo, aw_hi, aw_ev, tz2, tz1, dfq]; omega) | omega) : p := h
end H_c_awake5
open H_c_awake5 in
set_option maxHeartbeats 2000000 in
set_option maxRecDepth 100000 in
theorem c_awake5  : CallP Try.prog 16 [] (bL true) := by
  refine callP_of fol Try.func16 rfl (by decide +kernel) (by decide +kernel) (Nat.le_of_ble_eq_true rfl) tm0 ?_
  refine wl_seq (wl_reg (asg ?_))
  refine st_end nfc_awake5_0 ?_
  refine then_n (wl_seq (wl_reg ?_))
  refine st_pure rfl (.build0 SL34 Z34a) ?_
  refine st_pure rfl (.build0 SL34 Z34a) ?_
  refine st_callP rfl (.cons im0 .nil) (c_FInt 1 (by decide) (by decide)) ?_
  refine st_alloc rfl rfl (.lit3 ratE Try.underlying37 Z34 T34 rfl rfl rfl (by decide) (by decide)) ?_
  refine asg ?_
  refine st_end nfc_awake5_0 ?_
  refine then_n (wl_seq (wl_reg (mv ?_)))
  refine st_callP rfl (.cons im0 (.cons im0 .nil)) (c_FFrac 1 2 (by decide) (by decide) (by decide) (by decide) (by decide)) ?_
  refine st_callPf [7] rfl rfl (.cons im1 (.cons im1 .nil)) (c_BSplit [0, 0, 1] (1 / 2) aw_HS) ?_
  refine mv ?_
  refine st_pure rfl (.extract rfl rfl nt0) ?_
  refine st_pure rfl (.extract rfl rfl nt0) ?_
  refine asg (asg ?_)
  refine st_end nfc_awake5_0 ?_
  refine then_n (wl_seq (wl_reg (mv ?_)))
  refine st_callP rfl (.cons im0 (.cons im0 .nil)) (c_FFrac 1 2 (by decide) (by decide) (by decide) (by decide) (by decide)) ?_
  refine st_callPf [7] rfl rfl (.cons im1 (.cons im1 .nil)) (c_BEval [0, 0, 1] (1 / 2) aw_HS (by decide)) ?_
  simp only [aw_ev]
  refine st_callP rfl (.cons im0 .nil) (c_tx14) ?_
  refine st_pure rfl (.eqS rfl rfl) ?_
  refine mv ?_
  refine st_pure (guardX (v := true) rfl rfl ((by decide +kernel)) rfl) (.move _) ?_
  refine st_pure (guardX (v := true) rfl rfl ((by decide +kernel)) rfl) ln37 ?_
  refine st_pure (guardX (v := true) rfl rfl ((by decide +kernel)) rfl) (.bin rfl rfl rfl) ?_
  refine st_pure rfl (.pickT rfl ((by decide +kernel))) ?_
  refine mv ?_
  refine st_pure (guardX (v := true) rfl rfl ((by decide +kernel)) rfl) (.move _) ?_
  refine st_pure (guardX (v := true) rfl rfl ((by decide +kernel)) rfl) ln37 ?_
  refine st_pure (guardX (v := true) rfl rfl ((by decide +kernel)) rfl) (.bin rfl rfl rfl) ?_
  refine st_pure rfl (.pickT rfl ((by decide +kernel))) ?_
  refine mv ?_
  refine st_pure (guardX (v := true) rfl rfl ((by decide +kernel)) rfl) (.move _) ?_
  refine st_pure (guardX (v := true) rfl rfl ((by decide +kernel)) rfl) ix37 ?_
  refine st_pure (guardX (v := true) rfl rfl ((by decide +kernel)) rfl) ld34 ?_
  refine st_callP (guardX (v := true) rfl rfl ((by decide +kernel)) rfl) (.cons im0 .nil) (c_tx14) ?_
  refine st_pure (guardX (v := true) rfl rfl ((by decide +kernel)) rfl) (.eqS rfl rfl) ?_
  refine st_pure rfl (.pickT rfl ((by decide +kernel))) ?_
  refine mv ?_
  refine st_pure (guardX (v := true) rfl rfl ((by decide +kernel)) rfl) (.move _) ?_
  refine st_pure (guardX (v := true) rfl rfl ((by decide +kernel)) rfl) ix37 ?_
  refine st_pure (guardX (v := true) rfl rfl ((by decide +kernel)) rfl) ld34 ?_
  refine st_callP (guardX (v := true) rfl rfl ((by decide +kernel)) rfl) (.cons im0 .nil) (c_tx12) ?_
  refine st_pure (guardX (v := true) rfl rfl ((by decide +kernel)) rfl) (.eqS rfl rfl) ?_
  refine st_pure rfl (.pickT rfl ((by decide +kernel))) ?_
  refine mv ?_
  refine st_pure (guardX (v := true) rfl rfl ((by decide +kernel)) rfl) (.move _) ?_
  refine st_callPf [7] (guardX (v := true) rfl rfl ((by decide +kernel)) rfl) rfl (.cons im1 .nil) (c_BValid [0, 0, 1] (by decide) (by decide +kernel)) ?_
  refine st_pure rfl (.pickT rfl ((by decide +kernel))) ?_
  refine asg ?_
  refine st_end nfc_awake5_0 ?_
  refine then_n (wl_ret ?_)
  exact ret1 rfl (by first | exact .pure rfl | exact .pure (limL_pure _) | exact .pure (magL_pure _) | exact .pure (ratE.pure _) | exact .pure (pure_lst u32E _ _) | exact .pure (pure_lst ratE _ _))
end Go.Proofs.Ythhdcfhaldcheaa
