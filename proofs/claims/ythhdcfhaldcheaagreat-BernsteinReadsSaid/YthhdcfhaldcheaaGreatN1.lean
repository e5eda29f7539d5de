/- Magnitudes: contracts. -/
import Derived.Test.YthhdcfhaldcheaaGreatLgTy
set_option linter.unusedVariables false
set_option linter.unusedSimpArgs false
set_option maxHeartbeats 8000000
set_option maxRecDepth 100000
attribute [local irreducible] Go.Lg.opsL Go.Lg.wpL Go.Lg.thenL Go.Lg.blockL
namespace Go.Proofs.YthhdcfhaldcheaaGreat
open Go.Lg
theorem val_trim {l : List Nat} (h : Lim l) : trimL l = dig (val l) := trimL_dig h
namespace H_c_trim
theorem zSm1 {p q : Prop} (k : q) (e : p = q := by simp only [e1, e2, e3, e4, p1, p2, p3, q1, q2, q3, l1, t0, t1, r1, r2, r3, r4, Nat.zero_add, Nat.reduceMul, Nat.reduceAdd, b1, b2, b3, b4, b5, b6, i1, i2, i3, i4, i5, i6, Nat.reduceBEq, ej, ek]; exact rfl) : p := e.mpr k
theorem nf1 {p : Prop} (h : p := by first | (refine zSm1 ?_; exact rfl) | exact rfl) : p := h
theorem zSm2 {p q : Prop} (k : q) (e : p = q := by simp only [e1, e2, e3, e4, p1, p2, p3, q1, q2, q3, l1, t0, t1, r1, r2, r3, r4, Nat.zero_add, Nat.reduceMul, Nat.reduceAdd, b1, b2, b3, b4, b5, b6, i1, i2, i3, i4, i5, i6, Nat.reduceBEq, ek]; exact rfl) : p := e.mpr k
theorem nf2 {p : Prop} (h : p := by first | (refine zSm2 ?_; exact rfl) | exact rfl) : p := h
end H_c_trim
open H_c_trim H0 in
theorem c_trim (l : List Nat) (hl : l.length ≤ 4611686018427387904) : CallP Tryz.prog 182 [limL l] (limL (trimL l)) := by
  unfold limL trimL
  refine fnP Tryz.func182 ?_
  refine zg14 ?_
  refine lp1 (fun (k : Nat) L => (((St.mk L.slot (hp [])).put (some 0) (.list 1 (l.map u32L))).put (some 3) (nI64 k))) (fun k => k ≤ l.length ∧ trimN l.length l = trimN k l) (fun k => k) l.length ⟨Nat.le_refl _, rfl⟩ ?_
  rintro k L1 ⟨hk, hkt⟩
  refine zg6 ?_
  refine op_if 8 rfl (fun h8r h8 => ?_) (fun h8r h8 => ?_)
  · obtain ⟨j, rfl⟩ : ∃ j, k = j + 1 := ⟨k - 1, by omega⟩
    have ej : (((j + 1 : Nat) : Int) - 1).toNat = j := by omega
    have ek : (((j + 1 : Nat) : Int) - 1) = j := by omega
    refine zg7 ?_
    refine st_end nf1 ?_
    refine zg1 ?_
    refine wl_if rfl (fun h15r h15 => ?_) (fun h15r h15 => ?_)
    · refine zg7 ?_
      refine st_end nf2 ?_
      refine zg2 ?_
      exact nx1 j ⟨by omega, hkt.trans (by simp only [trimN]; rw [if_pos (by simpa using h15)])⟩
    · refine zg9 ?_
      refine st_pure rfl (by first | exact .sliceLh (h := _) u32E rfl Tryz.underlying31 T114 rfl om | exact .sliceRh rfl Tryz.underlying31 T114 rfl om om) ?_
      refine zg4 ?_
      rw [hkt, trimN, if_neg (by simpa using h15)]
      exact ret1 rfl (.pure (pure_lst u32E _ _))
  · have hk0 : k = 0 := by omega
    subst hk0
    have ej : True := trivial
    have ek : True := trivial
    refine zg7 ?_
    refine st_end nf1 ?_
    refine zg11 ?_
    refine st_pure rfl (by first | exact .sliceLh (h := _) u32E rfl Tryz.underlying31 T114 rfl om | exact .sliceRh rfl Tryz.underlying31 T114 rfl om om) ?_
    refine zg4 ?_
    rw [hkt]
    exact ret1 rfl (.pure (pure_lst u32E _ _))
end Go.Proofs.YthhdcfhaldcheaaGreat
