/- Magnitudes: trimming in place. -/
import Derived.Test.YthhdcfhaldcheaaGreatN5
set_option linter.unusedVariables false
set_option linter.unusedSimpArgs false
set_option maxHeartbeats 8000000
set_option maxRecDepth 100000
attribute [local irreducible] Go.Lg.opsL Go.Lg.wpL Go.Lg.thenL Go.Lg.blockL
namespace Go.Proofs.YthhdcfhaldcheaaGreat
open Go.Lg
namespace H_c_trimM
theorem zSm {p q : Prop} (k : q) (e : p = q := by simp only [e1, e2, e3, e4, p1, p2, p3, q1, q2, q3, l1, t0, t1, r1, r2, r3, r4, Nat.zero_add, Nat.reduceMul, Nat.reduceAdd, b1, b2, b3, b4, b5, b6, i1, i2, i3, i4, i5, i6, Nat.reduceBEq, ej, ek, dflt]; exact rfl) : p := e.mpr k
end H_c_trimM
open H_c_trimM in
theorem c_trimM (l : List Nat) (hl : l.length ≤ 4611686018427387904) (h0 : 0 < l.length) : CallOKM Tryz.prog 182 ⟨1, l.map u32L, true⟩ [.ref 0 1 0 l.length] (.ref 0 1 0 (trimN l.length l)) ⟨1, l.map u32L, true⟩ := by
  refine fnM Tryz.func182 ?_
  have ej : True := trivial
  have ek : True := trivial
  refine zg14 ?_
  refine lp1 (fun (k : Nat) L => (((St.mk L.slot (hp [(0, ⟨1, l.map u32L, true⟩)])).put (some 0) (.ref 0 1 0 l.length)).put (some 3) (nI64 k))) (fun k => k ≤ l.length ∧ trimN l.length l = trimN k l) (fun k => k) l.length ⟨Nat.le_refl _, rfl⟩ ?_
  rintro k L1 ⟨hk, hkt⟩
  refine zg6 ?_
  refine op_if 8 rfl (fun h8r h8 => ?_) (fun h8r h8 => ?_)
  · obtain ⟨j, rfl⟩ : ∃ j, k = j + 1 := ⟨k - 1, by omega⟩
    have ej : (((j + 1 : Nat) : Int) - 1).toNat = j := by omega
    have ek : (((j + 1 : Nat) : Int) - 1) = j := by omega
    refine zg9 ?_
    refine wl_if rfl (fun h15r h15 => ?_) (fun h15r h15 => ?_)
    · refine zg10 ?_
      exact nx1 j ⟨by omega, hkt.trans (by simp only [trimN]; rw [if_pos (by simpa using h15)])⟩
    · refine zg9 ?_
      refine st_pure rfl (by first | exact .sliceLh (h := _) u32E rfl Tryz.underlying31 T114 rfl om | exact .sliceRh rfl Tryz.underlying31 T114 rfl om om) ?_
      refine zg4 ?_
      rw [hkt, trimN, if_neg (by simpa using h15)]
      exact retM1 rfl .ref rfl rfl (pures_map u32E _)
  · have hk0 : k = 0 := by omega
    subst hk0
    refine zg19 ?_
    refine st_pure rfl (by first | exact .sliceLh (h := _) u32E rfl Tryz.underlying31 T114 rfl om | exact .sliceRh rfl Tryz.underlying31 T114 rfl om om) ?_
    refine zg4 ?_
    rw [hkt]
    exact retM1 rfl .ref rfl rfl (pures_map u32E _)
end Go.Proofs.YthhdcfhaldcheaaGreat
