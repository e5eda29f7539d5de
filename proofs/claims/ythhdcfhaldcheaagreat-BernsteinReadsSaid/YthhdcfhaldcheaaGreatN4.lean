/- Magnitudes: contracts of products, quotients by a limb, shifts. -/
import Derived.Test.YthhdcfhaldcheaaGreatN3
set_option linter.unusedVariables false
set_option linter.unusedSimpArgs false
set_option maxHeartbeats 8000000
set_option maxRecDepth 100000
attribute [local irreducible] Go.Lg.opsL Go.Lg.wpL Go.Lg.thenL Go.Lg.blockL
namespace Go.Proofs.YthhdcfhaldcheaaGreat
open Go.Lg
theorem mul_s_lt {c x y z : Nat} (hc : c < 4294967296) (hx : x < 4294967296) (hy : y < 4294967296) (hz : z < 4294967296) : c + (x * y + z) < 18446744073709551616 := by
  have := mulLt hx hy; omega
theorem mul_zero {i x : Nat} {a b o : List Nat} (hx : x = a.getD i 0) (h0 : x = 0) (hv : val o = val (a.take i) * val b) : val o = val (a.take (i + 1)) * val b := by
  rw [val_take_succ', ← hx, h0]; simpa using hv
theorem zeros_set {i m j x : Nat} {o : List Nat} (hj : j < m) (hz : ∀ p, i + m ≤ p → o.getD p 0 = 0) : ∀ p, i + m ≤ p → (o.set (i + j) x).getD p 0 = 0 := fun p hp => by
  rw [Go.Lg.getD_set_ne _ _ _ _ (by omega)]; exact hz p hp
theorem zeros_end {i m x : Nat} {o : List Nat} (hz : ∀ p, i + m ≤ p → o.getD p 0 = 0) : ∀ p, i + 1 + m ≤ p → (o.set (i + m) x).getD p 0 = 0 := fun p hp => by
  rw [Go.Lg.getD_set_ne _ _ _ _ (by omega)]; exact hz p (by omega)
theorem getD_zeros (n p : Nat) : (List.replicate n 0).getD p 0 = 0 := by
  rw [List.getD_eq_getElem?_getD, List.getElem?_replicate]; split <;> rfl
namespace H_c_NMul
theorem zSm {p q : Prop} (k : q) (e : p = q := by simp only [e1, e2, e3, e4, p1, p2, p3, q1, q2, q3, l1, t0, t1, r1, r2, r3, r4, Nat.zero_add, Nat.reduceMul, Nat.reduceAdd, b1, b2, b3, b4, b5, b6, i1, i2, i3, i4, i5, i6, Nat.reduceBEq, dflt, eij]; exact rfl) : p := e.mpr k
end H_c_NMul
open H_c_NMul in
theorem c_NMul (a b : List Nat) (ha : Lim a) (hb : Lim b) (hla : a.length ≤ 1099511627776) (hlb : b.length ≤ 1099511627776) : CallP Tryz.prog 154 [limL a, limL b] (magL (val a * val b)) := by
  unfold limL
  refine fnP Tryz.func154 ?_
  have eij : True := trivial
  refine zg12 ?_
  refine st_alloc rfl rfl (.mkE (n := a.length + b.length) (m := a.length + b.length) ml ml om om om) ?_
  refine zg12 ?_
  refine lp2 (fun (i : Nat) (o : List Nat) L => (((((((St.mk L.slot (hp [(16, ⟨1, o.map u32L, true⟩)])).put (some 0) (.list 1 (a.map u32L))).put (some 1) (.list 1 (b.map u32L))).put (some 5) (.ref 16 1 0 (a.length + b.length))).put (some 17) (.list 1 (a.map u32L))).put (some 18) (nI64 a.length)).put (some 19) (nI64 i))) (fun i o => i ≤ a.length ∧ o.length = a.length + b.length ∧ Lim o ∧ val o = val (a.take i) * val b ∧ ∀ p, i + b.length ≤ p → o.getD p 0 = 0) (fun i o => a.length - i) 0 (List.replicate (a.length + b.length) 0) ⟨Nat.zero_le _, by simp, lim_zeros _, by simp [val, val_zeros], fun p _ => getD_zeros _ _⟩ ?_
  rintro i o L1 ⟨hi, hol, hlo, hv, hz⟩
  have hxi := getD_lim ha i
  have eij : True := trivial
  refine zg6 ?_
  refine wl_if rfl (fun h20r h20 => ?_) (fun h20r h20 => ?_)
  · refine zg20 ?_
    refine wl_if rfl (fun h25r h25 => ?_) (fun h25r h25 => ?_)
    · refine zg9 ?_
      exact nx2 (i + 1) o ⟨by omega, hol, hlo, mul_zero rfl (by omega) hv, fun p hp => hz p (by omega)⟩
    · refine zg16 ?_
      refine lp3 (fun (j : Nat) (o : List Nat) (c : Nat) L => (((((((((((((St.mk L.slot (hp [(16, ⟨1, o.map u32L, true⟩)])).put (some 0) (.list 1 (a.map u32L))).put (some 1) (.list 1 (b.map u32L))).put (some 5) (.ref 16 1 0 (a.length + b.length))).put (some 17) (.list 1 (a.map u32L))).put (some 18) (nI64 a.length)).put (some 19) (nI64 i)).put (some 6) (nI64 i)).put (some 7) (u32L (a.getD i 0))).put (some 8) (nU64 c)).put (some 26) (.list 1 (b.map u32L))).put (some 27) (nI64 b.length)).put (some 28) (nI64 j))) (fun j o c => j ≤ b.length ∧ o.length = a.length + b.length ∧ Lim o ∧ c < 4294967296 ∧ val o + 4294967296 ^ (i + j) * c = val (a.take i) * val b + 4294967296 ^ i * (a.getD i 0 * val (b.take j)) ∧ ∀ p, i + b.length ≤ p → o.getD p 0 = 0) (fun j o c => b.length - j) 0 o 0 ⟨Nat.zero_le _, hol, hlo, by omega, by rw [hv]; simp [val], hz⟩ ?_
      rintro j o c L2 ⟨hj, hol, hlo, hc, hv, hz⟩
      have hyj := getD_lim hb j
      have hzj := getD_lim hlo (i + j)
      have hs := mul_s_lt hc hxi hyj hzj
      have eij : ((i : Int) + (j : Int)).toNat = i + j := by omega
      refine zg6 ?_
      refine wl_if rfl (fun h29r h29 => ?_) (fun h29r h29 => ?_)
      · refine zg57 ?_
        exact nx3 (j + 1) (o.set (i + j) ((c + (a.getD i 0 * b.getD j 0 + o.getD (i + j) 0)) % 4294967296)) ((c + (a.getD i 0 * b.getD j 0 + o.getD (i + j) 0)) / 4294967296) ⟨by omega, by simp [hol], lim_set hlo _ _ (Nat.mod_lt _ (by omega)), by omega, mul_inv (by omega) hv rfl, zeros_set (by omega) hz⟩
      · obtain rfl : j = b.length := by omega
        have eij2 : ((i : Int) + (b.length : Int)).toNat = i + b.length := by omega
        refine zg23 ?_
        exact nx2 (i + 1) (o.set (i + b.length) (c % 4294967296)) ⟨by omega, by simp [hol], lim_set hlo _ _ (Nat.mod_lt _ (by omega)), by rw [Nat.mod_eq_of_lt hc]; exact mul_row (by omega) (by omega) (hz _ (Nat.le_refl _)) rfl rfl hv, zeros_end hz⟩
  · obtain rfl : i = a.length := by omega
    refine zg8 ?_
    refine cpf [16] fm1 (c_trimD _ (by first | assumption | exact lim_dig _) (by first | omega | (simp; done) | (simp; omega))) ?_
    refine zg4 ?_
    rw [List.take_length] at hv
    rw [← hv]
    exact ret1 rfl (by first | exact .pure rfl | exact .pure (limL_pure _) | exact .pure (magL_pure _) | exact .pure (ratE.pure _) | exact .pure (pure_lst u32E _ _) | exact .pure (pure_lst ratE _ _))
namespace H_c_Nsmall
theorem zSm {p q : Prop} (k : q) (e : p = q := by simp only [e1, e2, e3, e4, p1, p2, p3, q1, q2, q3, l1, t0, t1, r1, r2, r3, r4, Nat.zero_add, Nat.reduceMul, Nat.reduceAdd, b1, b2, b3, b4, b5, b6, i1, i2, i3, i4, i5, i6, Nat.reduceBEq, dflt, ej, ek]; exact rfl) : p := e.mpr k
end H_c_Nsmall
open H_c_Nsmall in
theorem c_Nsmall (a : List Nat) (d : Nat) (ha : Lim a) (hla : a.length ≤ 1099511627776) (hd0 : 0 < d) (hd : d < 4294967296) : CallP Tryz.prog 200 [limL a, nU32 d] (.tup [magL (val a / d), nU32 (val a % d)]) := by
  unfold limL
  refine fnP Tryz.func200 ?_
  have ej : True := trivial
  have ek : True := trivial
  refine zg10 ?_
  refine st_alloc rfl rfl (.mkE (n := a.length) (m := a.length) ml ml om om om) ?_
  refine zg18 ?_
  refine lp3 (fun (k : Nat) (q : List Nat) (r : Nat) L => ((((((St.mk L.slot (hp [(11, ⟨1, q.map u32L, true⟩)])).put (some 0) (.list 1 (a.map u32L))).put (some 1) (nU32 d)).put (some 6) (.ref 11 1 0 a.length)).put (some 7) (nU64 r)).put (some 8) (iL ((k : Int) - 1)))) (fun k q r => k ≤ a.length ∧ q.length = a.length ∧ Lim q ∧ r < d ∧ val (q.drop k) * d + r = val (a.drop k)) (fun k q r => k) a.length (List.replicate a.length 0) 0 ⟨Nat.le_refl _, by simp, lim_zeros _, hd0, by simp [val]⟩ ?_
  rintro k q r L1 ⟨hk, hql, hlq, hr, hv⟩
  refine zg7 ?_
  refine wl_if rfl (fun h16r h16 => ?_) (fun h16r h16 => ?_)
  · obtain ⟨j, rfl⟩ : ∃ j, k = j + 1 := ⟨k - 1, by omega⟩
    have ej : (((j + 1 : Nat) : Int) - 1).toNat = j := by omega
    have ek : (((j + 1 : Nat) : Int) - 1) = j := by omega
    have hxj := getD_lim ha j
    refine zg24 ?_
    refine st_pure rfl (.bin rfl rfl (quoU (by omega) (by omega))) ?_
    refine zg20 ?_
    exact nx3 j (q.set j ((r * 4294967296 + a.getD j 0) / d % 4294967296)) ((r * 4294967296 + a.getD j 0) % d) ⟨by omega, by simp [hql], lim_set hlq _ _ (Nat.mod_lt _ (by omega)), Nat.mod_lt _ hd0, by rw [Nat.mod_eq_of_lt (small_lt hr hxj)]; exact small_inv (by omega) hql hv rfl⟩
  · obtain rfl : k = 0 := by omega
    have ej : True := trivial
    have ek : True := trivial
    refine zg8 ?_
    refine cpf [11] fm1 (c_trimD _ (by first | assumption | exact lim_dig _) (by first | omega | (simp; done) | (simp; omega))) ?_
    refine zg7 ?_
    obtain ⟨E1, E2⟩ := small_end hd0 hr hlq hv
    rw [trimL_dig hlq] at E1
    have E3 := congrArg val E1
    rw [val_dig, val_dig] at E3
    rw [← E3, ← E2]
    have E4 : r % 4294967296 = r := Nat.mod_eq_of_lt (by omega)
    refine ret2 rfl (.pure (magL_pure _)) rfl ?_
    show Imm _ (nU32 (r % 4294967296)) (nU32 r)
    rw [E4]
    exact .pure rfl
end Go.Proofs.YthhdcfhaldcheaaGreat
