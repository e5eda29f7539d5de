/- Magnitudes: contracts of sums. -/
import Derived.Test.YthhdcfhaldcheaaGreatN1
set_option linter.unusedVariables false
set_option linter.unusedSimpArgs false
set_option maxHeartbeats 8000000
set_option maxRecDepth 100000
attribute [local irreducible] Go.Lg.opsL Go.Lg.wpL Go.Lg.thenL Go.Lg.blockL
namespace Go.Proofs.YthhdcfhaldcheaaGreat
open Go.Lg
namespace H_c_Add
theorem zSm {p q : Prop} (k : q) (e : p = q := by simp only [e1, e2, e3, e4, p1, p2, p3, q1, q2, q3, l1, t0, t1, r1, r2, r3, r4, Nat.zero_add, Nat.reduceMul, Nat.reduceAdd, b1, b2, b3, b4, b5, b6, i1, i2, i3, i4, i5, i6, Nat.reduceBEq, dflt]; exact rfl) : p := e.mpr k
end H_c_Add
open H_c_Add in
theorem c_Add (a b : List Nat) (ha : Lim a) (hb : Lim b) (hla : a.length ≤ 1099511627776) (hlb : b.length ≤ 1099511627776) : CallP Tryz.prog 181 [limL a, limL b] (magL (val a + val b)) := by
  unfold limL magL
  refine fnP Tryz.func181 ?_
  refine zg15 ?_
  refine wl_cut (fun L => ∃ (x : List Nat) (y : List Nat) (L1 : St), (Lim x ∧ Lim y ∧ x.length ≤ 1099511627776 ∧ y.length ≤ x.length ∧ val a + val b = val x + val y) ∧ L = (((St.mk L1.slot (hp [])).put (some 0) (.list 1 (x.map u32L))).put (some 1) (.list 1 (y.map u32L)))) ?_ ?_
  · refine wl_if rfl (fun h13r h13 => ?_) (fun h13r h13 => ?_)
    · refine zg7 ?_
      exact ⟨b, a, _, ⟨hb, ha, hlb, by omega, Nat.add_comm _ _⟩, ((put_id' (put_id' (mk_id' cl) cl) cl)).symm⟩
    · refine zg2 ?_
      exact ⟨a, b, _, ⟨ha, hb, hla, by omega, rfl⟩, ((put_id' (put_id' (mk_id' cl) cl) cl)).symm⟩
  · rintro _ ⟨x, y, LC13, ⟨hx, hy, hlx, hyx, hxy⟩, rfl⟩
    rw [hxy]
    refine zg6 ?_
    refine st_alloc rfl rfl (.mkE (n := x.length + 1) (m := x.length + 1) ml ml om om om) ?_
    refine zg17 ?_
    refine lp3 (fun (k : Nat) (o : List Nat) (c : Nat) L => ((((((((St.mk L.slot (hp [(19, ⟨1, o.map u32L, true⟩)])).put (some 0) (.list 1 (x.map u32L))).put (some 1) (.list 1 (y.map u32L))).put (some 5) (.ref 19 1 0 (x.length + 1))).put (some 6) (nU64 c)).put (some 20) (.list 1 (x.map u32L))).put (some 21) (nI64 x.length)).put (some 22) (nI64 k))) (fun k o c => k ≤ x.length ∧ o.length = x.length + 1 ∧ c ≤ 1 ∧ Lim o ∧ val (o.take k) + 4294967296 ^ k * c = val (x.take k) + val (y.take k)) (fun k o c => x.length - k) 0 (List.replicate (x.length + 1) 0) 0 ⟨Nat.zero_le _, by simp, by omega, lim_zeros _, by simp [val]⟩ ?_
    rintro k o c L1 ⟨hk, hol, hc, hlo, hv⟩
    have hxk := getD_lim hx k
    have hyk := getD_lim hy k
    refine zg6 ?_
    refine wl_if rfl (fun h23r h23 => ?_) (fun h23r h23 => ?_)
    · refine zg31 ?_
      refine wl_if rfl (fun h34r h34 => ?_) (fun h34r h34 => ?_)
      · refine zg33 ?_
        exact nx3 (k + 1) (o.set k ((c + x.getD k 0 + y.getD k 0) % 4294967296)) ((c + x.getD k 0 + y.getD k 0) / 4294967296) ⟨by omega, by simp [hol], by omega, lim_set hlo _ _ (Nat.mod_lt _ (by omega)), add_inv (by omega) hv rfl⟩
      · refine zg24 ?_
        exact nx3 (k + 1) (o.set k ((c + x.getD k 0) % 4294967296)) ((c + x.getD k 0) / 4294967296) ⟨by omega, by simp [hol], by omega, lim_set hlo _ _ (Nat.mod_lt _ (by omega)), add_inv (by omega) hv (by rw [getD_ge y k (by omega)]; rfl)⟩
    · obtain rfl : k = x.length := by omega
      refine zg19 ?_
      refine cpf [19] fm1 (c_trim _ (by first | omega | (simp; done) | (simp; omega))) ?_
      refine zg4 ?_
      rw [← add_end (c := c % 4294967296) hyx hol hlo (by omega) (by rw [Nat.mod_eq_of_lt (by omega)]; exact hv)]
      exact ret1 rfl (.pure (limL_pure _))
theorem c_trimD (l : List Nat) (h : Lim l) (hl : l.length ≤ 4611686018427387904) : CallP Tryz.prog 182 [limL l] (magL (val l)) := by
  have := c_trim l hl
  rwa [trimL_dig h] at this
namespace H_c_NValid
theorem zSm {p q : Prop} (k : q) (e : p = q := by simp only [e1, e2, e3, e4, p1, p2, p3, q1, q2, q3, l1, t0, t1, r1, r2, r3, r4, Nat.zero_add, Nat.reduceMul, Nat.reduceAdd, b1, b2, b3, b4, b5, b6, i1, i2, i3, i4, i5, i6, Nat.reduceBEq, dflt, ej]; exact rfl) : p := e.mpr k
end H_c_NValid
open H_c_NValid in
theorem c_NValid (a : List Nat) (hl : a.length ≤ 4611686018427387904) : CallP Tryz.prog 174 [limL a] (bL (decide (a.length = 0 ∨ a.getD (a.length - 1) 0 ≠ 0))) := by
  unfold limL
  refine fnP Tryz.func174 ?_
  have ej : True := trivial
  refine zg11 ?_
  refine op_if 6 rfl (fun h6r h6 => ?_) (fun h6r h6 => ?_)
  · have ej : True := trivial
    refine zg12 ?_
    refine ret1 ?_ (.pure rfl)
    simp only [e1, e2, e3, e4, p1, p2, p3, q1, q2, q3, Nat.reduceBEq]
    congr 2
    first | (symm; rw [decide_eq_true_iff]; omega) | (rw [Bool.eq_iff_iff, bne_iff_ne, decide_eq_true_iff]; omega)
  · have ej : ((a.length : Int) - 1).toNat = a.length - 1 := by omega
    refine zg12 ?_
    refine ret1 ?_ (.pure rfl)
    simp only [e1, e2, e3, e4, p1, p2, p3, q1, q2, q3, Nat.reduceBEq]
    congr 2
    first | (symm; rw [decide_eq_true_iff]; omega) | (rw [Bool.eq_iff_iff, bne_iff_ne, decide_eq_true_iff]; omega)
namespace H_c_word
theorem zSm {p q : Prop} (k : q) (e : p = q := by simp only [e1, e2, e3, e4, p1, p2, p3, q1, q2, q3, l1, t0, t1, r1, r2, r3, r4, Nat.zero_add, Nat.reduceMul, Nat.reduceAdd, b1, b2, b3, b4, b5, b6, i1, i2, i3, i4, i5, i6, Nat.reduceBEq, dflt, ej, ek]; exact rfl) : p := e.mpr k
end H_c_word
open H_c_word in
theorem c_word (a : List Nat) (h : Lim a) (hl : a.length ≤ 2) : CallP Tryz.prog 198 [limL a] (nU64 (val a)) := by
  unfold limL
  refine fnP Tryz.func198 ?_
  have ej : True := trivial
  have ek : True := trivial
  refine zg20 ?_
  refine lp2 (fun (k n : Nat) L => ((((St.mk L.slot (hp [])).put (some 0) (.list 1 (a.map u32L))).put (some 3) (nU64 n)).put (some 4) (iL ((k : Int) - 1)))) (fun k n => k ≤ a.length ∧ n = val (a.drop k)) (fun k n => k) a.length 0 ⟨Nat.le_refl _, by simp [val]⟩ ?_
  rintro k n L1 ⟨hk, hn⟩
  refine zg7 ?_
  refine wl_if rfl (fun h9r h9 => ?_) (fun h9r h9 => ?_)
  · obtain ⟨j, rfl⟩ : ∃ j, k = j + 1 := ⟨k - 1, by omega⟩
    have ej : (((j + 1 : Nat) : Int) - 1).toNat = j := by omega
    have ek : (((j + 1 : Nat) : Int) - 1) = j := by omega
    have hb := getD_lim h j
    have hn2 : n < 4294967296 := by have := val_drop_lt h (k := j + 1) (j := 1) (by omega); rw [hn]; simpa using this
    refine zg23 ?_
    exact nx2 j (n * 4294967296 + a.getD j 0) ⟨by omega, by rw [val_drop (by omega), hn]; omega⟩
  · obtain rfl : k = 0 := by omega
    have ej : True := trivial
    have ek : True := trivial
    rw [List.drop_zero] at hn
    rw [← hn]
    refine zg12 ?_
    exact ret1 rfl (by first | exact .pure rfl | exact .pure (limL_pure _) | exact .pure (magL_pure _) | exact .pure (ratE.pure _) | exact .pure (pure_lst u32E _ _) | exact .pure (pure_lst ratE _ _))
end Go.Proofs.YthhdcfhaldcheaaGreat
