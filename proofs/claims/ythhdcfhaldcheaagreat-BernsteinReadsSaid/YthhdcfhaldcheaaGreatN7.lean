/- Magnitudes: long division. -/
import Derived.Test.YthhdcfhaldcheaaGreatN6
set_option linter.unusedVariables false
set_option linter.unusedSimpArgs false
set_option maxHeartbeats 8000000
set_option maxRecDepth 100000
attribute [local irreducible] Go.Lg.opsL Go.Lg.wpL Go.Lg.thenL Go.Lg.blockL
namespace Go.Proofs.YthhdcfhaldcheaaGreat
open Go.Lg
theorem c_trimM' (l : List Nat) (n : Nat) (hn : n = l.length) (hl : n ≤ 4611686018427387904) (h0 : 0 < n) : CallOKM Tryz.prog 182 ⟨1, l.map u32L, true⟩ [.ref 0 1 0 n] (.ref 0 1 0 (trimN n l)) ⟨1, l.map u32L, true⟩ := by
  subst hn; exact c_trimM l hl h0
theorem c_raiseN (x s : Nat) (hla : (dig x).length ≤ 1099511627776) (hs : s < 32) : CallOK Tryz.prog 202 [magL x, nI64 s] (.ref 1 1 0 ((dig x).length + 1)) [⟨1, (padL ((dig x).length + 1) (x * 2 ^ s)).map u32L, true⟩] := by
  have := c_raise (dig x) s (lim_dig x) hla hs
  rw [val_dig] at this
  exact this
theorem val_one (x : Nat) : val [x] = x := by simp [val]
theorem s_eq {x : Nat} (h : x ≤ 32) : (32 : Int) - (x : Int) = ((32 - x : Nat) : Int) := by omega
namespace H_c_NDiv
theorem zSm {p q : Prop} (k : q) (e : p = q := by simp only [e1, e2, e3, e4, p1, p2, p3, q1, q2, q3, l1, t0, t1, r1, r2, r3, r4, Nat.zero_add, Nat.reduceMul, Nat.reduceAdd, b1, b2, b3, b4, b5, b6, i1, i2, i3, i4, i5, i6, Nat.reduceBEq, dflt, val_dig, ej, ek, es, eV, ej1, ej2, ej3, ehm, ehg, en1, en2, eij, eiij, eqn, egi, egi1, List.set_set, List.length_set, Nat.add_mod_mod, eg2, eg3, ei1, enV]; exact rfl) : p := e.mpr k
theorem zSm1 {p q : Prop} (k : q) (e : p = q := by simp only [e1, e2, e3, e4, p1, p2, p3, q1, q2, q3, l1, t0, t1, r1, r2, r3, r4, Nat.zero_add, Nat.reduceMul, Nat.reduceAdd, b1, b2, b3, b4, b5, b6, i1, i2, i3, i4, i5, i6, Nat.reduceBEq, dflt, val_dig, ej, ek, es, eV, ej1, ej2, ej3, ehm, ehg, en1, en2, eij, eiij, eqn, egi, egi1, List.set_set, List.length_set, Nat.add_mod_mod, eg2, eg3, ei1, enV, ehg]; exact rfl) : p := e.mpr k
theorem nf1 {p : Prop} (h : p := by first | (refine zSm1 ?_; exact rfl) | exact rfl) : p := h
theorem zSm2 {p q : Prop} (k : q) (e : p = q := by simp only [e1, e2, e3, e4, p1, p2, p3, q1, q2, q3, l1, t0, t1, r1, r2, r3, r4, Nat.zero_add, Nat.reduceMul, Nat.reduceAdd, b1, b2, b3, b4, b5, b6, i1, i2, i3, i4, i5, i6, Nat.reduceBEq, dflt, val_dig, ej, ek, es, eV, ej1, ej2, ej3, ehm, ehg, en1, en2, eij, eiij, eqn, egi, egi1, List.set_set, List.length_set, Nat.add_mod_mod, eg2, eg3, ei1, enV, val_one]; exact rfl) : p := e.mpr k
theorem nf2 {p : Prop} (h : p := by first | (refine zSm2 ?_; exact rfl) | exact rfl) : p := h
theorem zSm3 {p q : Prop} (k : q) (e : p = q := by simp only [e1, e2, e3, e4, p1, p2, p3, q1, q2, q3, l1, t0, t1, r1, r2, r3, r4, Nat.zero_add, Nat.reduceMul, Nat.reduceAdd, b1, b2, b3, b4, b5, b6, i1, i2, i3, i4, i5, i6, Nat.reduceBEq, dflt, val_dig, ej, ek, es, eV, ej1, ej2, ej3, ehm, ehg, en1, en2, eij, eiij, eqn, egi, egi1, List.set_set, List.length_set, Nat.add_mod_mod, eg2, eg3, ei1, enV, frz_nil, ehm]; exact rfl) : p := e.mpr k
theorem nf3 {p : Prop} (h : p := by first | (refine zSm3 ?_; exact rfl) | exact rfl) : p := h
theorem zSm4 {p q : Prop} (k : q) (e : p = q := by simp only [e1, e2, e3, e4, p1, p2, p3, q1, q2, q3, l1, t0, t1, r1, r2, r3, r4, Nat.zero_add, Nat.reduceMul, Nat.reduceAdd, b1, b2, b3, b4, b5, b6, i1, i2, i3, i4, i5, i6, Nat.reduceBEq, dflt, val_dig, ej, ek, es, eV, ej1, ej2, ej3, ehm, ehg, en1, en2, eij, eiij, eqn, egi, egi1, List.set_set, List.length_set, Nat.add_mod_mod, eg2, eg3, ei1, enV, enV]; exact rfl) : p := e.mpr k
theorem nf4 {p : Prop} (h : p := by first | (refine zSm4 ?_; exact rfl) | exact rfl) : p := h
theorem cl4 {p : Prop} (h : p := by first | rfl | (refine zSm4 ?_; first | exact trivial | rfl | (congr 3 <;> omega) | (congr 2 <;> omega))) : p := h
theorem zSm5 {p q : Prop} (k : q) (e : p = q := by simp only [e1, e2, e3, e4, p1, p2, p3, q1, q2, q3, l1, t0, t1, r1, r2, r3, r4, Nat.zero_add, Nat.reduceMul, Nat.reduceAdd, b1, b2, b3, b4, b5, b6, i1, i2, i3, i4, i5, i6, Nat.reduceBEq, dflt, val_dig, ej, ek, es, eV, ej1, ej2, ej3, ehm, ehg, en1, en2, eij, eiij, eqn, egi, egi1, List.set_set, List.length_set, Nat.add_mod_mod, eg2, eg3, ei1, enV, enV, ehm]; exact rfl) : p := e.mpr k
theorem cl5 {p : Prop} (h : p := by first | rfl | (refine zSm5 ?_; first | exact trivial | rfl | (congr 3 <;> omega) | (congr 2 <;> omega))) : p := h
theorem zSm6 {p q : Prop} (k : q) (e : p = q := by simp only [e1, e2, e3, e4, p1, p2, p3, q1, q2, q3, l1, t0, t1, r1, r2, r3, r4, Nat.zero_add, Nat.reduceMul, Nat.reduceAdd, b1, b2, b3, b4, b5, b6, i1, i2, i3, i4, i5, i6, Nat.reduceBEq, dflt, val_dig, ej, ek, es, eV, ej1, ej2, ej3, ehm, ehg, en1, en2, eij, eiij, eqn, egi, egi1, List.set_set, List.length_set, Nat.add_mod_mod, eg2, eg3, ei1, enV, ← hT]; exact rfl) : p := e.mpr k
theorem nf6 {p : Prop} (h : p := by first | (refine zSm6 ?_; exact rfl) | exact rfl) : p := h
end H_c_NDiv
open H_c_NDiv in
theorem div_corr (b ul ql : List Nat) (n s m q0 j : Nat) (enV : (dig (val b * 2 ^ s)).length = n + 2) (hnm : n + 2 ≤ m) (hm4 : m ≤ 1099511627776) (hq0 : q0 = m + 1 - (n + 2)) (hk : j + 1 ≤ q0) (hul : ul.length = m + 1) (hql : ql.length = q0) (hlu : Lim ul) (hlq : Lim ql) (hvt : 2147483648 ≤ (dig (val b * 2 ^ s)).getD (n + 1) 0) (hV0 : 0 < (val b * 2 ^ s)) (hVlt : (val b * 2 ^ s) < 4294967296 ^ (n + 2)) (hlt : val ul < (val b * 2 ^ s) * 4294967296 ^ (j + 1)) {Q : LEx → St → Prop} (L1 : St)
    (hQ : ∀ (x : Nat) (L2 : St), (val ul / 4294967296 ^ j / (val b * 2 ^ s) ≤ x ∧ x ≤ val ul / 4294967296 ^ j / (val b * 2 ^ s) + 1 ∧ x < 4294967296) → Q .normal ((((((((St.mk L2.slot (hp [(1001057, ⟨1, ul.map u32L, true⟩), (1001105, ⟨1, (padL ((dig (val b)).length + 1) (val b * 2 ^ s)).map u32L, false⟩), (77, ⟨1, ql.map u32L, true⟩)])).put (some 4) (.ref 77 1 0 q0)).put (some 9) (nI64 s)).put (some 10) (.ref 1001057 1 0 (m + 1))).put (some 11) (magL (val b * 2 ^ s))).put (some 12) (nI64 (n + 2))).put (some 13) (iL (((j + 1 : Nat) : Int) - 1))).put (some 15) (nU64 x))) :
    wpL Tryz.prog ((subF Tryz.f180 [1, 1, 1, 1, 1, 1, 1, 0, 1, 0, 0, 1, 0, 0, 1, 1, 0]).getD .skip) Q (((((((((St.mk L1.slot (hp [(1001057, ⟨1, ul.map u32L, true⟩), (1001105, ⟨1, (padL ((dig (val b)).length + 1) (val b * 2 ^ s)).map u32L, false⟩), (77, ⟨1, ql.map u32L, true⟩)])).put (some 4) (.ref 77 1 0 q0)).put (some 9) (nI64 s)).put (some 10) (.ref 1001057 1 0 (m + 1))).put (some 11) (magL (val b * 2 ^ s))).put (some 12) (nI64 (n + 2))).put (some 13) (iL (((j + 1 : Nat) : Int) - 1))).put (some 15) (nU64 ((ul.getD (n + 2 + j) 0 * 4294967296 + ul.getD (n + 1 + j) 0) / (dig (val b * 2 ^ s)).getD (n + 1) 0))).put (some 16) (nU64 ((ul.getD (n + 2 + j) 0 * 4294967296 + ul.getD (n + 1 + j) 0) % (dig (val b * 2 ^ s)).getD (n + 1) 0))) := by
  have ej : True := trivial
  have ek : True := trivial
  have es : True := trivial
  have eV : True := trivial
  have ej1 : True := trivial
  have ej2 : True := trivial
  have ej3 : True := trivial
  have ehm : True := trivial
  have ehg : True := trivial
  have en1 : True := trivial
  have en2 : True := trivial
  have eij : True := trivial
  have eiij : True := trivial
  have eqn : True := trivial
  have egi : True := trivial
  have egi1 : True := trivial
  have eg2 : True := trivial
  have eg3 : True := trivial
  have ei1 : True := trivial
  have ej1 : ((j : Int) + ((n + 2 : Nat) : Int)).toNat = n + 2 + j := by omega
  have ej2 : ((j : Int) + ((n + 2 : Nat) : Int) - 1).toNat = n + 1 + j := by omega
  have ej3 : ((j : Int) + ((n + 2 : Nat) : Int) - 2).toNat = n + j := by omega
  have en1 : (((n + 2 : Nat) : Int) - 1).toNat = n + 1 := by omega
  have en2 : (((n + 2 : Nat) : Int) - 2).toNat = n := by omega
  have ek : (((j + 1 : Nat) : Int) - 1) = (j : Int) := by omega
  have hv1l := getD_dig_lt ((val b * 2 ^ s)) (n + 1)
  have hv2l := getD_dig_lt ((val b * 2 ^ s)) n
  have hu0 := getD_lim hlu (n + 2 + j)
  have hu1 := getD_lim hlu (n + 1 + j)
  have hu2 := getD_lim hlu (n + j)
  obtain ⟨vl, rl, hvl, hrl, hVe, hRe, hRV⟩ := kn_ctx (j := j) enV (by omega) hlu hlt
  have hun := kn_un hVe hRe hvl hv2l hRV
  have htop := kn_top hVe hRe hrl hu2 (by omega)
  have hqB : val ul / 4294967296 ^ j / (val b * 2 ^ s) < 4294967296 := by rw [Nat.div_lt_iff_lt_mul hV0, Nat.mul_comm]; exact hRV
  refine wl_sub rfl ?_
  refine zg1 ?_
  refine lp2 (fun (x rest : Nat) L => (((((((((St.mk L.slot (hp [(1001057, ⟨1, ul.map u32L, true⟩), (1001105, ⟨1, (padL ((dig (val b)).length + 1) (val b * 2 ^ s)).map u32L, false⟩), (77, ⟨1, ql.map u32L, true⟩)])).put (some 4) (.ref 77 1 0 q0)).put (some 9) (nI64 s)).put (some 10) (.ref 1001057 1 0 (m + 1))).put (some 11) (magL (val b * 2 ^ s))).put (some 12) (nI64 (n + 2))).put (some 13) (iL (((j + 1 : Nat) : Int) - 1))).put (some 15) (nU64 x)).put (some 16) (nU64 rest))) (fun x rest => val ul / 4294967296 ^ j / (val b * 2 ^ s) ≤ x ∧ x * (dig (val b * 2 ^ s)).getD (n + 1) 0 + rest = (ul.getD (n + 2 + j) 0 * 4294967296 + ul.getD (n + 1 + j) 0) ∧ rest < 4294967296) (fun x rest => x) ((ul.getD (n + 2 + j) 0 * 4294967296 + ul.getD (n + 1 + j) 0) / (dig (val b * 2 ^ s)).getD (n + 1) 0) ((ul.getD (n + 2 + j) 0 * 4294967296 + ul.getD (n + 1 + j) 0) % (dig (val b * 2 ^ s)).getD (n + 1) 0) ⟨htop, by rw [Nat.mul_comm]; exact Nat.div_add_mod _ _, Nat.lt_trans (Nat.mod_lt _ (by omega)) hv1l⟩ ?_
  rintro x rest L2 ⟨hx, hxr, hrest⟩
  have hxt : x ≤ x * (dig (val b * 2 ^ s)).getD (n + 1) 0 := Nat.le_mul_of_pos_right _ (by omega)
  refine zg2 ?_
  refine wl_regD 24 (by decide +kernel) ?_
  refine zg3 ?_
  refine op_if 120 rfl (fun h120r h120 => ?_) (fun h120r h120 => ?_)
  · have hxd : val ul / 4294967296 ^ j / (val b * 2 ^ s) ≤ x - 1 := by omega
    have hx0 : 1 ≤ x := by omega
    refine zg28 ?_
    have hxr2 : (x - 1) * (dig (val b * 2 ^ s)).getD (n + 1) 0 + (rest + (dig (val b * 2 ^ s)).getD (n + 1) 0) = (ul.getD (n + 2 + j) 0 * 4294967296 + ul.getD (n + 1 + j) 0) := by
      have e : (x - 1) * (dig (val b * 2 ^ s)).getD (n + 1) 0 + (dig (val b * 2 ^ s)).getD (n + 1) 0 = x * (dig (val b * 2 ^ s)).getD (n + 1) 0 := by rw [← Nat.succ_mul]; congr 1; omega
      omega
    refine zg25 ?_
    refine wl_if rfl (fun h153r h153 => ?_) (fun h153r h153 => ?_)
    · have hbk := kn_break (u2 := ul.getD (n + j) 0) hxr2 hun hu1 hv2l (by omega)
      refine zg4 ?_
      exact goal_of (hQ (x - 1) _ ⟨hxd, kn_fin hVe hRe hvl (by omega) hV0 hxr2 (Nat.le_of_lt hbk.1) hbk.2, hbk.1⟩) (put_id' (put_id' (put_id' (put_id' (put_id' (put_id' (put_id' (mk_id' cl) cl) cl) cl) cl) cl) cl) cl)
    · refine zg3 ?_
      exact nx2 (x - 1) (rest + (dig (val b * 2 ^ s)).getD (n + 1) 0) ⟨hxd, hxr2, by omega⟩
  · have hmul := mulLt (show x < 4294967296 by omega) hv2l
    refine zg23 ?_
    refine wl_if rfl (fun h141r h141 => ?_) (fun h141r h141 => ?_)
    · have hx0 : 1 ≤ x := by
        rcases Nat.eq_zero_or_pos x with e | e
        · rw [e, Nat.zero_mul] at h141; omega
        · exact e
      have hxd : val ul / 4294967296 ^ j / (val b * 2 ^ s) ≤ x - 1 := by have := kn_dec hVe hRe hrl hV0 hxr (by omega); omega
      refine zg4 ?_
      have hxr2 : (x - 1) * (dig (val b * 2 ^ s)).getD (n + 1) 0 + (rest + (dig (val b * 2 ^ s)).getD (n + 1) 0) = (ul.getD (n + 2 + j) 0 * 4294967296 + ul.getD (n + 1 + j) 0) := by
        have e : (x - 1) * (dig (val b * 2 ^ s)).getD (n + 1) 0 + (dig (val b * 2 ^ s)).getD (n + 1) 0 = x * (dig (val b * 2 ^ s)).getD (n + 1) 0 := by rw [← Nat.succ_mul]; congr 1; omega
        omega
      refine zg25 ?_
      refine wl_if rfl (fun h153r h153 => ?_) (fun h153r h153 => ?_)
      · have hbk := kn_break (u2 := ul.getD (n + j) 0) hxr2 hun hu1 hv2l (by omega)
        refine zg4 ?_
        exact goal_of (hQ (x - 1) _ ⟨hxd, kn_fin hVe hRe hvl (by omega) hV0 hxr2 (Nat.le_of_lt hbk.1) hbk.2, hbk.1⟩) (put_id' (put_id' (put_id' (put_id' (put_id' (put_id' (put_id' (mk_id' cl) cl) cl) cl) cl) cl) cl) cl)
      · refine zg3 ?_
        exact nx2 (x - 1) (rest + (dig (val b * 2 ^ s)).getD (n + 1) 0) ⟨hxd, hxr2, by omega⟩
    · refine zg4 ?_
      exact goal_of (hQ (x) _ ⟨hx, kn_fin hVe hRe hvl (by omega) hV0 hxr (by omega) (by omega), by omega⟩) (put_id' (put_id' (put_id' (put_id' (put_id' (put_id' (put_id' (mk_id' cl) cl) cl) cl) cl) cl) cl) cl)
open H_c_NDiv in
theorem div_mulsub (b ul ql : List Nat) (n s m q0 j : Nat) (enV : (dig (val b * 2 ^ s)).length = n + 2) (hnm : n + 2 ≤ m) (hm4 : m ≤ 1099511627776) (hq0 : q0 = m + 1 - (n + 2)) (hk : j + 1 ≤ q0) (hul : ul.length = m + 1) (hql : ql.length = q0) (hlu : Lim ul) (hlq : Lim ql) (hvt : 2147483648 ≤ (dig (val b * 2 ^ s)).getD (n + 1) 0) (hV0 : 0 < (val b * 2 ^ s)) (hVlt : (val b * 2 ^ s) < 4294967296 ^ (n + 2)) (hlt : val ul < (val b * 2 ^ s) * 4294967296 ^ (j + 1)) (x : Nat) (hx1 : val ul / 4294967296 ^ j / (val b * 2 ^ s) ≤ x) (hxB : x < 4294967296) {Q : LEx → St → Prop} (L1 : St)
    (hQ : ∀ (wl : List Nat) (c : Nat) (br : Nat) (L2 : St), (wl.length = m + 1 ∧ Lim wl ∧ c < 4294967296 ∧ br ≤ 1 ∧ val wl + 4294967296 ^ j * (x * (val b * 2 ^ s)) = val ul + 4294967296 ^ (n + 2 + j) * (c + br) ∧ ∀ p, n + 2 + j ≤ p → wl.getD p 0 = ul.getD p 0) → Q .normal ((((((((((St.mk L2.slot (hp [(1001057, ⟨1, wl.map u32L, true⟩), (1001105, ⟨1, (padL ((dig (val b)).length + 1) (val b * 2 ^ s)).map u32L, false⟩), (77, ⟨1, ql.map u32L, true⟩)])).put (some 4) (.ref 77 1 0 q0)).put (some 9) (nI64 s)).put (some 10) (.ref 1001057 1 0 (m + 1))).put (some 11) (magL (val b * 2 ^ s))).put (some 12) (nI64 (n + 2))).put (some 13) (iL (((j + 1 : Nat) : Int) - 1))).put (some 15) (nU64 x)).put (some 17) (nU64 br)).put (some 18) (nU64 c))) :
    wpL Tryz.prog ((subF Tryz.f180 [1, 1, 1, 1, 1, 1, 1, 0, 1, 0, 0, 1, 0, 0, 1, 1, 1, 1, 0, 1]).getD .skip) Q (((((((((((((St.mk L1.slot (hp [(1001057, ⟨1, ul.map u32L, true⟩), (1001105, ⟨1, (padL ((dig (val b)).length + 1) (val b * 2 ^ s)).map u32L, false⟩), (77, ⟨1, ql.map u32L, true⟩)])).put (some 4) (.ref 77 1 0 q0)).put (some 9) (nI64 s)).put (some 10) (.ref 1001057 1 0 (m + 1))).put (some 11) (magL (val b * 2 ^ s))).put (some 12) (nI64 (n + 2))).put (some 13) (iL (((j + 1 : Nat) : Int) - 1))).put (some 15) (nU64 x)).put (some 17) (nU64 0)).put (some 18) (nU64 0)).put (some 154) (magL (val b * 2 ^ s))).put (some 155) (nI64 (n + 2))).put (some 156) (nI64 0)) := by
  have ej : True := trivial
  have ek : True := trivial
  have es : True := trivial
  have eV : True := trivial
  have ej1 : True := trivial
  have ej2 : True := trivial
  have ej3 : True := trivial
  have ehm : True := trivial
  have ehg : True := trivial
  have en1 : True := trivial
  have en2 : True := trivial
  have eij : True := trivial
  have eiij : True := trivial
  have eqn : True := trivial
  have egi : True := trivial
  have egi1 : True := trivial
  have eg2 : True := trivial
  have eg3 : True := trivial
  have ei1 : True := trivial
  have ej1 : ((j : Int) + ((n + 2 : Nat) : Int)).toNat = n + 2 + j := by omega
  have ej2 : ((j : Int) + ((n + 2 : Nat) : Int) - 1).toNat = n + 1 + j := by omega
  have ej3 : ((j : Int) + ((n + 2 : Nat) : Int) - 2).toNat = n + j := by omega
  have en1 : (((n + 2 : Nat) : Int) - 1).toNat = n + 1 := by omega
  have en2 : (((n + 2 : Nat) : Int) - 2).toNat = n := by omega
  have ek : (((j + 1 : Nat) : Int) - 1) = (j : Int) := by omega
  have hv1l := getD_dig_lt ((val b * 2 ^ s)) (n + 1)
  have hv2l := getD_dig_lt ((val b * 2 ^ s)) n
  have hu0 := getD_lim hlu (n + 2 + j)
  have hu1 := getD_lim hlu (n + 1 + j)
  have hu2 := getD_lim hlu (n + j)
  refine wl_sub rfl ?_
  refine zg1 ?_
  refine lp4 (fun (i : Nat) (wl : List Nat) (c br : Nat) L => (((((((((((((St.mk L.slot (hp [(1001057, ⟨1, wl.map u32L, true⟩), (1001105, ⟨1, (padL ((dig (val b)).length + 1) (val b * 2 ^ s)).map u32L, false⟩), (77, ⟨1, ql.map u32L, true⟩)])).put (some 4) (.ref 77 1 0 q0)).put (some 9) (nI64 s)).put (some 10) (.ref 1001057 1 0 (m + 1))).put (some 11) (magL (val b * 2 ^ s))).put (some 12) (nI64 (n + 2))).put (some 13) (iL (((j + 1 : Nat) : Int) - 1))).put (some 15) (nU64 x)).put (some 17) (nU64 br)).put (some 18) (nU64 c)).put (some 154) (magL (val b * 2 ^ s))).put (some 155) (nI64 (n + 2))).put (some 156) (nI64 i))) (fun i wl c br => i ≤ n + 2 ∧ wl.length = m + 1 ∧ Lim wl ∧ c < 4294967296 ∧ br ≤ 1 ∧ val wl + 4294967296 ^ j * (x * val ((dig (val b * 2 ^ s)).take i)) = val ul + 4294967296 ^ (i + j) * (c + br) ∧ ∀ p, n + 2 + j ≤ p → wl.getD p 0 = ul.getD p 0) (fun i wl c br => n + 2 - i) 0 ul 0 0 ⟨Nat.zero_le _, hul, hlu, by omega, by omega, by simp [val], fun _ _ => rfl⟩ (h0 := ⟨_, Weak.of_eq (put_id' (put_id' (put_id' (put_id' (put_id' (put_id' (put_id' (put_id' (put_id' (put_id' (put_id' (put_id' (mk_id' cl4) cl4) cl4) cl4) cl4) cl4) cl4) cl4) cl4) cl4) cl4) cl4) cl4)⟩) ?_
  rintro i wl c br L3 ⟨hi, hwl, hlw, hc, hbr, hv5, hz5⟩
  have eij : ((i : Int) + (j : Int)).toNat = i + j := by omega
  have hvi := getD_dig_lt (val b * 2 ^ s) i
  have hmul := mulLt hxB hvi
  have hwi := getD_lim hlw (i + j)
  refine zg6 ?_
  refine wl_if rfl (fun h157r h157 => ?_) (fun h157r h157 => ?_)
  · refine zg34 ?_
    refine st_pure rfl (.bin rfl rfl (andU)) ?_
    refine st_pure rfl (.bin rfl rfl (subW (by omega))) ?_
    refine zg1 ?_
    refine st_pure rfl (.bin rfl rfl (subW (by omega))) ?_
    refine zg34 ?_
    exact nx4 (i + 1) (wl.set (i + j) (((18446744073709551616 + (18446744073709551616 + wl.getD (i + j) 0 - (c + x * (dig (val b * 2 ^ s)).getD i 0) % 4294967296) % 18446744073709551616 - br) % 18446744073709551616) % 4294967296)) ((c + x * (dig (val b * 2 ^ s)).getD i 0) / 4294967296) (((18446744073709551616 + (18446744073709551616 + wl.getD (i + j) 0 - (c + x * (dig (val b * 2 ^ s)).getD i 0) % 4294967296) % 18446744073709551616 - br) % 18446744073709551616) / 9223372036854775808) (by
      obtain ⟨g1, g2, g3⟩ := ms_inv (by omega) hlw hbr hv5 (c1 := (c + x * (dig (val b * 2 ^ s)).getD i 0)) rfl rfl
      exact ⟨by omega, by simp [hwl], g2, by omega, g1, g3, fun p hp => by rw [Go.Lg.getD_set_ne _ _ _ _ (by omega)]; exact hz5 p hp⟩) (he := Weak.of_eq (put_id' (put_id' (put_id' (put_id' (put_id' (put_id' (put_id' (put_id' (put_id' (put_id' (put_id' (put_id' (mk_id' cl4) cl4) cl4) cl4) cl4) cl4) cl4) cl4) cl4) cl4) cl4) cl4) cl4))
  · obtain rfl : i = n + 2 := by omega
    rw [List.take_of_length_le (by omega), val_dig] at hv5
    refine zg4 ?_
    exact goal_of (hQ (wl) (c) (br) _ ⟨hwl, hlw, hc, hbr, hv5, hz5⟩) (put_id' (put_id' (put_id' (put_id' (put_id' (put_id' (put_id' (put_id' (put_id' (mk_id' cl) cl) cl) cl) cl) cl) cl) cl) cl) cl)
open H_c_NDiv in
theorem div_back (b ul ql : List Nat) (n s m q0 j : Nat) (enV : (dig (val b * 2 ^ s)).length = n + 2) (hnm : n + 2 ≤ m) (hm4 : m ≤ 1099511627776) (hq0 : q0 = m + 1 - (n + 2)) (hk : j + 1 ≤ q0) (hul : ul.length = m + 1) (hql : ql.length = q0) (hlu : Lim ul) (hlq : Lim ql) (hvt : 2147483648 ≤ (dig (val b * 2 ^ s)).getD (n + 1) 0) (hV0 : 0 < (val b * 2 ^ s)) (hVlt : (val b * 2 ^ s) < 4294967296 ^ (n + 2)) (hlt : val ul < (val b * 2 ^ s) * 4294967296 ^ (j + 1)) (x : Nat) (hx1 : val ul / 4294967296 ^ j / (val b * 2 ^ s) ≤ x) (hx2 : x ≤ val ul / 4294967296 ^ j / (val b * 2 ^ s) + 1) (hxB : x < 4294967296) (wl : List Nat) (c br : Nat) (hwl : wl.length = m + 1) (hlw : Lim wl) (hc : c < 4294967296) (hbr : br ≤ 1) (hv5 : val wl + 4294967296 ^ j * (x * (val b * 2 ^ s)) = val ul + 4294967296 ^ (n + 2 + j) * (c + br)) (hz5 : ∀ p, n + 2 + j ≤ p → wl.getD p 0 = ul.getD p 0) {Q : LEx → St → Prop} (L1 : St)
    (hQ : ∀ (w4 : List Nat) (x4 : Nat) (L2 : St), (x4 = val ul / 4294967296 ^ j / (val b * 2 ^ s) ∧ w4.length = m + 1 ∧ Lim w4 ∧ val w4 + 4294967296 ^ j * (x4 * (val b * 2 ^ s)) = val ul) → Q .normal ((((((((St.mk L2.slot (hp [(1001057, ⟨1, w4.map u32L, true⟩), (1001105, ⟨1, (padL ((dig (val b)).length + 1) (val b * 2 ^ s)).map u32L, false⟩), (77, ⟨1, ql.map u32L, true⟩)])).put (some 4) (.ref 77 1 0 q0)).put (some 9) (nI64 s)).put (some 10) (.ref 1001057 1 0 (m + 1))).put (some 11) (magL (val b * 2 ^ s))).put (some 12) (nI64 (n + 2))).put (some 13) (iL (((j + 1 : Nat) : Int) - 1))).put (some 15) (nU64 x4))) :
    wpL Tryz.prog ((subF Tryz.f180 [1, 1, 1, 1, 1, 1, 1, 0, 1, 0, 0, 1, 0, 0, 1, 1, 1, 1, 1, 1, 1, 0, 1]).getD .skip) Q ((((((((((St.mk L1.slot (hp [(1001057, ⟨1, (wl.set (n + 2 + j) (((18446744073709551616 + (18446744073709551616 + wl.getD (n + 2 + j) 0 - c) % 18446744073709551616 - br) % 18446744073709551616) % 4294967296)).map u32L, true⟩), (1001105, ⟨1, (padL ((dig (val b)).length + 1) (val b * 2 ^ s)).map u32L, false⟩), (77, ⟨1, ql.map u32L, true⟩)])).put (some 4) (.ref 77 1 0 q0)).put (some 9) (nI64 s)).put (some 10) (.ref 1001057 1 0 (m + 1))).put (some 11) (magL (val b * 2 ^ s))).put (some 12) (nI64 (n + 2))).put (some 13) (iL (((j + 1 : Nat) : Int) - 1))).put (some 15) (nU64 x)).put (some 22) (nU64 ((18446744073709551616 + (18446744073709551616 + wl.getD (n + 2 + j) 0 - c) % 18446744073709551616 - br) % 18446744073709551616))).put (some 211) (.v (.bool (((((18446744073709551616 + (18446744073709551616 + wl.getD (n + 2 + j) 0 - c) % 18446744073709551616 - br) % 18446744073709551616) / 9223372036854775808 : Nat) : Int) != 0)))) := by
  have ej : True := trivial
  have ek : True := trivial
  have es : True := trivial
  have eV : True := trivial
  have ej1 : True := trivial
  have ej2 : True := trivial
  have ej3 : True := trivial
  have ehm : True := trivial
  have ehg : True := trivial
  have en1 : True := trivial
  have en2 : True := trivial
  have eij : True := trivial
  have eiij : True := trivial
  have eqn : True := trivial
  have egi : True := trivial
  have egi1 : True := trivial
  have eg2 : True := trivial
  have eg3 : True := trivial
  have ei1 : True := trivial
  have ej1 : ((j : Int) + ((n + 2 : Nat) : Int)).toNat = n + 2 + j := by omega
  have ej2 : ((j : Int) + ((n + 2 : Nat) : Int) - 1).toNat = n + 1 + j := by omega
  have ej3 : ((j : Int) + ((n + 2 : Nat) : Int) - 2).toNat = n + j := by omega
  have en1 : (((n + 2 : Nat) : Int) - 1).toNat = n + 1 := by omega
  have en2 : (((n + 2 : Nat) : Int) - 2).toNat = n := by omega
  have ek : (((j + 1 : Nat) : Int) - 1) = (j : Int) := by omega
  have hv1l := getD_dig_lt ((val b * 2 ^ s)) (n + 1)
  have hv2l := getD_dig_lt ((val b * 2 ^ s)) n
  have hu0 := getD_lim hlu (n + 2 + j)
  have hu1 := getD_lim hlu (n + 1 + j)
  have hu2 := getD_lim hlu (n + j)
  have hz := kn_zero (n := n + 2) (j := j) hVlt hlt
  obtain ⟨hlw2, hd2, hv6⟩ := ms_last (n := n + 2) (by omega) hlw hbr hc hv5 rfl rfl
  have hwt := getD_lim hlw (n + 2 + j)
  refine wl_sub rfl ?_
  refine wl_if rfl (fun h211r h211 => ?_) (fun h211r h211 => ?_)
  · have hd1 : ((18446744073709551616 + (18446744073709551616 + wl.getD (n + 2 + j) 0 - c) % 18446744073709551616 - br) % 18446744073709551616) / 9223372036854775808 = 1 := by omega
    have hgt := kn_gt (V := (val b * 2 ^ s)) (n := n + 2) (j := j) (x := x) (ul := (wl.set (n + 2 + j) (((18446744073709551616 + (18446744073709551616 + wl.getD (n + 2 + j) 0 - c) % 18446744073709551616 - br) % 18446744073709551616) % 4294967296))) (ul0 := ul) (by rw [hv6, hd1, Nat.mul_one]) (val_lt_of_zeros hlw2 (fun p hp => by rw [Go.Lg.getD_set_ne _ _ _ _ (by omega), hz5 p (by omega)]; exact hz p hp)) hV0
    have hx0 : 1 ≤ x := Nat.lt_of_le_of_lt (Nat.zero_le _) hgt
    refine zg3 ?_
    refine st_pure rfl (.bin rfl rfl (subU (show 1 ≤ x by omega) (by omega))) ?_
    refine zg17 ?_
    refine lp3 (fun (ii : Nat) (w3 : List Nat) (c3 : Nat) L => ((((((((((((St.mk L.slot (hp [(1001057, ⟨1, w3.map u32L, true⟩), (1001105, ⟨1, (padL ((dig (val b)).length + 1) (val b * 2 ^ s)).map u32L, false⟩), (77, ⟨1, ql.map u32L, true⟩)])).put (some 4) (.ref 77 1 0 q0)).put (some 9) (nI64 s)).put (some 10) (.ref 1001057 1 0 (m + 1))).put (some 11) (magL (val b * 2 ^ s))).put (some 12) (nI64 (n + 2))).put (some 13) (iL (((j + 1 : Nat) : Int) - 1))).put (some 15) (nU64 (x - 1))).put (some 18) (nU64 c3)).put (some 214) (magL (val b * 2 ^ s))).put (some 215) (nI64 (n + 2))).put (some 216) (nI64 ii))) (fun ii w3 c3 => ii ≤ n + 2 ∧ w3.length = m + 1 ∧ Lim w3 ∧ c3 ≤ 1 ∧ val w3 + 4294967296 ^ (ii + j) * c3 = val (wl.set (n + 2 + j) (((18446744073709551616 + (18446744073709551616 + wl.getD (n + 2 + j) 0 - c) % 18446744073709551616 - br) % 18446744073709551616) % 4294967296)) + 4294967296 ^ j * val ((dig (val b * 2 ^ s)).take ii) ∧ ∀ p, n + 2 + j + 1 ≤ p → w3.getD p 0 = 0) (fun ii w3 c3 => n + 2 - ii) 0 (wl.set (n + 2 + j) (((18446744073709551616 + (18446744073709551616 + wl.getD (n + 2 + j) 0 - c) % 18446744073709551616 - br) % 18446744073709551616) % 4294967296)) 0 ⟨Nat.zero_le _, by simp [hwl], hlw2, by omega, by simp [val], fun p hp => by rw [Go.Lg.getD_set_ne _ _ _ _ (by omega), hz5 p (by omega)]; exact hz p hp⟩ (h0 := ⟨_, Weak.of_eq (put_id' (put_id' (put_id' (put_id' (put_id' (put_id' (put_id' (put_id' (put_id' (put_id' (put_id' (mk_id' cl4) cl4) cl4) cl4) cl4) cl4) cl4) cl4) cl4) cl4) cl4) cl4)⟩) ?_
    rintro ii w3 c3 L4 ⟨hi3, hw3, hl3, hc3, hv7, hz7⟩
    have eiij : ((ii : Int) + (j : Int)).toNat = ii + j := by omega
    have hvi3 := getD_dig_lt (val b * 2 ^ s) ii
    have hwi3 := getD_lim hl3 (ii + j)
    refine zg6 ?_
    refine wl_if rfl (fun h217r h217 => ?_) (fun h217r h217 => ?_)
    · refine zg54 ?_
      exact nx3 (ii + 1) (w3.set (ii + j) ((c3 + (w3.getD (ii + j) 0 + (dig (val b * 2 ^ s)).getD ii 0)) % 4294967296)) ((c3 + (w3.getD (ii + j) 0 + (dig (val b * 2 ^ s)).getD ii 0)) / 4294967296) (by
        obtain ⟨g1, g2⟩ := ab_inv (by omega) hl3 hv7 (s := (c3 + (w3.getD (ii + j) 0 + (dig (val b * 2 ^ s)).getD ii 0))) rfl
        exact ⟨by omega, by simp [hw3], g1, by omega, g2, fun p hp => by rw [Go.Lg.getD_set_ne _ _ _ _ (by omega)]; exact hz7 p hp⟩) (he := Weak.of_eq (put_id' (put_id' (put_id' (put_id' (put_id' (put_id' (put_id' (put_id' (put_id' (put_id' (put_id' (mk_id' cl4) cl4) cl4) cl4) cl4) cl4) cl4) cl4) cl4) cl4) cl4) cl4))
    · obtain rfl : ii = n + 2 := by omega
      rw [List.take_of_length_le (by omega), val_dig] at hv7
      have hw3t := getD_lim hl3 (n + 2 + j)
      have hxe : x - 1 = val ul / 4294967296 ^ j / (val b * 2 ^ s) := by omega
      have hxle : 4294967296 ^ j * ((x - 1) * (val b * 2 ^ s)) ≤ val ul := by rw [hxe]; exact Nat.le_trans (Nat.mul_le_mul_left _ (Nat.div_mul_le_self _ _)) (Nat.mul_div_le _ _)
      have hbk := kn_back (ul := (wl.set (n + 2 + j) (((18446744073709551616 + (18446744073709551616 + wl.getD (n + 2 + j) 0 - c) % 18446744073709551616 - br) % 18446744073709551616) % 4294967296))) (ul0 := ul) (n := n + 2) (j := j) (x := x) (V := (val b * 2 ^ s)) (ul3 := w3) (c := c3) (by omega) hxle (by rw [hv6, hd1, Nat.mul_one]) (by omega) hl3 hz7 hc3 hv7 rfl
      refine zg14 ?_
      refine st_pure rfl (.bin rfl rfl (addU32)) ?_
      refine zg3 ?_
      exact goal_of (hQ (w3.set (n + 2 + j) ((w3.getD (n + 2 + j) 0 + c3) % 4294967296)) (x - 1) _ ⟨hxe, by simp [hw3], hbk.1, hbk.2⟩) (put_id' (put_id' (put_id' (put_id' (put_id' (put_id' (put_id' (mk_id' cl) cl) cl) cl) cl) cl) cl) cl)
  · have hd0 : ((18446744073709551616 + (18446744073709551616 + wl.getD (n + 2 + j) 0 - c) % 18446744073709551616 - br) % 18446744073709551616) / 9223372036854775808 = 0 := by omega
    rw [hd0, Nat.mul_zero, Nat.add_zero] at hv6
    have hxF : x = val ul / 4294967296 ^ j / (val b * 2 ^ s) := by have := kn_le hv6 hV0; omega
    refine zg1 ?_
    exact goal_of (hQ ((wl.set (n + 2 + j) (((18446744073709551616 + (18446744073709551616 + wl.getD (n + 2 + j) 0 - c) % 18446744073709551616 - br) % 18446744073709551616) % 4294967296))) (x) _ ⟨hxF, by simp [hwl], hlw2, hv6⟩) (put_id' (put_id' (put_id' (put_id' (put_id' (put_id' (put_id' (mk_id' cl) cl) cl) cl) cl) cl) cl) cl)
open H_c_NDiv in
theorem div_digit (b ul ql : List Nat) (n s m q0 j : Nat) (enV : (dig (val b * 2 ^ s)).length = n + 2) (hnm : n + 2 ≤ m) (hm4 : m ≤ 1099511627776) (hq0 : q0 = m + 1 - (n + 2)) (hk : j + 1 ≤ q0) (hul : ul.length = m + 1) (hql : ql.length = q0) (hlu : Lim ul) (hlq : Lim ql) (hvt : 2147483648 ≤ (dig (val b * 2 ^ s)).getD (n + 1) 0) (hV0 : 0 < (val b * 2 ^ s)) (hVlt : (val b * 2 ^ s) < 4294967296 ^ (n + 2)) (hlt : val ul < (val b * 2 ^ s) * 4294967296 ^ (j + 1)) {Q : LEx → St → Prop} (L1 : St)
    (hQ : ∀ (w4 : List Nat) (x4 : Nat) (L2 : St), (x4 = val ul / 4294967296 ^ j / (val b * 2 ^ s) ∧ w4.length = m + 1 ∧ Lim w4 ∧ val w4 + 4294967296 ^ j * (x4 * (val b * 2 ^ s)) = val ul) → Q .normal (((((((St.mk L2.slot (hp [(1001057, ⟨1, w4.map u32L, true⟩), (1001105, ⟨1, (padL ((dig (val b)).length + 1) (val b * 2 ^ s)).map u32L, false⟩), (77, ⟨1, (ql.set j (x4 % 4294967296)).map u32L, true⟩)])).put (some 4) (.ref 77 1 0 q0)).put (some 9) (nI64 s)).put (some 10) (.ref 1001057 1 0 (m + 1))).put (some 11) (magL (val b * 2 ^ s))).put (some 12) (nI64 (n + 2))).put (some 13) (iL (((j + 1 : Nat) : Int) - 1)))) :
    wpL Tryz.prog ((subF Tryz.f180 [1, 1, 1, 1, 1, 1, 1, 0, 1, 0, 0, 1, 0]).getD .skip) Q (((((((St.mk L1.slot (hp [(1001057, ⟨1, ul.map u32L, true⟩), (1001105, ⟨1, (padL ((dig (val b)).length + 1) (val b * 2 ^ s)).map u32L, false⟩), (77, ⟨1, ql.map u32L, true⟩)])).put (some 4) (.ref 77 1 0 q0)).put (some 9) (nI64 s)).put (some 10) (.ref 1001057 1 0 (m + 1))).put (some 11) (magL (val b * 2 ^ s))).put (some 12) (nI64 (n + 2))).put (some 13) (iL (((j + 1 : Nat) : Int) - 1))) := by
  have ej : True := trivial
  have ek : True := trivial
  have es : True := trivial
  have eV : True := trivial
  have ej1 : True := trivial
  have ej2 : True := trivial
  have ej3 : True := trivial
  have ehm : True := trivial
  have ehg : True := trivial
  have en1 : True := trivial
  have en2 : True := trivial
  have eij : True := trivial
  have eiij : True := trivial
  have eqn : True := trivial
  have egi : True := trivial
  have egi1 : True := trivial
  have eg2 : True := trivial
  have eg3 : True := trivial
  have ei1 : True := trivial
  have ej1 : ((j : Int) + ((n + 2 : Nat) : Int)).toNat = n + 2 + j := by omega
  have ej2 : ((j : Int) + ((n + 2 : Nat) : Int) - 1).toNat = n + 1 + j := by omega
  have ej3 : ((j : Int) + ((n + 2 : Nat) : Int) - 2).toNat = n + j := by omega
  have en1 : (((n + 2 : Nat) : Int) - 1).toNat = n + 1 := by omega
  have en2 : (((n + 2 : Nat) : Int) - 2).toNat = n := by omega
  have ek : (((j + 1 : Nat) : Int) - 1) = (j : Int) := by omega
  have hv1l := getD_dig_lt ((val b * 2 ^ s)) (n + 1)
  have hv2l := getD_dig_lt ((val b * 2 ^ s)) n
  have hu0 := getD_lim hlu (n + 2 + j)
  have hu1 := getD_lim hlu (n + 1 + j)
  have hu2 := getD_lim hlu (n + j)
  have hz := kn_zero (n := n + 2) (j := j) hVlt hlt
  refine wl_sub rfl ?_
  refine zg2 ?_
  refine wl_regD 18 (by decide +kernel) ?_
  refine zg21 ?_
  refine wl_regD 18 (by decide +kernel) ?_
  refine zg7 ?_
  refine st_pure rfl (.bin rfl rfl (quoU (by simp only [en1, dflt]; omega) (by omega))) ?_
  refine zg7 ?_
  refine st_pure rfl (.bin rfl rfl (remU (by simp only [en1, dflt]; omega))) ?_
  refine zg5 ?_
  refine wl_eqS (S := fun L => (((((((((St.mk L.slot (hp [(1001057, ⟨1, ul.map u32L, true⟩), (1001105, ⟨1, (padL ((dig (val b)).length + 1) (val b * 2 ^ s)).map u32L, false⟩), (77, ⟨1, ql.map u32L, true⟩)])).put (some 4) (.ref 77 1 0 q0)).put (some 9) (nI64 s)).put (some 10) (.ref 1001057 1 0 (m + 1))).put (some 11) (magL (val b * 2 ^ s))).put (some 12) (nI64 (n + 2))).put (some 13) (iL (((j + 1 : Nat) : Int) - 1))).put (some 15) (nU64 ((ul.getD (n + 2 + j) 0 * 4294967296 + ul.getD (n + 1 + j) 0) / (dig (val b * 2 ^ s)).getD (n + 1) 0))).put (some 16) (nU64 ((ul.getD (n + 2 + j) 0 * 4294967296 + ul.getD (n + 1 + j) 0) % (dig (val b * 2 ^ s)).getD (n + 1) 0)))) (put_id' (put_id' (put_id' (put_id' (put_id' (put_id' (put_id' (put_id' (mk_id' cl) cl) cl) cl) cl) cl) cl) cl) cl) ?_
  refine div_corr b ul ql n s m q0 j enV hnm hm4 hq0 hk hul hql hlu hlq hvt hV0 hVlt hlt _ ?_
  rintro x LQ ⟨hx1, hx2, hxB⟩
  refine zg15 ?_
  refine wl_eqS (S := fun L => (((((((((((((St.mk L.slot (hp [(1001057, ⟨1, ul.map u32L, true⟩), (1001105, ⟨1, (padL ((dig (val b)).length + 1) (val b * 2 ^ s)).map u32L, false⟩), (77, ⟨1, ql.map u32L, true⟩)])).put (some 4) (.ref 77 1 0 q0)).put (some 9) (nI64 s)).put (some 10) (.ref 1001057 1 0 (m + 1))).put (some 11) (magL (val b * 2 ^ s))).put (some 12) (nI64 (n + 2))).put (some 13) (iL (((j + 1 : Nat) : Int) - 1))).put (some 15) (nU64 x)).put (some 17) (nU64 0)).put (some 18) (nU64 0)).put (some 154) (magL (val b * 2 ^ s))).put (some 155) (nI64 (n + 2))).put (some 156) (nI64 0))) (put_id' (put_id' (put_id' (put_id' (put_id' (put_id' (put_id' (put_id' (put_id' (put_id' (put_id' (put_id' (mk_id' cl) cl) cl) cl) cl) cl) cl) cl) cl) cl) cl) cl) cl) ?_
  refine div_mulsub b ul ql n s m q0 j enV hnm hm4 hq0 hk hul hql hlu hlq hvt hV0 hVlt hlt x hx1 hxB _ ?_
  rintro wl c br LQ ⟨hwl, hlw, hc, hbr, hv5, hz5⟩
  obtain ⟨hlw2, hd2, hv6⟩ := ms_last (n := n + 2) (by omega) hlw hbr hc hv5 rfl rfl
  have hwt := getD_lim hlw (n + 2 + j)
  refine zg11 ?_
  refine st_pure rfl (.bin rfl rfl (subW (by omega))) ?_
  refine zg1 ?_
  refine st_pure rfl (.bin rfl rfl (subW (by omega))) ?_
  refine zg23 ?_
  refine wl_eqS (S := fun L => ((((((((((St.mk L.slot (hp [(1001057, ⟨1, (wl.set (n + 2 + j) (((18446744073709551616 + (18446744073709551616 + wl.getD (n + 2 + j) 0 - c) % 18446744073709551616 - br) % 18446744073709551616) % 4294967296)).map u32L, true⟩), (1001105, ⟨1, (padL ((dig (val b)).length + 1) (val b * 2 ^ s)).map u32L, false⟩), (77, ⟨1, ql.map u32L, true⟩)])).put (some 4) (.ref 77 1 0 q0)).put (some 9) (nI64 s)).put (some 10) (.ref 1001057 1 0 (m + 1))).put (some 11) (magL (val b * 2 ^ s))).put (some 12) (nI64 (n + 2))).put (some 13) (iL (((j + 1 : Nat) : Int) - 1))).put (some 15) (nU64 x)).put (some 22) (nU64 ((18446744073709551616 + (18446744073709551616 + wl.getD (n + 2 + j) 0 - c) % 18446744073709551616 - br) % 18446744073709551616))).put (some 211) (.v (.bool (((((18446744073709551616 + (18446744073709551616 + wl.getD (n + 2 + j) 0 - c) % 18446744073709551616 - br) % 18446744073709551616) / 9223372036854775808 : Nat) : Int) != 0))))) (put_id' (put_id' (put_id' (put_id' (put_id' (put_id' (put_id' (put_id' (put_id' (mk_id' cl) cl) cl) cl) cl) cl) cl) cl) cl) cl) ?_
  refine div_back b ul ql n s m q0 j enV hnm hm4 hq0 hk hul hql hlu hlq hvt hV0 hVlt hlt x hx1 hx2 hxB wl c br hwl hlw hc hbr hv5 hz5 _ ?_
  rintro w4 x4 LQ ⟨hx4, hw4, hl4, hv8⟩
  have hRV : val ul / 4294967296 ^ j < (val b * 2 ^ s) * 4294967296 := by
    obtain ⟨_, _, _, _, _, _, h⟩ := kn_ctx (j := j) enV (by omega) hlu hlt
    exact h
  have hqB : val ul / 4294967296 ^ j / (val b * 2 ^ s) < 4294967296 := by rw [Nat.div_lt_iff_lt_mul hV0, Nat.mul_comm]; exact hRV
  have hx4B : x4 < 4294967296 := by rw [hx4]; exact hqB
  have hx4m : x4 % 4294967296 = x4 := Nat.mod_eq_of_lt hx4B
  refine zg10 ?_
  exact goal_of (hQ (w4) (x4) _ ⟨hx4, hw4, hl4, hv8⟩) (put_id' (put_id' (put_id' (put_id' (put_id' (put_id' (mk_id' cl) cl) cl) cl) cl) cl) cl)
open H_c_NDiv in
theorem div_shift (b ul ql : List Nat) (s m q0 T : Nat) (hs32 : s < 32) (hm4 : m ≤ 1099511627776) (hul : ul.length = m + 1) (hlu : Lim ul) (hTm : T ≤ m + 1) (hTz : ∀ p, T ≤ p → ul.getD p 0 = 0) (hlow : ul.getD 0 0 % 2 ^ s = 0) {Q : LEx → St → Prop} (L1 : St)
    (hQ : ∀ (w : List Nat) (L2 : St), (w.length = m + 1 ∧ Lim w ∧ 2 ^ s * val (w.take T) = val (ul.take T) + 4294967296 ^ T * (ul.getD T 0 % 2 ^ s)) → Q .normal (((St.mk L2.slot (hp [(1001057, ⟨1, w.map u32L, true⟩), (1001105, ⟨1, (padL ((dig (val b)).length + 1) (val b * 2 ^ s)).map u32L, false⟩), (77, ⟨1, ql.map u32L, true⟩)])).put (some 4) (.ref 77 1 0 q0)).put (some 5) (.ref 1001057 1 0 T))) :
    wpL Tryz.prog ((subF Tryz.f180 [1, 1, 1, 1, 1, 1, 1, 1, 1, 0, 1]).getD .skip) Q (((((((St.mk L1.slot (hp [(1001057, ⟨1, ul.map u32L, true⟩), (1001105, ⟨1, (padL ((dig (val b)).length + 1) (val b * 2 ^ s)).map u32L, false⟩), (77, ⟨1, ql.map u32L, true⟩)])).put (some 4) (.ref 77 1 0 q0)).put (some 5) (.ref 1001057 1 0 T)).put (some 9) (nI64 s)).put (some 260) (.ref 1001057 1 0 T)).put (some 261) (nI64 T)).put (some 262) (nI64 0)) := by
  have ej : True := trivial
  have ek : True := trivial
  have es : True := trivial
  have eV : True := trivial
  have ej1 : True := trivial
  have ej2 : True := trivial
  have ej3 : True := trivial
  have ehm : True := trivial
  have ehg : True := trivial
  have en1 : True := trivial
  have en2 : True := trivial
  have eij : True := trivial
  have eiij : True := trivial
  have eqn : True := trivial
  have egi : True := trivial
  have egi1 : True := trivial
  have eg2 : True := trivial
  have eg3 : True := trivial
  have ei1 : True := trivial
  have enV : True := trivial
  refine wl_sub rfl ?_
  refine zg1 ?_
  refine lp2 (fun (i : Nat) (w : List Nat) L => (((((((St.mk L.slot (hp [(1001057, ⟨1, w.map u32L, true⟩), (1001105, ⟨1, (padL ((dig (val b)).length + 1) (val b * 2 ^ s)).map u32L, false⟩), (77, ⟨1, ql.map u32L, true⟩)])).put (some 4) (.ref 77 1 0 q0)).put (some 5) (.ref 1001057 1 0 T)).put (some 9) (nI64 s)).put (some 260) (.ref 1001057 1 0 T)).put (some 261) (nI64 T)).put (some 262) (nI64 i))) (fun i w => i ≤ T ∧ w.length = m + 1 ∧ Lim w ∧ (∀ p, i ≤ p → w.getD p 0 = ul.getD p 0) ∧ 2 ^ s * val (w.take i) = val (ul.take i) + 4294967296 ^ i * (ul.getD i 0 % 2 ^ s)) (fun i w => T - i) 0 ul ⟨Nat.zero_le _, hul, hlu, fun _ _ => rfl, by rw [hlow]; simp [val]⟩ ?_
  rintro i w L5 ⟨hi, hwl, hlw, hz9, hv9⟩
  have ei1 : ((i : Int) + 1).toNat = i + 1 := by omega
  have hwi := getD_lim hlw i
  have hwi1 := getD_lim hlu (i + 1)
  have egi := hz9 i (Nat.le_refl _)
  have egi1 := hz9 (i + 1) (by omega)
  have hui := getD_lim hlu i
  obtain ⟨hh1, hh2⟩ := half_lt (z := ul.getD (i + 1) 0) (show s ≤ 32 by omega) hui
  have hh3 : ul.getD i 0 / 2 ^ s < 4294967296 := by omega
  refine zg6 ?_
  refine wl_if rfl (fun h263r h263 => ?_) (fun h263r h263 => ?_)
  · have eg2 : (w.set i (ul.getD i 0 / 2 ^ s)).getD i 0 = ul.getD i 0 / 2 ^ s := getD_set_self _ _ _ (by omega)
    have eg3 : (w.set i (ul.getD i 0 / 2 ^ s)).getD (i + 1) 0 = ul.getD (i + 1) 0 := by rw [Go.Lg.getD_set_ne _ _ _ _ (by omega)]; exact egi1
    refine zg17 ?_
    refine st_pure rfl (.sh rfl rfl (shrC (m := s) (by show s ≤ 32; omega))) ?_
    refine zg9 ?_
    refine op_if 274 rfl (fun h274r h274 => ?_) (fun h274r h274 => ?_)
    · refine zg8 ?_
      refine wl_if rfl (fun h280r h280 => ?_) (fun h280r h280 => ?_)
      · refine wl_regD 14 (by decide +kernel) ?_
        refine zg11 ?_
        refine st_pure rfl (.sh rfl rfl (shlC32 (s := s) (by omega))) ?_
        refine st_pure rfl (.bin rfl rfl (orV32 (by simp only [e1, e2, e3, e4, p1, p2, p3, q1, q2, q3, l1, t0, t1, r1, r2, r3, r4, Nat.zero_add, Nat.reduceMul, Nat.reduceAdd, b1, b2, b3, b4, b5, b6, i1, i2, i3, i4, i5, i6, Nat.reduceBEq, dflt, egi, egi1, eg2, eg3, ei1]; exact hh1) (by simp only [e1, e2, e3, e4, p1, p2, p3, q1, q2, q3, l1, t0, t1, r1, r2, r3, r4, Nat.zero_add, Nat.reduceMul, Nat.reduceAdd, b1, b2, b3, b4, b5, b6, i1, i2, i3, i4, i5, i6, Nat.reduceBEq, dflt, egi, egi1, eg2, eg3, ei1]; exact hh2))) ?_
        refine zg10 ?_
        exact nx2 (i + 1) (w.set i (ul.getD (i + 1) 0 % 2 ^ s * 2 ^ (32 - s) + ul.getD i 0 / 2 ^ s)) ⟨by omega, by simp [hwl], lim_set hlw _ _ hh2, fun p hp => by rw [Go.Lg.getD_set_ne _ _ _ _ (by omega)]; exact hz9 p (by omega), sh_inv (by omega) hs32 egi hv9 (Nat.add_comm _ _)⟩
      · refine zg8 ?_
        exact nx2 (i + 1) (w.set i (ul.getD i 0 / 2 ^ s)) ⟨by omega, by simp [hwl], lim_set hlw _ _ hh3, fun p hp => by rw [Go.Lg.getD_set_ne _ _ _ _ (by omega)]; exact hz9 p (by omega), sh_inv (by omega) hs32 egi hv9 (by rw [hTz (i + 1) (by omega)]; simp)⟩
    · refine zg17 ?_
      exact nx2 (i + 1) (w.set i (ul.getD i 0 / 2 ^ s)) ⟨by omega, by simp [hwl], lim_set hlw _ _ hh3, fun p hp => by rw [Go.Lg.getD_set_ne _ _ _ _ (by omega)]; exact hz9 p (by omega), sh_inv (by omega) hs32 egi hv9 (by rw [show s = 0 by omega]; simp [Nat.mod_one])⟩
  · obtain rfl : i = T := by omega
    refine zg4 ?_
    exact goal_of (hQ (w) _ ⟨hwl, hlw, hv9⟩) (put_id' (put_id' (mk_id' cl) cl) cl)
open H_c_NDiv in
theorem c_NDiv (a b : List Nat) (ha : Lim a) (hb : Lim b) (hla : a.length ≤ 1099511627776) (hlb : b.length ≤ 1099511627776) (hb0 : 0 < val b) : CallP Tryz.prog 180 [limL a, limL b] (.tup [magL (val a / val b), magL (val a % val b), iL 0]) := by
  have hla2 := c_trimC a ha hla
  have hlb2 := c_trimC b hb hlb
  have hbne : (dig (val b)).length ≠ 0 := fun h => by have := dig_eq_nil.1 (List.eq_nil_of_length_eq_zero h); omega
  refine fnP Tryz.func180 ?_
  have ej : True := trivial
  have ek : True := trivial
  have es : True := trivial
  have eV : True := trivial
  have ej1 : True := trivial
  have ej2 : True := trivial
  have ej3 : True := trivial
  have ehm : True := trivial
  have ehg : True := trivial
  have en1 : True := trivial
  have en2 : True := trivial
  have eij : True := trivial
  have eiij : True := trivial
  have eqn : True := trivial
  have egi : True := trivial
  have egi1 : True := trivial
  have eg2 : True := trivial
  have eg3 : True := trivial
  have ei1 : True := trivial
  have enV : True := trivial
  refine zg10 ?_
  refine cp am1 (c_trimD _ (by first | assumption | exact lim_dig _) (by first | omega | (simp; done) | (simp; omega))) ?_
  refine zg1 ?_
  refine cp am1 (c_trimD _ (by first | assumption | exact lim_dig _) (by first | omega | (simp; done) | (simp; omega))) ?_
  refine zg14 ?_
  refine wl_if rfl (fun h30r h30 => ?_) (fun h30r h30 => ?_)
  · exfalso
    omega
  · refine zg4 ?_
    refine cp am2 (c_NCmp _ _ (by first | assumption | exact lim_dig _) (by first | assumption | exact lim_dig _) (by omega) (by omega)) ?_
    refine zg4 ?_
    refine wl_if rfl (fun h34r h34 => ?_) (fun h34r h34 => ?_)
    · have hlt : val a < val b := by
        apply Classical.byContradiction
        intro hh
        rcases Nat.lt_or_eq_of_le (Nat.le_of_not_lt hh) with h | h
        · rw [cmpN_gt h] at h34; omega
        · rw [cmpN_eq h.symm] at h34; omega
      refine zg3 ?_
      refine cp am1 (c_Clone _ (by omega)) ?_
      refine zg8 ?_
      rw [Nat.div_eq_of_lt hlt, Nat.mod_eq_of_lt hlt]
      exact ret3f [] rfl rfl (.nil 1) rfl (.pure (limL_pure _)) rfl (.pure rfl)
    · have hge : val b ≤ val a := by
        apply Classical.byContradiction
        intro hh
        rw [cmpN_lt (by omega)] at h34; omega
      refine zg8 ?_
      refine wl_if rfl (fun h41r h41 => ?_) (fun h41r h41 => ?_)
      · have hb32 : val b < 4294967296 := dig_len_le1.1 (by omega)
        have hd1 : dig (val b) = [val b] := dig_small hb0 hb32
        have hg0 : (dig (val b)).getD 0 0 = val b := by rw [hd1]; rfl
        have ehg := hg0
        have hml := Nat.mod_lt (val a) hb0
        refine zg6 ?_
        refine cp am2 (c_Nsmall _ _ (lim_dig _) (by omega) (by show 0 < (dig (val b)).getD 0 0; rw [hg0]; exact hb0) (getD_dig_lt _ _)) ?_
        refine zg5 ?_
        refine st_end nf1 ?_
        refine zg6 ?_
        refine cpf [55] fm1 (c_trimD [val a % val b] (lim_one (by omega)) (by simp)) ?_
        refine zg3 ?_
        refine st_end nf2 ?_
        refine zg4 ?_
        exact ret3f [] rfl rfl (.pure (magL_pure _)) rfl (.pure (magL_pure _)) rfl (.pure rfl)
      · obtain ⟨n, hn⟩ : ∃ n, (dig (val b)).length = n + 2 := ⟨(dig (val b)).length - 2, by omega⟩
        obtain ⟨m, hm⟩ : ∃ m, (dig (val a)).length = m := ⟨_, rfl⟩
        have ehm := hm
        have hm4 : m ≤ 1099511627776 := by omega
        have hnm : n + 1 + 1 ≤ m := by rw [← hm]; have := len_dig_mono hge; omega
        have ej : (((dig (val b)).length : Int) - 1).toNat = n + 1 := by omega
        obtain ⟨s, hs⟩ : ∃ s, s = 32 - blen ((dig (val b)).getD (n + 1) 0) := ⟨_, rfl⟩
        have hbl32 : blen ((dig (val b)).getD (n + 1) 0) ≤ 32 := blen_le.2 (getD_dig_lt _ _)
        have es : (32 : Int) - ((blen ((dig (val b)).getD (n + 1) 0) : Nat) : Int) = ((s : Nat) : Int) := by rw [s_eq hbl32, hs]
        obtain ⟨hs32, enV, hVge, hVlt⟩ := kn_norm (n := n + 1) hn hs
        have hV0 : 0 < val b * 2 ^ s := Nat.mul_pos hb0 (Nat.pow_pos (by omega))
        have eV : val (padL ((dig (val b)).length + 1) (val b * 2 ^ s)) = val b * 2 ^ s := padL_val (by rw [hn]; exact Nat.lt_of_lt_of_le hVlt (Nat.pow_le_pow_right (by omega) (by omega)))
        have hvt := kn_vt enV hVge
        have hv1l := getD_dig_lt (val b * 2 ^ s) (n + 1)
        have hv2l := getD_dig_lt (val b * 2 ^ s) n
        obtain ⟨hst1, hst2⟩ := kn_start (n := n + 1) hs32 hm hnm hVge
        obtain ⟨q0, hq0⟩ : ∃ q0, q0 = m + 1 - (n + 2) := ⟨_, rfl⟩
        have eqn : ((m : Int) + 1 - ((n + 2 : Nat) : Int)) = ((q0 : Nat) : Int) := by omega
        have en1 : (((n + 2 : Nat) : Int) - 1).toNat = n + 1 := by omega
        have en2 : (((n + 2 : Nat) : Int) - 2).toNat = n := by omega
        have hB1 : val (padL (m + 1) (val a * 2 ^ s)) = val a * 2 ^ s := padL_val hst2
        refine zg11 ?_
        refine cp am1 (c_LZ32 _ (getD_dig_lt _ _)) ?_
        refine zg7 ?_
        refine st_call1 [] rfl rfl (.cons (.pure (magL_pure _)) (.cons (.pure rfl) .nil)) (c_raiseN (val a) s (by omega) hs32) (pures_map u32E _) rfl ?_
        refine zg2 ?_
        refine st_call1 [] rfl rfl (.cons (.pure (magL_pure _)) (.cons (.pure rfl) .nil)) (c_raiseN (val b) s (by omega) hs32) (pures_map u32E _) rfl ?_
        refine st_callPf [1001105] rfl rfl (.cons (imm_refm u32E rfl rfl (padL_len _ _).symm) .nil) (c_trimD (padL ((dig (val b)).length + 1) (val b * 2 ^ s)) (padL_lim _ _) (by rw [padL_len]; omega)) ?_
        refine zg2 ?_
        refine st_end nf3 ?_
        refine zg6 ?_
        refine st_end nf4 ?_
        refine zg7 ?_
        refine st_alloc rfl rfl (.mkE (n := q0) (m := q0) ml ml om om om) ?_
        refine zg13 ?_
        refine lp3 (fun (k : Nat) (ul ql : List Nat) L => (((((((St.mk L.slot (hp [(1001057, ⟨1, ul.map u32L, true⟩), (1001105, ⟨1, (padL ((dig (val b)).length + 1) (val b * 2 ^ s)).map u32L, false⟩), (77, ⟨1, ql.map u32L, true⟩)])).put (some 4) (.ref 77 1 0 q0)).put (some 9) (nI64 s)).put (some 10) (.ref 1001057 1 0 (m + 1))).put (some 11) (magL (val b * 2 ^ s))).put (some 12) (nI64 (n + 2))).put (some 13) (iL ((k : Int) - 1)))) (fun k ul ql => k ≤ q0 ∧ ul.length = m + 1 ∧ ql.length = q0 ∧ Lim ul ∧ Lim ql ∧ val ul + (val b * 2 ^ s) * 4294967296 ^ k * val (ql.drop k) = val a * 2 ^ s ∧ val ul < (val b * 2 ^ s) * 4294967296 ^ k) (fun k ul ql => k) q0 (padL (m + 1) (val a * 2 ^ s)) (List.replicate q0 0) ⟨Nat.le_refl _, padL_len _ _, by simp, padL_lim _ _, lim_zeros _, by rw [List.drop_of_length_le (by simp), hB1]; simp [val], by rw [hB1, hq0]; exact hst1⟩ (h0 := ⟨_, Weak.of_eq (put_id' (put_id' (put_id' (put_id' (put_id' (put_id' (mk_id' cl5) cl5) cl5) cl5) cl5) cl5) cl5)⟩) ?_
        rintro k ul ql L1 ⟨hk, hul, hql, hlu, hlq, hv, hlt⟩
        refine zg7 ?_
        refine wl_if rfl (fun h82r h82 => ?_) (fun h82r h82 => ?_)
        · obtain ⟨j, rfl⟩ : ∃ j, k = j + 1 := ⟨k - 1, by omega⟩
          have ek : (((j + 1 : Nat) : Int) - 1) = (j : Int) := by omega
          refine zg3 ?_
          refine wl_eqS (S := fun L => (((((((St.mk L.slot (hp [(1001057, ⟨1, ul.map u32L, true⟩), (1001105, ⟨1, (padL ((dig (val b)).length + 1) (val b * 2 ^ s)).map u32L, false⟩), (77, ⟨1, ql.map u32L, true⟩)])).put (some 4) (.ref 77 1 0 q0)).put (some 9) (nI64 s)).put (some 10) (.ref 1001057 1 0 (m + 1))).put (some 11) (magL (val b * 2 ^ s))).put (some 12) (nI64 (n + 2))).put (some 13) (iL (((j + 1 : Nat) : Int) - 1)))) (put_id' (put_id' (put_id' (put_id' (put_id' (put_id' (mk_id' cl) cl) cl) cl) cl) cl) cl) ?_
          refine div_digit b ul ql n s m q0 j enV hnm hm4 hq0 hk hul hql hlu hlq hvt hV0 hVlt hlt _ ?_
          rintro w4 x4 LQ ⟨hx4, hw4, hl4, hv8⟩
          have hRV : val ul / 4294967296 ^ j < (val b * 2 ^ s) * 4294967296 := by
            obtain ⟨_, _, _, _, _, _, h⟩ := kn_ctx (j := j) enV (by omega) hlu hlt
            exact h
          have hqB : val ul / 4294967296 ^ j / (val b * 2 ^ s) < 4294967296 := by rw [Nat.div_lt_iff_lt_mul hV0, Nat.mul_comm]; exact hRV
          have hx4B : x4 < 4294967296 := by rw [hx4]; exact hqB
          have hx4m : x4 % 4294967296 = x4 := Nat.mod_eq_of_lt hx4B
          obtain ⟨hn1, hn2⟩ := kn_next (j := j) hV0 hx4 hv8 (by omega) hv
          refine zg7 ?_
          exact nx3 j w4 (ql.set j (x4 % 4294967296)) ⟨by omega, hw4, by simp [hql], hl4, lim_set hlq _ _ (by omega), by rw [hx4m]; exact hn1, hn2⟩ (he := Weak.of_eq (put_id' (put_id' (put_id' (put_id' (put_id' (put_id' (mk_id' cl5) cl5) cl5) cl5) cl5) cl5) cl5))
        · obtain rfl : k = 0 := by omega
          rw [List.drop_zero, Nat.pow_zero, Nat.mul_one] at hv
          rw [Nat.pow_zero, Nat.mul_one] at hlt
          obtain ⟨hq, hr⟩ := kn_end hb0 hv hlt
          obtain ⟨T, hT⟩ : ∃ T, T = trimN (m + 1) ul := ⟨_, rfl⟩
          have hTm : T ≤ m + 1 := by rw [hT]; exact trimN_le _ _
          have hTz := trim_zero (l := ul) (n := m + 1) hul.symm
          rw [← hT] at hTz
          have hlow := low_bits (by omega) hr
          refine zg8 ?_
          refine st_callM 1001057 rfl rfl rfl (pures_map u32E _) (.cons .ref .nil) (.ref (by omega)) (c_trimM' ul (m + 1) hul.symm (by omega) (by omega)) rfl (pures_map u32E _) ?_
          refine zg1 ?_
          refine st_end nf6 ?_
          refine zg9 ?_
          refine wl_eqS (S := fun L => (((((((St.mk L.slot (hp [(1001057, ⟨1, ul.map u32L, true⟩), (1001105, ⟨1, (padL ((dig (val b)).length + 1) (val b * 2 ^ s)).map u32L, false⟩), (77, ⟨1, ql.map u32L, true⟩)])).put (some 4) (.ref 77 1 0 q0)).put (some 5) (.ref 1001057 1 0 T)).put (some 9) (nI64 s)).put (some 260) (.ref 1001057 1 0 T)).put (some 261) (nI64 T)).put (some 262) (nI64 0))) (put_id' (put_id' (put_id' (put_id' (put_id' (put_id' (mk_id' cl) cl) cl) cl) cl) cl) cl) ?_
          refine div_shift b ul ql s m q0 T hs32 hm4 hul hlu hTm hTz hlow _ ?_
          rintro w LQ ⟨hwl, hlw, hv9⟩
          rw [hTz T (Nat.le_refl _), Nat.zero_mod, Nat.mul_zero, Nat.add_zero] at hv9
          have hfin : val (w.take T) = val a % val b := by
            have e1 := (trimN_spec ul.length ul (Nat.le_refl _)).2
            rw [List.take_length, hul, ← hT, hr] at e1
            rw [e1, Nat.mul_comm] at hv9
            exact Nat.eq_of_mul_eq_mul_right (Nat.pow_pos (by omega)) hv9
          refine zg4 ?_
          refine cpf [77] fm1 (c_trimD ql hlq (by omega)) ?_
          refine zg1 ?_
          refine cpf [1001057] fm1 (c_trimD (w.take T) (lim_take hlw _) (by simp; omega)) ?_
          refine zg6 ?_
          rw [← hq, ← hfin]
          exact ret3f [] rfl rfl (.pure (magL_pure _)) rfl (.pure (magL_pure _)) rfl (.pure rfl)
end Go.Proofs.YthhdcfhaldcheaaGreat
