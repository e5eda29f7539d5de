/- Polynomials in Bernstein form: copies, halves. -/
import Derived.Test.YthhdcfhaldcheaaGreatR5
set_option linter.unusedVariables false
set_option linter.unusedSimpArgs false
set_option maxHeartbeats 8000000
set_option maxRecDepth 100000
attribute [local irreducible] Go.Lg.opsL Go.Lg.wpL Go.Lg.thenL Go.Lg.blockL
namespace Go.Proofs.YthhdcfhaldcheaaGreat
open Go.Lg
end Go.Proofs.YthhdcfhaldcheaaGreat
namespace Go.Lg
open Go.Proofs.YthhdcfhaldcheaaGreat in
theorem OpP.build0 {P : Program} {H : Heap} {ρ : Operand → LV} {T : TypeId} (hT : StructLay P T [(1, false), (1, false), (1, false)]) (hz : ZeroOK P T (.agg [.v (.bool false), .list 1 [], .list 1 []])) : OpP P H ρ (.build T #[]) (ratL 0) := by
  rw [ratL_zero]
  exact OpP.build (zs := [.v (.bool false), .list 1 [], .list 1 []]) (ps := #[]) hT hz (by intro p hp; cases hp)
end Go.Lg
namespace Go.Proofs.YthhdcfhaldcheaaGreat
open Go.Lg
/-! ### de Casteljau's scheme -/
theorem dfq : (default : Rat) = 0 := rfl
def stp (t : Rat) : List Rat → List Rat
  | x :: y :: r => ((1 - t) * x + t * y) :: stp t (y :: r)
  | _ => []
theorem stp_len (t : Rat) : ∀ p : List Rat, (stp t p).length = p.length - 1
  | [] => rfl
  | [_] => rfl
  | x :: y :: r => by simp [stp, stp_len t (y :: r)]
theorem stp_get (t : Rat) : ∀ (p : List Rat) (i : Nat), i + 1 < p.length → (stp t p).getD i 0 = (1 - t) * p.getD i 0 + t * p.getD (i + 1) 0
  | [], i, h => by simp at h
  | [_], i, h => by simp at h
  | x :: y :: r, 0, _ => by simp [stp]
  | x :: y :: r, i + 1, h => by
      have := stp_get t (y :: r) i (by simpa using h)
      simpa [stp] using this
theorem getD_mem {p : List Rat} {i : Nat} (h : i < p.length) : p.getD i 0 ∈ p := by
  rw [List.getD_eq_getElem?_getD, List.getElem?_eq_getElem h]; exact List.getElem_mem h
theorem mem_getD {p : List Rat} {x : Rat} (h : x ∈ p) : ∃ i, i < p.length ∧ p.getD i 0 = x := by
  obtain ⟨i, hi, rfl⟩ := List.getElem_of_mem h
  exact ⟨i, hi, by rw [List.getD_eq_getElem?_getD, List.getElem?_eq_getElem hi]; rfl⟩
theorem ext_getD {p q : List Rat} (hl : p.length = q.length) (h : ∀ i, i < p.length → p.getD i 0 = q.getD i 0) : p = q := by
  apply List.ext_getElem hl
  intro i h1 h2
  have := h i h1
  rw [List.getD_eq_getElem?_getD, List.getD_eq_getElem?_getD, List.getElem?_eq_getElem h1, List.getElem?_eq_getElem h2] at this
  exact this
/-- the first coefficients of the levels -/
def loF (t : Rat) : Nat → List Rat → List Rat
  | 0, _ => []
  | k + 1, p => p.getD 0 0 :: loF t k (stp t p)
/-- the last coefficients of the levels, the last level first, ahead of what is there -/
def hiF (t : Rat) : Nat → List Rat → List Rat → List Rat
  | 0, q, tl => q ++ tl
  | k + 1, q, tl => hiF t k (stp t q) (q.getD k 0 :: tl)
def loP (p : List Rat) (t : Rat) : List Rat := loF t p.length p
def hiP (p : List Rat) (t : Rat) : List Rat := hiF t p.length p []
theorem loF_len (t : Rat) : ∀ (k : Nat) (p : List Rat), (loF t k p).length = k
  | 0, _ => rfl
  | k + 1, p => by simp [loF, loF_len t k]
theorem hiF_len (t : Rat) : ∀ (k : Nat) (q tl : List Rat), q.length = k → (hiF t k q tl).length = k + tl.length
  | 0, q, tl, h => by simp [hiF, h]
  | k + 1, q, tl, h => by rw [hiF, hiF_len t k _ _ (by rw [stp_len]; omega)]; simp; omega
theorem loP_len (p : List Rat) (t : Rat) : (loP p t).length = p.length := loF_len t _ _
theorem hiP_len (p : List Rat) (t : Rat) : (hiP p t).length = p.length := by rw [hiP, hiF_len t _ _ _ rfl]; simp
theorem set_mid {α : Type} (A B : List α) (x v : α) {n : Nat} (h : n = A.length) : (A ++ x :: B).set n v = A ++ v :: B := by subst h; simp
theorem getD_app1 {α : Type} (A B : List α) (d : α) {i : Nat} (h : i < A.length) : (A ++ B).getD i d = A.getD i d := by simp [List.getD_eq_getElem?_getD, List.getElem?_append_left h]
theorem getD_app2 {α : Type} (A B : List α) (d : α) {i : Nat} (h : A.length ≤ i) : (A ++ B).getD i d = B.getD (i - A.length) d := by simp [List.getD_eq_getElem?_getD, List.getElem?_append_right h]
theorem getD_dropR (l : List Rat) (k p : Nat) : (l.drop k).getD p 0 = l.getD (k + p) 0 := by
  rw [List.getD_eq_getElem?_getD, List.getD_eq_getElem?_getD, List.getElem?_drop]
/-- the row in the middle of a round -/
theorem mid_get {t : Rat} {q tl : List Rat} {i : Nat} (h : i + 1 < q.length) :
    ((stp t q).take i ++ (q.drop i ++ tl)).getD i 0 = q.getD i 0 ∧ ((stp t q).take i ++ (q.drop i ++ tl)).getD (i + 1) 0 = q.getD (i + 1) 0 := by
  have hl : ((stp t q).take i).length = i := by rw [List.length_take, stp_len]; omega
  constructor
  · rw [getD_app2 _ _ _ (by omega), hl, Nat.sub_self, getD_app1 _ _ _ (by simp; omega), getD_dropR, Nat.add_zero]
  · rw [getD_app2 _ _ _ (by omega), hl, getD_app1 _ _ _ (by simp; omega), getD_dropR]; congr 1; omega
theorem mid_set {t : Rat} {q tl : List Rat} {i : Nat} (h : i + 1 < q.length) :
    ((stp t q).take i ++ (q.drop i ++ tl)).set i ((1 - t) * q.getD i 0 + t * q.getD (i + 1) 0) = (stp t q).take (i + 1) ++ (q.drop (i + 1) ++ tl) := by
  have hl : ((stp t q).take i).length = i := by rw [List.length_take, stp_len]; omega
  rw [List.drop_eq_getElem_cons (by omega), List.cons_append, set_mid _ _ _ _ hl.symm, ← stp_get t q i h]
  have hs : i < (stp t q).length := by rw [stp_len]; omega
  rw [List.take_succ_eq_append_getElem hs, List.append_assoc]
  congr 1
  rw [List.getD_eq_getElem?_getD, List.getElem?_eq_getElem hs]
  simp
theorem mid_end {t : Rat} {q tl : List Rat} {k : Nat} (h : q.length = k + 1) : (stp t q).take k ++ (q.drop k ++ tl) = stp t q ++ (q.getD k 0 :: tl) := by
  rw [List.take_of_length_le (by rw [stp_len]; omega), List.drop_eq_getElem_cons (by omega), List.drop_of_length_le (by omega), List.getD_eq_getElem?_getD, List.getElem?_eq_getElem (by omega)]
  simp
/-- sizes along the scheme -/
theorem stp_sz {t : Rat} {q : List Rat} {C M k : Nat} (hC : rl (1 - t) + rl t + 1 ≤ C) (h : ∀ x ∈ q, (rl x + C) * 2 ^ (k + 1) ≤ M) : ∀ x ∈ stp t q, (rl x + C) * 2 ^ k ≤ M := by
  intro x hx
  obtain ⟨i, hi, rfl⟩ := mem_getD hx
  rw [stp_len] at hi
  rw [stp_get t q i (by omega)]
  have h1 := h _ (getD_mem (p := q) (i := i) (by omega))
  have h2 := h _ (getD_mem (p := q) (i := i + 1) (by omega))
  have e1 := rl_add ((1 - t) * q.getD i 0) (t * q.getD (i + 1) 0)
  have e2 := rl_mul (1 - t) (q.getD i 0)
  have e3 := rl_mul t (q.getD (i + 1) 0)
  rw [Nat.pow_succ] at h1 h2
  have hle : rl ((1 - t) * q.getD i 0 + t * q.getD (i + 1) 0) + C ≤ (rl (q.getD i 0) + C) + (rl (q.getD (i + 1) 0) + C) := by omega
  have := Nat.mul_le_mul_right (2 ^ k) hle
  have e6 := Nat.add_mul (rl (q.getD i 0) + C) (rl (q.getD (i + 1) 0) + C) (2 ^ k)
  have e4 : (rl (q.getD i 0) + C) * (2 ^ k * 2) = (rl (q.getD i 0) + C) * 2 ^ k * 2 := by rw [Nat.mul_assoc]
  have e5 : (rl (q.getD (i + 1) 0) + C) * (2 ^ k * 2) = (rl (q.getD (i + 1) 0) + C) * 2 ^ k * 2 := by rw [Nat.mul_assoc]
  omega
theorem cp_take {o p : List Rat} {k : Nat} (hk : k < p.length) (hol : o.length = p.length) (ht : o.take k = p.take k) : (o.set k (p.getD k 0)).take (k + 1) = p.take (k + 1) := by
  rw [List.take_succ_eq_append_getElem (by simpa [hol] using hk), List.take_succ_eq_append_getElem hk, List.take_set_of_le (Nat.le_refl _), ht]
  congr 1
  simp [List.getD_eq_getElem?_getD, List.getElem?_eq_getElem hk]
theorem r1r : ((1 : Int) : Rat) = 1 := rfl
theorem sz_rl {x : Rat} {C M k : Nat} (h : (rl x + C) * 2 ^ k ≤ M) : rl x + C ≤ M := by
  have : 1 ≤ 2 ^ k := Nat.pow_pos (by omega)
  exact Nat.le_trans (Nat.le_mul_of_pos_right _ this) h
theorem sz_len {p : List Rat} {C : Nat} (hC : 1 ≤ C) (h : ∀ x ∈ p, (rl x + C) * 2 ^ p.length ≤ 1073741824) : p.length ≤ 30 := by
  cases p with
  | nil => simp
  | cons x r =>
    have h1 := h x (by simp)
    have h2 : 1 * 2 ^ (x :: r).length ≤ (rl x + C) * 2 ^ (x :: r).length := Nat.mul_le_mul_right _ (by omega)
    rcases Nat.lt_or_ge 30 (x :: r).length with h3 | h3
    · have h4 : 2 ^ 31 ≤ 2 ^ (x :: r).length := Nat.pow_le_pow_right (by omega) h3
      omega
    · exact h3
theorem mid_len {t : Rat} {q tl : List Rat} {i : Nat} (h : i < q.length) : ((stp t q).take i ++ (q.drop i ++ tl)).length = q.length + tl.length := by
  simp [stp_len]; omega
namespace H_c_copiedO
theorem zSm {p q : Prop} (k : q) (e : p = q := by simp only [e1, e2, e3, e4, p1, p2, p3, q1, q2, q3, l1, t0, t1, r1, r2, r3, r4, Nat.zero_add, Nat.reduceMul, Nat.reduceAdd, b1, b2, b3, b4, b5, b6, i1, i2, i3, i4, i5, i6, Nat.reduceBEq, dfq, Rat.add_zero, kills_map ratE, ratL_kill, LV.kill, kills]; exact rfl) : p := e.mpr k
end H_c_copiedO
open H_c_copiedO in
theorem c_copiedO (p : List Rat) (hl : p.length ≤ 1048576) (hpr : ∀ x ∈ p, rl x ≤ 274877906944) : CallOK Tryz.prog 134 [.list 3 (p.map ratL)] (.ref 1 3 0 p.length) [⟨3, p.map ratL, true⟩] := by
  refine fnO Tryz.func134 ?_
  refine zg9 ?_
  refine st_alloc rfl rfl (.mkE (n := p.length) (m := p.length) ml ml om om om) ?_
  refine zg12 ?_
  refine lp2 (fun (k : Nat) (o : List Rat) L => (((((St.mk L.slot (hp [(8, ⟨3, o.map ratL, true⟩)])).put (some 3) (.ref 8 3 0 p.length)).put (some 9) (.list 3 (p.map ratL))).put (some 10) (nI64 p.length)).put (some 11) (nI64 k))) (fun k o => k ≤ p.length ∧ o.length = p.length ∧ o.take k = p.take k) (fun k o => p.length - k) 0 (List.replicate p.length 0) ⟨Nat.zero_le _, by simp, rfl⟩ ?_
  rintro k o L1 ⟨hk, hol, ht⟩
  refine zg6 ?_
  refine wl_if rfl (fun h12r h12 => ?_) (fun h12r h12 => ?_)
  · have hk2 : k < p.length := by omega
    have hrk := hpr _ (getD_mem hk2)
    refine zg18 ?_
    refine st_pure rfl (.build0 SL33 Z33a) ?_
    refine cp am2 (c_RAdd (p.getD k 0) 0 (by rw [show rl 0 = 1 from rfl]; omega)) ?_
    refine zg5 ?_
    refine wl_regW (Weak.kill _ 5) ?_
    refine zg4 ?_
    exact nx2 (k + 1) (o.set k (p.getD k 0)) ⟨by omega, by simp [hol], cp_take hk2 hol ht⟩
  · obtain rfl : k = p.length := by omega
    rw [List.take_length, ← hol, List.take_length] at ht
    refine zg12 ?_
    subst ht
    exact ret1own rfl rfl (pures_map ratE _)
namespace H_c_halves
theorem zSm {p q : Prop} (k : q) (e : p = q := by simp only [e1, e2, e3, e4, p1, p2, p3, q1, q2, q3, l1, t0, t1, r1, r2, r3, r4, Nat.zero_add, Nat.reduceMul, Nat.reduceAdd, b1, b2, b3, b4, b5, b6, i1, i2, i3, i4, i5, i6, Nat.reduceBEq, frz_nil, dfq, Rat.add_zero, List.append_nil, List.length_append, r1r, ek, eq0, emg1, emg2, ems, eme, ei1, take_map_len, map_snoc, len_snoc, List.length_cons, List.length_nil, kills_map ratE, ratL_kill, LV.kill, kills]; exact rfl) : p := e.mpr k
end H_c_halves
open H_c_halves in
theorem c_halves (p : List Rat) (t : Rat) (cc : Nat) (hC : rl (1 - t) + rl t + 1 ≤ cc) (hcc : cc ≤ 1073741824) (hs : ∀ x ∈ p, (rl x + cc) * 2 ^ p.length ≤ 1073741824) : CallP Tryz.prog 144 [.list 3 (p.map ratL), ratL t] (.tup [.list 3 ((loP p t).map ratL), .list 3 ((hiP p t).map ratL)]) := by
  have hlen := sz_len (Nat.le_trans (Nat.le_add_left 1 _) hC) hs
  have hpr : ∀ x ∈ p, rl x ≤ 274877906944 := fun x hx => by have := sz_rl (hs x hx); omega
  refine fnP Tryz.func144 ?_
  have ek : True := trivial
  have eq0 : True := trivial
  have emg1 : True := trivial
  have emg2 : True := trivial
  have ems : True := trivial
  have eme : True := trivial
  have ei1 : True := trivial
  refine zg8 ?_
  refine wl_regD 4 (by decide +kernel) ?_
  refine cp am1 (c_RInt 1 (by decide) (by decide)) ?_
  refine zg1 ?_
  refine cp am2 (c_RSub _ _ (by rw [show rl ((1 : Int) : Rat) = 1 from rfl]; omega)) ?_
  refine zg7 ?_
  refine st_call1 [] rfl rfl (.cons (.pure (pure_lst ratE _ _)) .nil) (c_copiedO p (by omega) hpr) (pures_map ratE _) rfl ?_
  refine zg7 ?_
  refine st_alloc rfl rfl (.makeM (n := 0) (m := p.length) ratE Tryz.underlying38 Z33 T33 B33 rfl rfl (by omega) (by omega) (by omega)) ?_
  refine zg13 ?_
  refine wl_weak (Weak.mv (t := 8) (b := 18) 33 (by decide) (by decide) (by decide) rfl rfl rfl) ?_
  refine lp4 (fun (k : Nat) (q tl lo : List Rat) L => ((((((St.mk L.slot (hp [(3, ⟨3, [ratL t], true⟩), (6, ⟨3, [ratL (1 - t)], true⟩), (1000241, ⟨3, (q ++ tl).map ratL, true⟩), (33, ⟨3, lo.map ratL, true⟩)])).put (some 3) (.eptr 3 3 0 0)).put (some 6) (.eptr 6 3 0 0)).put (some 7) (.ref 1000241 3 0 p.length)).put (some 8) (.ref 33 3 0 lo.length)).put (some 9) (iL ((k : Int) - 1)))) (fun k q tl lo => q.length = k ∧ k + tl.length = p.length ∧ lo.length + k = p.length ∧ lo ++ loF t k q = loP p t ∧ hiF t k q tl = hiP p t ∧ ∀ x ∈ q, (rl x + cc) * 2 ^ k ≤ 1073741824) (fun k q tl lo => k) p.length p ([]) ([]) ⟨rfl, by simp, by simp, by simp [loP], rfl, hs⟩ ?_
  rintro k q tl lo L1 ⟨hq, htl, hlo, hL, hH, hsz⟩
  refine zg7 ?_
  refine wl_if rfl (fun h23r h23 => ?_) (fun h23r h23 => ?_)
  · obtain ⟨j, rfl⟩ : ∃ j, k = j + 1 := ⟨k - 1, by omega⟩
    have ek : (((j + 1 : Nat) : Int) - 1) = (j : Int) := by omega
    have eq0 : (q ++ tl).getD 0 0 = q.getD 0 0 := getD_app1 _ _ _ (by omega)
    have hq0 := sz_rl (hsz _ (getD_mem (i := 0) (by omega)))
    refine zg10 ?_
    refine st_pure rfl (.build0 SL33 Z33a) ?_
    simp only [tz0, dfq, Nat.zero_add, eq0]
    refine cp am2 (c_RAdd _ 0 (by rw [show rl 0 = 1 from rfl]; omega)) ?_
    refine zg1 ?_
    refine st_store rfl (.app (news := [ratL (q.getD 0 0 + 0)]) rfl rfl rfl rfl rfl (by simp) (.inl rfl) (by decide) Tryz.underlying38 Tryz.underlying38 Z33a T33 rfl B33 (.inl ⟨32, 0, _, rfl, by decide, rfl, rfl, by simp, rfl, by simp [pures, ratE.pure]⟩) (by simp; omega) (by simp; omega) (by decide)) ?_
    refine zg4 ?_
    refine wl_regW (Weak.kill _ 32) ?_
    refine zg5 ?_
    refine lp1 (fun (i : Nat) L => ((((((((St.mk L.slot (hp [(3, ⟨3, [ratL t], true⟩), (6, ⟨3, [ratL (1 - t)], true⟩), (1000241, ⟨3, ((stp t q).take i ++ (q.drop i ++ tl)).map ratL, true⟩), (33, ⟨3, (lo ++ [q.getD 0 0]).map ratL, true⟩)])).put (some 3) (.eptr 3 3 0 0)).put (some 6) (.eptr 6 3 0 0)).put (some 7) (.ref 1000241 3 0 p.length)).put (some 8) (.ref 33 3 0 (lo.length + 1))).put (some 9) (nI64 j)).put (some 34) (nI64 j)).put (some 35) (nI64 i))) (fun i => i ≤ j) (fun i => j - i) 0 (Nat.zero_le _) ?_
    rintro i L2 hi
    refine zg6 ?_
    refine wl_if rfl (fun h36r h36 => ?_) (fun h36r h36 => ?_)
    · have hij : i < j := by omega
      have ei1 : ((i : Int) + 1).toNat = i + 1 := by omega
      obtain ⟨emg1, emg2⟩ := mid_get (t := t) (q := q) (tl := tl) (i := i) (by omega)
      have ems := mid_set (t := t) (q := q) (tl := tl) (i := i) (by omega)
      have hr1 := sz_rl (hsz _ (getD_mem (i := i) (by omega)))
      have hr2 := sz_rl (hsz _ (getD_mem (i := i + 1) (by omega)))
      have hm1 := rl_mul (1 - t) (q.getD i 0)
      have hm2 := rl_mul t (q.getD (i + 1) 0)
      have hml := mid_len (t := t) (q := q) (tl := tl) (i := i) (by omega)
      refine zg10 ?_
      refine wl_regD 17 (by decide +kernel) ?_
      refine zg7 ?_
      simp only [t1, dfq, Nat.zero_add, emg1]
      refine cp am2 (c_RMul _ _ (by omega)) ?_
      refine zg6 ?_
      simp only [ei1, dfq, Nat.zero_add, emg2]
      refine cp am2 (c_RMul _ _ (by omega)) ?_
      refine cp am2 (c_RAdd _ _ (by omega)) ?_
      refine zg10 ?_
      exact nx1 (i + 1) (by omega)
    · obtain rfl : j = i := by omega
      have eme := mid_end (t := t) (tl := tl) hq
      refine zg12 ?_
      exact nx4 j (stp t q) (q.getD j 0 :: tl) (lo ++ [q.getD 0 0]) ⟨by rw [stp_len]; omega, by simp; omega, by simp; omega, by rw [List.append_assoc]; exact hL, hH, stp_sz hC hsz⟩
  · obtain rfl : k = 0 := by omega
    obtain rfl : q = [] := List.eq_nil_of_length_eq_zero hq
    rw [loF, List.append_nil] at hL
    rw [hiF] at hH
    refine zg14 ?_
    rw [← hL, ← hH]
    exact ret2f [33, 1000241] rfl rfl (imm_refm ratE rfl rfl rfl) rfl (imm_refm ratE rfl rfl (by simpa using htl.symm))
end Go.Proofs.YthhdcfhaldcheaaGreat
