/- Texts B1, M1, R6, B2, L1, C1, C2, D1, T1, T2, T3, T4, T5, E1, E2, E3, T6, T7, H1, H2, G1, T8, T9, G2, S1, V1, T15, T16 of this proof, joined. -/
import Derived.Test.YthhdcfhaldcheaaGreatTV4
set_option linter.unusedVariables false
set_option linter.unusedSimpArgs false
section
set_option linter.unusedVariables false
set_option linter.unusedSimpArgs false
set_option maxHeartbeats 8000000
set_option maxRecDepth 100000
attribute [local irreducible] Go.Lg.opsL Go.Lg.wpL Go.Lg.thenL Go.Lg.blockL
namespace Go.Proofs.YthhdcfhaldcheaaGreat
open Go.Lg
end Go.Proofs.YthhdcfhaldcheaaGreat
namespace Go.Lg
open Go.Proofs.YthhdcfhaldcheaaGreat in
theorem OpP.build0 {P : Program} {H : Heap} {ρ : Operand → LV} {T : TypeId} (hT : StructLay P T [(1, false), (1, false), (1, false)]) (hz : ZeroOK P T (.agg [.v (.bool false), .list 1 [], .list 1 []])) : OpP P H ρ (.build T #[]) (ratL 0) := by
  rw [ratL_zero]
  exact OpP.build (zs := [.v (.bool false), .list 1 [], .list 1 []]) (ps := #[]) hT hz (by intro p hp; cases hp)
end Go.Lg
namespace Go.Proofs.YthhdcfhaldcheaaGreat
open Go.Lg
theorem dfq : (default : Rat) = 0 := rfl
def stp (t : Rat) : List Rat → List Rat
  | x :: y :: r => ((1 - t) * x + t * y) :: stp t (y :: r)
  | _ => []
theorem stp_len (t : Rat) : ∀ p : List Rat, (stp t p).length = p.length - 1
  | [] => rfl
  | [_] => rfl
  | x :: y :: r => by simp [stp, stp_len t (y :: r)]
theorem stp_get (t : Rat) : ∀ (p : List Rat) (i : Nat), i + 1 < p.length → (stp t p).getD i 0 = (1 - t) * p.getD i 0 + t * p.getD (i + 1) 0
  | [], i, h => by simp at h
  | [_], i, h => by simp at h
  | x :: y :: r, 0, _ => by simp [stp]
  | x :: y :: r, i + 1, h => by
      have := stp_get t (y :: r) i (by simpa using h)
      simpa [stp] using this
theorem getD_mem {p : List Rat} {i : Nat} (h : i < p.length) : p.getD i 0 ∈ p := by
  rw [List.getD_eq_getElem?_getD, List.getElem?_eq_getElem h]; exact List.getElem_mem h
theorem mem_getD {p : List Rat} {x : Rat} (h : x ∈ p) : ∃ i, i < p.length ∧ p.getD i 0 = x := by
  obtain ⟨i, hi, rfl⟩ := List.getElem_of_mem h
  exact ⟨i, hi, by rw [List.getD_eq_getElem?_getD, List.getElem?_eq_getElem hi]; rfl⟩
/-- the first coefficients of the levels -/
def loF (t : Rat) : Nat → List Rat → List Rat
  | 0, _ => []
  | k + 1, p => p.getD 0 0 :: loF t k (stp t p)
/-- the last coefficients of the levels, the last level first, ahead of what is there -/
def hiF (t : Rat) : Nat → List Rat → List Rat → List Rat
  | 0, q, tl => q ++ tl
  | k + 1, q, tl => hiF t k (stp t q) (q.getD k 0 :: tl)
def loP (p : List Rat) (t : Rat) : List Rat := loF t p.length p
def hiP (p : List Rat) (t : Rat) : List Rat := hiF t p.length p []
theorem loF_len (t : Rat) : ∀ (k : Nat) (p : List Rat), (loF t k p).length = k
  | 0, _ => rfl
  | k + 1, p => by simp [loF, loF_len t k]
theorem loP_len (p : List Rat) (t : Rat) : (loP p t).length = p.length := loF_len t _ _
theorem set_mid {α : Type} (A B : List α) (x v : α) {n : Nat} (h : n = A.length) : (A ++ x :: B).set n v = A ++ v :: B := by subst h; simp
theorem getD_app1 {α : Type} (A B : List α) (d : α) {i : Nat} (h : i < A.length) : (A ++ B).getD i d = A.getD i d := by simp [List.getD_eq_getElem?_getD, List.getElem?_append_left h]
theorem getD_app2 {α : Type} (A B : List α) (d : α) {i : Nat} (h : A.length ≤ i) : (A ++ B).getD i d = B.getD (i - A.length) d := by simp [List.getD_eq_getElem?_getD, List.getElem?_append_right h]
theorem getD_dropR (l : List Rat) (k p : Nat) : (l.drop k).getD p 0 = l.getD (k + p) 0 := by
  rw [List.getD_eq_getElem?_getD, List.getD_eq_getElem?_getD, List.getElem?_drop]
/-- the row in the middle of a round -/
theorem mid_get {t : Rat} {q tl : List Rat} {i : Nat} (h : i + 1 < q.length) :
    ((stp t q).take i ++ (q.drop i ++ tl)).getD i 0 = q.getD i 0 ∧ ((stp t q).take i ++ (q.drop i ++ tl)).getD (i + 1) 0 = q.getD (i + 1) 0 := by
  have hl : ((stp t q).take i).length = i := by rw [List.length_take, stp_len]; omega
  constructor
  · rw [getD_app2 _ _ _ (by omega), hl, Nat.sub_self, getD_app1 _ _ _ (by simp; omega), getD_dropR, Nat.add_zero]
  · rw [getD_app2 _ _ _ (by omega), hl, getD_app1 _ _ _ (by simp; omega), getD_dropR]; congr 1; omega
theorem mid_set {t : Rat} {q tl : List Rat} {i : Nat} (h : i + 1 < q.length) :
    ((stp t q).take i ++ (q.drop i ++ tl)).set i ((1 - t) * q.getD i 0 + t * q.getD (i + 1) 0) = (stp t q).take (i + 1) ++ (q.drop (i + 1) ++ tl) := by
  have hl : ((stp t q).take i).length = i := by rw [List.length_take, stp_len]; omega
  rw [List.drop_eq_getElem_cons (by omega), List.cons_append, set_mid _ _ _ _ hl.symm, ← stp_get t q i h]
  have hs : i < (stp t q).length := by rw [stp_len]; omega
  rw [List.take_succ_eq_append_getElem hs, List.append_assoc]
  congr 1
  rw [List.getD_eq_getElem?_getD, List.getElem?_eq_getElem hs]
  simp
theorem mid_end {t : Rat} {q tl : List Rat} {k : Nat} (h : q.length = k + 1) : (stp t q).take k ++ (q.drop k ++ tl) = stp t q ++ (q.getD k 0 :: tl) := by
  rw [List.take_of_length_le (by rw [stp_len]; omega), List.drop_eq_getElem_cons (by omega), List.drop_of_length_le (by omega), List.getD_eq_getElem?_getD, List.getElem?_eq_getElem (by omega)]
  simp
/-- sizes along the scheme -/
theorem stp_sz {t : Rat} {q : List Rat} {C M k : Nat} (hC : rl (1 - t) + rl t + 1 ≤ C) (h : ∀ x ∈ q, (rl x + C) * 2 ^ (k + 1) ≤ M) : ∀ x ∈ stp t q, (rl x + C) * 2 ^ k ≤ M := by
  intro x hx
  obtain ⟨i, hi, rfl⟩ := mem_getD hx
  rw [stp_len] at hi
  rw [stp_get t q i (by omega)]
  have h1 := h _ (getD_mem (p := q) (i := i) (by omega))
  have h2 := h _ (getD_mem (p := q) (i := i + 1) (by omega))
  have e1 := rl_add ((1 - t) * q.getD i 0) (t * q.getD (i + 1) 0)
  have e2 := rl_mul (1 - t) (q.getD i 0)
  have e3 := rl_mul t (q.getD (i + 1) 0)
  rw [Nat.pow_succ] at h1 h2
  have hle : rl ((1 - t) * q.getD i 0 + t * q.getD (i + 1) 0) + C ≤ (rl (q.getD i 0) + C) + (rl (q.getD (i + 1) 0) + C) := by omega
  have := Nat.mul_le_mul_right (2 ^ k) hle
  have e6 := Nat.add_mul (rl (q.getD i 0) + C) (rl (q.getD (i + 1) 0) + C) (2 ^ k)
  have e4 : (rl (q.getD i 0) + C) * (2 ^ k * 2) = (rl (q.getD i 0) + C) * 2 ^ k * 2 := by rw [Nat.mul_assoc]
  have e5 : (rl (q.getD (i + 1) 0) + C) * (2 ^ k * 2) = (rl (q.getD (i + 1) 0) + C) * 2 ^ k * 2 := by rw [Nat.mul_assoc]
  omega
theorem cp_take {o p : List Rat} {k : Nat} (hk : k < p.length) (hol : o.length = p.length) (ht : o.take k = p.take k) : (o.set k (p.getD k 0)).take (k + 1) = p.take (k + 1) := by
  rw [List.take_succ_eq_append_getElem (by simpa [hol] using hk), List.take_succ_eq_append_getElem hk, List.take_set_of_le (Nat.le_refl _), ht]
  congr 1
  simp [List.getD_eq_getElem?_getD, List.getElem?_eq_getElem hk]
theorem r1r : ((1 : Int) : Rat) = 1 := rfl
theorem sz_rl {x : Rat} {C M k : Nat} (h : (rl x + C) * 2 ^ k ≤ M) : rl x + C ≤ M := by
  have : 1 ≤ 2 ^ k := Nat.pow_pos (by omega)
  exact Nat.le_trans (Nat.le_mul_of_pos_right _ this) h
theorem sz_len {p : List Rat} {C : Nat} (hC : 1 ≤ C) (h : ∀ x ∈ p, (rl x + C) * 2 ^ p.length ≤ 1073741824) : p.length ≤ 30 := by
  cases p with
  | nil => simp
  | cons x r =>
    have h1 := h x (by simp)
    have h2 : 1 * 2 ^ (x :: r).length ≤ (rl x + C) * 2 ^ (x :: r).length := Nat.mul_le_mul_right _ (by omega)
    rcases Nat.lt_or_ge 30 (x :: r).length with h3 | h3
    · have h4 : 2 ^ 31 ≤ 2 ^ (x :: r).length := Nat.pow_le_pow_right (by omega) h3
      omega
    · exact h3
theorem mid_len {t : Rat} {q tl : List Rat} {i : Nat} (h : i < q.length) : ((stp t q).take i ++ (q.drop i ++ tl)).length = q.length + tl.length := by
  simp [stp_len]; omega
namespace H_c_copiedO
theorem zSm {p q : Prop} (k : q) (e : p = q := by simp only [e1, e2, e3, e4, p1, p2, p3, q1, q2, q3, l1, t0, t1, r1, r2, r3, r4, Nat.zero_add, Nat.reduceMul, Nat.reduceAdd, b1, b2, b3, b4, b5, b6, i1, i2, i3, i4, i5, i6, Nat.reduceBEq, dfq, Rat.add_zero, kills_map ratE, ratL_kill, LV.kill, kills]; exact rfl) : p := e.mpr k
end H_c_copiedO
open H_c_copiedO in
theorem c_copiedO (p : List Rat) (hl : p.length ≤ 1048576) (hpr : ∀ x ∈ p, rl x ≤ 274877906944) : CallOK Tryz.prog 134 [.list 3 (p.map ratL)] (.ref 1 3 0 p.length) [⟨3, p.map ratL, true⟩] := by
  refine fnO Tryz.func134 ?_
  refine zg9 ?_
  refine st_alloc rfl rfl (.mkE (n := p.length) (m := p.length) ml ml om om om) ?_
  refine zg12 ?_
  refine lp2 (fun (k : Nat) (o : List Rat) L => (((((St.mk L.slot (hp [(8, ⟨3, o.map ratL, true⟩)])).put (some 3) (.ref 8 3 0 p.length)).put (some 9) (.list 3 (p.map ratL))).put (some 10) (nI64 p.length)).put (some 11) (nI64 k))) (fun k o => k ≤ p.length ∧ o.length = p.length ∧ o.take k = p.take k) (fun k o => p.length - k) 0 (List.replicate p.length 0) ⟨Nat.zero_le _, by simp, rfl⟩ ?_
  rintro k o L1 ⟨hk, hol, ht⟩
  refine zg6 ?_
  refine wl_if rfl (fun h12r h12 => ?_) (fun h12r h12 => ?_)
  · have hk2 : k < p.length := by omega
    have hrk := hpr _ (getD_mem hk2)
    refine zg18 ?_
    refine st_pure rfl (.build0 SL33 Z33a) ?_
    refine cp am2 (c_RAdd (p.getD k 0) 0 (by rw [show rl 0 = 1 from rfl]; omega)) ?_
    refine zg5 ?_
    refine wl_regW (Weak.kill _ 5) ?_
    refine zg4 ?_
    exact nx2 (k + 1) (o.set k (p.getD k 0)) ⟨by omega, by simp [hol], cp_take hk2 hol ht⟩
  · obtain rfl : k = p.length := by omega
    rw [List.take_length, ← hol, List.take_length] at ht
    refine zg12 ?_
    subst ht
    exact ret1own rfl rfl (pures_map ratE _)
namespace H_c_halves
theorem zSm {p q : Prop} (k : q) (e : p = q := by simp only [e1, e2, e3, e4, p1, p2, p3, q1, q2, q3, l1, t0, t1, r1, r2, r3, r4, Nat.zero_add, Nat.reduceMul, Nat.reduceAdd, b1, b2, b3, b4, b5, b6, i1, i2, i3, i4, i5, i6, Nat.reduceBEq, frz_nil, dfq, Rat.add_zero, List.append_nil, List.length_append, r1r, ek, eq0, emg1, emg2, ems, eme, ei1, take_map_len, map_snoc, len_snoc, List.length_cons, List.length_nil, kills_map ratE, ratL_kill, LV.kill, kills]; exact rfl) : p := e.mpr k
end H_c_halves
open H_c_halves in
theorem c_halves (p : List Rat) (t : Rat) (cc : Nat) (hC : rl (1 - t) + rl t + 1 ≤ cc) (hcc : cc ≤ 1073741824) (hs : ∀ x ∈ p, (rl x + cc) * 2 ^ p.length ≤ 1073741824) : CallP Tryz.prog 144 [.list 3 (p.map ratL), ratL t] (.tup [.list 3 ((loP p t).map ratL), .list 3 ((hiP p t).map ratL)]) := by
  have hlen := sz_len (Nat.le_trans (Nat.le_add_left 1 _) hC) hs
  have hpr : ∀ x ∈ p, rl x ≤ 274877906944 := fun x hx => by have := sz_rl (hs x hx); omega
  refine fnP Tryz.func144 ?_
  have ek : True := trivial
  have eq0 : True := trivial
  have emg1 : True := trivial
  have emg2 : True := trivial
  have ems : True := trivial
  have eme : True := trivial
  have ei1 : True := trivial
  refine zg8 ?_
  refine wl_regD 4 (by decide +kernel) ?_
  refine cp am1 (c_RInt 1 (by decide) (by decide)) ?_
  refine zg1 ?_
  refine cp am2 (c_RSub _ _ (by rw [show rl ((1 : Int) : Rat) = 1 from rfl]; omega)) ?_
  refine zg7 ?_
  refine st_call1 [] rfl rfl (.cons (.pure (pure_lst ratE _ _)) .nil) (c_copiedO p (by omega) hpr) (pures_map ratE _) rfl ?_
  refine zg7 ?_
  refine st_alloc rfl rfl (.makeM (n := 0) (m := p.length) ratE Tryz.underlying38 Z33 T33 B33 rfl rfl (by omega) (by omega) (by omega)) ?_
  refine zg13 ?_
  refine wl_weak (Weak.mv (t := 8) (b := 18) 33 (by decide) (by decide) (by decide) rfl rfl rfl) ?_
  refine lp4 (fun (k : Nat) (q tl lo : List Rat) L => ((((((St.mk L.slot (hp [(3, ⟨3, [ratL t], true⟩), (6, ⟨3, [ratL (1 - t)], true⟩), (1000241, ⟨3, (q ++ tl).map ratL, true⟩), (33, ⟨3, lo.map ratL, true⟩)])).put (some 3) (.eptr 3 3 0 0)).put (some 6) (.eptr 6 3 0 0)).put (some 7) (.ref 1000241 3 0 p.length)).put (some 8) (.ref 33 3 0 lo.length)).put (some 9) (iL ((k : Int) - 1)))) (fun k q tl lo => q.length = k ∧ k + tl.length = p.length ∧ lo.length + k = p.length ∧ lo ++ loF t k q = loP p t ∧ hiF t k q tl = hiP p t ∧ ∀ x ∈ q, (rl x + cc) * 2 ^ k ≤ 1073741824) (fun k q tl lo => k) p.length p ([]) ([]) ⟨rfl, by simp, by simp, by simp [loP], rfl, hs⟩ ?_
  rintro k q tl lo L1 ⟨hq, htl, hlo, hL, hH, hsz⟩
  refine zg7 ?_
  refine wl_if rfl (fun h23r h23 => ?_) (fun h23r h23 => ?_)
  · obtain ⟨j, rfl⟩ : ∃ j, k = j + 1 := ⟨k - 1, by omega⟩
    have ek : (((j + 1 : Nat) : Int) - 1) = (j : Int) := by omega
    have eq0 : (q ++ tl).getD 0 0 = q.getD 0 0 := getD_app1 _ _ _ (by omega)
    have hq0 := sz_rl (hsz _ (getD_mem (i := 0) (by omega)))
    refine zg10 ?_
    refine st_pure rfl (.build0 SL33 Z33a) ?_
    simp only [tz0, dfq, Nat.zero_add, eq0]
    refine cp am2 (c_RAdd _ 0 (by rw [show rl 0 = 1 from rfl]; omega)) ?_
    refine zg1 ?_
    refine st_store rfl (.app (news := [ratL (q.getD 0 0 + 0)]) rfl rfl rfl rfl rfl (by simp) (.inl rfl) (by decide) Tryz.underlying38 Tryz.underlying38 Z33a T33 rfl B33 (.inl ⟨32, 0, _, rfl, by decide, rfl, rfl, by simp, rfl, by simp [pures, ratE.pure]⟩) (by simp; omega) (by simp; omega) (by decide)) ?_
    refine zg4 ?_
    refine wl_regW (Weak.kill _ 32) ?_
    refine zg5 ?_
    refine lp1 (fun (i : Nat) L => ((((((((St.mk L.slot (hp [(3, ⟨3, [ratL t], true⟩), (6, ⟨3, [ratL (1 - t)], true⟩), (1000241, ⟨3, ((stp t q).take i ++ (q.drop i ++ tl)).map ratL, true⟩), (33, ⟨3, (lo ++ [q.getD 0 0]).map ratL, true⟩)])).put (some 3) (.eptr 3 3 0 0)).put (some 6) (.eptr 6 3 0 0)).put (some 7) (.ref 1000241 3 0 p.length)).put (some 8) (.ref 33 3 0 (lo.length + 1))).put (some 9) (nI64 j)).put (some 34) (nI64 j)).put (some 35) (nI64 i))) (fun i => i ≤ j) (fun i => j - i) 0 (Nat.zero_le _) ?_
    rintro i L2 hi
    refine zg6 ?_
    refine wl_if rfl (fun h36r h36 => ?_) (fun h36r h36 => ?_)
    · have hij : i < j := by omega
      have ei1 : ((i : Int) + 1).toNat = i + 1 := by omega
      obtain ⟨emg1, emg2⟩ := mid_get (t := t) (q := q) (tl := tl) (i := i) (by omega)
      have ems := mid_set (t := t) (q := q) (tl := tl) (i := i) (by omega)
      have hr1 := sz_rl (hsz _ (getD_mem (i := i) (by omega)))
      have hr2 := sz_rl (hsz _ (getD_mem (i := i + 1) (by omega)))
      have hm1 := rl_mul (1 - t) (q.getD i 0)
      have hm2 := rl_mul t (q.getD (i + 1) 0)
      have hml := mid_len (t := t) (q := q) (tl := tl) (i := i) (by omega)
      refine zg10 ?_
      refine wl_regD 17 (by decide +kernel) ?_
      refine zg7 ?_
      simp only [t1, dfq, Nat.zero_add, emg1]
      refine cp am2 (c_RMul _ _ (by omega)) ?_
      refine zg6 ?_
      simp only [ei1, dfq, Nat.zero_add, emg2]
      refine cp am2 (c_RMul _ _ (by omega)) ?_
      refine cp am2 (c_RAdd _ _ (by omega)) ?_
      refine zg10 ?_
      exact nx1 (i + 1) (by omega)
    · obtain rfl : j = i := by omega
      have eme := mid_end (t := t) (tl := tl) hq
      refine zg12 ?_
      exact nx4 j (stp t q) (q.getD j 0 :: tl) (lo ++ [q.getD 0 0]) ⟨by rw [stp_len]; omega, by simp; omega, by simp; omega, by rw [List.append_assoc]; exact hL, hH, stp_sz hC hsz⟩
  · obtain rfl : k = 0 := by omega
    obtain rfl : q = [] := List.eq_nil_of_length_eq_zero hq
    rw [loF, List.append_nil] at hL
    rw [hiF] at hH
    refine zg14 ?_
    rw [← hL, ← hH]
    exact ret2f [33, 1000241] rfl rfl (imm_refm ratE rfl rfl rfl) rfl (imm_refm ratE rfl rfl (by simpa using htl.symm))
end Go.Proofs.YthhdcfhaldcheaaGreat
end
section
set_option linter.unusedVariables false
set_option linter.unusedSimpArgs false
set_option maxHeartbeats 8000000
set_option maxRecDepth 100000
attribute [local irreducible] Go.Lg.opsL Go.Lg.wpL Go.Lg.thenL Go.Lg.blockL
namespace Go.Proofs.YthhdcfhaldcheaaGreat
open Go.Lg
def diceL (l : List Int) (k : Nat) : LV := .agg [.list 1 (l.map i64L), .v (.int .i64 (k : Nat))]
theorem dice_pure (l : List Int) (k : Nat) : pures [diceL l k] = true := by simp [pures, diceL, LV.pure, pures_map i64E]
theorem rem64 {a b : Int} (h : b ≠ 0) : binI .rem .i64 a b = some (.int .i64 (a.tmod b)) := by simp [binI, h]
theorem dfi : (default : Int) = 0 := rfl
def nxV (l : List Int) (k : Nat) (n : Int) : Int := if k < l.length then l.getD k 0 % n else 0
def nxK (l : List Int) (k : Nat) : Nat := if k < l.length then k + 1 else k
theorem nxV_lt {l : List Int} {k : Nat} {n : Int} (h : 0 < n) : 0 ≤ nxV l k n ∧ nxV l k n < n := by
  unfold nxV; split
  · exact ⟨Int.emod_nonneg _ (by omega), Int.emod_lt_of_pos _ h⟩
  · omega
theorem mod_fix {a m : Int} (hm : 0 < m) : a % m = if a.tmod m < 0 then a.tmod m + m else a.tmod m := by
  have h1 := Int.emod_nonneg a (show m ≠ 0 by omega)
  have h2 := Int.emod_lt_of_pos a hm
  rw [Int.tmod_eq_emod]
  split <;> split <;> omega
theorem retMC {P : Program} {L : St} {a : Nat} {T : TypeId} {b sz : Nat} {x y : LV} {m : Bool} {n : Nat} {ag : Bool} {blk : Blk} (h : L.slot a = .eptr b sz 0 0) (hb : L.heap b = some ⟨sz, [x], m⟩)
    (hx : x.csize = sz) (hat : x.at 0 n ag = some x) (hT : TyIs P T n ag) (hi : Imm L.heap x y) (h0 : L.heap 0 = some blk) (hm : blk.mt = true) (hp : pures blk.vals = true) : RetM P [.cell a T] L y blk :=
  ⟨[x], [y], L.heap, .cons ⟨b, sz, 0, 0, _, x, n, ag, h, hb, rfl, rfl, hx, hat, hT⟩ .nil, Heap.le_refl _, .cons (.imm hi) .nil, h0, hm, hp, rfl⟩
def nbV (l : List Int) (k : Nat) : Rat × Nat :=
  if nxV l (nxK l k) 4 = 3 then (((nxV l k 13 - 6 : Int) : Rat) / ((1 + nxV l (nxK l (nxK l k)) 4 : Int) : Rat), nxK l (nxK l (nxK l k))) else (((nxV l k 13 - 6 : Int) : Rat), nxK l (nxK l k))
theorem rl_ints {n d : Int} (h1 : n.natAbs < 4294967296) (h2 : d.natAbs < 4294967296) : rl ((n : Rat) / (d : Rat)) ≤ 1 := by
  rw [← qv_ints]
  have := rl_qv (k := 1) (decide (n < 0) != decide (d < 0)) (by simpa using h1) (by simpa using h2)
  omega
theorem rl_int {n : Int} (h1 : n.natAbs < 4294967296) : rl (n : Rat) ≤ 1 := by
  have := rl_ints (n := n) (d := 1) h1 (by decide)
  rwa [show ((1 : Int) : Rat) = 1 from rfl, Rat.div_def, show (1 : Rat)⁻¹ = 1 by grind, Rat.mul_one] at this
theorem nb_rl (l : List Int) (k : Nat) : rl (nbV l k).1 ≤ 1 := by
  have h1 := nxV_lt (l := l) (k := k) (n := 13) (by decide)
  have h2 := nxV_lt (l := l) (k := nxK l (nxK l k)) (n := 4) (by decide)
  unfold nbV; split
  · exact rl_ints (by omega) (by omega)
  · exact rl_int (by omega)
/-- numbers one after the other -/
def plV (l : List Int) : Nat → Nat → List Rat
  | _, 0 => []
  | k, c + 1 => (nbV l k).1 :: plV l (nbV l k).2 c
def plK (l : List Int) : Nat → Nat → Nat
  | k, 0 => k
  | k, c + 1 => plK l (nbV l k).2 c
theorem plV_len (l : List Int) : ∀ k c, (plV l k c).length = c
  | _, 0 => rfl
  | k, c + 1 => by simp [plV, plV_len l]
theorem plV_rl (l : List Int) : ∀ k c, ∀ x ∈ plV l k c, rl x ≤ 1
  | _, 0, x, h => by simp [plV] at h
  | k, c + 1, x, h => by
      simp only [plV, List.mem_cons] at h
      rcases h with rfl | h
      · exact nb_rl l k
      · exact plV_rl l _ c x h
theorem ret1ptr {P : Program} {L : St} {t b sz : Nat} {blk : Blk} (h : L.slot t = .eptr b sz 0 0) (hb : L.heap b = some blk) (hp : pures blk.vals = true) : RetL P [.tmp t] L (.eptr 1 sz 0 0) [blk] :=
  ⟨[.eptr b sz 0 0], [.eptr 1 sz 0 0], L.heap, [b], .cons h .nil, Heap.le_refl _, .cons (.ptr (k := 0) rfl) .nil, by simp, rfl, fun k c hk => by
    cases k with
    | zero => simp at hk; subst hk; exact ⟨blk, hb, rfl, hp⟩
    | succ k => simp at hk, rfl⟩
theorem nxK_le {l : List Int} {k : Nat} (hl : l.length ≤ 500) (hk : k ≤ 500) : nxK l k ≤ 500 := by unfold nxK; split <;> omega
theorem nbK_le {l : List Int} {k : Nat} (hl : l.length ≤ 500) (hk : k ≤ 500) : (nbV l k).2 ≤ 500 := by
  have h1 := nxK_le (l := l) hl hk
  have h2 := nxK_le (l := l) hl h1
  unfold nbV; split
  · exact nxK_le hl h2
  · exact h2
theorem plK_le {l : List Int} (hl : l.length ≤ 500) : ∀ (k c : Nat), k ≤ 500 → plK l k c ≤ 500
  | k, 0, h => h
  | k, c + 1, h => plK_le hl _ c (nbK_le hl h)
theorem dice_kill (l : List Int) (k b : Nat) : (diceL l k).kill b = diceL l k := LV.kill_pure b _ (by simp [diceL, LV.pure, pures, pures_map i64E])
open H0 in
theorem c_Mod (n m : Int) (hm : 0 < m) (hm2 : m ≤ 4611686018427387904) : CallP Tryz.prog 90 [iL n, iL m] (iL (n % m)) := by
  have hE := mod_fix (a := n) hm
  have hb := Int.tmod_lt_of_pos n hm
  have hb2 := Int.lt_tmod_of_pos n hm
  refine fnP Tryz.func90 ?_
  refine zg9 ?_
  refine st_pure rfl (.bin rfl rfl (rem64 (by omega))) ?_
  refine zg10 ?_
  refine wl_cut (fun L => ∃ (r : Int) (L1 : St), (r = n % m) ∧ L = ((St.mk L1.slot (hp [])).put (some 0) (iL r))) ?_ ?_
  · refine wl_if rfl (fun h9r h9 => ?_) (fun h9r h9 => ?_)
    · refine zg3 ?_
      refine st_pure rfl (.bin rfl rfl (add64 (by omega) (by omega))) ?_
      refine zg3 ?_
      exact ⟨n.tmod m + m, _, by rw [hE, if_pos h9], ((put_id' (mk_id' cl) cl)).symm⟩
    · refine zg2 ?_
      exact ⟨n.tmod m, _, by rw [hE, if_neg h9], ((put_id' (mk_id' cl) cl)).symm⟩
  · rintro _ ⟨r, LC9, hr, rfl⟩
    refine zg8 ?_
    rw [← hr]
    exact ret1 rfl (by first | exact .pure rfl | exact .pure (limL_pure _) | exact .pure (magL_pure _) | exact .pure (ratE.pure _) | exact .pure (pure_lst u32E _ _) | exact .pure (pure_lst ratE _ _))
open H0 in
theorem c_Light (l : List Int) (h : l.length ≤ 9223372036854775807) : CallP Tryz.prog 9 [.list 1 (l.map i64L)] (bL (decide (l.length ≤ 500))) := by
  refine fnP Tryz.func9 ?_
  refine zg14 ?_
  refine ret1 (x := .v (.bool (decide (((l.length : Nat) : Int) ≤ 500)))) rfl ?_
  rw [show decide (((l.length : Nat) : Int) ≤ 500) = decide (l.length ≤ 500) by rw [decide_eq_decide]; omega]
  exact .pure rfl
open H0 in
theorem c_Roll (l : List Int) : CallOK Tryz.prog 11 [.list 1 (l.map i64L)] (.eptr 1 2 0 0) [⟨2, [diceL l 0], true⟩] := by
  refine fnO Tryz.func11 ?_
  refine zg8 ?_
  refine st_pure rfl (.build (zs := [.v (.slice none 0 0), .v (.int .i64 0)]) SL78 Z78 (by simp only [List.forall_mem_cons]; exact ⟨⟨_, rfl, rfl, ne0⟩, fun _ h => by cases h⟩)) ?_
  refine st_alloc rfl rfl (.box ne0) ?_
  refine zg4 ?_
  exact ret1ptr rfl rfl (dice_pure l 0)
namespace H_c_Next
theorem zSm {p q : Prop} (k : q) (e : p = q := by simp only [e1, e2, e3, e4, p1, p2, p3, q1, q2, q3, l1, t0, t1, r1, r2, r3, r4, Nat.zero_add, Nat.reduceMul, Nat.reduceAdd, b1, b2, b3, b4, b5, b6, i1, i2, i3, i4, i5, i6, Nat.reduceBEq, l1, ek1, dfi]; exact rfl) : p := e.mpr k
end H_c_Next
open H_c_Next in
theorem c_Next (l : List Int) (k : Nat) (n : Int) (hl : l.length ≤ 500) (hk : k ≤ 500) (hn : 0 < n) (hn2 : n ≤ 1000) : CallOKM Tryz.prog 88 ⟨2, [diceL l k], true⟩ [.eptr 0 2 0 0, iL n] (iL (nxV l k n)) ⟨2, [diceL l (nxK l k)], true⟩ := by
  refine fnM Tryz.func88 ?_
  have ek1 : True := trivial
  refine zg7 ?_
  refine wl_regD 10 (by decide +kernel) ?_
  refine zg12 ?_
  refine wl_if rfl (fun h14r h14 => ?_) (fun h14r h14 => ?_)
  · have hk1 : ¬ k < l.length := by omega
    refine zg7 ?_
    rw [nxV, if_neg hk1, nxK, if_neg hk1]
    exact retM1 rfl (.imm (.pure rfl)) rfl rfl (dice_pure l _)
  · have hk1 : k < l.length := by omega
    have ek1 : (((k + 1 : Nat) : Int) - 1).toNat = k := by omega
    refine zg11 ?_
    refine st_store rfl (.store (y := diceL l k) (y' := diceL l (k + 1)) rfl rfl rfl rfl rfl rfl rfl T3 ne0) ?_
    refine zg3 ?_
    refine wl_regD 14 (by decide +kernel) ?_
    refine zg8 ?_
    refine st_pure rfl (.bin rfl rfl (sub64 (by first | omega | (simp; omega)) (by first | omega | (simp; omega)))) ?_
    refine zg3 ?_
    refine cp am2 (c_Mod _ _ (by omega) (by omega)) ?_
    refine zg4 ?_
    rw [nxV, if_pos hk1, nxK, if_pos hk1]
    exact retM1 rfl (.imm (.pure rfl)) rfl rfl (dice_pure l _)
namespace H_c_number
theorem zSm {p q : Prop} (k : q) (e : p = q := by simp only [e1, e2, e3, e4, p1, p2, p3, q1, q2, q3, l1, t0, t1, r1, r2, r3, r4, Nat.zero_add, Nat.reduceMul, Nat.reduceAdd, b1, b2, b3, b4, b5, b6, i1, i2, i3, i4, i5, i6, Nat.reduceBEq, l1]; exact rfl) : p := e.mpr k
end H_c_number
open H_c_number in
theorem c_number (l : List Int) (k : Nat) (hl : l.length ≤ 500) (hk : k ≤ 500) : CallOKM Tryz.prog 89 ⟨2, [diceL l k], true⟩ [.eptr 0 2 0 0] (ratL (nbV l k).1) ⟨2, [diceL l (nbV l k).2], true⟩ := by
  have k1 := nxK_le (l := l) hl hk
  have k2 := nxK_le (l := l) hl k1
  have hb1 := nxV_lt (l := l) (k := k) (n := 13) (by decide)
  have hb2 := nxV_lt (l := l) (k := nxK l (nxK l k)) (n := 4) (by decide)
  refine fnM Tryz.func89 ?_
  refine zg8 ?_
  refine st_callM 0 rfl rfl rfl (dice_pure l _) (.cons .ptr (.cons (.imm (.pure rfl)) .nil)) .ptr (c_Next l k 13 (by omega) (by omega) (by decide) (by decide)) rfl (dice_pure l _) ?_
  refine zg7 ?_
  refine st_callM 0 rfl rfl rfl (dice_pure l _) (.cons .ptr (.cons (.imm (.pure rfl)) .nil)) .ptr (c_Next l (nxK l k) 4 (by omega) (by omega) (by decide) (by decide)) rfl (dice_pure l _) ?_
  refine zg3 ?_
  refine wl_if rfl (fun h8r h8 => ?_) (fun h8r h8 => ?_)
  · refine zg3 ?_
    refine st_pure rfl (.bin rfl rfl (sub64 (by omega) (by omega))) ?_
    refine zg1 ?_
    refine st_callM 0 rfl rfl rfl (dice_pure l _) (.cons .ptr (.cons (.imm (.pure rfl)) .nil)) .ptr (c_Next l (nxK l (nxK l k)) 4 (by omega) (by omega) (by decide) (by decide)) rfl (dice_pure l _) ?_
    refine st_pure rfl (.bin rfl rfl (add64 (by omega) (by omega))) ?_
    refine cp am2 (c_FFrac (nxV l k 13 - 6) (1 + nxV l (nxK l (nxK l k)) 4) (by omega) (by omega) (by omega) (by omega) (by omega)) ?_
    refine zg5 ?_
    rw [nbV, if_pos h8]
    exact retMC rfl rfl (ratE.csize _) (ratL_all _) T33 (.pure (ratE.pure _)) rfl rfl (dice_pure l _)
  · refine zg5 ?_
    refine st_pure rfl (.bin rfl rfl (sub64 (by omega) (by omega))) ?_
    refine cp am1 (c_FInt (nxV l k 13 - 6) (by omega) (by omega)) ?_
    refine zg4 ?_
    rw [nbV, if_neg h8]
    exact retMC rfl rfl (ratE.csize _) (ratL_all _) T33 (.pure (ratE.pure _)) rfl rfl (dice_pure l _)
end Go.Proofs.YthhdcfhaldcheaaGreat
end
section
set_option linter.unusedVariables false
set_option linter.unusedSimpArgs false
set_option maxHeartbeats 8000000
set_option maxRecDepth 100000
attribute [local irreducible] Go.Lg.opsL Go.Lg.wpL Go.Lg.thenL Go.Lg.blockL
namespace Go.Proofs.YthhdcfhaldcheaaGreat
open Go.Lg
theorem denN_ne1 (q : Rat) : denN q ≠ 1 := by rw [denN_eq]; split <;> omega
theorem c_NValidD (n : Nat) (h : (dig n).length ≤ 4611686018427387904) : CallP Tryz.prog 174 [magL n] (bL true) := by
  have := c_NValid (dig n) h
  rwa [decide_eq_true] at this
  by_cases h0 : (dig n).length = 0
  · exact .inl h0
  · exact .inr (can_getLast (can_dig n) (by omega))
theorem gcd1 {q : Rat} (h : 0 < (dig (denN q)).length) : Nat.gcd q.num.natAbs (denN q) = 1 := by
  rw [denN_pos h]; exact q.reduced
def u8L (n : Nat) : LV := .v (.int .u8 (n : Nat))
theorem u8E : EncOK u8L 1 false := ⟨fun _ => rfl, fun _ => rfl, fun _ => rfl⟩
end Go.Proofs.YthhdcfhaldcheaaGreat
namespace Go.Lg
open Go.Proofs.YthhdcfhaldcheaaGreat in
theorem OpP.cv8 {P : Program} {H : Heap} {ρ : Operand → LV} {S T : TypeId} {x : Operand} {d : TypeDesc} {k' : IntKind} {n : Nat} (hS : P.underlying S = some d) (hD : P.underlying T = some (.int .u8)) (hx : ρ x = .v (.int k' (n : Nat))) (h : n < 256) :
    OpP P H ρ (.convert S T x) (u8L n) := by
  have := OpP.conv (H := H) hS hD hx
  rwa [IntKind.wrap_u8, show ((n : Nat) : Int) % 256 = (n : Int) by omega] at this
end Go.Lg
namespace Go.Proofs.YthhdcfhaldcheaaGreat
open Go.Lg
theorem rem32 {a b : Nat} (h : 0 < b) : binI .rem .u32 (a : Nat) (b : Nat) = some (.int .u32 ((a % b : Nat) : Int)) := by
  have e : ((a : Int)).tmod b = ((a % b : Nat) : Int) := by rw [Int.tmod_eq_emod_of_nonneg (by omega)]; simp
  simp [binI, e]; omega
theorem quo32 {a b : Nat} (h : 0 < b) (h1 : a < 4294967296) : binI .quo .u32 (a : Nat) (b : Nat) = some (.int .u32 ((a / b : Nat) : Int)) := by
  have e : ((a : Int)).tdiv b = ((a / b : Nat) : Int) := by rw [Int.tdiv_eq_ediv_of_nonneg (by omega)]; simp
  have := Nat.div_le_self a b
  simp only [binI, if_neg (show ¬ ((b : Nat) : Int) = 0 by omega), e]
  rw [IntKind.wrap_u32]
  generalize a / b = x at *
  congr 2; omega
theorem m10 {m : Nat} (h : m < 10) : (48 + m % 10) % 4294967296 = 48 + m := by
  rw [Nat.mod_eq_of_lt h, Nat.mod_eq_of_lt (Nat.lt_of_lt_of_le (Nat.add_lt_add_left h 48) (by decide))]
namespace H_c_RValid
theorem zSm {p q : Prop} (k : q) (e : p = q := by simp only [e1, e2, e3, e4, p1, p2, p3, q1, q2, q3, l1, t0, t1, r1, r2, r3, r4, Nat.zero_add, Nat.reduceMul, Nat.reduceAdd, b1, b2, b3, b4, b5, b6, i1, i2, i3, i4, i5, i6, Nat.reduceBEq, val_dig, dflt, tz0]; exact rfl) : p := e.mpr k
end H_c_RValid
open H_c_RValid in
theorem c_RValid (q : Rat) (h : rl q ≤ 1099511627776) : CallP Tryz.prog 142 [ratL q] (bL true) := by
  have a1 := rl_num q
  have a2 := rl_den q
  have a3 := rl_denN q
  have hne := denN_ne1 q
  refine fnP Tryz.func142 ?_
  refine zg11 ?_
  refine cp am1 (c_NValidD _ (by omega)) ?_
  refine zg4 ?_
  refine cp am1 (c_NValidD _ (by omega)) ?_
  refine zg8 ?_
  refine op_if 18 rfl (fun h18r h18 => ?_) (fun h18r h18 => ?_)
  · refine zg9 ?_
    refine wl_if rfl (fun h25r h25 => ?_) (fun h25r h25 => ?_)
    · exfalso
      have := (dig_is1 (n := denN q) (by omega)).1
      omega
    · refine zg11 ?_
      refine wl_if rfl (fun h29r h29 => ?_) (fun h29r h29 => ?_)
      · refine zg6 ?_
        refine op_if 33 rfl (fun h33r h33 => ?_) (fun h33r h33 => ?_)
        · have hz := num0 (q := q) (by omega)
          subst hz
          refine zg10 ?_
          exact ret1 rfl (by first | exact .pure rfl | exact .pure (limL_pure _) | exact .pure (magL_pure _) | exact .pure (ratE.pure _) | exact .pure (pure_lst u32E _ _) | exact .pure (pure_lst ratE _ _))
        · exfalso
          have hz := num0 (q := q) (by omega)
          subst hz
          revert h33r
          decide
      · refine zg9 ?_
        refine op_if 43 rfl (fun h43r h43 => ?_) (fun h43r h43 => ?_)
        · refine zg5 ?_
          first | simp only [val_dig, hg1] | skip
          refine zg7 ?_
          exact ret1 rfl (by first | exact .pure rfl | exact .pure (limL_pure _) | exact .pure (magL_pure _) | exact .pure (ratE.pure _) | exact .pure (pure_lst u32E _ _) | exact .pure (pure_lst ratE _ _))
        · have hg1 := gcd1 (q := q) (by omega)
          refine zg4 ?_
          refine cp am2 (c_NGcd _ _ (lim_dig _) (lim_dig _) (by omega) (by omega)) ?_
          first | simp only [val_dig, hg1] | skip
          refine cp am1 (c_NBits (dig 1) (lim_dig _) (by decide)) ?_
          refine zg6 ?_
          exact ret1 rfl (by first | exact .pure rfl | exact .pure (limL_pure _) | exact .pure (magL_pure _) | exact .pure (ratE.pure _) | exact .pure (pure_lst u32E _ _) | exact .pure (pure_lst ratE _ _))
  · refine zg21 ?_
    refine wl_if rfl (fun h29r h29 => ?_) (fun h29r h29 => ?_)
    · refine zg6 ?_
      refine op_if 33 rfl (fun h33r h33 => ?_) (fun h33r h33 => ?_)
      · have hz := num0 (q := q) (by omega)
        subst hz
        refine zg10 ?_
        exact ret1 rfl (by first | exact .pure rfl | exact .pure (limL_pure _) | exact .pure (magL_pure _) | exact .pure (ratE.pure _) | exact .pure (pure_lst u32E _ _) | exact .pure (pure_lst ratE _ _))
      · exfalso
        have hz := num0 (q := q) (by omega)
        subst hz
        revert h33r
        decide
    · refine zg9 ?_
      refine op_if 43 rfl (fun h43r h43 => ?_) (fun h43r h43 => ?_)
      · refine zg5 ?_
        first | simp only [val_dig, hg1] | skip
        refine zg7 ?_
        exact ret1 rfl (by first | exact .pure rfl | exact .pure (limL_pure _) | exact .pure (magL_pure _) | exact .pure (ratE.pure _) | exact .pure (pure_lst u32E _ _) | exact .pure (pure_lst ratE _ _))
      · have hg1 := gcd1 (q := q) (by omega)
        refine zg4 ?_
        refine cp am2 (c_NGcd _ _ (lim_dig _) (lim_dig _) (by omega) (by omega)) ?_
        first | simp only [val_dig, hg1] | skip
        refine cp am1 (c_NBits (dig 1) (lim_dig _) (by decide)) ?_
        refine zg6 ?_
        exact ret1 rfl (by first | exact .pure rfl | exact .pure (limL_pure _) | exact .pure (magL_pure _) | exact .pure (ratE.pure _) | exact .pure (pure_lst u32E _ _) | exact .pure (pure_lst ratE _ _))
namespace H_c_FText1
theorem zSm {p q : Prop} (k : q) (e : p = q := by simp only [e1, e2, e3, e4, p1, p2, p3, q1, q2, q3, l1, t0, t1, r1, r2, r3, r4, Nat.zero_add, Nat.reduceMul, Nat.reduceAdd, b1, b2, b3, b4, b5, b6, i1, i2, i3, i4, i5, i6, Nat.reduceBEq, val_dig, dflt, tz0, hdv, hmd, m10 h10, hm100, take_map_len, map_snoc, len_snoc, List.length_cons, List.length_nil, List.nil_append, kills_map u8E, LV.kill, ei0, List.map_cons, List.map_nil, List.length_map]; exact rfl) : p := e.mpr k
end H_c_FText1
open H_c_FText1 in
theorem c_FText1 (m : Nat) (h0 : 0 < m) (h10 : m < 10) : CallP Tryz.prog 143 [magL m] (.v (.string ⟨#[UInt8.ofNat (48 + m)]⟩)) := by
  have hd := dig_small h0 (by omega : m < 4294967296)
  have hl : (dig m).length = 1 := by rw [hd]; rfl
  have hdv : m / 1000000000 = 0 := by omega
  have hmd : m % 1000000000 = m := by omega
  have hm100 : m / 10 = 0 := by omega
  refine fnP Tryz.func143 ?_
  have ei0 : True := trivial
  refine zg13 ?_
  refine wl_if rfl (fun h11r h11 => ?_) (fun h11r h11 => ?_)
  · omega
  · refine zg9 ?_
    refine wl_weak (Weak.own (t := 3) 39 1 rfl rfl) ?_
    refine lp2 (fun (a : Nat) (o : List Nat) L => (((St.mk L.slot (hp [(39, ⟨1, o.map u8L, true⟩)])).put (some 0) (magL a)).put (some 3) (.ref 39 1 0 o.length))) (fun a o => (m = a ∧ o = []) ∨ (a = 0 ∧ o = [48 + m])) (fun a o => a) m ([]) (.inl ⟨rfl, rfl⟩) ?_
    rintro a o L1 hao
    refine zg8 ?_
    refine wl_if rfl (fun h14r h14 => ?_) (fun h14r h14 => ?_)
    · have hao2 : m = a ∧ o = [] := by
        rcases hao with h | h
        · exact h
        · rw [h.1] at h14; exact absurd h14 (by decide)
      obtain ⟨rfl, rfl⟩ := hao2
      refine zg6 ?_
      refine cp am2 (c_FbyLimb m 1000000000 (by omega) (by omega) (by omega)) ?_
      refine zg14 ?_
      refine lp3 (fun (i r : Nat) (o2 : List Nat) L => ((((((St.mk L.slot (hp [(39, ⟨1, o2.map u8L, true⟩)])).put (some 0) (magL m)).put (some 3) (.ref 39 1 0 o2.length)).put (some 4) (magL 0)).put (some 5) (nU32 r)).put (some 6) (nI64 i))) (fun i r o2 => (i = 0 ∧ m = r ∧ o2 = []) ∨ (i = 1 ∧ r = 0 ∧ o2 = [48 + m])) (fun i r o2 => r) 0 m ([]) (.inl ⟨rfl, rfl, rfl⟩) ?_
      rintro i r o2 L2 hio
      refine zg2 ?_
      refine wl_cut (fun L => ∃ (t : Bool) (L1 : St), (t = decide (0 < r)) ∧ L = (((((((St.mk L1.slot (hp [(39, ⟨1, o2.map u8L, true⟩)])).put (some 0) (magL m)).put (some 3) (.ref 39 1 0 o2.length)).put (some 4) (magL 0)).put (some 5) (nU32 r)).put (some 6) (nI64 i)).put (some 30) (bL t))) ?_ ?_
      · refine zg4 ?_
        refine op_if 22 rfl (fun h22r h22 => ?_) (fun h22r h22 => ?_)
        · refine zg3 ?_
          refine op_if 25 rfl (fun h25r h25 => ?_) (fun h25r h25 => ?_)
          · refine zg7 ?_
            exact ⟨true, _, by symm; rw [decide_eq_true_iff]; omega, ((put_id' (put_id' (put_id' (put_id' (put_id' (put_id' (mk_id' cl) cl) cl) cl) cl) cl) cl)).symm⟩
          · refine zg7 ?_
            exact ⟨false, _, by symm; rw [decide_eq_false_iff_not]; omega, ((put_id' (put_id' (put_id' (put_id' (put_id' (put_id' (mk_id' cl) cl) cl) cl) cl) cl) cl)).symm⟩
        · exfalso
          omega
      · rintro _ ⟨t, LR7, ht, rfl⟩
        refine zg1 ?_
        refine wl_if rfl (fun h30r h30 => ?_) (fun h30r h30 => ?_)
        · rw [ht, decide_eq_true_iff] at h30r
          have hio2 : i = 0 ∧ m = r ∧ o2 = [] := by
            rcases hio with h | h
            · exact h
            · omega
          obtain ⟨rfl, rfl, rfl⟩ := hio2
          refine zg8 ?_
          refine st_pure rfl (.bin rfl rfl (rem32 (b := 10) (by decide))) ?_
          refine st_pure rfl (.bin rfl rfl (addU32)) ?_
          refine st_pure rfl (.cv8 (n := 48 + m) Tryz.underlying114 Tryz.underlying5 (by simp only [e1, p1, p2, Nat.reduceBEq, m10 h10]; rfl) (by omega)) ?_
          refine st_alloc rfl rfl (.lit1 u8E Tryz.underlying137 Z5 T5 rfl (by decide) (by decide)) ?_
          refine st_store rfl (.app (news := [u8L (48 + m)]) rfl rfl rfl rfl rfl (by simp) (.inl rfl) (by decide) Tryz.underlying137 Tryz.underlying137 Z5 T5 rfl B5 (.inl ⟨38, 0, _, rfl, by decide, rfl, rfl, by simp, rfl, rfl⟩) (by simp) (by simp) (by decide)) ?_
          refine zg5 ?_
          refine st_pure rfl (.bin rfl rfl (quo32 (b := 10) (by decide) (by omega))) ?_
          refine zg4 ?_
          refine wl_regW (Weak.kill _ 38) ?_
          refine zg5 ?_
          exact nx3 1 0 ([48 + m]) (.inr ⟨rfl, rfl, rfl⟩) (hm := h0)
        · rw [ht, decide_eq_false_iff_not] at h30r
          have hio2 : i = 1 ∧ r = 0 ∧ o2 = [48 + m] := by
            rcases hio with h | h
            · omega
            · exact h
          obtain ⟨rfl, rfl, rfl⟩ := hio2
          refine zg11 ?_
          exact nx2 0 ([48 + m]) (.inr ⟨rfl, rfl⟩) (hm := h0)
    · have hao2 : a = 0 ∧ o = [48 + m] := by
        rcases hao with h | h
        · rw [← h.1] at h14; omega
        · exact h
      obtain ⟨rfl, rfl⟩ := hao2
      refine zg9 ?_
      refine st_alloc rfl rfl (.makeM (n := 1) (m := 1) u8E Tryz.underlying137 Z5 T5 B5 ml ml om om om) ?_
      refine zg10 ?_
      refine lp2 (fun (i : Nat) (w : List Nat) L => ((((St.mk L.slot (hp [(39, ⟨1, [48 + m].map u8L, true⟩), (45, ⟨1, w.map u8L, true⟩)])).put (some 3) (.ref 39 1 0 1)).put (some 7) (.ref 45 1 0 1)).put (some 8) (nI64 i))) (fun i w => (i = 0 ∧ w = [0]) ∨ (i = 1 ∧ w = [48 + m])) (fun i w => 1 - i) 0 ([0]) (.inl ⟨rfl, rfl⟩) ?_
      rintro i w L3 hiw
      refine zg9 ?_
      refine wl_if rfl (fun h49r h49 => ?_) (fun h49r h49 => ?_)
      · have hiw2 : i = 0 ∧ w = [0] := by
          rcases hiw with h | h
          · exact h
          · omega
        obtain ⟨rfl, rfl⟩ := hiw2
        have ei0 : ((1 : Int) - 1 - 0).toNat = 0 := rfl
        refine zg13 ?_
        refine st_pure rfl ix137 ?_
        refine st_pure rfl ld5 ?_
        refine st_pure rfl ix137 ?_
        refine st_store rfl (by exact .storeM u8E rfl rfl rfl T5 om) ?_
        refine zg9 ?_
        exact nx2 1 ([48 + m]) (.inr ⟨rfl, rfl⟩)
      · have hiw2 : i = 1 ∧ w = [48 + m] := by
          rcases hiw with h | h
          · omega
          · exact h
        obtain ⟨rfl, rfl⟩ := hiw2
        refine zg8 ?_
        refine st_pure rfl (.strR (ns := [48 + m]) Tryz.underlying137 Tryz.underlying5 Tryz.underlying9 rfl rfl rfl rfl (by simp)) ?_
        refine zg4 ?_
        exact ret1 rfl (.pure rfl)
namespace H_c_FText
theorem zSm {p q : Prop} (k : q) (e : p = q := by simp only [e1, e2, e3, e4, p1, p2, p3, q1, q2, q3, l1, t0, t1, r1, r2, r3, r4, Nat.zero_add, Nat.reduceMul, Nat.reduceAdd, b1, b2, b3, b4, b5, b6, i1, i2, i3, i4, i5, i6, Nat.reduceBEq, edd]; exact rfl) : p := e.mpr k
end H_c_FText
open H_c_FText in
theorem c_FText (q : Rat) (h0 : 0 < q) (hn : q.num.natAbs < 10) (hd : q.den < 10) : CallP Tryz.prog 87 [ratL q] (.v (.string (if q.den = 1 then ⟨#[UInt8.ofNat (48 + q.num.natAbs)]⟩ else ⟨#[UInt8.ofNat (48 + q.num.natAbs), 47, UInt8.ofNat (48 + q.den)]⟩))) := by
  have hq0 : 0 < q.num.natAbs := by have := pos_iff.1 h0; omega
  have hnn : ¬ q < 0 := by grind
  have hdp := q.den_pos
  refine fnP Tryz.func87 ?_
  have edd : True := trivial
  refine zg10 ?_
  refine cp am1 (c_FText1 _ (by omega) (by omega)) ?_
  refine zg10 ?_
  refine wl_if rfl (fun h8r h8 => ?_) (fun h8r h8 => ?_)
  · exact absurd h8 hnn
  · refine zg11 ?_
    refine wl_if rfl (fun h14r h14 => ?_) (fun h14r h14 => ?_)
    · have edd := denN_pos (q := q) (by omega)
      have hd1 : q.den ≠ 1 := fun e => by have := denN_eq q; rw [if_pos e] at this; omega
      refine zg4 ?_
      simp only [edd]
      refine cp am1 (c_FText1 _ (by omega) (by omega)) ?_
      refine st_pure rfl (.addS rfl rfl (Nat.le_of_ble_eq_true rfl)) ?_
      refine st_pure rfl (.addS rfl rfl (Nat.le_of_ble_eq_true rfl)) ?_
      refine zg10 ?_
      rw [if_neg hd1]
      exact ret1 rfl (.pure rfl)
    · have hd1 := denN_zero (q := q) (by omega)
      refine zg9 ?_
      rw [if_pos hd1]
      exact ret1 rfl (.pure rfl)
end Go.Proofs.YthhdcfhaldcheaaGreat
end
section
set_option linter.unusedVariables false
set_option linter.unusedSimpArgs false
set_option maxHeartbeats 8000000
set_option maxRecDepth 100000
attribute [local irreducible] Go.Lg.opsL Go.Lg.wpL Go.Lg.thenL Go.Lg.blockL
namespace Go.Proofs.YthhdcfhaldcheaaGreat
open Go.Lg
/-- the sizes that a halving takes -/
def HS (p : List Rat) (t : Rat) : Prop := ∃ cc, rl (1 - t) + rl t + 1 ≤ cc ∧ cc ≤ 1073741824 ∧ ∀ x ∈ p, (rl x + cc) * 2 ^ p.length ≤ 1073741824
theorem c_halvesH (p : List Rat) (t : Rat) (h : HS p t) : CallP Tryz.prog 144 [.list 3 (p.map ratL), ratL t] (.tup [.list 3 ((loP p t).map ratL), .list 3 ((hiP p t).map ratL)]) := by
  obtain ⟨cc, h1, h2, h3⟩ := h
  exact c_halves p t cc h1 h2 h3
theorem HS.len {p : List Rat} {t : Rat} (h : HS p t) : p.length ≤ 30 := by
  obtain ⟨cc, h1, h2, h3⟩ := h
  exact sz_len (Nat.le_trans (Nat.le_add_left 1 _) h1) h3
theorem HS.rl {p : List Rat} {t : Rat} (h : HS p t) : rl t ≤ 1073741824 ∧ ∀ x ∈ p, Go.Lg.rl x ≤ 1073741824 := by
  obtain ⟨cc, h1, h2, h3⟩ := h
  exact ⟨by omega, fun x hx => by have := sz_rl (h3 x hx); omega⟩
def evP (p : List Rat) (t : Rat) : Rat := (loP p t).getD (p.length - 1) 0
theorem set_getD (o : List Rat) (i x : Nat) (v : Rat) (hi : i < o.length) : (o.set i v).getD x 0 = if x = i then v else o.getD x 0 := by
  rw [List.getD_eq_getElem?_getD, List.getD_eq_getElem?_getD, List.getElem?_set]
  by_cases h : i = x
  · subst h; simp [hi]
  · rw [if_neg h, if_neg (fun e => h e.symm)]
def fiI (p : List Rat) (g : Rat → Bool) : Int := if p.any g then ((p.findIdx g : Nat) : Int) else -1
theorem fi_any (p : List Rat) (g : Rat → Bool) : decide (fiI p g ≥ 0) = p.any g := by
  unfold fiI; cases h : p.any g <;> simp
theorem fi_hit {p : List Rat} {g : Rat → Bool} {k : Nat} (hk : k < p.length) (h : ∀ x, x < k → g (p.getD x 0) = false) (hg : g (p.getD k 0) = true) : fiI p g = (k : Int) := by
  have e : p.findIdx g = k := by
    have hpk : p.getD k 0 = p[k] := by rw [List.getD_eq_getElem?_getD, List.getElem?_eq_getElem hk]; rfl
    apply Nat.le_antisymm
    · rcases Nat.lt_or_ge k (p.findIdx g) with h1 | h1
      · have := List.not_of_lt_findIdx h1
        rw [← hpk, hg] at this; cases this
      · exact h1
    · rcases Nat.lt_or_ge (p.findIdx g) k with h1 | h1
      · have h2 := List.findIdx_getElem (p := g) (xs := p) (w := by omega)
        have h3 := h _ h1
        rw [List.getD_eq_getElem?_getD, List.getElem?_eq_getElem (by omega)] at h3
        simp at h3; rw [h3] at h2; cases h2
      · exact h1
  have ha : p.any g = true := List.any_eq_true.2 ⟨p.getD k 0, getD_mem hk, hg⟩
  rw [fiI, if_pos ha, e]
theorem fi_miss {p : List Rat} {g : Rat → Bool} (h : ∀ x, x < p.length → g (p.getD x 0) = false) : fiI p g = -1 := by
  have ha : p.any g = false := by
    rw [List.any_eq_false]
    intro x hx
    obtain ⟨i, hi, rfl⟩ := mem_getD hx
    rw [h i hi]; decide
  rw [fiI, ha]; rfl
namespace H_c_BEval
theorem zSm {p q : Prop} (k : q) (e : p = q := by simp only [e1, e2, e3, e4, p1, p2, p3, q1, q2, q3, l1, t0, t1, r1, r2, r3, r4, Nat.zero_add, Nat.reduceMul, Nat.reduceAdd, b1, b2, b3, b4, b5, b6, i1, i2, i3, i4, i5, i6, Nat.reduceBEq, dfq, ej, hll]; exact rfl) : p := e.mpr k
end H_c_BEval
open H_c_BEval in
theorem c_BEval (p : List Rat) (t : Rat) (h : HS p t) (hp0 : 0 < p.length) : CallP Tryz.prog 92 [.list 3 (p.map ratL), ratL t] (ratL (evP p t)) := by
  have hll := loP_len p t
  have hlen := h.len
  have hj : (((p.length : Nat) : Int) - 1).toNat = p.length - 1 := by omega
  refine fnP Tryz.func92 ?_
  have ej : True := trivial
  refine zg14 ?_
  refine wl_if rfl (fun h9r h9 => ?_) (fun h9r h9 => ?_)
  · omega
  · refine zg6 ?_
    refine cp am2 (c_halvesH _ _ (by assumption)) ?_
    refine zg12 ?_
    refine st_pure rfl (.bin rfl rfl (sub1N (by omega) (by omega))) ?_
    refine zg6 ?_
    rw [evP]
    exact retC [] rfl rfl rfl (ratE.csize _) (ratL_all _) T33 (.pure (ratE.pure _))
namespace H_c_IndexFunc
theorem zSm {p q : Prop} (k : q) (e : p = q := by simp only [e1, e2, e3, e4, p1, p2, p3, q1, q2, q3, l1, t0, t1, r1, r2, r3, r4, Nat.zero_add, Nat.reduceMul, Nat.reduceAdd, b1, b2, b3, b4, b5, b6, i1, i2, i3, i4, i5, i6, Nat.reduceBEq, dfq]; exact rfl) : p := e.mpr k
end H_c_IndexFunc
open H_c_IndexFunc in
theorem c_IndexFunc (p : List Rat) (f : Nat) (g : Rat → Bool) (hl : p.length ≤ 1048576) (hf : ∀ x ∈ p, CallP Tryz.prog f [ratL x] (bL (g x))) : CallP Tryz.prog 171 [.list 3 (p.map ratL), .clo f []] (iL (fiI p g)) := by
  refine fnP Tryz.func171 ?_
  refine zg14 ?_
  refine lp1 (fun (k : Nat) L => (((((St.mk L.slot (hp [])).put (some 0) (.list 3 (p.map ratL))).put (some 1) (.clo f [])).put (some 7) (nI64 p.length)).put (some 8) (nI64 k))) (fun k => k ≤ p.length ∧ ∀ x, x < k → g (p.getD x 0) = false) (fun k => p.length - k) 0 ⟨Nat.zero_le _, fun x hx => by omega⟩ ?_
  rintro k L1 ⟨hk, hg⟩
  refine zg6 ?_
  refine wl_if rfl (fun h9r h9 => ?_) (fun h9r h9 => ?_)
  · have hk2 : k < p.length := by omega
    have hfk := hf _ (getD_mem hk2)
    refine zg17 ?_
    simp only [t1, dfq]
    refine st_opc [] rfl rfl (.clo (f := f) (cap := []) (args := [ratL (p.getD k 0)]) rfl (.cons im0 .nil) ⟨rfl, fun _ h => by cases h⟩ hfk.1 (by decide) (fun _ h => by cases h)) (hfk.2 _) ?_
    refine zg2 ?_
    refine wl_if rfl (fun h16r h16 => ?_) (fun h16r h16 => ?_)
    · refine zg12 ?_
      rw [fi_hit hk2 hg h16r]
      exact ret1 rfl (by first | exact .pure rfl | exact .pure (limL_pure _) | exact .pure (magL_pure _) | exact .pure (ratE.pure _) | exact .pure (pure_lst u32E _ _) | exact .pure (pure_lst ratE _ _))
    · refine zg8 ?_
      exact nx1 (k + 1) ⟨by omega, fun x hx => by
        rcases Nat.lt_or_ge x k with h | h
        · exact hg x h
        · rw [show x = k by omega]; exact h16r⟩
  · obtain rfl : k = p.length := by omega
    refine zg11 ?_
    rw [fi_miss hg]
    exact ret1 rfl (by first | exact .pure rfl | exact .pure (limL_pure _) | exact .pure (magL_pure _) | exact .pure (ratE.pure _) | exact .pure (pure_lst u32E _ _) | exact .pure (pure_lst ratE _ _))
open H0 in
theorem c_ContainsFunc (p : List Rat) (f : Nat) (g : Rat → Bool) (hl : p.length ≤ 1048576) (hf : ∀ x ∈ p, CallP Tryz.prog f [ratL x] (bL (g x))) : CallP Tryz.prog 136 [.list 3 (p.map ratL), .clo f []] (bL (p.any g)) := by
  refine fnP Tryz.func136 ?_
  refine zg9 ?_
  refine cp am2 (c_IndexFunc p f g hl hf) ?_
  refine zg5 ?_
  rw [← fi_any]
  exact ret1 rfl (by first | exact .pure rfl | exact .pure (limL_pure _) | exact .pure (magL_pure _) | exact .pure (ratE.pure _) | exact .pure (pure_lst u32E _ _) | exact .pure (pure_lst ratE _ _))
end Go.Proofs.YthhdcfhaldcheaaGreat
end
section
set_option linter.unusedVariables false
set_option linter.unusedSimpArgs false
set_option maxHeartbeats 8000000
set_option maxRecDepth 100000
attribute [local irreducible] Go.Lg.opsL Go.Lg.wpL Go.Lg.thenL Go.Lg.blockL
namespace Go.Proofs.YthhdcfhaldcheaaGreat
open Go.Lg
end Go.Proofs.YthhdcfhaldcheaaGreat
namespace Go.Lg
end Go.Lg
namespace Go.Proofs.YthhdcfhaldcheaaGreat
open Go.Lg
theorem half_eq : (((1 : Int) : Rat) / ((2 : Int) : Rat)) = 1 / 2 := rfl
theorem c_tx14 : CallP Tryz.prog 87 [ratL (1 / 4)] (.v (.string ⟨#[49, 47, 52]⟩)) := by
  have := c_FText (1 / 4) (by decide +kernel) (by decide +kernel) (by decide +kernel)
  rw [show (1 / 4 : Rat).den = 4 by decide +kernel, show (1 / 4 : Rat).num.natAbs = 1 by decide +kernel] at this
  exact this
theorem tz2 : (2 : Int).toNat = 2 := rfl
end Go.Proofs.YthhdcfhaldcheaaGreat
end
section
set_option linter.unusedVariables false
set_option linter.unusedSimpArgs false
set_option maxHeartbeats 8000000
set_option maxRecDepth 100000
attribute [local irreducible] Go.Lg.opsL Go.Lg.wpL Go.Lg.thenL Go.Lg.blockL
namespace Go.Proofs.YthhdcfhaldcheaaGreat
open Go.Lg
def chs : Nat → Nat → Nat
  | _, 0 => 1
  | 0, _ + 1 => 0
  | n + 1, k + 1 => chs n k + chs n (k + 1)
theorem chs_gt : ∀ {n k : Nat}, n < k → chs n k = 0
  | 0, k + 1, _ => rfl
  | n + 1, k + 1, h => by rw [chs, chs_gt (by omega), chs_gt (by omega)]
theorem chs_self : ∀ n, chs n n = 1
  | 0 => rfl
  | n + 1 => by rw [chs, chs_self n, chs_gt (by omega)]
theorem chs_zero (n : Nat) : chs n 0 = 1 := by cases n <;> rfl
theorem chs_le : ∀ n k, chs n k ≤ 2 ^ n
  | n, 0 => by rw [chs_zero]; exact Nat.pow_pos (by omega)
  | 0, k + 1 => by simp [chs]
  | n + 1, k + 1 => by
      have h1 := chs_le n k
      have h2 := chs_le n (k + 1)
      rw [chs, Nat.pow_succ]; omega
theorem chs_pos : ∀ {n k : Nat}, k ≤ n → 0 < chs n k
  | n, 0, _ => by rw [chs_zero]; omega
  | n + 1, k + 1, h => by have := chs_pos (n := n) (k := k) (by omega); rw [chs]; omega
theorem chs_40 {n : Nat} (k : Nat) (h : n ≤ 40) : chs n k ≤ 1099511627776 := Nat.le_trans (chs_le n k) (Nat.pow_le_pow_right (n := 2) (by omega) h)
def rowI (n : Nat) : List Int := (List.range (n + 1)).map fun x => (chs n x : Int)
def chR (n : Nat) : List Rat := (List.range (n + 1)).map fun x => ((chs n x : Int) : Rat)
theorem rowI_len (n : Nat) : (rowI n).length = n + 1 := by simp [rowI]
theorem chR_len (n : Nat) : (chR n).length = n + 1 := by simp [chR]
theorem rowI_get {n x : Nat} (h : x ≤ n) : (rowI n).getD x 0 = (chs n x : Int) := by
  rw [List.getD_eq_getElem?_getD, List.getElem?_eq_getElem (by rw [rowI_len]; omega)]; simp [rowI]
theorem chR_get {n x : Nat} (h : x ≤ n) : (chR n).getD x 0 = ((chs n x : Int) : Rat) := by
  rw [List.getD_eq_getElem?_getD, List.getElem?_eq_getElem (by rw [chR_len]; omega)]; simp [chR]
theorem extI {p q : List Int} (hl : p.length = q.length) (h : ∀ i, i < p.length → p.getD i 0 = q.getD i 0) : p = q := by
  apply List.ext_getElem hl
  intro i h1 h2
  have := h i h1
  rw [List.getD_eq_getElem?_getD, List.getD_eq_getElem?_getD, List.getElem?_eq_getElem h1, List.getElem?_eq_getElem h2] at this
  exact this
theorem set_getI (o : List Int) (i x : Nat) (v : Int) (hi : i < o.length) : (o.set i v).getD x 0 = if x = i then v else o.getD x 0 := by
  rw [List.getD_eq_getElem?_getD, List.getD_eq_getElem?_getD, List.getElem?_set]
  by_cases h : i = x
  · subst h; simp [hi]
  · rw [if_neg h, if_neg (fun e => h e.symm)]
/-- the row in the middle of a step -/
def PasC (k i : Nat) (o : List Int) : Prop := o.length = k + 2 ∧ ∀ x, x < k + 2 → o.getD x 0 = if i < x ∧ x ≤ k then (chs (k + 1) x : Int) else if x ≤ k then (chs k x : Int) else 1
theorem pas_init (k : Nat) : PasC k k (rowI k ++ [1]) := by
  refine ⟨by simp [rowI_len], fun x hx => ?_⟩
  rw [if_neg (by omega)]
  by_cases h : x ≤ k
  · rw [if_pos h, getD_app1 _ _ _ (by rw [rowI_len]; omega), rowI_get h]
  · rw [if_neg h, getD_app2 _ _ _ (by rw [rowI_len]; omega), rowI_len, show x - (k + 1) = 0 by omega]; rfl
theorem pas_step {k i : Nat} {o : List Int} (h : PasC k (i + 1) o) (hi : i + 1 ≤ k) : PasC k i (o.set (i + 1) (o.getD (i + 1) 0 + o.getD i 0)) := by
  obtain ⟨h1, h2⟩ := h
  refine ⟨by simp [h1], fun x hx => ?_⟩
  rw [set_getI _ _ _ _ (by omega)]
  by_cases hxi : x = i + 1
  · subst hxi
    rw [if_pos rfl, if_pos ⟨by omega, hi⟩, h2 _ (by omega), h2 _ (by omega), if_neg (by omega), if_pos (by omega), if_neg (by omega), if_pos (by omega), chs]
    simp; omega
  · rw [if_neg hxi, h2 x hx]
    by_cases h3 : i + 1 < x ∧ x ≤ k
    · rw [if_pos h3, if_pos ⟨by omega, h3.2⟩]
    · rw [if_neg h3, if_neg (show ¬ (i < x ∧ x ≤ k) by omega)]
theorem pas_end {k : Nat} {o : List Int} (h : PasC k 0 o) : o = rowI (k + 1) := by
  obtain ⟨h1, h2⟩ := h
  refine extI (by rw [rowI_len, h1]) (fun x hx => ?_)
  rw [h2 x (by omega), rowI_get (by omega)]
  by_cases h3 : 0 < x ∧ x ≤ k
  · rw [if_pos h3]
  · rw [if_neg h3]
    by_cases h4 : x ≤ k
    · obtain rfl : x = 0 := by omega
      rw [if_pos h4, chs_zero, chs_zero]
    · obtain rfl : x = k + 1 := by omega
      rw [if_neg h4, chs_self]; rfl
theorem pas_bd {k i : Nat} {o : List Int} (h : PasC k i o) (hk : k ≤ 39) {x : Nat} (hx : x < k + 2) : 0 ≤ o.getD x 0 ∧ o.getD x 0 ≤ 1099511627776 := by
  rw [h.2 x hx]
  have h1 := chs_40 (n := k + 1) x (by omega)
  have h2 := chs_40 (n := k) x (by omega)
  split
  · omega
  · split <;> omega
theorem chR_rl {n : Nat} (hn : n ≤ 40) : ∀ x ∈ chR n, rl x ≤ 2 := by
  intro x hx
  simp only [chR, List.mem_map] at hx
  obtain ⟨k, _, rfl⟩ := hx
  have h := chs_40 k hn
  rw [← qv_int]
  have := rl_qv (k := 2) (decide ((chs n k : Int) < 0)) (n := (chs n k : Int).natAbs) (d := 1) (by omega) (by decide)
  omega
theorem set_takeR {o p : List Rat} {k : Nat} {v : Rat} (hk : k < p.length) (hol : o.length = p.length) (ht : o.take k = p.take k) (hv : v = p.getD k 0) : (o.set k v).take (k + 1) = p.take (k + 1) := by subst hv; exact cp_take hk hol ht
theorem rtake (n : Nat) (f : Int → LV) : ((rowI n).map f).take (n + 1) = (rowI n).map f := by rw [List.take_of_length_le (by simp [rowI_len])]
theorem ge_zero {p : List Rat} {k : Nat} (h : p.length ≤ k) : p.getD k 0 = 0 := by
  rw [List.getD_eq_getElem?_getD, List.getElem?_eq_none h]; rfl
theorem ext0 {a b : List Rat} (h : a.length = b.length) (h2 : ∀ k, k < a.length → a.getD k 0 = b.getD k 0) : a = b := by
  refine List.ext_getElem h fun k h1 h3 => ?_
  have := h2 k h1
  rw [List.getD_eq_getElem?_getD, List.getD_eq_getElem?_getD, List.getElem?_eq_getElem h1, List.getElem?_eq_getElem h3] at this
  exact this
theorem set_get0 (o : List Rat) (i : Nat) (v : Rat) (k : Nat) (h : i < o.length) : (o.set i v).getD k 0 = if i = k then v else o.getD k 0 := by
  rw [List.getD_eq_getElem?_getD, List.getD_eq_getElem?_getD, List.getElem?_set]
  split
  · rename_i e; subst e; first | rw [if_pos h]; rfl | rfl
  · rfl
theorem getD_rl {o : List Rat} {S : Nat} (h1 : 1 ≤ S) (h : ∀ x ∈ o, rl x ≤ S) (k : Nat) : rl (o.getD k 0) ≤ S := by
  rcases Nat.lt_or_ge k o.length with hk | hk
  · exact h _ (getD_mem hk)
  · rw [List.getD_eq_getElem?_getD, List.getElem?_eq_none hk]; show rl 0 ≤ S; rw [show rl 0 = 1 from rfl]; exact h1
theorem set_rl {o : List Rat} {S : Nat} {i : Nat} {v : Rat} (h : ∀ x ∈ o, rl x ≤ S) (hv : rl v ≤ S) : ∀ x ∈ o.set i v, rl x ≤ S := fun x hx => by
  rcases List.mem_or_eq_of_mem_set hx with h1 | h1
  · exact h x h1
  · rw [h1]; exact hv
end Go.Proofs.YthhdcfhaldcheaaGreat
end
section
set_option linter.unusedVariables false
set_option linter.unusedSimpArgs false
set_option maxHeartbeats 8000000
set_option maxRecDepth 100000
attribute [local irreducible] Go.Lg.opsL Go.Lg.wpL Go.Lg.thenL Go.Lg.blockL
namespace Go.Proofs.YthhdcfhaldcheaaGreat
open Go.Lg
theorem add64N {a b : Nat} (h : a + b ≤ 9223372036854775807) : binI .add .i64 (a : Nat) (b : Nat) = some (.int .i64 ((a + b : Nat) : Int)) := by
  rw [add64 (by omega) (by omega)]; congr 2
theorem add1N {a : Nat} (h : a + 1 ≤ 9223372036854775807) : binI .add .i64 (a : Nat) 1 = some (.int .i64 ((a + 1 : Nat) : Int)) := by
  rw [add64 (by omega) (by omega)]; congr 2
theorem set_get_self {o : List Rat} {i : Nat} {v : Rat} (h : i < o.length) : (o.set i v).getD i 0 = v := by rw [set_getD _ _ _ _ h, if_pos rfl]
theorem repl_get (n x : Nat) : (List.replicate n (0 : Rat)).getD x 0 = 0 := by
  rw [List.getD_eq_getElem?_getD, List.getElem?_replicate]; split <;> rfl
end Go.Proofs.YthhdcfhaldcheaaGreat
end
section
set_option linter.unusedVariables false
set_option linter.unusedSimpArgs false
set_option maxHeartbeats 8000000
set_option maxRecDepth 100000
attribute [local irreducible] Go.Lg.opsL Go.Lg.wpL Go.Lg.thenL Go.Lg.blockL
namespace Go.Proofs.YthhdcfhaldcheaaGreat
open Go.Lg
def difP (p : List Rat) : List Rat := if p.length < 2 then [0] else (List.range (p.length - 1)).map fun i => (((p.length - 1 : Nat) : Int) : Rat) * (p.getD (i + 1) 0 - p.getD i 0)
theorem difP_len {p : List Rat} : (difP p).length = if p.length < 2 then 1 else p.length - 1 := by unfold difP; split <;> simp
theorem difP_get {p : List Rat} {i : Nat} (h : i + 1 < p.length) : (difP p).getD i 0 = (((p.length - 1 : Nat) : Int) : Rat) * (p.getD (i + 1) 0 - p.getD i 0) := by
  unfold difP
  rw [if_neg (by omega), List.getD_eq_getElem?_getD, List.getElem?_eq_getElem (by simp; omega)]; simp
theorem difP_rl {p : List Rat} {R : Nat} (hR : 1 ≤ R) (hl : p.length ≤ 1000) (h : ∀ x ∈ p, rl x ≤ R) : ∀ x ∈ difP p, rl x ≤ 2 * R + 4 := by
  intro x hx
  obtain ⟨k, hk, rfl⟩ := mem_getD hx
  rw [difP_len] at hk
  by_cases h2 : p.length < 2
  · rw [if_pos h2] at hk
    have : difP p = [0] := by unfold difP; rw [if_pos h2]
    rw [this]
    obtain rfl : k = 0 := by omega
    show rl 0 ≤ _
    rw [show rl 0 = 1 from rfl]; omega
  · rw [if_neg h2] at hk
    rw [difP_get (by omega)]
    have h3 := rl_int (n := ((p.length - 1 : Nat) : Int)) (by omega)
    have h4 := h _ (getD_mem (i := k) (by omega))
    have h5 := h _ (getD_mem (i := k + 1) (by omega))
    have h6 := rl_sub (p.getD (k + 1) 0) (p.getD k 0)
    have h7 := rl_mul (((p.length - 1 : Nat) : Int) : Rat) (p.getD (k + 1) 0 - p.getD k 0)
    omega
namespace H_c_Diff
theorem zSm {p q : Prop} (k : q) (e : p = q := by simp only [e1, e2, e3, e4, p1, p2, p3, q1, q2, q3, l1, t0, t1, r1, r2, r3, r4, Nat.zero_add, Nat.reduceMul, Nat.reduceAdd, b1, b2, b3, b4, b5, b6, i1, i2, i3, i4, i5, i6, Nat.reduceBEq, dfq, List.length_set, kills_map ratE, ratL_kill, spL_kill, LV.kill, kills]; exact rfl) : p := e.mpr k
end H_c_Diff
open H_c_Diff in
theorem c_Diff (p : List Rat) (hl : p.length ≤ 1000) (hpr : ∀ x ∈ p, rl x ≤ 1073741824) : CallP Tryz.prog 40 [.list 3 (p.map ratL)] (.list 3 ((difP p).map ratL)) := by
  refine fnP Tryz.func40 ?_
  refine zg13 ?_
  refine wl_if rfl (fun h8r h8 => ?_) (fun h8r h8 => ?_)
  · have hE : difP p = [0] := by unfold difP; rw [if_pos (by omega)]
    refine zg2 ?_
    refine st_pure rfl (.build0 SL33 Z33a) ?_
    refine zg6 ?_
    rw [hE]
    exact ret1f [10] rfl rfl (imm_refm ratE rfl rfl rfl)
  · have hdl : (difP p).length = p.length - 1 := by rw [difP_len, if_neg (by omega)]
    refine zg6 ?_
    refine st_pure rfl (.bin rfl rfl (sub1N (by omega) (by omega))) ?_
    refine cp am1 (c_RInt ((p.length - 1 : Nat) : Int) (by omega) (by omega)) ?_
    refine zg8 ?_
    refine st_pure rfl (.bin rfl rfl (sub1N (by omega) (by omega))) ?_
    refine st_alloc rfl rfl (.mkE (n := (p.length - 1)) (m := (p.length - 1)) ml ml om om om) ?_
    refine zg12 ?_
    refine lp2 (fun (i : Nat) (w : List Rat) L => (((((((St.mk L.slot (hp [(3, ⟨3, [ratL (((p.length - 1 : Nat) : Int) : Rat)], true⟩), (18, ⟨3, w.map ratL, true⟩)])).put (some 0) (.list 3 (p.map ratL))).put (some 3) (.eptr 3 3 0 0)).put (some 4) (.ref 18 3 0 (p.length - 1))).put (some 19) (.ref 18 3 0 (p.length - 1))).put (some 20) (nI64 (p.length - 1))).put (some 21) (nI64 i))) (fun i w => i ≤ p.length - 1 ∧ w.length = p.length - 1 ∧ w.take i = (difP p).take i) (fun i w => p.length - 1 - i) 0 (List.replicate (p.length - 1) 0) ⟨Nat.zero_le _, by simp, rfl⟩ ?_
    rintro i w L1 ⟨hi, hwl, hwt⟩
    refine zg6 ?_
    refine wl_if rfl (fun h22r h22 => ?_) (fun h22r h22 => ?_)
    · have hi2 : i < p.length - 1 := by omega
      have hr1 := hpr _ (getD_mem (i := i) (by omega))
      have hr2 := hpr _ (getD_mem (i := i + 1) (by omega))
      have hr3 := rl_sub (p.getD (i + 1) 0) (p.getD i 0)
      have hr4 := rl_int (n := ((p.length - 1 : Nat) : Int)) (by omega)
      refine zg10 ?_
      refine wl_regD 15 (by decide +kernel) ?_
      refine zg5 ?_
      refine st_pure rfl (.bin rfl rfl (add1N (by omega))) ?_
      refine zg6 ?_
      refine cp am2 (c_RSub (p.getD (i + 1) 0) (p.getD i 0) (by omega)) ?_
      refine cp am2 (c_RMul (((p.length - 1 : Nat) : Int) : Rat) (p.getD (i + 1) 0 - p.getD i 0) (by omega)) ?_
      refine zg10 ?_
      exact nx2 (i + 1) (w.set i ((((p.length - 1 : Nat) : Int) : Rat) * (p.getD (i + 1) 0 - p.getD i 0))) ⟨by omega, by simp [hwl], set_takeR (by omega) (by omega) hwt (difP_get (by omega)).symm⟩
    · obtain rfl : i = p.length - 1 := by omega
      have hE : w = difP p := by
        rw [List.take_of_length_le (by omega), List.take_of_length_le (by omega)] at hwt
        exact hwt
      subst hE
      refine zg12 ?_
      exact ret1f [18] rfl rfl (imm_refm ratE rfl rfl hdl.symm)
end Go.Proofs.YthhdcfhaldcheaaGreat
end
section
set_option linter.unusedVariables false
set_option linter.unusedSimpArgs false
set_option maxHeartbeats 8000000
set_option maxRecDepth 100000
attribute [local irreducible] Go.Lg.opsL Go.Lg.wpL Go.Lg.thenL Go.Lg.blockL
namespace Go.Proofs.YthhdcfhaldcheaaGreat
open Go.Lg
end Go.Proofs.YthhdcfhaldcheaaGreat
namespace Go.Lg
/-- a block of one value, told in another way -/
theorem Weak.cell {L : St} (b : Nat) {sz : Nat} {x y : LV} {mt : Bool} (hb : L.heap b = some ⟨sz, [x], mt⟩) (h : ∀ Z μ w cs, Rep Z μ w x cs → Rep Z μ w y cs) : Weak L (L.setB b (some ⟨sz, [y], mt⟩)) := by
  rintro n W X Z0 a w ⟨hdf, hsz, μ, Z, hc, hr⟩
  refine ⟨hdf, hsz, μ, Z, ?_, hr⟩
  have hs : ∀ c, (L.setB b (some ⟨sz, [y], mt⟩)).heap c = if c = b then some ⟨sz, [y], mt⟩ else L.heap c := fun c => rfl
  refine ⟨hc.keep, hc.zone, hc.zsup, hc.zsub, hc.inj, hc.own, hc.x0, hc.xlt, hc.x1, fun c id blk g1 g2 => ?_, fun c id blk g1 g2 => ?_, fun c id g1 => ?_⟩
  · rw [hs] at g2
    split at g2
    · rename_i e; subst e; cases g2; exact hc.mutz c id ⟨sz, [x], mt⟩ g1 hb
    · exact hc.mutz c id blk g1 g2
  · rw [hs] at g2
    split at g2
    · rename_i e; subst e; cases g2; exact hc.frz c id ⟨sz, [x], mt⟩ g1 hb
    · exact hc.frz c id blk g1 g2
  · obtain ⟨blk, k1, k2⟩ := hc.heap c id g1
    rw [hs]
    by_cases e : c = b
    · subst e
      rw [if_pos rfl]
      rw [hb] at k1
      cases k1
      refine ⟨_, rfl, ?_⟩
      obtain ⟨cs, T, part, rest, e1, e2, e3⟩ := k2
      refine ⟨cs, T, part, rest, e1, e2, ?_⟩
      simp only [RepAll] at e3 ⊢
      obtain ⟨c1, c2, q1, q2, q3, q4⟩ := e3
      exact ⟨c1, c2, q1, q2, h _ _ _ _ q3, q4⟩
    · rw [if_neg e]; exact ⟨blk, k1, k2⟩
/-- an empty block that nothing stands for -/
theorem Weak.newB (L : St) (d sz : Nat) (hd : L.heap d = none) : Weak L (L.setB d (some ⟨sz, [], true⟩)) := by
  rintro n W X Z0 a w ⟨hdf, hsz, μ, Z, hc, hr⟩
  refine ⟨hdf, hsz, μ, Z, ?_, hr⟩
  refine hc.reheap fun c id hcd => ?_
  have : c ≠ d := by rintro rfl; rw [mu_none hc hd] at hcd; cases hcd
  simp [St.setB, this]
theorem rep_net (d sz : Nat) (x y : LV) (Z : Nat → Prop) (μ : Nat → Option Nat) (w : World) (cs : List Value) (h : Rep Z μ w (.agg [x, y, .v (.slice none 0 0)]) cs) : Rep Z μ w (.agg [x, y, .ref d sz 0 0]) cs := by
  simp only [Rep, RepFs] at h ⊢
  obtain ⟨c1, c2, e1, e2, e3, c3, c4, e4, e5, e6, c5, c6, e7, e8, e9, e10⟩ := h
  exact ⟨c1, c2, e1, e2, e3, c3, c4, e4, e5, e6, c5, c6, e7, e8, .inl ⟨e9.1, trivial⟩, e10⟩
end Go.Lg
namespace Go.Proofs.YthhdcfhaldcheaaGreat
open Go.Lg
theorem net_pure (u v : Int) (c : List Rat) : LV.pure (.agg [iL u, iL v, .list 3 (c.map ratL)]) = true := by simp [LV.pure, pures, pures_map ratE]
theorem net_pureN (u v : Nat) (c : List Rat) : LV.pure (.agg [nI64 u, nI64 v, .list 3 (c.map ratL)]) = true := net_pure u v c
theorem mulE {a b n : Nat} (h : a * b = n) (hn : n ≤ 9223372036854775807) : binI .mul .i64 (a : Nat) (b : Nat) = some (.int .i64 (n : Nat)) := by
  rw [mul64 (by rw [← Int.natCast_mul, h]; omega) (by rw [← Int.natCast_mul, h]; omega), ← Int.natCast_mul, h]
def gL (n : Nat) (W : Nat → Rat) : List Rat := (List.range n).map W
theorem gL_len (n : Nat) (W : Nat → Rat) : (gL n W).length = n := by simp [gL]
theorem gL_succ (n : Nat) (W : Nat → Rat) : gL (n + 1) W = gL n W ++ [W n] := by simp [gL, List.range_succ]
theorem gL_get {n : Nat} {W : Nat → Rat} {x : Nat} (h : x < n) : (gL n W).getD x 0 = W x := by
  rw [List.getD_eq_getElem?_getD, List.getElem?_eq_getElem (by rw [gL_len]; exact h)]; simp [gL]
theorem take_gL (n : Nat) (W : Nat → Rat) (f : Rat → LV) : ((gL n W).map f).take n = (gL n W).map f := by rw [List.take_of_length_le (by simp [gL_len])]
theorem ix_div {V i j : Nat} (h : j ≤ V) : (i * (V + 1) + j) / (V + 1) = i := by
  rw [Nat.add_comm, Nat.add_mul_div_right _ _ (Nat.succ_pos V), Nat.div_eq_of_lt (by omega), Nat.zero_add]
theorem ix_mod {V i j : Nat} (h : j ≤ V) : (i * (V + 1) + j) % (V + 1) = j := by
  rw [Nat.add_comm, Nat.add_mul_mod_self_right, Nat.mod_eq_of_lt (by omega)]
theorem ix_lt {U V i j : Nat} (hi : i ≤ U) (hj : j ≤ V) : i * (V + 1) + j < (U + 1) * (V + 1) := by
  have := Nat.mul_le_mul_right (V + 1) (show i + 1 ≤ U + 1 by omega)
  rw [Nat.succ_mul] at this
  omega
theorem chsR_rl {n : Nat} (k : Nat) (hn : n ≤ 40) : rl (((chs n k : Nat) : Int) : Rat) ≤ 2 := by
  rcases Nat.lt_or_ge n k with h | h
  · rw [chs_gt h]; decide
  · have h1 := chR_rl hn _ (getD_mem (i := k) (by rw [chR_len]; omega))
    rw [chR_get h] at h1; exact h1
def wtV (U V : Nat) (c : List Rat) (x : Nat) : Rat := ((chs U (x / (V + 1)) : Nat) : Int) * ((chs V (x % (V + 1)) : Nat) : Int) * c.getD x 0
def swV (U V : Nat) (c : List Rat) (x : Nat) : Rat := c.getD (x % (U + 1) * (V + 1) + x / (U + 1)) 0
def wtL (U V : Nat) (c : List Rat) : List Rat := gL ((U + 1) * (V + 1)) (wtV U V c)
def swL (U V : Nat) (c : List Rat) : List Rat := gL ((V + 1) * (U + 1)) (swV U V c)
theorem wt_rl {U V : Nat} {c : List Rat} {R : Nat} (hU : U ≤ 40) (hV : V ≤ 40) (hR : 1 ≤ R) (h : ∀ x ∈ c, rl x ≤ R) : ∀ x ∈ wtL U V c, rl x ≤ R + 6 := by
  intro x hx
  obtain ⟨i, _, rfl⟩ := List.mem_map.1 hx
  have h1 := chsR_rl (n := U) (i / (V + 1)) hU
  have h2 := chsR_rl (n := V) (i % (V + 1)) hV
  have h3 := getD_rl hR h i
  have h4 := rl_mul (((chs U (i / (V + 1)) : Nat) : Int) : Rat) (((chs V (i % (V + 1)) : Nat) : Int) : Rat)
  have h5 := rl_mul ((((chs U (i / (V + 1)) : Nat) : Int) : Rat) * (((chs V (i % (V + 1)) : Nat) : Int) : Rat)) (c.getD i 0)
  show rl (wtV U V c i) ≤ _
  unfold wtV
  omega
theorem set_gd {W : Nat → Rat} {o : List Rat} {m : Nat} {v : Rat} (h : m < o.length) (hv : v = W m) : (gL m W ++ o.drop m).set m v = gL (m + 1) W ++ o.drop (m + 1) := by
  subst hv
  rw [List.drop_eq_getElem_cons h, set_mid _ _ _ _ (gL_len m W).symm, gL_succ, List.append_assoc]; rfl
theorem get_gd {W : Nat → Rat} {o : List Rat} {m : Nat} : (gL m W ++ o.drop m).getD m 0 = o.getD m 0 := by
  rw [getD_app2 _ _ _ (by rw [gL_len]; exact Nat.le_refl _), gL_len, Nat.sub_self, getD_dropR, Nat.add_zero]
section
variable (V1 V2 W U2 : Nat) (x y : List Rat) (i j k : Nat)
def mL : Nat → List Rat → List Rat
  | 0, o => o
  | l + 1, o => (mL l o).set ((i + k) * (W + 1) + j + l) ((mL l o).getD ((i + k) * (W + 1) + j + l) 0 + x.getD (i * (V1 + 1) + j) 0 * y.getD (k * (V2 + 1) + l) 0)
def mK : Nat → List Rat → List Rat
  | 0, o => o
  | k + 1, o => mL V1 V2 W x y i j k (V2 + 1) (mK k o)
def mJ : Nat → List Rat → List Rat
  | 0, o => o
  | j + 1, o => mK V1 V2 W x y i j (U2 + 1) (mJ j o)
def mI : Nat → List Rat → List Rat
  | 0, o => o
  | i + 1, o => mJ V1 V2 W U2 x y i (V1 + 1) (mI i o)
end
def mTop (U1 V1 U2 V2 : Nat) (a b : List Rat) : List Rat := mI V1 V2 (V1 + V2) U2 (wtL U1 V1 a) (wtL U2 V2 b) (U1 + 1) (List.replicate ((U1 + U2 + 1) * (V1 + V2 + 1)) 0)
def dvV (U V : Nat) (o : List Rat) (x : Nat) : Rat := o.getD x 0 / ((((chs U (x / (V + 1)) : Nat) : Int) : Rat) * (((chs V (x % (V + 1)) : Nat) : Int) : Rat))
def tmL (U1 V1 U2 V2 : Nat) (a b : List Rat) : List Rat := gL ((U1 + U2 + 1) * (V1 + V2 + 1)) (dvV (U1 + U2) (V1 + V2) (mTop U1 V1 U2 V2 a b))
namespace H_c_choose7
theorem zSm {p q : Prop} (k : q) (e : p = q := by simp only [e1, e2, e3, e4, p1, p2, p3, q1, q2, q3, l1, t0, t1, r1, r2, r3, r4, Nat.zero_add, Nat.reduceMul, Nat.reduceAdd, b1, b2, b3, b4, b5, b6, i1, i2, i3, i4, i5, i6, Nat.reduceBEq, dfi, rtake, List.append_nil, rowI_len, ek1, ek2, egr, take_map_len, map_snoc, len_snoc, List.length_cons, List.length_nil, kills_map i64E, kills_map ratE, LV.kill, kills]; exact rfl) : p := e.mpr k
end H_c_choose7
open H_c_choose7 in
theorem c_choose7 (n : Nat) (hn : n ≤ 40) : CallP Tryz.prog 123 [nI64 n] (.list 1 ((rowI n).map i64L)) := by
  refine fnP Tryz.func123 (ht := (fun g => LV.ren_pure g _ (pure_lst i64E _ _))) ?_
  have ek1 : True := trivial
  have ek2 : True := trivial
  have egr : True := trivial
  refine zg19 ?_
  refine wl_weak (Weak.mv (t := 3) (b := 5) 11 (by decide) (by decide) (by decide) rfl rfl rfl) ?_
  refine lp1 (fun (k : Nat) L => ((((St.mk L.slot (hp [(11, ⟨1, (rowI k).map i64L, true⟩)])).put (some 3) (.ref 11 1 0 (k + 1))).put (some 6) (nI64 n)).put (some 7) (nI64 k))) (fun k => k ≤ n) (fun k => n - k) 0 (Nat.zero_le _) ?_
  rintro k L1 hk
  refine zg6 ?_
  refine wl_if rfl (fun h8r h8 => ?_) (fun h8r h8 => ?_)
  · have hkn : k < n := by omega
    have ek2 : ((((k + 1 + 1 : Nat)) : Int) - 2) = (k : Int) := by omega
    refine zg8 ?_
    refine st_store rfl (.app (news := [i64L 1]) rfl rfl rfl rfl rfl (by simp [rowI_len]) (.inl rfl) (by decide) Tryz.underlying99 Tryz.underlying99 Z2 T2 rfl B2 (.inl ⟨10, 0, _, rfl, by decide, rfl, rfl, by simp, rfl, rfl⟩) (by simp; omega) (by simp; omega) (by decide)) ?_
    refine zg4 ?_
    refine wl_regW (Weak.kill _ 10) ?_
    refine zg7 ?_
    refine lp2 (fun (i : Nat) (o : List Int) L => (((((St.mk L.slot (hp [(11, ⟨1, o.map i64L, true⟩)])).put (some 3) (.ref 11 1 0 (k + 1 + 1))).put (some 4) (nI64 i)).put (some 6) (nI64 n)).put (some 7) (nI64 k))) (fun i o => i ≤ k ∧ PasC k i o) (fun i o => i) k (rowI k ++ [1]) ⟨Nat.le_refl _, pas_init k⟩ ?_
    rintro i o L2 ⟨hi, hP⟩
    refine zg7 ?_
    refine wl_if rfl (fun h16r h16 => ?_) (fun h16r h16 => ?_)
    · obtain ⟨j, rfl⟩ : ∃ j, i = j + 1 := ⟨i - 1, by omega⟩
      have ek1 : (((j + 1 : Nat) : Int) - 1) = (j : Int) := by omega
      have hol := hP.1
      have hb1 := pas_bd hP (by omega) (x := j + 1) (by omega)
      have hb2 := pas_bd hP (by omega) (x := j) (by omega)
      refine zg4 ?_
      refine wl_regD 11 (by decide +kernel) ?_
      refine zg21 ?_
      exact nx2 j (o.set (j + 1) (o.getD (j + 1) 0 + o.getD j 0)) ⟨by omega, pas_step hP hi⟩
    · obtain rfl : i = 0 := by omega
      have hE := pas_end hP
      subst hE
      refine zg11 ?_
      exact nx1 (k + 1) (by omega)
  · obtain rfl : n = k := by omega
    refine zg12 ?_
    exact ret1f [11] rfl rfl (imm_refm i64E rfl rfl (by rw [rowI_len]))
open H0 in
theorem c_shaped (U V : Nat) (c : List Rat) (hc : c.length = (U + 1) * (V + 1)) (hl : c.length ≤ 1048576) : CallP Tryz.prog 121 [.agg [nI64 U, nI64 V, .list 3 (c.map ratL)]] (bL true) := by
  have hU : U + 1 ≤ c.length := by rw [hc]; exact Nat.le_mul_of_pos_right _ (Nat.succ_pos V)
  have hV : V + 1 ≤ c.length := by rw [hc]; exact Nat.le_mul_of_pos_left _ (Nat.succ_pos U)
  have hnp := net_pureN U V c
  refine fnP Tryz.func121 ?_
  refine zg12 ?_
  refine st_pure (guardX (v := true) rfl rfl ((decide_eq_true (by omega))) rfl) fa27 ?_
  refine st_pure (guardX (v := true) rfl rfl ((decide_eq_true (by omega))) rfl) ld3 ?_
  refine st_pure (guardX (v := true) rfl rfl ((decide_eq_true (by omega))) rfl) (.bin rfl rfl rfl) ?_
  refine st_pure rfl (.pickT rfl ((decide_eq_true (by omega)))) ?_
  refine zg1 ?_
  refine st_pure (guardX (v := true) rfl rfl ((decide_eq_true (by omega))) rfl) fa27 ?_
  refine st_pure (guardX (v := true) rfl rfl ((decide_eq_true (by omega))) rfl) ld3 ?_
  refine st_pure (guardX (v := true) rfl rfl ((decide_eq_true (by omega))) rfl) fa27 ?_
  refine st_pure (guardX (v := true) rfl rfl ((decide_eq_true (by omega))) rfl) ld25 ?_
  refine st_pure (guardX (v := true) rfl rfl ((decide_eq_true (by omega))) rfl) ln25 ?_
  refine st_pure (guardX (v := true) rfl rfl ((decide_eq_true (by omega))) rfl) (.bin rfl rfl rfl) ?_
  refine st_pure rfl (.pickT rfl ((decide_eq_true (by omega)))) ?_
  refine zg1 ?_
  refine st_pure (guardX (v := true) rfl rfl ((decide_eq_true (by omega))) rfl) fa27 ?_
  refine st_pure (guardX (v := true) rfl rfl ((decide_eq_true (by omega))) rfl) ld3 ?_
  refine st_pure (guardX (v := true) rfl rfl ((decide_eq_true (by omega))) rfl) fa27 ?_
  refine st_pure (guardX (v := true) rfl rfl ((decide_eq_true (by omega))) rfl) ld25 ?_
  refine st_pure (guardX (v := true) rfl rfl ((decide_eq_true (by omega))) rfl) ln25 ?_
  refine st_pure (guardX (v := true) rfl rfl ((decide_eq_true (by omega))) rfl) (.bin rfl rfl rfl) ?_
  refine st_pure rfl (.pickT rfl ((decide_eq_true (by omega)))) ?_
  refine zg1 ?_
  refine st_pure (guardX (v := true) rfl rfl ((decide_eq_true (by omega))) rfl) fa27 ?_
  refine st_pure (guardX (v := true) rfl rfl ((decide_eq_true (by omega))) rfl) ld25 ?_
  refine st_pure (guardX (v := true) rfl rfl ((decide_eq_true (by omega))) rfl) ln25 ?_
  refine st_pure (guardX (v := true) rfl rfl ((decide_eq_true (by omega))) rfl) fa27 ?_
  refine st_pure (guardX (v := true) rfl rfl ((decide_eq_true (by omega))) rfl) ld3 ?_
  refine st_pure (guardX (v := true) rfl rfl ((decide_eq_true (by omega))) rfl) (.bin rfl rfl (add1N (by omega))) ?_
  refine st_pure (guardX (v := true) rfl rfl ((decide_eq_true (by omega))) rfl) fa27 ?_
  refine st_pure (guardX (v := true) rfl rfl ((decide_eq_true (by omega))) rfl) ld3 ?_
  refine st_pure (guardX (v := true) rfl rfl ((decide_eq_true (by omega))) rfl) (.bin rfl rfl (add1N (by omega))) ?_
  refine st_pure (guardX (v := true) rfl rfl ((decide_eq_true (by omega))) rfl) (.bin rfl rfl (mulE hc.symm (by omega))) ?_
  refine st_pure (guardX (v := true) rfl rfl ((decide_eq_true (by omega))) rfl) (.bin rfl rfl rfl) ?_
  refine st_pure rfl (.pickT rfl ((decide_eq_true (by omega)))) ?_
  refine zg4 ?_
  refine ret1 (x := .v (.bool (((c.length : Nat) : Int) == ((c.length : Nat) : Int)))) rfl ?_
  rw [beq_self_eq_true]
  exact .pure rfl
namespace H_c_weighted
theorem zSm {p q : Prop} (k : q) (e : p = q := by simp only [e1, e2, e3, e4, p1, p2, p3, q1, q2, q3, l1, t0, t1, r1, r2, r3, r4, Nat.zero_add, Nat.reduceMul, Nat.reduceAdd, b1, b2, b3, b4, b5, b6, i1, i2, i3, i4, i5, i6, Nat.reduceBEq, dfq, dfi, rowI_len, egu, egv, ewn, Nat.add_zero, take_gL, take_map_len, map_snoc, len_snoc, List.length_cons, List.length_nil, kills_map i64E, kills_map ratE, ratL_kill, spL_kill, LV.kill, kills]; exact rfl) : p := e.mpr k
end H_c_weighted
open H_c_weighted in
theorem c_weighted (U V : Nat) (c : List Rat) (hc : c.length = (U + 1) * (V + 1)) (hl : c.length ≤ 1048576) (hU4 : U ≤ 40) (hV4 : V ≤ 40) (R : Nat) (hR1 : 1 ≤ R) (hR : R ≤ 1073741824) (hcR : ∀ x ∈ c, rl x ≤ R) : CallP Tryz.prog 122 [.agg [nI64 U, nI64 V, .list 3 (c.map ratL)]] (.list 3 ((wtL U V c).map ratL)) := by
  have hU : U + 1 ≤ c.length := by rw [hc]; exact Nat.le_mul_of_pos_right _ (Nat.succ_pos V)
  have hV : V + 1 ≤ c.length := by rw [hc]; exact Nat.le_mul_of_pos_left _ (Nat.succ_pos U)
  have hnp := net_pureN U V c
  refine fnP Tryz.func122 ?_
  have egu : True := trivial
  have egv : True := trivial
  have ewn : True := trivial
  refine zg15 ?_
  refine cp am1 (c_choose7 V hV4) ?_
  refine zg8 ?_
  refine cp am1 (c_choose7 U hU4) ?_
  refine zg5 ?_
  refine wl_weak (Weak.own (t := 3) 47 3 rfl rfl) ?_
  refine lp2 (fun (i m : Nat) L => (((((((St.mk L.slot (hp [(1, ⟨3, [.agg [nI64 U, nI64 V, .list 3 (c.map ratL)]], true⟩), (47, ⟨3, (gL m (wtV U V c)).map ratL, true⟩)])).put (some 1) (.eptr 1 3 0 0)).put (some 4) (.list 1 ((rowI V).map i64L))).put (some 14) (.list 1 ((rowI U).map i64L))).put (some 15) (nI64 (U + 1))).put (some 16) (nI64 i)).put (some 3) (.ref 47 3 0 m))) (fun i m => i ≤ U + 1 ∧ i * (V + 1) = m) (fun i m => U + 1 - i) 0 0 ⟨Nat.zero_le _, Nat.zero_mul _⟩ ?_
  rintro i m L1 ⟨hi, hm⟩
  refine zg6 ?_
  refine wl_if rfl (fun h17r h17 => ?_) (fun h17r h17 => ?_)
  · have hi2 : i ≤ U := by omega
    have egu := rowI_get hi2
    have hcu := chs_40 i hU4
    refine zg21 ?_
    refine lp1 (fun (j : Nat) L => ((((((((((((St.mk L.slot (hp [(1, ⟨3, [.agg [nI64 U, nI64 V, .list 3 (c.map ratL)]], true⟩), (47, ⟨3, (gL (m + j) (wtV U V c)).map ratL, true⟩)])).put (some 1) (.eptr 1 3 0 0)).put (some 4) (.list 1 ((rowI V).map i64L))).put (some 14) (.list 1 ((rowI U).map i64L))).put (some 15) (nI64 (U + 1))).put (some 16) (nI64 i)).put (some 3) (.ref 47 3 0 (m + j))).put (some 5) (nI64 i)).put (some 6) (nI64 (chs U i))).put (some 21) (.list 1 ((rowI V).map i64L))).put (some 22) (nI64 (V + 1))).put (some 23) (nI64 j))) (fun j => j ≤ V + 1) (fun j => V + 1 - j) 0 (Nat.zero_le _) ?_
    rintro j L2 hj
    refine zg6 ?_
    refine wl_if rfl (fun h24r h24 => ?_) (fun h24r h24 => ?_)
    · have hj2 : j ≤ V := by omega
      have egv := rowI_get hj2
      have hcv := chs_40 j hV4
      have hix := ix_lt hi2 hj2
      rw [hm, ← hc] at hix
      have hgl := gL_len (m + j) (wtV U V c)
      have ewn : gL (m + (j + 1)) (wtV U V c) = gL (m + j) (wtV U V c) ++ [(((chs U i : Nat) : Int) : Rat) * (((chs V j : Nat) : Int) : Rat) * c.getD (m + j) 0] := by rw [← Nat.add_assoc, gL_succ, wtV, ← hm, ix_div hj2, ix_mod hj2]
      have hr1 := chsR_rl i hU4
      have hr2 := chsR_rl j hV4
      have hr3 := getD_rl hR1 hcR (m + j)
      have hr4 := rl_mul (((chs U i : Nat) : Int) : Rat) (((chs V j : Nat) : Int) : Rat)
      refine zg13 ?_
      refine wl_regD 19 (by decide +kernel) ?_
      refine zg2 ?_
      refine cp am1 (c_RInt ((chs U i : Nat) : Int) (by omega) (by omega)) ?_
      refine zg1 ?_
      refine cp am1 (c_RInt ((chs V j : Nat) : Int) (by omega) (by omega)) ?_
      refine cp am2 (c_RMul (((chs U i : Nat) : Int) : Rat) (((chs V j : Nat) : Int) : Rat) (by omega)) ?_
      refine zg5 ?_
      refine st_pure rfl (.bin rfl rfl (add1N (by omega))) ?_
      refine st_pure rfl (.bin rfl rfl (mulE hm (by omega))) ?_
      refine zg1 ?_
      refine st_pure rfl (.bin rfl rfl (add64N (by omega))) ?_
      refine zg2 ?_
      refine cp am2 (c_RMul ((((chs U i : Nat) : Int) : Rat) * (((chs V j : Nat) : Int) : Rat)) (c.getD (m + j) 0) (by omega)) ?_
      refine zg1 ?_
      refine st_store rfl (.app (news := [ratL ((((chs U i : Nat) : Int) : Rat) * (((chs V j : Nat) : Int) : Rat) * c.getD (m + j) 0)]) rfl rfl rfl rfl rfl (by simp [gL_len]) (.inl rfl) (by decide) Tryz.underlying25 Tryz.underlying25 Z33a T33 rfl B33 (.inl ⟨46, 0, _, rfl, by decide, rfl, rfl, by simp, rfl, by simp [pures, ratE.pure]⟩) (by simp; omega) (by simp; omega) (by decide)) ?_
      refine zg4 ?_
      refine wl_regW (Weak.kill _ 46) ?_
      refine zg4 ?_
      exact nx1 (j + 1) (by omega)
    · obtain rfl : j = V + 1 := by omega
      refine zg11 ?_
      exact nx2 (i + 1) (m + (V + 1)) ⟨by omega, by rw [Nat.succ_mul]; omega⟩
  · obtain rfl : i = U + 1 := by omega
    have hE : gL m (wtV U V c) = wtL U V c := by rw [← hm]; rfl
    refine zg12 ?_
    rw [← hE]
    exact ret1f [47] rfl rfl (imm_refm ratE rfl rfl (by rw [gL_len]))
namespace H_c_Swap
theorem zSm {p q : Prop} (k : q) (e : p = q := by simp only [e1, e2, e3, e4, p1, p2, p3, q1, q2, q3, l1, t0, t1, r1, r2, r3, r4, Nat.zero_add, Nat.reduceMul, Nat.reduceAdd, b1, b2, b3, b4, b5, b6, i1, i2, i3, i4, i5, i6, Nat.reduceBEq, dfq, esw, Rat.add_zero, Nat.add_zero, take_gL, take_map_len, map_snoc, len_snoc, List.length_cons, List.length_nil, kills_map i64E, kills_map ratE, ratL_kill, spL_kill, LV.kill, kills]; exact rfl) : p := e.mpr k
end H_c_Swap
open H_c_Swap in
theorem c_Swap (U V : Nat) (c : List Rat) (hc : c.length = (U + 1) * (V + 1)) (hl : c.length ≤ 1048576) (hcR : ∀ x ∈ c, rl x ≤ 274877906944) : CallP Tryz.prog 81 [.agg [nI64 U, nI64 V, .list 3 (c.map ratL)]] (.agg [nI64 V, nI64 U, .list 3 ((swL U V c).map ratL)]) := by
  have hU : U + 1 ≤ c.length := by rw [hc]; exact Nat.le_mul_of_pos_right _ (Nat.succ_pos V)
  have hV : V + 1 ≤ c.length := by rw [hc]; exact Nat.le_mul_of_pos_left _ (Nat.succ_pos U)
  have hnp := net_pureN U V c
  refine fnP Tryz.func81 (ht := (fun g => LV.ren_pure g _ (net_pureN _ _ _))) ?_
  have esw : True := trivial
  refine zg21 ?_
  refine cp am1 (c_shaped U V c hc hl) ?_
  refine zg11 ?_
  refine st_pure rfl (.bin rfl rfl (add1N (by omega))) ?_
  refine zg4 ?_
  refine wl_weak ((Weak.cell 3 rfl (fun Z μ w cs h => rep_net 43 3 _ _ Z μ w cs h)).trans (Weak.newB _ 43 3 rfl)) ?_
  refine lp2 (fun (j m : Nat) L => ((((((St.mk L.slot (hp [(1, ⟨3, [.agg [nI64 U, nI64 V, .list 3 (c.map ratL)]], true⟩), (2, ⟨3, [.agg [.v (.int .i64 0), .v (.int .i64 0), .v (.slice none 0 0)]], true⟩), (3, ⟨3, [.agg [nI64 V, nI64 U, .ref 43 3 0 m]], true⟩), (43, ⟨3, (gL m (swV U V c)).map ratL, true⟩)])).put (some 1) (.eptr 1 3 0 0)).put (some 2) (.eptr 2 3 0 0)).put (some 3) (.eptr 3 3 0 0)).put (some 17) (nI64 (V + 1))).put (some 18) (nI64 j))) (fun j m => j ≤ V + 1 ∧ j * (U + 1) = m) (fun j m => V + 1 - j) 0 0 ⟨Nat.zero_le _, Nat.zero_mul _⟩ ?_
  rintro j m L1 ⟨hj, hm⟩
  refine zg6 ?_
  refine wl_if rfl (fun h19r h19 => ?_) (fun h19r h19 => ?_)
  · have hj2 : j ≤ V := by omega
    refine zg14 ?_
    refine st_pure rfl (.bin rfl rfl (add1N (by omega))) ?_
    refine zg4 ?_
    refine lp1 (fun (i : Nat) L => (((((((((St.mk L.slot (hp [(1, ⟨3, [.agg [nI64 U, nI64 V, .list 3 (c.map ratL)]], true⟩), (2, ⟨3, [.agg [.v (.int .i64 0), .v (.int .i64 0), .v (.slice none 0 0)]], true⟩), (3, ⟨3, [.agg [nI64 V, nI64 U, .ref 43 3 0 (m + i)]], true⟩), (43, ⟨3, (gL (m + i) (swV U V c)).map ratL, true⟩)])).put (some 1) (.eptr 1 3 0 0)).put (some 2) (.eptr 2 3 0 0)).put (some 3) (.eptr 3 3 0 0)).put (some 17) (nI64 (V + 1))).put (some 18) (nI64 j)).put (some 4) (nI64 j)).put (some 23) (nI64 (U + 1))).put (some 24) (nI64 i))) (fun i => i ≤ U + 1) (fun i => U + 1 - i) 0 (Nat.zero_le _) ?_
    rintro i L2 hi
    refine zg6 ?_
    refine wl_if rfl (fun h25r h25 => ?_) (fun h25r h25 => ?_)
    · have hi2 : i ≤ U := by omega
      have hmi := ix_lt (U := V) (V := U) hj2 hi2
      rw [hm, Nat.mul_comm, ← hc] at hmi
      have hix := ix_lt hi2 hj2
      rw [← hc] at hix
      have hgl := gL_len (m + i) (swV U V c)
      have esw : gL (m + (i + 1)) (swV U V c) = gL (m + i) (swV U V c) ++ [c.getD (i * (V + 1) + j) 0] := by rw [← Nat.add_assoc, gL_succ, swV, ← hm, ix_div hi2, ix_mod hi2]
      have hr1 := hcR _ (getD_mem (i := i * (V + 1) + j) hix)
      refine zg10 ?_
      refine wl_regD 16 (by decide +kernel) ?_
      refine zg7 ?_
      refine st_pure rfl (.bin rfl rfl (add1N (by omega))) ?_
      refine st_pure rfl (.bin rfl rfl (mulE rfl (by omega))) ?_
      refine zg1 ?_
      refine st_pure rfl (.bin rfl rfl (add64N (by omega))) ?_
      refine zg2 ?_
      refine st_pure rfl (.build0 SL33 Z33a) ?_
      refine cp am2 (c_RAdd (c.getD (i * (V + 1) + j) 0) 0 (by rw [show rl 0 = 1 from rfl]; omega)) ?_
      refine zg1 ?_
      refine st_store rfl (.app (news := [ratL (c.getD (i * (V + 1) + j) 0 + 0)]) rfl rfl rfl rfl rfl (by simp [gL_len]) (.inl rfl) (by decide) Tryz.underlying25 Tryz.underlying25 Z33a T33 rfl B33 (.inl ⟨42, 0, _, rfl, by decide, rfl, rfl, by simp, rfl, by simp [pures, ratE.pure]⟩) (by simp; omega) (by simp; omega) (by decide)) ?_
      refine zg5 ?_
      refine wl_regW (Weak.kill _ 42) ?_
      refine zg4 ?_
      exact nx1 (i + 1) (by omega)
    · obtain rfl : i = U + 1 := by omega
      refine zg11 ?_
      exact nx2 (j + 1) (m + (U + 1)) ⟨by omega, by rw [Nat.succ_mul]; omega⟩
  · obtain rfl : j = V + 1 := by omega
    have hE : gL m (swV U V c) = swL U V c := by rw [← hm]; rfl
    refine zg12 ?_
    rw [← hE]
    exact retC [43] rfl rfl rfl rfl rfl T27 (.agg (.cons (.pure rfl) (.cons (.pure rfl) (.cons (imm_refm ratE rfl rfl (by rw [gL_len])) .nil))))
end Go.Proofs.YthhdcfhaldcheaaGreat
end
section
set_option linter.unusedVariables false
set_option linter.unusedSimpArgs false
set_option maxHeartbeats 8000000
set_option maxRecDepth 100000
attribute [local irreducible] Go.Lg.opsL Go.Lg.wpL Go.Lg.thenL Go.Lg.blockL
namespace Go.Proofs.YthhdcfhaldcheaaGreat
open Go.Lg
theorem gL_zero (W : Nat → Rat) : gL 0 W = [] := rfl
namespace H_c_TMul
theorem zSm {p q : Prop} (k : q) (e : p = q := by simp only [e1, e2, e3, e4, p1, p2, p3, q1, q2, q3, l1, t0, t1, r1, r2, r3, r4, Nat.zero_add, Nat.reduceMul, Nat.reduceAdd, b1, b2, b3, b4, b5, b6, i1, i2, i3, i4, i5, i6, Nat.reduceBEq, frz_nil, dfq, dfi, rowI_len, egu, egv, Nat.add_zero, egd, esd, List.length_set, kills_map i64E, kills_map ratE, ratL_kill, spL_kill, LV.kill, kills]; exact rfl) : p := e.mpr k
theorem zSm1 {p q : Prop} (k : q) (e : p = q := by simp only [e1, e2, e3, e4, p1, p2, p3, q1, q2, q3, l1, t0, t1, r1, r2, r3, r4, Nat.zero_add, Nat.reduceMul, Nat.reduceAdd, b1, b2, b3, b4, b5, b6, i1, i2, i3, i4, i5, i6, Nat.reduceBEq, frz_nil, dfq, dfi, rowI_len, egu, egv, Nat.add_zero, egd, esd, List.length_set, kills_map i64E, kills_map ratE, ratL_kill, spL_kill, LV.kill, kills, gL_zero, List.nil_append, List.drop_zero]; exact rfl) : p := e.mpr k
theorem cl1 {p : Prop} (h : p := by first | rfl | (refine zSm1 ?_; first | exact trivial | rfl | (congr 3 <;> omega) | (congr 2 <;> omega))) : p := h
end H_c_TMul
open H_c_TMul in
theorem c_TMul (U1 V1 U2 V2 : Nat) (a b : List Rat) (ha : a.length = (U1 + 1) * (V1 + 1)) (hb : b.length = (U2 + 1) * (V2 + 1)) (hal : a.length ≤ 1048576) (hbl : b.length ≤ 1048576) (hu : U1 + U2 ≤ 40) (hv : V1 + V2 ≤ 40) (R : Nat) (hR1 : 1 ≤ R) (hR : R ≤ 1000) (haR : ∀ x ∈ a, rl x ≤ R) (hbR : ∀ x ∈ b, rl x ≤ R) : CallP Tryz.prog 49 [.agg [nI64 U1, nI64 V1, .list 3 (a.map ratL)], .agg [nI64 U2, nI64 V2, .list 3 (b.map ratL)]] (.tup [.agg [nI64 (U1 + U2), nI64 (V1 + V2), .list 3 ((tmL U1 V1 U2 V2 a b).map ratL)], iL 0]) := by
  have hA1 : U1 + 1 ≤ a.length := by rw [ha]; exact Nat.le_mul_of_pos_right _ (Nat.succ_pos V1)
  have hA2 : V1 + 1 ≤ a.length := by rw [ha]; exact Nat.le_mul_of_pos_left _ (Nat.succ_pos U1)
  have hB1 : U2 + 1 ≤ b.length := by rw [hb]; exact Nat.le_mul_of_pos_right _ (Nat.succ_pos V2)
  have hB2 : V2 + 1 ≤ b.length := by rw [hb]; exact Nat.le_mul_of_pos_left _ (Nat.succ_pos U2)
  have hnp1 := net_pureN U1 V1 a
  have hnp2 := net_pureN U2 V2 b
  have hT : ((U1 + U2 + 1) * (V1 + V2 + 1)) ≤ 1681 := Nat.le_trans (Nat.mul_le_mul (show U1 + U2 + 1 ≤ 41 by omega) (show V1 + V2 + 1 ≤ 41 by omega)) (by decide)
  have hwa := wt_rl (U := U1) (V := V1) (c := a) (by omega) (by omega) hR1 haR
  have hwb := wt_rl (U := U2) (V := V2) (c := b) (by omega) (by omega) hR1 hbR
  have hwal : (wtL U1 V1 a).length = a.length := by rw [wtL, gL_len, ha]
  have hwbl : (wtL U2 V2 b).length = b.length := by rw [wtL, gL_len, hb]
  obtain ⟨z1, hz1⟩ : ∃ z1, (V2 + 1) * (2 * R + 14) = z1 := ⟨_, rfl⟩
  obtain ⟨z2, hz2⟩ : ∃ z2, (U2 + 1) * z1 = z2 := ⟨_, rfl⟩
  obtain ⟨z3, hz3⟩ : ∃ z3, (V1 + 1) * z2 = z3 := ⟨_, rfl⟩
  have hq1 : z1 ≤ 41 * (2 * R + 14) := by rw [← hz1]; exact Nat.mul_le_mul_right _ (by omega)
  have hq2 : z2 ≤ 41 * z1 := by rw [← hz2]; exact Nat.mul_le_mul_right _ (by omega)
  have hq3 : z3 ≤ 41 * z2 := by rw [← hz3]; exact Nat.mul_le_mul_right _ (by omega)
  have hq4 : (U1 + 1) * z3 ≤ 41 * z3 := Nat.mul_le_mul_right _ (by omega)
  have hq5 : (U1 + 1) * z3 ≤ 2825761 * (2 * R + 14) := by omega
  refine fnP Tryz.func49 (ht := (tame2 (net_pureN _ _ _) rfl)) ?_
  have egu : True := trivial
  have egv : True := trivial
  have egd : True := trivial
  have esd : True := trivial
  refine zg14 ?_
  refine st_pure rfl (.bin rfl rfl (add64N (by omega))) ?_
  refine zg4 ?_
  refine st_pure rfl (.bin rfl rfl (add64N (by omega))) ?_
  refine zg12 ?_
  refine st_pure (guardX (v := false) rfl rfl ((decide_eq_false (by omega))) rfl) fa27 ?_
  refine st_pure (guardX (v := false) rfl rfl ((decide_eq_false (by omega))) rfl) ld3 ?_
  refine st_pure (guardX (v := false) rfl rfl ((decide_eq_false (by omega))) rfl) (.bin rfl rfl rfl) ?_
  refine st_pure rfl (.pickF rfl ((decide_eq_false (by omega)))) ?_
  refine zg2 ?_
  refine wl_condY (b := _) rfl (decide_eq_false (by omega)) ?_
  refine zg6 ?_
  refine cp am1 (c_shaped U1 V1 a ha hal) ?_
  refine zg3 ?_
  refine cp am1 (c_shaped U2 V2 b hb hbl) ?_
  refine zg11 ?_
  refine st_pure rfl (.bin rfl rfl (add1N (by omega))) ?_
  refine zg2 ?_
  refine st_pure rfl (.bin rfl rfl (add1N (by omega))) ?_
  refine st_pure rfl (.bin rfl rfl (mulE rfl (by omega))) ?_
  refine st_alloc rfl rfl (.mkE (n := ((U1 + U2 + 1) * (V1 + V2 + 1))) (m := ((U1 + U2 + 1) * (V1 + V2 + 1))) ml ml om om om) ?_
  refine zg5 ?_
  refine wl_regD 6 (by decide +kernel) ?_
  refine zg1 ?_
  refine cp am1 (c_weighted U1 V1 a ha hal (by omega) (by omega) R hR1 (by omega) haR) ?_
  refine zg1 ?_
  refine cp am1 (c_weighted U2 V2 b hb hbl (by omega) (by omega) R hR1 (by omega) hbR) ?_
  refine zg9 ?_
  refine st_pure rfl (.bin rfl rfl (add1N (by omega))) ?_
  refine zg4 ?_
  refine lp2 (fun (i : Nat) (oI : List Rat) L => (((((((((St.mk L.slot (hp [(2, ⟨3, [.agg [nI64 U1, nI64 V1, .list 3 (a.map ratL)]], true⟩), (3, ⟨3, [.agg [nI64 U2, nI64 V2, .list 3 (b.map ratL)]], true⟩), (4, ⟨3, [.agg [.v (.int .i64 0), .v (.int .i64 0), .v (.slice none 0 0)]], true⟩), (6, ⟨3, [.agg [nI64 (U1 + U2), nI64 (V1 + V2), .ref 55 3 0 ((U1 + U2 + 1) * (V1 + V2 + 1))]], true⟩), (55, ⟨3, oI.map ratL, true⟩)])).put (some 2) (.eptr 2 3 0 0)).put (some 3) (.eptr 3 3 0 0)).put (some 4) (.eptr 4 3 0 0)).put (some 6) (.eptr 6 3 0 0)).put (some 7) (.list 3 ((wtL U1 V1 a).map ratL))).put (some 8) (.list 3 ((wtL U2 V2 b).map ratL))).put (some 63) (nI64 (U1 + 1))).put (some 64) (nI64 i))) (fun i oI => i ≤ U1 + 1 ∧ oI = mI V1 V2 (V1 + V2) U2 (wtL U1 V1 a) (wtL U2 V2 b) i (List.replicate ((U1 + U2 + 1) * (V1 + V2 + 1)) 0) ∧ oI.length = ((U1 + U2 + 1) * (V1 + V2 + 1)) ∧ ∀ x ∈ oI, rl x ≤ 1 + i * z3) (fun i oI => U1 + 1 - i) 0 (List.replicate ((U1 + U2 + 1) * (V1 + V2 + 1)) 0) ⟨Nat.zero_le _, rfl, by simp, fun x hx => by rw [(List.mem_replicate.1 hx).2]; exact Nat.le_add_right 1 _⟩ ?_
  rintro i oI L1 ⟨hi, hoI, hlI, hrI⟩
  refine zg6 ?_
  refine wl_if rfl (fun h65r h65 => ?_) (fun h65r h65 => ?_)
  · have hi2 : i ≤ U1 := by omega
    have hi3 : i * z3 + z3 ≤ (U1 + 1) * z3 := by rw [← Nat.succ_mul]; exact Nat.mul_le_mul_right _ (by omega)
    refine zg14 ?_
    refine st_pure rfl (.bin rfl rfl (add1N (by omega))) ?_
    refine zg4 ?_
    refine lp2 (fun (j : Nat) (oJ : List Rat) L => ((((((((((((St.mk L.slot (hp [(2, ⟨3, [.agg [nI64 U1, nI64 V1, .list 3 (a.map ratL)]], true⟩), (3, ⟨3, [.agg [nI64 U2, nI64 V2, .list 3 (b.map ratL)]], true⟩), (4, ⟨3, [.agg [.v (.int .i64 0), .v (.int .i64 0), .v (.slice none 0 0)]], true⟩), (6, ⟨3, [.agg [nI64 (U1 + U2), nI64 (V1 + V2), .ref 55 3 0 ((U1 + U2 + 1) * (V1 + V2 + 1))]], true⟩), (55, ⟨3, oJ.map ratL, true⟩)])).put (some 2) (.eptr 2 3 0 0)).put (some 3) (.eptr 3 3 0 0)).put (some 4) (.eptr 4 3 0 0)).put (some 6) (.eptr 6 3 0 0)).put (some 7) (.list 3 ((wtL U1 V1 a).map ratL))).put (some 8) (.list 3 ((wtL U2 V2 b).map ratL))).put (some 63) (nI64 (U1 + 1))).put (some 64) (nI64 i)).put (some 9) (nI64 i)).put (some 69) (nI64 (V1 + 1))).put (some 70) (nI64 j))) (fun j oJ => j ≤ V1 + 1 ∧ oJ = mJ V1 V2 (V1 + V2) U2 (wtL U1 V1 a) (wtL U2 V2 b) i j oI ∧ oJ.length = ((U1 + U2 + 1) * (V1 + V2 + 1)) ∧ ∀ x ∈ oJ, rl x ≤ 1 + i * z3 + j * z2) (fun j oJ => V1 + 1 - j) 0 oI ⟨Nat.zero_le _, rfl, hlI, fun x hx => by rw [Nat.zero_mul]; exact hrI x hx⟩ ?_
    rintro j oJ L2 ⟨hj, hoJ, hlJ, hrJ⟩
    refine zg6 ?_
    refine wl_if rfl (fun h71r h71 => ?_) (fun h71r h71 => ?_)
    · have hj2 : j ≤ V1 := by omega
      have hj3 : j * z2 + z2 ≤ z3 := by rw [← Nat.succ_mul, ← hz3]; exact Nat.mul_le_mul_right _ (by omega)
      refine zg14 ?_
      refine st_pure rfl (.bin rfl rfl (add1N (by omega))) ?_
      refine zg4 ?_
      refine lp2 (fun (k : Nat) (oK : List Rat) L => (((((((((((((((St.mk L.slot (hp [(2, ⟨3, [.agg [nI64 U1, nI64 V1, .list 3 (a.map ratL)]], true⟩), (3, ⟨3, [.agg [nI64 U2, nI64 V2, .list 3 (b.map ratL)]], true⟩), (4, ⟨3, [.agg [.v (.int .i64 0), .v (.int .i64 0), .v (.slice none 0 0)]], true⟩), (6, ⟨3, [.agg [nI64 (U1 + U2), nI64 (V1 + V2), .ref 55 3 0 ((U1 + U2 + 1) * (V1 + V2 + 1))]], true⟩), (55, ⟨3, oK.map ratL, true⟩)])).put (some 2) (.eptr 2 3 0 0)).put (some 3) (.eptr 3 3 0 0)).put (some 4) (.eptr 4 3 0 0)).put (some 6) (.eptr 6 3 0 0)).put (some 7) (.list 3 ((wtL U1 V1 a).map ratL))).put (some 8) (.list 3 ((wtL U2 V2 b).map ratL))).put (some 63) (nI64 (U1 + 1))).put (some 64) (nI64 i)).put (some 9) (nI64 i)).put (some 69) (nI64 (V1 + 1))).put (some 70) (nI64 j)).put (some 10) (nI64 j)).put (some 75) (nI64 (U2 + 1))).put (some 76) (nI64 k))) (fun k oK => k ≤ U2 + 1 ∧ oK = mK V1 V2 (V1 + V2) (wtL U1 V1 a) (wtL U2 V2 b) i j k oJ ∧ oK.length = ((U1 + U2 + 1) * (V1 + V2 + 1)) ∧ ∀ x ∈ oK, rl x ≤ 1 + i * z3 + j * z2 + k * z1) (fun k oK => U2 + 1 - k) 0 oJ ⟨Nat.zero_le _, rfl, hlJ, fun x hx => by rw [Nat.zero_mul]; exact hrJ x hx⟩ ?_
      rintro k oK L3 ⟨hk, hoK, hlK, hrK⟩
      refine zg6 ?_
      refine wl_if rfl (fun h77r h77 => ?_) (fun h77r h77 => ?_)
      · have hk2 : k ≤ U2 := by omega
        have hk3 : k * z1 + z1 ≤ z2 := by rw [← Nat.succ_mul, ← hz2]; exact Nat.mul_le_mul_right _ (by omega)
        refine zg14 ?_
        refine st_pure rfl (.bin rfl rfl (add1N (by omega))) ?_
        refine zg4 ?_
        refine lp2 (fun (l : Nat) (o : List Rat) L => ((((((((((((((((((St.mk L.slot (hp [(2, ⟨3, [.agg [nI64 U1, nI64 V1, .list 3 (a.map ratL)]], true⟩), (3, ⟨3, [.agg [nI64 U2, nI64 V2, .list 3 (b.map ratL)]], true⟩), (4, ⟨3, [.agg [.v (.int .i64 0), .v (.int .i64 0), .v (.slice none 0 0)]], true⟩), (6, ⟨3, [.agg [nI64 (U1 + U2), nI64 (V1 + V2), .ref 55 3 0 ((U1 + U2 + 1) * (V1 + V2 + 1))]], true⟩), (55, ⟨3, o.map ratL, true⟩)])).put (some 2) (.eptr 2 3 0 0)).put (some 3) (.eptr 3 3 0 0)).put (some 4) (.eptr 4 3 0 0)).put (some 6) (.eptr 6 3 0 0)).put (some 7) (.list 3 ((wtL U1 V1 a).map ratL))).put (some 8) (.list 3 ((wtL U2 V2 b).map ratL))).put (some 63) (nI64 (U1 + 1))).put (some 64) (nI64 i)).put (some 9) (nI64 i)).put (some 69) (nI64 (V1 + 1))).put (some 70) (nI64 j)).put (some 10) (nI64 j)).put (some 75) (nI64 (U2 + 1))).put (some 76) (nI64 k)).put (some 11) (nI64 k)).put (some 81) (nI64 (V2 + 1))).put (some 82) (nI64 l))) (fun l o => l ≤ V2 + 1 ∧ o = mL V1 V2 (V1 + V2) (wtL U1 V1 a) (wtL U2 V2 b) i j k l oK ∧ o.length = ((U1 + U2 + 1) * (V1 + V2 + 1)) ∧ ∀ x ∈ o, rl x ≤ 1 + i * z3 + j * z2 + k * z1 + l * (2 * R + 14)) (fun l o => V2 + 1 - l) 0 oK ⟨Nat.zero_le _, rfl, hlK, fun x hx => by rw [Nat.zero_mul]; exact hrK x hx⟩ ?_
        rintro l o L4 ⟨hl, ho, hlL, hrL⟩
        refine zg6 ?_
        refine wl_if rfl (fun h83r h83 => ?_) (fun h83r h83 => ?_)
        · have hl2 : l ≤ V2 := by omega
          have hl3 : l * (2 * R + 14) + (2 * R + 14) ≤ z1 := by rw [← Nat.succ_mul, ← hz1]; exact Nat.mul_le_mul_right _ (by omega)
          have hx1 := ix_lt (U := U1 + U2) (V := V1 + V2) (i := i + k) (j := j + l) (by omega) (by omega)
          have hx2 := ix_lt hi2 hj2
          have hx3 := ix_lt hk2 hl2
          rw [← ha] at hx2
          rw [← hb] at hx3
          have hr1 := getD_rl (S := R + 6) (by omega) hwa (i * (V1 + 1) + j)
          have hr2 := getD_rl (S := R + 6) (by omega) hwb (k * (V2 + 1) + l)
          have hr3 := getD_rl (by omega) hrL ((i + k) * (V1 + V2 + 1) + j + l)
          have hr4 := rl_mul ((wtL U1 V1 a).getD (i * (V1 + 1) + j) 0) ((wtL U2 V2 b).getD (k * (V2 + 1) + l) 0)
          have hr5 := rl_add (o.getD ((i + k) * (V1 + V2 + 1) + j + l) 0) ((wtL U1 V1 a).getD (i * (V1 + 1) + j) 0 * (wtL U2 V2 b).getD (k * (V2 + 1) + l) 0)
          refine zg14 ?_
          refine st_pure rfl (.bin rfl rfl (add64N (by omega))) ?_
          refine zg2 ?_
          refine st_pure rfl (.bin rfl rfl (add1N (by omega))) ?_
          refine st_pure rfl (.bin rfl rfl (mulE rfl (by omega))) ?_
          refine zg1 ?_
          refine st_pure rfl (.bin rfl rfl (add64N (by omega))) ?_
          refine zg1 ?_
          refine st_pure rfl (.bin rfl rfl (add64N (by omega))) ?_
          refine zg3 ?_
          refine wl_regD 31 (by decide +kernel) ?_
          refine zg8 ?_
          try simp only [t1, dfq, Nat.zero_add]
          refine zg4 ?_
          refine st_pure rfl (.bin rfl rfl (add1N (by omega))) ?_
          refine st_pure rfl (.bin rfl rfl (mulE rfl (by omega))) ?_
          refine zg1 ?_
          refine st_pure rfl (.bin rfl rfl (add64N (by omega))) ?_
          refine zg6 ?_
          refine st_pure rfl (.bin rfl rfl (add1N (by omega))) ?_
          refine st_pure rfl (.bin rfl rfl (mulE rfl (by omega))) ?_
          refine zg1 ?_
          refine st_pure rfl (.bin rfl rfl (add64N (by omega))) ?_
          refine zg2 ?_
          refine cp am2 (c_RMul ((wtL U1 V1 a).getD (i * (V1 + 1) + j) 0) ((wtL U2 V2 b).getD (k * (V2 + 1) + l) 0) (by omega)) ?_
          refine cp am2 (c_RAdd (o.getD ((i + k) * (V1 + V2 + 1) + j + l) 0) ((wtL U1 V1 a).getD (i * (V1 + 1) + j) 0 * (wtL U2 V2 b).getD (k * (V2 + 1) + l) 0) (by omega)) ?_
          refine zg10 ?_
          exact nx2 (l + 1) (o.set ((i + k) * (V1 + V2 + 1) + j + l) (o.getD ((i + k) * (V1 + V2 + 1) + j + l) 0 + (wtL U1 V1 a).getD (i * (V1 + 1) + j) 0 * (wtL U2 V2 b).getD (k * (V2 + 1) + l) 0)) ⟨by omega, by rw [ho]; rfl, by rw [List.length_set]; exact hlL, set_rl (fun x hx => by have := hrL x hx; rw [Nat.succ_mul]; omega) (by rw [Nat.succ_mul]; omega)⟩
        · obtain rfl : l = V2 + 1 := by omega
          refine zg11 ?_
          exact nx2 (k + 1) o ⟨by omega, by rw [ho, hoK]; rfl, hlL, fun x hx => by have := hrL x hx; rw [hz1] at this; rw [Nat.succ_mul]; omega⟩
      · obtain rfl : k = U2 + 1 := by omega
        rw [hz2] at hrK
        refine zg11 ?_
        exact nx2 (j + 1) oK ⟨by omega, by rw [hoK, hoJ]; rfl, hlK, fun x hx => by have := hrK x hx; rw [Nat.succ_mul]; omega⟩
    · obtain rfl : j = V1 + 1 := by omega
      rw [hz3] at hrJ
      refine zg11 ?_
      exact nx2 (i + 1) oJ ⟨by omega, by rw [hoJ, hoI]; rfl, hlJ, fun x hx => by have := hrJ x hx; rw [Nat.succ_mul]; omega⟩
  · obtain rfl : i = U1 + 1 := by omega
    have hOF : oI = (mTop U1 V1 U2 V2 a b) := hoI
    clear hoI
    subst hOF
    refine zg6 ?_
    refine wl_regD 8 (by decide +kernel) ?_
    refine zg2 ?_
    refine cp am1 (c_choose7 (U1 + U2) hu) ?_
    refine zg2 ?_
    refine cp am1 (c_choose7 (V1 + V2) hv) ?_
    refine zg13 ?_
    refine lp2 (fun (i m : Nat) L => (((((((((St.mk L.slot (hp [(2, ⟨3, [.agg [nI64 U1, nI64 V1, .list 3 (a.map ratL)]], true⟩), (3, ⟨3, [.agg [nI64 U2, nI64 V2, .list 3 (b.map ratL)]], true⟩), (4, ⟨3, [.agg [.v (.int .i64 0), .v (.int .i64 0), .v (.slice none 0 0)]], true⟩), (6, ⟨3, [.agg [nI64 (U1 + U2), nI64 (V1 + V2), .ref 55 3 0 ((U1 + U2 + 1) * (V1 + V2 + 1))]], true⟩), (55, ⟨3, (gL m (dvV (U1 + U2) (V1 + V2) (mTop U1 V1 U2 V2 a b)) ++ (mTop U1 V1 U2 V2 a b).drop m).map ratL, true⟩)])).put (some 2) (.eptr 2 3 0 0)).put (some 3) (.eptr 3 3 0 0)).put (some 4) (.eptr 4 3 0 0)).put (some 6) (.eptr 6 3 0 0)).put (some 14) (.list 1 ((rowI (U1 + U2)).map i64L))).put (some 15) (.list 1 ((rowI (V1 + V2)).map i64L))).put (some 138) (nI64 (U1 + U2 + 1))).put (some 139) (nI64 i))) (fun i m => i ≤ U1 + U2 + 1 ∧ i * (V1 + V2 + 1) = m) (fun i m => U1 + U2 + 1 - i) 0 0 ⟨Nat.zero_le _, Nat.zero_mul _⟩ (h0 := ⟨_, Weak.of_eq (put_id' (put_id' (put_id' (put_id' (put_id' (put_id' (put_id' (put_id' (mk_id' cl1) cl1) cl1) cl1) cl1) cl1) cl1) cl1) cl1)⟩) ?_
    rintro i m L5 ⟨hi, hm⟩
    refine zg6 ?_
    refine wl_if rfl (fun h140r h140 => ?_) (fun h140r h140 => ?_)
    · have hi2 : i ≤ U1 + U2 := by omega
      have egu := rowI_get hi2
      have hcu := chs_40 i hu
      refine zg18 ?_
      refine lp1 (fun (j : Nat) L => ((((((((((((St.mk L.slot (hp [(2, ⟨3, [.agg [nI64 U1, nI64 V1, .list 3 (a.map ratL)]], true⟩), (3, ⟨3, [.agg [nI64 U2, nI64 V2, .list 3 (b.map ratL)]], true⟩), (4, ⟨3, [.agg [.v (.int .i64 0), .v (.int .i64 0), .v (.slice none 0 0)]], true⟩), (6, ⟨3, [.agg [nI64 (U1 + U2), nI64 (V1 + V2), .ref 55 3 0 ((U1 + U2 + 1) * (V1 + V2 + 1))]], true⟩), (55, ⟨3, (gL (m + j) (dvV (U1 + U2) (V1 + V2) (mTop U1 V1 U2 V2 a b)) ++ (mTop U1 V1 U2 V2 a b).drop (m + j)).map ratL, true⟩)])).put (some 2) (.eptr 2 3 0 0)).put (some 3) (.eptr 3 3 0 0)).put (some 4) (.eptr 4 3 0 0)).put (some 6) (.eptr 6 3 0 0)).put (some 14) (.list 1 ((rowI (U1 + U2)).map i64L))).put (some 15) (.list 1 ((rowI (V1 + V2)).map i64L))).put (some 138) (nI64 (U1 + U2 + 1))).put (some 139) (nI64 i)).put (some 16) (nI64 i)).put (some 143) (nI64 (V1 + V2 + 1))).put (some 144) (nI64 j))) (fun j => j ≤ V1 + V2 + 1) (fun j => V1 + V2 + 1 - j) 0 (Nat.zero_le _) ?_
      rintro j L6 hj
      refine zg6 ?_
      refine wl_if rfl (fun h145r h145 => ?_) (fun h145r h145 => ?_)
      · have hj2 : j ≤ V1 + V2 := by omega
        have egv := rowI_get hj2
        have hcv := chs_40 j hv
        have hix := ix_lt hi2 hj2
        rw [hm] at hix
        have egd := get_gd (W := (dvV (U1 + U2) (V1 + V2) (mTop U1 V1 U2 V2 a b))) (o := (mTop U1 V1 U2 V2 a b)) (m := m + j)
        have hdv : (dvV (U1 + U2) (V1 + V2) (mTop U1 V1 U2 V2 a b)) (m + j) = (mTop U1 V1 U2 V2 a b).getD (m + j) 0 / ((((chs (U1 + U2) i : Nat) : Int) : Rat) * (((chs (V1 + V2) j : Nat) : Int) : Rat)) := by rw [dvV, ← hm, ix_div hj2, ix_mod hj2]
        have esd := set_gd (W := (dvV (U1 + U2) (V1 + V2) (mTop U1 V1 U2 V2 a b))) (o := (mTop U1 V1 U2 V2 a b)) (m := m + j) (by omega) hdv.symm
        have hgl : (gL (m + j) (dvV (U1 + U2) (V1 + V2) (mTop U1 V1 U2 V2 a b)) ++ (mTop U1 V1 U2 V2 a b).drop (m + j)).length = ((U1 + U2 + 1) * (V1 + V2 + 1)) := by rw [List.length_append, gL_len, List.length_drop]; omega
        have hr1 := chsR_rl i hu
        have hr2 := chsR_rl j hv
        have hr3 := getD_rl (by omega) hrI (m + j)
        have hr4 := rl_mul ((((chs (U1 + U2) i : Nat) : Int) : Rat)) ((((chs (V1 + V2) j : Nat) : Int) : Rat))
        refine zg15 ?_
        refine st_pure rfl (.bin rfl rfl (add1N (by omega))) ?_
        refine st_pure rfl (.bin rfl rfl (mulE hm (by omega))) ?_
        refine zg1 ?_
        refine st_pure rfl (.bin rfl rfl (add64N (by omega))) ?_
        refine zg3 ?_
        refine wl_regF 24 [22] (by decide +kernel) ?_
        refine zg8 ?_
        try simp only [t1, dfq, Nat.zero_add, egd]
        refine zg4 ?_
        try simp only [t1, dfi, Nat.zero_add, egu]
        refine cp am1 (c_RInt ((chs (U1 + U2) i : Nat) : Int) (by omega) (by omega)) ?_
        refine zg4 ?_
        try simp only [t1, dfi, Nat.zero_add, egv]
        refine cp am1 (c_RInt ((chs (V1 + V2) j : Nat) : Int) (by omega) (by omega)) ?_
        refine cp am2 (c_RMul ((((chs (U1 + U2) i : Nat) : Int) : Rat)) ((((chs (V1 + V2) j : Nat) : Int) : Rat)) (by omega)) ?_
        refine cp am2 (c_RQuo ((mTop U1 V1 U2 V2 a b).getD (m + j) 0) ((((chs (U1 + U2) i : Nat) : Int) : Rat) * (((chs (V1 + V2) j : Nat) : Int) : Rat)) (by omega)) ?_
        refine zg13 ?_
        exact nx1 (j + 1) (by omega)
      · obtain rfl : j = V1 + V2 + 1 := by omega
        refine zg11 ?_
        exact nx2 (i + 1) (m + (V1 + V2 + 1)) ⟨by omega, by rw [Nat.succ_mul]; omega⟩ (he := Weak.of_eq (put_id' (put_id' (put_id' (put_id' (put_id' (put_id' (put_id' (put_id' (mk_id' cl1) cl1) cl1) cl1) cl1) cl1) cl1) cl1) cl1))
    · obtain rfl : i = U1 + U2 + 1 := by omega
      have hE : (gL m (dvV (U1 + U2) (V1 + V2) (mTop U1 V1 U2 V2 a b)) ++ (mTop U1 V1 U2 V2 a b).drop m) = tmL U1 V1 U2 V2 a b := by rw [← hm, List.drop_of_length_le (by omega), List.append_nil]; rfl
      refine zg13 ?_
      rw [← hE]
      exact retCT [55] rfl rfl rfl rfl rfl T27 (.agg (.cons (.pure rfl) (.cons (.pure rfl) (.cons (imm_refm ratE rfl rfl (by rw [List.length_append, gL_len, List.length_drop]; omega)) .nil)))) rfl (.pure rfl)
end Go.Proofs.YthhdcfhaldcheaaGreat
end
section
set_option linter.unusedVariables false
set_option linter.unusedSimpArgs false
set_option maxHeartbeats 8000000
set_option maxRecDepth 100000
attribute [local irreducible] Go.Lg.opsL Go.Lg.wpL Go.Lg.thenL Go.Lg.blockL
namespace Go.Proofs.YthhdcfhaldcheaaGreat
open Go.Lg
end Go.Proofs.YthhdcfhaldcheaaGreat
namespace Go.Lg
theorem clo_kill (b : Nat) (f : FuncId) (caps : List LV) (h : pures caps = true) : (LV.clo f caps).kill b = .clo f caps := LV.kill_pure b _ (by simpa [LV.pure] using h)
end Go.Lg
namespace Go.Proofs.YthhdcfhaldcheaaGreat
open Go.Lg
def rwL (V : Nat) (c : List Rat) (i : Nat) : List Rat := (c.take ((i + 1) * (V + 1))).drop (i * (V + 1))
theorem rw_le {U V i : Nat} {c : List Rat} (hc : c.length = (U + 1) * (V + 1)) (hi : i ≤ U) : i * (V + 1) + (V + 1) ≤ c.length := by
  rw [hc, ← Nat.succ_mul]; exact Nat.mul_le_mul_right _ (by omega)
theorem rwL_len {U V i : Nat} {c : List Rat} (hc : c.length = (U + 1) * (V + 1)) (hi : i ≤ U) : (rwL V c i).length = V + 1 := by
  have := rw_le hc hi
  unfold rwL
  rw [List.length_drop, List.length_take, Nat.succ_mul]; omega
theorem rwL_mem {V i : Nat} {c : List Rat} {x : Rat} (h : x ∈ rwL V c i) : x ∈ c := List.mem_of_mem_take (List.mem_of_mem_drop h)
theorem rwL_get {U V i j : Nat} {c : List Rat} (hc : c.length = (U + 1) * (V + 1)) (hi : i ≤ U) (hj : j ≤ V) : (rwL V c i).getD j 0 = c.getD (i * (V + 1) + j) 0 := by
  have := rw_le hc hi
  unfold rwL
  rw [getD_dropR, List.getD_eq_getElem?_getD, List.getElem?_take_of_lt (by rw [Nat.succ_mul]; omega), ← List.getD_eq_getElem?_getD]
def rsL (g : List Rat → List Rat) (V : Nat) (c : List Rat) : Nat → List Rat
  | 0 => []
  | i + 1 => rsL g V c i ++ g (rwL V c i)
theorem rsL_len {g : List Rat → List Rat} {V W U : Nat} {c : List Rat} (hg : ∀ i, i ≤ U → (g (rwL V c i)).length = W + 1) : ∀ n, n ≤ U + 1 → (rsL g V c n).length = n * (W + 1)
  | 0, _ => by rw [Nat.zero_mul]; rfl
  | n + 1, h => by rw [rsL, List.length_append, rsL_len hg n (by omega), hg n (by omega), Nat.succ_mul]
theorem swL_len (U V : Nat) (c : List Rat) : (swL U V c).length = (V + 1) * (U + 1) := gL_len _ _
theorem sw_rl {U V R : Nat} {c : List Rat} (hR : 1 ≤ R) (h : ∀ x ∈ c, rl x ≤ R) : ∀ x ∈ swL U V c, rl x ≤ R := by
  intro x hx
  obtain ⟨i, _, rfl⟩ := List.mem_map.1 hx
  exact getD_rl hR h _
def colT (U V : Nat) (c : List Rat) (v : Rat) : List Rat := rsL (fun p => [evP p v]) V c (U + 1)
def rowT (U V : Nat) (c : List Rat) (u : Rat) : List Rat := rsL (fun p => [evP p u]) U (swL U V c) (V + 1)
theorem colT_len (U V : Nat) (c : List Rat) (v : Rat) : (colT U V c v).length = U + 1 := by
  have := rsL_len (g := fun p => [evP p v]) (V := V) (W := 0) (U := U) (c := c) (fun i _ => rfl) (U + 1) (Nat.le_refl _)
  rw [colT, this]; omega
theorem rowT_len (U V : Nat) (c : List Rat) (u : Rat) : (rowT U V c u).length = V + 1 := by
  have := rsL_len (g := fun p => [evP p u]) (V := U) (W := 0) (U := V) (c := swL U V c) (fun i _ => rfl) (V + 1) (Nat.le_refl _)
  rw [rowT, this]; omega
def evT (U V : Nat) (c : List Rat) (u v : Rat) : Rat := evP (rowT U V c u) v
def dfU (U V : Nat) (c : List Rat) : List Rat := swL V (U - 1) (rsL difP U (swL U V c) (V + 1))
def dfV (U V : Nat) (c : List Rat) : List Rat := rsL difP V c (U + 1)
theorem dif_W {p : List Rat} {U : Nat} (h : p.length = U + 1) : (difP p).length = U - 1 + 1 := by rw [difP_len]; split <;> omega
def vaT (u v : Int) (c : List Rat) : Bool := decide (0 ≤ u ∧ 0 ≤ v ∧ u ≤ 40 ∧ v ≤ 40 ∧ (c.length : Int) = (u + 1) * (v + 1))
theorem mulI {a b : Int} (ha : 0 ≤ a) (hb : 0 ≤ b) (ha2 : a ≤ 41) (hb2 : b ≤ 41) : binI .mul .i64 a b = some (.int .i64 (a * b)) := by
  have h1 := Int.mul_nonneg ha hb
  have h2 := Int.mul_le_mul ha2 hb2 hb (by decide)
  exact mul64 (by omega) (by omega)
theorem a7_ev : evT 1 1 [0, 0, 0, 1] (1 / 2) (1 / 2) = 1 / 4 := by decide +kernel
theorem a7_df : dfU 1 1 [0, 0, 0, 1] = [0, 1] := by decide +kernel
theorem c_tx1 : CallP Tryz.prog 87 [ratL 1] (.v (.string ⟨#[49]⟩)) := by
  have := c_FText 1 (by decide +kernel) (by decide +kernel) (by decide +kernel)
  rw [show (1 : Rat).den = 1 by decide +kernel, show (1 : Rat).num.natAbs = 1 by decide +kernel] at this
  exact this
theorem hs_7 (p : List Rat) (h : ∀ x ∈ p, rl x ≤ 1) (hl : p.length ≤ 4) : HS p (1 / 2) := by
  refine ⟨6, by decide +kernel, by decide, fun x hx => ?_⟩
  have h5 := h x hx
  have h6 : 2 ^ p.length ≤ 2 ^ 4 := Nat.pow_le_pow_right (by decide) hl
  exact Nat.le_trans (Nat.mul_le_mul (show rl x + 6 ≤ 7 by omega) h6) (by decide)
theorem rs_rl {g : List Rat → List Rat} {V U R : Nat} {c : List Rat} (h : ∀ i, i ≤ U → ∀ x ∈ g (rwL V c i), rl x ≤ R) : ∀ {n : Nat}, n ≤ U + 1 → ∀ x ∈ rsL g V c n, rl x ≤ R
  | 0, _, x, hx => by cases hx
  | n + 1, hn, x, hx => by
    rcases List.mem_append.1 (show x ∈ rsL g V c n ++ g (rwL V c n) from hx) with h1 | h1
    · exact rs_rl h (by omega) x h1
    · exact h n (by omega) x h1
open H0 in
theorem c_row7 (U V : Nat) (c : List Rat) (hc : c.length = (U + 1) * (V + 1)) (hl : c.length ≤ 1048576) (i : Nat) (hi : i ≤ U) : CallP Tryz.prog 145 [.agg [nI64 U, nI64 V, .list 3 (c.map ratL)], nI64 i] (.list 3 ((rwL V c i).map ratL)) := by
  have hU : U + 1 ≤ c.length := by rw [hc]; exact Nat.le_mul_of_pos_right _ (Nat.succ_pos V)
  have hV : V + 1 ≤ c.length := by rw [hc]; exact Nat.le_mul_of_pos_left _ (Nat.succ_pos U)
  have hnp := net_pureN U V c
  have hri := rw_le hc hi
  have hrs : (i + 1) * (V + 1) = i * (V + 1) + (V + 1) := Nat.succ_mul i (V + 1)
  refine fnP Tryz.func145 ?_
  refine zg13 ?_
  refine st_pure rfl (.bin rfl rfl (add1N (by omega))) ?_
  refine st_pure rfl (.bin rfl rfl (mulE rfl (by omega))) ?_
  refine zg1 ?_
  refine st_pure rfl (.bin rfl rfl (add1N (by omega))) ?_
  refine zg2 ?_
  refine st_pure rfl (.bin rfl rfl (add1N (by omega))) ?_
  refine st_pure rfl (.bin rfl rfl (mulE rfl (by omega))) ?_
  refine st_pure rfl (.sliceLb (a := _) (h := _) ratE rfl Tryz.underlying25 T33 rfl rfl (by omega) (by omega)) ?_
  refine zg4 ?_
  exact ret1 rfl (by first | exact .pure rfl | exact .pure (limL_pure _) | exact .pure (magL_pure _) | exact .pure (ratE.pure _) | exact .pure (pure_lst u32E _ _) | exact .pure (pure_lst ratE _ _))
namespace H_c_rows
theorem zSm {p q : Prop} (k : q) (e : p = q := by simp only [e1, e2, e3, e4, p1, p2, p3, q1, q2, q3, l1, t0, t1, r1, r2, r3, r4, Nat.zero_add, Nat.reduceMul, Nat.reduceAdd, b1, b2, b3, b4, b5, b6, i1, i2, i3, i4, i5, i6, Nat.reduceBEq, frz_nil, dfq, clo_kill _ _ _ hcp, ers, etk, elen, Nat.add_sub_cancel, List.length_map, kills_map ratE, ratL_kill, spL_kill, LV.kill, kills]; exact rfl) : p := e.mpr k
theorem zSm1 {p q : Prop} (k : q) (e : p = q := by simp only [e1, e2, e3, e4, p1, p2, p3, q1, q2, q3, l1, t0, t1, r1, r2, r3, r4, Nat.zero_add, Nat.reduceMul, Nat.reduceAdd, b1, b2, b3, b4, b5, b6, i1, i2, i3, i4, i5, i6, Nat.reduceBEq, frz_nil, dfq, clo_kill _ _ _ hcp, ers, etk, elen, Nat.add_sub_cancel, List.length_map, kills_map ratE, ratL_kill, spL_kill, LV.kill, kills, elen]; exact rfl) : p := e.mpr k
theorem nf1 {p : Prop} (h : p := by first | (refine zSm1 ?_; exact rfl) | exact rfl) : p := h
end H_c_rows
open H_c_rows in
theorem c_rows (U V : Nat) (c : List Rat) (hc : c.length = (U + 1) * (V + 1)) (hl : c.length ≤ 1048576) (f : Nat) (caps : List LV) (hcp : pures caps = true) (hcs : ∀ x ∈ caps, x.csize = 1 ∧ x.isAgg = false) (g : List Rat → List Rat) (W : Nat) (hf : ∀ i, i ≤ U → CallP Tryz.prog f ([.list 3 ((rwL V c i).map ratL)] ++ caps) (.list 3 ((g (rwL V c i)).map ratL))) (hg : ∀ i, i ≤ U → (g (rwL V c i)).length = W + 1) (hW : (U + 1) * (W + 1) ≤ 1048576) : CallP Tryz.prog 93 [.agg [nI64 U, nI64 V, .list 3 (c.map ratL)], .clo f caps] (.agg [nI64 U, nI64 W, .list 3 ((rsL g V c (U + 1)).map ratL)]) := by
  have hU : U + 1 ≤ c.length := by rw [hc]; exact Nat.le_mul_of_pos_right _ (Nat.succ_pos V)
  have hV : V + 1 ≤ c.length := by rw [hc]; exact Nat.le_mul_of_pos_left _ (Nat.succ_pos U)
  have hnp := net_pureN U V c
  have hW2 : W + 1 ≤ (U + 1) * (W + 1) := Nat.le_mul_of_pos_left _ (Nat.succ_pos U)
  refine fnP Tryz.func93 (ht := (fun g => LV.ren_pure g _ (net_pureN _ _ _))) ?_
  have ers : True := trivial
  have etk : True := trivial
  have elen : True := trivial
  refine zg19 ?_
  refine cp am1 (c_shaped U V c hc hl) ?_
  refine zg11 ?_
  refine st_pure rfl (.bin rfl rfl (add1N (by omega))) ?_
  refine zg4 ?_
  refine wl_weak ((Weak.cell 5 rfl (fun Z μ w cs h => rep_net 35 3 _ _ Z μ w cs h)).trans (Weak.newB _ 35 3 rfl)) ?_
  refine lp3 (fun (i m v : Nat) L => (((((((St.mk L.slot (hp [(2, ⟨3, [.agg [nI64 U, nI64 V, .list 3 (c.map ratL)]], true⟩), (4, ⟨3, [.agg [.v (.int .i64 0), .v (.int .i64 0), .v (.slice none 0 0)]], true⟩), (5, ⟨3, [.agg [nI64 U, nI64 v, .ref 35 3 0 m]], true⟩), (35, ⟨3, (rsL g V c i).map ratL, true⟩)])).put (some 1) (.clo f caps)).put (some 2) (.eptr 2 3 0 0)).put (some 4) (.eptr 4 3 0 0)).put (some 5) (.eptr 5 3 0 0)).put (some 19) (nI64 (U + 1))).put (some 20) (nI64 i))) (fun i m v => i ≤ U + 1 ∧ i * (W + 1) = m ∧ (i = 0 ∨ v = W)) (fun i m v => U + 1 - i) 0 0 0 ⟨Nat.zero_le _, Nat.zero_mul _, .inl rfl⟩ ?_
  rintro i m v L1 ⟨hi, hm, hv⟩
  refine zg6 ?_
  refine wl_if rfl (fun h21r h21 => ?_) (fun h21r h21 => ?_)
  · have hi2 : i ≤ U := by omega
    have hfi := hf i hi2
    have elen := hg i hi2
    have hrl := rsL_len hg i hi
    rw [hm] at hrl
    have hmu : m + (W + 1) ≤ (U + 1) * (W + 1) := by rw [← hm, ← Nat.succ_mul]; exact Nat.mul_le_mul_right _ (by omega)
    have ers : (rsL g V c i).map ratL ++ (g (rwL V c i)).map ratL = (rsL g V c (i + 1)).map ratL := by rw [rsL, List.map_append]
    have etk : ((rsL g V c i).map ratL).take m = (rsL g V c i).map ratL := List.take_of_length_le (by rw [List.length_map]; omega)
    refine zg15 ?_
    refine cp am2 (c_row7 U V c hc hl i hi2) ?_
    refine st_opc [] rfl rfl (.clo (f := f) (cap := caps) (args := [.list 3 ((rwL V c i).map ratL)]) rfl (.cons im0 .nil) ⟨hcp, hcs⟩ hfi.1 (by decide) (fun _ h => by cases h)) (hfi.2 _) ?_
    refine zg7 ?_
    refine st_pure rfl (.bin rfl rfl (sub1N (by omega) (by omega))) ?_
    refine zg1 ?_
    refine st_store rfl (.store rfl rfl rfl rfl rfl rfl rfl T3 ne0) ?_
    refine st_end nf1 ?_
    refine zg5 ?_
    refine st_store rfl (.app (news := (g (rwL V c i)).map ratL) rfl rfl rfl rfl rfl (by rw [List.length_map]; omega) (.inl rfl) (by decide) Tryz.underlying25 Tryz.underlying38 Z33a T33 rfl B33 (.inr (.inl rfl)) (by rw [List.length_map, elen]; omega) (by rw [List.length_map, elen]; omega) (by decide)) ?_
    refine zg10 ?_
    exact nx3 (i + 1) (m + (W + 1)) W ⟨by omega, by rw [Nat.succ_mul]; omega, .inr rfl⟩
  · obtain rfl : i = U + 1 := by omega
    obtain rfl : v = W := by omega
    have hrl := rsL_len hg (U + 1) (Nat.le_refl _)
    refine zg12 ?_
    exact retC [35] rfl rfl rfl rfl rfl T27 (.agg (.cons (.pure rfl) (.cons (.pure rfl) (.cons (imm_refm ratE rfl rfl (by omega)) .nil))))
open H0 in
theorem c_Col1 (p : List Rat) (v : Rat) (h : HS p v) (hp0 : 0 < p.length) : CallP Tryz.prog 94 [.list 3 (p.map ratL), .boxp (ratL v)] (.list 3 ([evP p v].map ratL)) := by
  refine fnP Tryz.func94 ?_
  refine zg9 ?_
  refine cp am2 (c_BEval p v h hp0) ?_
  refine zg5 ?_
  exact ret1f [7] rfl rfl (imm_refm ratE rfl rfl rfl)
open H0 in
theorem c_Column (U V : Nat) (c : List Rat) (hc : c.length = (U + 1) * (V + 1)) (hl : c.length ≤ 1048576) (v : Rat) (hS : ∀ i, i ≤ U → HS (rwL V c i) v) : CallP Tryz.prog 20 [.agg [nI64 U, nI64 V, .list 3 (c.map ratL)], ratL v] (.list 3 ((colT U V c v).map ratL)) := by
  have hU : U + 1 ≤ c.length := by rw [hc]; exact Nat.le_mul_of_pos_right _ (Nat.succ_pos V)
  have hV : V + 1 ≤ c.length := by rw [hc]; exact Nat.le_mul_of_pos_left _ (Nat.succ_pos U)
  have hnp := net_pureN U V c
  have hbp : pures [LV.boxp (ratL v)] = true := by simp [pures, LV.pure, ratE.pure]
  refine fnP Tryz.func20 ?_
  refine zg10 ?_
  refine st_opc [3] rfl rfl (.mk (caps := [.boxp (ratL v)]) (.cons (.eptr rfl rfl rfl (ratE.csize _) (ratL_all _) (ratE.pure _) rfl) .nil) (fun x hx => by rw [List.mem_singleton.1 hx]; exact ⟨rfl, rfl⟩)) rfl ?_
  refine st_callP rfl (.cons (.pure hnp) (.cons (.pure (show LV.pure (.clo 94 [.boxp (ratL v)]) = true by simpa [LV.pure] using hbp)) .nil)) (c_rows U V c hc hl 94 [.boxp (ratL v)] hbp (fun x hx => by rw [List.mem_singleton.1 hx]; exact ⟨rfl, rfl⟩) (fun p => [evP p v]) 0 (fun i hi => c_Col1 _ v (hS i hi) (by rw [rwL_len hc hi]; exact Nat.succ_pos V)) (fun i hi => rfl) (by omega)) ?_
  refine st_pure rfl (.field rfl SL27 rfl (pure_lst ratE _ _)) ?_
  refine zg4 ?_
  exact ret1 rfl (by first | exact .pure rfl | exact .pure (limL_pure _) | exact .pure (magL_pure _) | exact .pure (ratE.pure _) | exact .pure (pure_lst u32E _ _) | exact .pure (pure_lst ratE _ _))
open H0 in
theorem c_TRow (U V : Nat) (c : List Rat) (hc : c.length = (U + 1) * (V + 1)) (hl : c.length ≤ 1048576) (hcR : ∀ x ∈ c, rl x ≤ 274877906944) (u : Rat) (hS : ∀ j, j ≤ V → HS (rwL U (swL U V c) j) u) : CallP Tryz.prog 18 [.agg [nI64 U, nI64 V, .list 3 (c.map ratL)], ratL u] (.list 3 ((rowT U V c u).map ratL)) := by
  have hU : U + 1 ≤ c.length := by rw [hc]; exact Nat.le_mul_of_pos_right _ (Nat.succ_pos V)
  have hV : V + 1 ≤ c.length := by rw [hc]; exact Nat.le_mul_of_pos_left _ (Nat.succ_pos U)
  have hnp := net_pureN U V c
  have hsl := swL_len U V c
  have hsw : (swL U V c).length ≤ 1048576 := by rw [hsl, Nat.mul_comm, ← hc]; exact hl
  have hnp2 := net_pureN V U (swL U V c)
  refine fnP Tryz.func18 ?_
  refine zg8 ?_
  refine wl_regD 5 (by decide +kernel) ?_
  refine zg1 ?_
  refine cp am1 (c_Swap U V c hc hl hcR) ?_
  refine zg1 ?_
  refine cp am2 (c_Column V U (swL U V c) hsl hsw u hS) ?_
  refine zg4 ?_
  exact ret1 rfl (by first | exact .pure rfl | exact .pure (limL_pure _) | exact .pure (magL_pure _) | exact .pure (ratE.pure _) | exact .pure (pure_lst u32E _ _) | exact .pure (pure_lst ratE _ _))
open H0 in
theorem c_TEval (U V : Nat) (c : List Rat) (hc : c.length = (U + 1) * (V + 1)) (hl : c.length ≤ 1048576) (hcR : ∀ x ∈ c, rl x ≤ 274877906944) (u v : Rat) (hS : ∀ j, j ≤ V → HS (rwL U (swL U V c) j) u) (hS2 : HS (rowT U V c u) v) : CallP Tryz.prog 15 [.agg [nI64 U, nI64 V, .list 3 (c.map ratL)], ratL u, ratL v] (ratL (evT U V c u v)) := by
  have hU : U + 1 ≤ c.length := by rw [hc]; exact Nat.le_mul_of_pos_right _ (Nat.succ_pos V)
  have hV : V + 1 ≤ c.length := by rw [hc]; exact Nat.le_mul_of_pos_left _ (Nat.succ_pos U)
  have hnp := net_pureN U V c
  refine fnP Tryz.func15 ?_
  refine zg9 ?_
  refine wl_regD 5 (by decide +kernel) ?_
  refine zg2 ?_
  refine cp am2 (c_TRow U V c hc hl hcR u hS) ?_
  refine zg1 ?_
  refine cp am2 (c_BEval (rowT U V c u) v hS2 (by rw [rowT_len]; exact Nat.succ_pos V)) ?_
  refine zg4 ?_
  exact retC [] rfl rfl rfl (ratE.csize _) (ratL_all _) T33 (.pure (ratE.pure _))
open H0 in
theorem c_columns (U V : Nat) (c : List Rat) (hc : c.length = (U + 1) * (V + 1)) (hl : c.length ≤ 1048576) (hcR : ∀ x ∈ c, rl x ≤ 274877906944) (f : Nat) (caps : List LV) (hcp : pures caps = true) (hcs : ∀ x ∈ caps, x.csize = 1 ∧ x.isAgg = false) (g : List Rat → List Rat) (W : Nat) (hf : ∀ j, j ≤ V → CallP Tryz.prog f ([.list 3 ((rwL U (swL U V c) j).map ratL)] ++ caps) (.list 3 ((g (rwL U (swL U V c) j)).map ratL))) (hg : ∀ j, j ≤ V → (g (rwL U (swL U V c) j)).length = W + 1) (hW : (V + 1) * (W + 1) ≤ 1048576) (hgR : ∀ x ∈ (rsL g U (swL U V c) (V + 1)), rl x ≤ 274877906944) : CallP Tryz.prog 96 [.agg [nI64 U, nI64 V, .list 3 (c.map ratL)], .clo f caps] (.agg [nI64 W, nI64 V, .list 3 ((swL V W (rsL g U (swL U V c) (V + 1))).map ratL)]) := by
  have hU : U + 1 ≤ c.length := by rw [hc]; exact Nat.le_mul_of_pos_right _ (Nat.succ_pos V)
  have hV : V + 1 ≤ c.length := by rw [hc]; exact Nat.le_mul_of_pos_left _ (Nat.succ_pos U)
  have hnp := net_pureN U V c
  have hsl := swL_len U V c
  have hsw : (swL U V c).length ≤ 1048576 := by rw [hsl, Nat.mul_comm, ← hc]; exact hl
  have hnp2 := net_pureN V U (swL U V c)
  have hrl := rsL_len hg (V + 1) (Nat.le_refl _)
  have hnp3 := net_pureN V W (rsL g U (swL U V c) (V + 1))
  have hcl : LV.pure (.clo f caps) = true := by simpa [LV.pure] using hcp
  refine fnP Tryz.func96 (ht := (fun g => LV.ren_pure g _ (net_pureN _ _ _))) ?_
  refine zg9 ?_
  refine cp am1 (c_Swap U V c hc hl hcR) ?_
  refine zg1 ?_
  refine cp am2 (c_rows V U (swL U V c) hsl hsw f caps hcp hcs g W hf hg hW) ?_
  refine cp am1 (c_Swap V W (rsL g U (swL U V c) (V + 1)) hrl (by omega) hgR) ?_
  refine zg4 ?_
  exact retC [] rfl rfl rfl rfl rfl T27 (.pure (net_pureN _ _ _))
open H0 in
theorem c_DiffU (U V : Nat) (c : List Rat) (hc : c.length = (U + 1) * (V + 1)) (hl : c.length ≤ 1048576) (hcR : ∀ x ∈ c, rl x ≤ 1073741824) (hU1 : U ≤ 900) : CallP Tryz.prog 53 [.agg [nI64 U, nI64 V, .list 3 (c.map ratL)]] (.agg [nI64 (U - 1), nI64 V, .list 3 ((dfU U V c).map ratL)]) := by
  have hU : U + 1 ≤ c.length := by rw [hc]; exact Nat.le_mul_of_pos_right _ (Nat.succ_pos V)
  have hV : V + 1 ≤ c.length := by rw [hc]; exact Nat.le_mul_of_pos_left _ (Nat.succ_pos U)
  have hnp := net_pureN U V c
  have hsl := swL_len U V c
  have hsw : (swL U V c).length ≤ 1048576 := by rw [hsl, Nat.mul_comm, ← hc]; exact hl
  have hnp2 := net_pureN (U - 1) V (dfU U V c)
  have hsR := sw_rl (U := U) (V := V) (R := 1073741824) (by decide) hcR
  refine fnP Tryz.func53 (ht := (fun g => LV.ren_pure g _ (net_pureN _ _ _))) ?_
  refine zg9 ?_
  refine cp am2 (c_columns U V c hc hl (fun x hx => Nat.le_trans (hcR x hx) (by decide)) 40 [] rfl (fun x hx => by cases hx) difP (U - 1) (fun j hj => c_Diff _ (by rw [rwL_len hsl hj]; omega) (fun x hx => hsR x (rwL_mem hx))) (fun j hj => dif_W (rwL_len hsl hj)) (by have := Nat.mul_le_mul_left (V + 1) (show U - 1 + 1 ≤ U + 1 by omega); omega) (rs_rl (U := V) (fun j hj x hx => Nat.le_trans (difP_rl (R := 1073741824) (by decide) (by rw [rwL_len hsl hj]; omega) (fun x hx => hsR x (rwL_mem hx)) x hx) (by decide)) (Nat.le_refl _))) ?_
  refine zg4 ?_
  exact retC [] rfl rfl rfl rfl rfl T27 (.pure (net_pureN _ _ _))
end Go.Proofs.YthhdcfhaldcheaaGreat
end
section
set_option linter.unusedVariables false
set_option linter.unusedSimpArgs false
set_option maxHeartbeats 8000000
set_option maxRecDepth 100000
attribute [local irreducible] Go.Lg.opsL Go.Lg.wpL Go.Lg.thenL Go.Lg.blockL
namespace Go.Proofs.YthhdcfhaldcheaaGreat
open Go.Lg
theorem a7_val : vaT 1 1 [0, 0, 0, 1] = true := by decide +kernel
namespace H_c_TValid
theorem zSm {p q : Prop} (k : q) (e : p = q := by simp only [e1, e2, e3, e4, p1, p2, p3, q1, q2, q3, l1, t0, t1, r1, r2, r3, r4, Nat.zero_add, Nat.reduceMul, Nat.reduceAdd, b1, b2, b3, b4, b5, b6, i1, i2, i3, i4, i5, i6, Nat.reduceBEq, dfq, kills_map ratE, ratL_kill, spL_kill, LV.kill, kills]; exact rfl) : p := e.mpr k
end H_c_TValid
open H_c_TValid in
theorem c_TValid (u v : Int) (c : List Rat) (hu : -9223372036854775808 ≤ u ∧ u ≤ 9223372036854775807) (hv : -9223372036854775808 ≤ v ∧ v ≤ 9223372036854775807) (hl : c.length ≤ 1048576) (hcR : ∀ x ∈ c, rl x ≤ 1099511627776) : CallP Tryz.prog 86 [.agg [iL u, iL v, .list 3 (c.map ratL)]] (bL (vaT u v c)) := by
  refine fnP Tryz.func86 ?_
  refine zg13 ?_
  refine op_if 8 rfl (fun h8r h8 => ?_) (fun h8r h8 => ?_)
  · refine zg37 ?_
    rw [show vaT u v c = false from decide_eq_false (by omega)]
    exact ret1 rfl (by first | exact .pure rfl | exact .pure (limL_pure _) | exact .pure (magL_pure _) | exact .pure (ratE.pure _) | exact .pure (pure_lst u32E _ _) | exact .pure (pure_lst ratE _ _))
  · refine zg5 ?_
    refine op_if 13 rfl (fun h13r h13 => ?_) (fun h13r h13 => ?_)
    · refine zg32 ?_
      rw [show vaT u v c = false from decide_eq_false (by omega)]
      exact ret1 rfl (by first | exact .pure rfl | exact .pure (limL_pure _) | exact .pure (magL_pure _) | exact .pure (ratE.pure _) | exact .pure (pure_lst u32E _ _) | exact .pure (pure_lst ratE _ _))
    · refine zg5 ?_
      refine op_if 18 rfl (fun h18r h18 => ?_) (fun h18r h18 => ?_)
      · refine zg27 ?_
        rw [show vaT u v c = false from decide_eq_false (by omega)]
        exact ret1 rfl (by first | exact .pure rfl | exact .pure (limL_pure _) | exact .pure (magL_pure _) | exact .pure (ratE.pure _) | exact .pure (pure_lst u32E _ _) | exact .pure (pure_lst ratE _ _))
      · refine zg5 ?_
        refine op_if 23 rfl (fun h23r h23 => ?_) (fun h23r h23 => ?_)
        · refine zg22 ?_
          rw [show vaT u v c = false from decide_eq_false (by omega)]
          exact ret1 rfl (by first | exact .pure rfl | exact .pure (limL_pure _) | exact .pure (magL_pure _) | exact .pure (ratE.pure _) | exact .pure (pure_lst u32E _ _) | exact .pure (pure_lst ratE _ _))
        · refine zg5 ?_
          refine st_pure (guardX (v := false) rfl rfl (h23r) rfl) (.bin rfl rfl (add64 (by omega) (by omega))) ?_
          refine zg2 ?_
          refine st_pure (guardX (v := false) rfl rfl (h23r) rfl) (.bin rfl rfl (add64 (by omega) (by omega))) ?_
          refine st_pure (guardX (v := false) rfl rfl (h23r) rfl) (.bin rfl rfl (mulI (by omega) (by omega) (by omega) (by omega))) ?_
          refine zg4 ?_
          refine wl_if rfl (fun h35r h35 => ?_) (fun h35r h35 => ?_)
          · refine zg7 ?_
            rw [show vaT u v c = false from decide_eq_false (by omega)]
            exact ret1 rfl (by first | exact .pure rfl | exact .pure (limL_pure _) | exact .pure (magL_pure _) | exact .pure (ratE.pure _) | exact .pure (pure_lst u32E _ _) | exact .pure (pure_lst ratE _ _))
          · refine zg12 ?_
            refine wl_weak (Weak.kill _ 1) ?_
            refine lp1 (fun (k : Nat) L => ((((St.mk L.slot (hp [])).put (some 37) (.list 3 (c.map ratL))).put (some 38) (nI64 c.length)).put (some 39) (nI64 k))) (fun k => k ≤ c.length) (fun k => c.length - k) 0 (Nat.zero_le _) ?_
            rintro k L1 hk
            refine zg6 ?_
            refine wl_if rfl (fun h40r h40 => ?_) (fun h40r h40 => ?_)
            · have hk2 : k < c.length := by omega
              have hr1 := hcR _ (getD_mem (i := k) hk2)
              refine zg15 ?_
              refine cp am1 (c_RValid (c.getD k 0) (by omega)) ?_
              refine zg7 ?_
              refine wl_regW (Weak.kill _ 4) ?_
              refine zg4 ?_
              exact nx1 (k + 1) (by omega)
            · refine zg11 ?_
              rw [show vaT u v c = true from decide_eq_true ⟨by omega, by omega, by omega, by omega, by omega⟩]
              exact ret1 rfl (by first | exact .pure rfl | exact .pure (limL_pure _) | exact .pure (magL_pure _) | exact .pure (ratE.pure _) | exact .pure (pure_lst u32E _ _) | exact .pure (pure_lst ratE _ _))
namespace H_c_awake7
theorem zSm {p q : Prop} (k : q) (e : p = q := by simp only [e1, e2, e3, e4, p1, p2, p3, q1, q2, q3, l1, t0, t1, r1, r2, r3, r4, Nat.zero_add, Nat.reduceMul, Nat.reduceAdd, b1, b2, b3, b4, b5, b6, i1, i2, i3, i4, i5, i6, Nat.reduceBEq, List.length_cons, List.length_nil, half_eq, r1r, tz2, tz1, dfq]; exact rfl) : p := e.mpr k
end H_c_awake7
open H_c_awake7 in
theorem c_awake7  : CallP Tryz.prog 10 [] (bL true) := by
  have hR1 : ∀ x ∈ ([0, 0, 0, 1] : List Rat), rl x ≤ 1 := by decide +kernel
  have hDU : CallP Tryz.prog 53 [.agg [nI64 1, nI64 1, .list 3 ([0, 0, 0, 1].map ratL)]] (.agg [nI64 0, nI64 1, .list 3 ([0, 1].map ratL)]) := by
    have := c_DiffU 1 1 [0, 0, 0, 1] rfl (by decide) (fun x hx => Nat.le_trans (hR1 x hx) (by decide)) (by decide)
    rw [a7_df] at this
    exact this
  have hEV := c_TEval 1 1 [0, 0, 0, 1] rfl (by decide) (fun x hx => Nat.le_trans (hR1 x hx) (by decide)) (1 / 2) (1 / 2) (fun j hj => hs_7 _ (fun x hx => sw_rl (by decide) hR1 x (rwL_mem hx)) (by rw [rwL_len (U := 1) (V := 1) (swL_len 1 1 _) hj]; decide)) ⟨5, by decide +kernel, by decide, by decide +kernel⟩
  rw [a7_ev] at hEV
  refine fnP Tryz.func10 ?_
  refine zg7 ?_
  refine st_pure rfl (.build0 SL33 Z33a) ?_
  refine st_pure rfl (.build0 SL33 Z33a) ?_
  refine st_pure rfl (.build0 SL33 Z33a) ?_
  refine cp am1 (c_FInt 1 (by decide) (by decide)) ?_
  refine zg8 ?_
  refine cp am2 (c_FFrac 1 2 (by decide) (by decide) (by decide) (by decide) (by decide)) ?_
  refine zg7 ?_
  refine st_callPf [8] rfl rfl (.cons (.agg (.cons (.pure rfl) (.cons (.pure rfl) (.cons (imm_refm ratE rfl rfl rfl) .nil)))) .nil) hDU ?_
  refine zg7 ?_
  refine st_callPf [8] rfl rfl (.cons (.agg (.cons (.pure rfl) (.cons (.pure rfl) (.cons (imm_refm ratE rfl rfl rfl) .nil)))) .nil) (c_TValid 1 1 [0, 0, 0, 1] (by decide) (by decide) (by decide) (fun x hx => Nat.le_trans (hR1 x hx) (by decide))) ?_
  refine zg1 ?_
  refine st_pure (guardX (v := true) rfl rfl (a7_val) rfl) ld27 ?_
  refine st_pure (guardX (v := true) rfl rfl (a7_val) rfl) ld33 ?_
  refine st_pure (guardX (v := true) rfl rfl (a7_val) rfl) ld33 ?_
  refine st_callPf [8] (guardX (v := true) rfl rfl (a7_val) rfl) rfl (.cons (.agg (.cons (.pure rfl) (.cons (.pure rfl) (.cons (imm_refm ratE rfl rfl rfl) .nil)))) (.cons im0 (.cons im0 .nil))) hEV ?_
  refine st_callP (guardX (v := true) rfl rfl (a7_val) rfl) (.cons im0 .nil) (c_tx14) ?_
  refine st_pure (guardX (v := true) rfl rfl (a7_val) rfl) (.eqS rfl rfl) ?_
  refine st_pure rfl (.pickT rfl (a7_val)) ?_
  refine zg1 ?_
  refine st_pure (guardX (v := true) rfl rfl ((by decide +kernel)) rfl) fa27 ?_
  refine st_pure (guardX (v := true) rfl rfl ((by decide +kernel)) rfl) ld3 ?_
  refine st_pure (guardX (v := true) rfl rfl ((by decide +kernel)) rfl) (.bin rfl rfl rfl) ?_
  refine st_pure rfl (.pickT rfl ((by decide +kernel))) ?_
  refine zg1 ?_
  refine st_pure (guardX (v := true) rfl rfl ((by decide)) rfl) fa27 ?_
  refine st_pure (guardX (v := true) rfl rfl ((by decide)) rfl) ld3 ?_
  refine st_pure (guardX (v := true) rfl rfl ((by decide)) rfl) (.bin rfl rfl rfl) ?_
  refine st_pure rfl (.pickT rfl ((by decide))) ?_
  refine zg1 ?_
  refine st_pure (guardX (v := true) rfl rfl ((by decide)) rfl) fa27 ?_
  refine st_pure (guardX (v := true) rfl rfl ((by decide)) rfl) ld25 ?_
  refine st_pure (guardX (v := true) rfl rfl ((by decide)) rfl) ln25 ?_
  refine st_pure (guardX (v := true) rfl rfl ((by decide)) rfl) (.bin rfl rfl rfl) ?_
  refine st_pure rfl (.pickT rfl ((by decide))) ?_
  refine zg1 ?_
  refine st_pure (guardX (v := true) rfl rfl ((by decide)) rfl) fa27 ?_
  refine st_pure (guardX (v := true) rfl rfl ((by decide)) rfl) ld25 ?_
  refine st_pure (guardX (v := true) rfl rfl ((by decide)) rfl) ix25 ?_
  refine st_pure (guardX (v := true) rfl rfl ((by decide)) rfl) ld33 ?_
  refine st_callP (guardX (v := true) rfl rfl ((by decide)) rfl) (.cons im0 .nil) (c_tx1) ?_
  refine st_pure (guardX (v := true) rfl rfl ((by decide)) rfl) (.eqS rfl rfl) ?_
  refine st_pure rfl (.pickT rfl ((by decide))) ?_
  refine zg4 ?_
  exact ret1 (x := .v (.bool true)) (congrArg (fun b => LV.v (.bool b)) (show ((⟨#[49]⟩ : ByteArray).toList == (⟨#[49]⟩ : ByteArray).toList) = true by decide +kernel)) (.pure rfl)
end Go.Proofs.YthhdcfhaldcheaaGreat
end
section
set_option linter.unusedVariables false
set_option linter.unusedSimpArgs false
set_option maxHeartbeats 8000000
set_option maxRecDepth 100000
attribute [local irreducible] Go.Lg.opsL Go.Lg.wpL Go.Lg.thenL Go.Lg.blockL
namespace Go.Proofs.YthhdcfhaldcheaaGreat
open Go.Lg
end Go.Proofs.YthhdcfhaldcheaaGreat
namespace Go.Lg
theorem retMCf {P : Program} {L : St} {a : Nat} {T : TypeId} {b sz : Nat} {x y : LV} {m : Bool} {n : Nat} {ag : Bool} {blk : Blk} (bs : List Nat) (hbs : bs.contains 0 = false) (h : L.slot a = .eptr b sz 0 0) (hb : L.heap b = some ⟨sz, [x], m⟩)
    (hx : x.csize = sz) (hat : x.at 0 n ag = some x) (hT : TyIs P T n ag) (hi : Imm (L.frz bs).heap x y) (h0 : (L.frz bs).heap 0 = some blk) (hm : blk.mt = true) (hp : pures blk.vals = true) : RetM P [.cell a T] L y blk :=
  ⟨[x], [y], (L.frz bs).heap, .cons ⟨b, sz, 0, 0, _, x, n, ag, h, hb, rfl, rfl, hx, hat, hT⟩ .nil, frz_le bs hbs, .cons (.imm hi) .nil, h0, hm, hp, rfl⟩
end Go.Lg
namespace Go.Proofs.YthhdcfhaldcheaaGreat
open Go.Lg
def nU (l : List Int) (k : Nat) (n : Nat) : Nat := (nxV l k ((n : Int) + 1)).toNat
theorem nU_le (l : List Int) (k n : Nat) : nU l k n ≤ n := by
  have := nxV_lt (l := l) (k := k) (n := (n : Int) + 1) (by omega)
  unfold nU; omega
def ntC (l : List Int) (k u v : Nat) : List Rat := plV l (nxK l (nxK l k)) ((nU l k u + 1) * (nU l (nxK l k) v + 1))
def ntK (l : List Int) (k u v : Nat) : Nat := plK l (nxK l (nxK l k)) ((nU l k u + 1) * (nU l (nxK l k) v + 1))
theorem ntC_len (l : List Int) (k u v : Nat) : (ntC l k u v).length = (nU l k u + 1) * (nU l (nxK l k) v + 1) := plV_len l _ _
theorem ntC_rl (l : List Int) (k u v : Nat) : ∀ x ∈ ntC l k u v, rl x ≤ 1 := plV_rl l _ _
theorem ntK_le {l : List Int} (hl : l.length ≤ 500) {k : Nat} (hk : k ≤ 500) (u v : Nat) : ntK l k u v ≤ 500 := plK_le hl _ _ (nxK_le hl (nxK_le hl hk))
namespace H_c_Net
theorem zSm {p q : Prop} (k : q) (e : p = q := by simp only [e1, e2, e3, e4, p1, p2, p3, q1, q2, q3, l1, t0, t1, r1, r2, r3, r4, Nat.zero_add, Nat.reduceMul, Nat.reduceAdd, b1, b2, b3, b4, b5, b6, i1, i2, i3, i4, i5, i6, Nat.reduceBEq, l1, frz_nil, ratL_ren, hU, hV, take_map_len, map_snoc, len_snoc, List.length_cons, List.length_nil, kills_map ratE, LV.kill, kills, dice_kill, ek]; exact rfl) : p := e.mpr k
end H_c_Net
open H_c_Net in
theorem c_Net (l : List Int) (k0 u v : Nat) (hl : l.length ≤ 500) (hk : k0 ≤ 500) (hu : u ≤ 20) (hv : v ≤ 20) : CallOKM Tryz.prog 12 ⟨2, [diceL l k0], true⟩ [.eptr 0 2 0 0, nI64 u, nI64 v] (.agg [nI64 (nU l k0 u), nI64 (nU l (nxK l k0) v), .list 3 ((ntC l k0 u v).map ratL)]) ⟨2, [diceL l (ntK l k0 u v)], true⟩ := by
  have k1 := nxK_le (l := l) hl hk
  have k2 := nxK_le (l := l) hl k1
  have hb1 := nxV_lt (l := l) (k := k0) (n := (u : Int) + 1) (by omega)
  have hb2 := nxV_lt (l := l) (k := nxK l k0) (n := (v : Int) + 1) (by omega)
  have hU : nxV l k0 ((u : Int) + 1) = ((nU l k0 u) : Int) := by unfold nU; omega
  have hV : nxV l (nxK l k0) ((v : Int) + 1) = ((nU l (nxK l k0) v) : Int) := by unfold nU; omega
  have hU2 := nU_le l k0 u
  have hV2 := nU_le l (nxK l k0) v
  have hN : (((nU l k0 u) + 1) * ((nU l (nxK l k0) v) + 1)) ≤ 441 := Nat.le_trans (Nat.mul_le_mul (show (nU l k0 u) + 1 ≤ 21 by omega) (show (nU l (nxK l k0) v) + 1 ≤ 21 by omega)) (by decide)
  refine fnM Tryz.func12 ?_
  have ek : True := trivial
  refine zg9 ?_
  refine st_pure rfl (.bin rfl rfl (add64 (by omega) (by omega))) ?_
  refine st_callMp 0 rfl rfl rfl (dice_pure l _) (.cons .ptr (.cons (.imm (.pure rfl)) .nil)) .ptr (c_Next l k0 ((u : Int) + 1) (by omega) (by omega) (by omega) (by omega)) rfl (dice_pure l _) rfl ?_
  refine zg2 ?_
  refine st_pure rfl (.bin rfl rfl (add64 (by omega) (by omega))) ?_
  refine st_callMp 0 rfl rfl rfl (dice_pure l _) (.cons .ptr (.cons (.imm (.pure rfl)) .nil)) .ptr (c_Next l (nxK l k0) ((v : Int) + 1) (by omega) (by omega) (by omega) (by omega)) rfl (dice_pure l _) rfl ?_
  refine zg12 ?_
  refine wl_weak ((Weak.cell 7 rfl (fun Z μ w cs h => rep_net 34 3 _ _ Z μ w cs h)).trans (Weak.newB _ 34 3 rfl)) ?_
  refine lp3 (fun (c k : Nat) (o : List Rat) L => (((((St.mk L.slot (hp [(0, ⟨2, [diceL l k], true⟩), (6, ⟨3, [.agg [.v (.int .i64 0), .v (.int .i64 0), .v (.slice none 0 0)]], true⟩), (7, ⟨3, [.agg [nI64 (nU l k0 u), nI64 (nU l (nxK l k0) v), .ref 34 3 0 o.length]], true⟩), (34, ⟨3, o.map ratL, true⟩)])).put (some 0) (.eptr 0 2 0 0)).put (some 6) (.eptr 6 3 0 0)).put (some 7) (.eptr 7 3 0 0)).put (some 8) (nI64 o.length))) (fun c k o => k ≤ 500 ∧ o.length + c = (((nU l k0 u) + 1) * ((nU l (nxK l k0) v) + 1)) ∧ o ++ plV l k c = ntC l k0 u v ∧ plK l k c = ntK l k0 u v) (fun c k o => c) (((nU l k0 u) + 1) * ((nU l (nxK l k0) v) + 1)) (nxK l (nxK l k0)) ([]) ⟨k2, by simp, rfl, rfl⟩ ?_
  rintro c k o L1 ⟨hk1, ho, hVl, hK⟩
  refine zg6 ?_
  refine st_pure rfl (.bin rfl rfl (add1N (by omega))) ?_
  refine zg2 ?_
  refine st_pure rfl (.bin rfl rfl (add1N (by omega))) ?_
  refine st_pure rfl (.bin rfl rfl (mulE rfl (by omega))) ?_
  refine zg3 ?_
  refine wl_if rfl (fun h26r h26 => ?_) (fun h26r h26 => ?_)
  · obtain ⟨j, rfl⟩ : ∃ j, c = j + 1 := ⟨c - 1, by omega⟩
    refine zg4 ?_
    refine wl_cut (fun L => ∃  (L1 : St), (True) ∧ L = (((((St.mk L1.slot (hp [(0, ⟨2, [diceL l (nbV l k).2], true⟩), (6, ⟨3, [.agg [.v (.int .i64 0), .v (.int .i64 0), .v (.slice none 0 0)]], true⟩), (7, ⟨3, [.agg [nI64 (nU l k0 u), nI64 (nU l (nxK l k0) v), .ref 34 3 0 (o.length + 1)]], true⟩), (33, ⟨3, [(nbV l k).1].map ratL, true⟩), (34, ⟨3, (o ++ [(nbV l k).1]).map ratL, true⟩)])).put (some 0) (.eptr 0 2 0 0)).put (some 6) (.eptr 6 3 0 0)).put (some 7) (.eptr 7 3 0 0)).put (some 8) (nI64 o.length))) ?_ ?_
    · refine wl_regA ?_
      refine any_2 0 2 _ _ (by decide +kernel) rfl rfl ?_ ?_
      · refine zg1 ?_
        refine st_nil ?_
        refine any_2 1 2 _ _ (by decide +kernel) rfl rfl ?_ ?_
        · refine zg1 ?_
          refine st_nil ?_
          refine any_1 2 _ (by decide +kernel) rfl ?_
          refine zg1 ?_
          refine st_nil ?_
          refine any_1 3 _ (by decide +kernel) rfl ?_
          refine st_callMp 0 rfl rfl rfl (dice_pure l _) (.cons .ptr .nil) .ptr (c_number l k (by omega) (by omega)) rfl (dice_pure l _) (ratE.pure _) ?_
          refine st_nil ?_
          refine any_1 4 _ (by decide +kernel) rfl ?_
          refine zg1 ?_
          refine st_nil ?_
          refine any_1 5 _ (by decide +kernel) rfl ?_
          refine st_store rfl (.app (news := [ratL (nbV l k).1]) rfl rfl rfl rfl rfl (by simp) (.inl rfl) (by decide) Tryz.underlying25 Tryz.underlying25 Z33a T33 rfl B33 (.inl ⟨33, 0, _, rfl, by decide, rfl, rfl, by simp, rfl, by simp [pures, ratE.pure]⟩) (by simp; omega) (by simp; omega) (by decide)) ?_
          refine st_nil ?_
          refine any_1 6 _ (by decide +kernel) rfl ?_
          refine zg1 ?_
          refine st_nil ?_
          refine any_1 7 _ (by decide +kernel) rfl ?_
          refine zg1 ?_
          refine st_nil ?_
          refine any_0 (by decide +kernel) ?_
          refine zg1 ?_
          exact ⟨_, trivial, ((put_id' (put_id' (put_id' (put_id' (mk_id' cl) cl) cl) cl) cl)).symm⟩
        · refine zg1 ?_
          refine st_nil ?_
          refine any_2 1 3 _ _ (by decide +kernel) rfl rfl ?_ ?_
          · refine zg1 ?_
            refine st_nil ?_
            refine any_1 3 _ (by decide +kernel) rfl ?_
            refine st_callMp 0 rfl rfl rfl (dice_pure l _) (.cons .ptr .nil) .ptr (c_number l k (by omega) (by omega)) rfl (dice_pure l _) (ratE.pure _) ?_
            refine st_nil ?_
            refine any_1 4 _ (by decide +kernel) rfl ?_
            refine zg1 ?_
            refine st_nil ?_
            refine any_1 5 _ (by decide +kernel) rfl ?_
            refine st_store rfl (.app (news := [ratL (nbV l k).1]) rfl rfl rfl rfl rfl (by simp) (.inl rfl) (by decide) Tryz.underlying25 Tryz.underlying25 Z33a T33 rfl B33 (.inl ⟨33, 0, _, rfl, by decide, rfl, rfl, by simp, rfl, by simp [pures, ratE.pure]⟩) (by simp; omega) (by simp; omega) (by decide)) ?_
            refine st_nil ?_
            refine any_1 6 _ (by decide +kernel) rfl ?_
            refine zg1 ?_
            refine st_nil ?_
            refine any_1 7 _ (by decide +kernel) rfl ?_
            refine zg1 ?_
            refine st_nil ?_
            refine any_0 (by decide +kernel) ?_
            refine zg1 ?_
            exact ⟨_, trivial, ((put_id' (put_id' (put_id' (put_id' (mk_id' cl) cl) cl) cl) cl)).symm⟩
          · refine st_callMp 0 rfl rfl rfl (dice_pure l _) (.cons .ptr .nil) .ptr (c_number l k (by omega) (by omega)) rfl (dice_pure l _) (ratE.pure _) ?_
            refine st_nil ?_
            refine any_2 1 4 _ _ (by decide +kernel) rfl rfl ?_ ?_
            · refine zg1 ?_
              refine st_nil ?_
              refine any_1 4 _ (by decide +kernel) rfl ?_
              refine zg1 ?_
              refine st_nil ?_
              refine any_1 5 _ (by decide +kernel) rfl ?_
              refine st_store rfl (.app (news := [ratL (nbV l k).1]) rfl rfl rfl rfl rfl (by simp) (.inl rfl) (by decide) Tryz.underlying25 Tryz.underlying25 Z33a T33 rfl B33 (.inl ⟨33, 0, _, rfl, by decide, rfl, rfl, by simp, rfl, by simp [pures, ratE.pure]⟩) (by simp; omega) (by simp; omega) (by decide)) ?_
              refine st_nil ?_
              refine any_1 6 _ (by decide +kernel) rfl ?_
              refine zg1 ?_
              refine st_nil ?_
              refine any_1 7 _ (by decide +kernel) rfl ?_
              refine zg1 ?_
              refine st_nil ?_
              refine any_0 (by decide +kernel) ?_
              refine zg1 ?_
              exact ⟨_, trivial, ((put_id' (put_id' (put_id' (put_id' (mk_id' cl) cl) cl) cl) cl)).symm⟩
            · refine zg1 ?_
              refine st_nil ?_
              refine any_1 1 _ (by decide +kernel) rfl ?_
              refine zg1 ?_
              refine st_nil ?_
              refine any_1 5 _ (by decide +kernel) rfl ?_
              refine st_store rfl (.app (news := [ratL (nbV l k).1]) rfl rfl rfl rfl rfl (by simp) (.inl rfl) (by decide) Tryz.underlying25 Tryz.underlying25 Z33a T33 rfl B33 (.inl ⟨33, 0, _, rfl, by decide, rfl, rfl, by simp, rfl, by simp [pures, ratE.pure]⟩) (by simp; omega) (by simp; omega) (by decide)) ?_
              refine st_nil ?_
              refine any_1 6 _ (by decide +kernel) rfl ?_
              refine zg1 ?_
              refine st_nil ?_
              refine any_1 7 _ (by decide +kernel) rfl ?_
              refine zg1 ?_
              refine st_nil ?_
              refine any_0 (by decide +kernel) ?_
              refine zg1 ?_
              exact ⟨_, trivial, ((put_id' (put_id' (put_id' (put_id' (mk_id' cl) cl) cl) cl) cl)).symm⟩
      · refine zg1 ?_
        refine st_nil ?_
        refine any_2 0 3 _ _ (by decide +kernel) rfl rfl ?_ ?_
        · refine zg1 ?_
          refine st_nil ?_
          refine any_2 1 3 _ _ (by decide +kernel) rfl rfl ?_ ?_
          · refine zg1 ?_
            refine st_nil ?_
            refine any_1 3 _ (by decide +kernel) rfl ?_
            refine st_callMp 0 rfl rfl rfl (dice_pure l _) (.cons .ptr .nil) .ptr (c_number l k (by omega) (by omega)) rfl (dice_pure l _) (ratE.pure _) ?_
            refine st_nil ?_
            refine any_1 4 _ (by decide +kernel) rfl ?_
            refine zg1 ?_
            refine st_nil ?_
            refine any_1 5 _ (by decide +kernel) rfl ?_
            refine st_store rfl (.app (news := [ratL (nbV l k).1]) rfl rfl rfl rfl rfl (by simp) (.inl rfl) (by decide) Tryz.underlying25 Tryz.underlying25 Z33a T33 rfl B33 (.inl ⟨33, 0, _, rfl, by decide, rfl, rfl, by simp, rfl, by simp [pures, ratE.pure]⟩) (by simp; omega) (by simp; omega) (by decide)) ?_
            refine st_nil ?_
            refine any_1 6 _ (by decide +kernel) rfl ?_
            refine zg1 ?_
            refine st_nil ?_
            refine any_1 7 _ (by decide +kernel) rfl ?_
            refine zg1 ?_
            refine st_nil ?_
            refine any_0 (by decide +kernel) ?_
            refine zg1 ?_
            exact ⟨_, trivial, ((put_id' (put_id' (put_id' (put_id' (mk_id' cl) cl) cl) cl) cl)).symm⟩
          · refine st_callMp 0 rfl rfl rfl (dice_pure l _) (.cons .ptr .nil) .ptr (c_number l k (by omega) (by omega)) rfl (dice_pure l _) (ratE.pure _) ?_
            refine st_nil ?_
            refine any_2 1 4 _ _ (by decide +kernel) rfl rfl ?_ ?_
            · refine zg1 ?_
              refine st_nil ?_
              refine any_1 4 _ (by decide +kernel) rfl ?_
              refine zg1 ?_
              refine st_nil ?_
              refine any_1 5 _ (by decide +kernel) rfl ?_
              refine st_store rfl (.app (news := [ratL (nbV l k).1]) rfl rfl rfl rfl rfl (by simp) (.inl rfl) (by decide) Tryz.underlying25 Tryz.underlying25 Z33a T33 rfl B33 (.inl ⟨33, 0, _, rfl, by decide, rfl, rfl, by simp, rfl, by simp [pures, ratE.pure]⟩) (by simp; omega) (by simp; omega) (by decide)) ?_
              refine st_nil ?_
              refine any_1 6 _ (by decide +kernel) rfl ?_
              refine zg1 ?_
              refine st_nil ?_
              refine any_1 7 _ (by decide +kernel) rfl ?_
              refine zg1 ?_
              refine st_nil ?_
              refine any_0 (by decide +kernel) ?_
              refine zg1 ?_
              exact ⟨_, trivial, ((put_id' (put_id' (put_id' (put_id' (mk_id' cl) cl) cl) cl) cl)).symm⟩
            · refine zg1 ?_
              refine st_nil ?_
              refine any_1 1 _ (by decide +kernel) rfl ?_
              refine zg1 ?_
              refine st_nil ?_
              refine any_1 5 _ (by decide +kernel) rfl ?_
              refine st_store rfl (.app (news := [ratL (nbV l k).1]) rfl rfl rfl rfl rfl (by simp) (.inl rfl) (by decide) Tryz.underlying25 Tryz.underlying25 Z33a T33 rfl B33 (.inl ⟨33, 0, _, rfl, by decide, rfl, rfl, by simp, rfl, by simp [pures, ratE.pure]⟩) (by simp; omega) (by simp; omega) (by decide)) ?_
              refine st_nil ?_
              refine any_1 6 _ (by decide +kernel) rfl ?_
              refine zg1 ?_
              refine st_nil ?_
              refine any_1 7 _ (by decide +kernel) rfl ?_
              refine zg1 ?_
              refine st_nil ?_
              refine any_0 (by decide +kernel) ?_
              refine zg1 ?_
              exact ⟨_, trivial, ((put_id' (put_id' (put_id' (put_id' (mk_id' cl) cl) cl) cl) cl)).symm⟩
        · refine st_callMp 0 rfl rfl rfl (dice_pure l _) (.cons .ptr .nil) .ptr (c_number l k (by omega) (by omega)) rfl (dice_pure l _) (ratE.pure _) ?_
          refine st_nil ?_
          refine any_2 0 4 _ _ (by decide +kernel) rfl rfl ?_ ?_
          · refine zg1 ?_
            refine st_nil ?_
            refine any_2 1 4 _ _ (by decide +kernel) rfl rfl ?_ ?_
            · refine zg1 ?_
              refine st_nil ?_
              refine any_1 4 _ (by decide +kernel) rfl ?_
              refine zg1 ?_
              refine st_nil ?_
              refine any_1 5 _ (by decide +kernel) rfl ?_
              refine st_store rfl (.app (news := [ratL (nbV l k).1]) rfl rfl rfl rfl rfl (by simp) (.inl rfl) (by decide) Tryz.underlying25 Tryz.underlying25 Z33a T33 rfl B33 (.inl ⟨33, 0, _, rfl, by decide, rfl, rfl, by simp, rfl, by simp [pures, ratE.pure]⟩) (by simp; omega) (by simp; omega) (by decide)) ?_
              refine st_nil ?_
              refine any_1 6 _ (by decide +kernel) rfl ?_
              refine zg1 ?_
              refine st_nil ?_
              refine any_1 7 _ (by decide +kernel) rfl ?_
              refine zg1 ?_
              refine st_nil ?_
              refine any_0 (by decide +kernel) ?_
              refine zg1 ?_
              exact ⟨_, trivial, ((put_id' (put_id' (put_id' (put_id' (mk_id' cl) cl) cl) cl) cl)).symm⟩
            · refine zg1 ?_
              refine st_nil ?_
              refine any_1 1 _ (by decide +kernel) rfl ?_
              refine zg1 ?_
              refine st_nil ?_
              refine any_1 5 _ (by decide +kernel) rfl ?_
              refine st_store rfl (.app (news := [ratL (nbV l k).1]) rfl rfl rfl rfl rfl (by simp) (.inl rfl) (by decide) Tryz.underlying25 Tryz.underlying25 Z33a T33 rfl B33 (.inl ⟨33, 0, _, rfl, by decide, rfl, rfl, by simp, rfl, by simp [pures, ratE.pure]⟩) (by simp; omega) (by simp; omega) (by decide)) ?_
              refine st_nil ?_
              refine any_1 6 _ (by decide +kernel) rfl ?_
              refine zg1 ?_
              refine st_nil ?_
              refine any_1 7 _ (by decide +kernel) rfl ?_
              refine zg1 ?_
              refine st_nil ?_
              refine any_0 (by decide +kernel) ?_
              refine zg1 ?_
              exact ⟨_, trivial, ((put_id' (put_id' (put_id' (put_id' (mk_id' cl) cl) cl) cl) cl)).symm⟩
          · refine zg1 ?_
            refine st_nil ?_
            refine any_1 0 _ (by decide +kernel) rfl ?_
            refine zg1 ?_
            refine st_nil ?_
            refine any_1 1 _ (by decide +kernel) rfl ?_
            refine zg1 ?_
            refine st_nil ?_
            refine any_1 5 _ (by decide +kernel) rfl ?_
            refine st_store rfl (.app (news := [ratL (nbV l k).1]) rfl rfl rfl rfl rfl (by simp) (.inl rfl) (by decide) Tryz.underlying25 Tryz.underlying25 Z33a T33 rfl B33 (.inl ⟨33, 0, _, rfl, by decide, rfl, rfl, by simp, rfl, by simp [pures, ratE.pure]⟩) (by simp; omega) (by simp; omega) (by decide)) ?_
            refine st_nil ?_
            refine any_1 6 _ (by decide +kernel) rfl ?_
            refine zg1 ?_
            refine st_nil ?_
            refine any_1 7 _ (by decide +kernel) rfl ?_
            refine zg1 ?_
            refine st_nil ?_
            refine any_0 (by decide +kernel) ?_
            refine zg1 ?_
            exact ⟨_, trivial, ((put_id' (put_id' (put_id' (put_id' (mk_id' cl) cl) cl) cl) cl)).symm⟩
    · rintro _ ⟨LR5, -, rfl⟩
      refine zg2 ?_
      refine wl_regW (Weak.kill _ 33) ?_
      refine zg5 ?_
      exact nx3 j ((nbV l k).2) (o ++ [(nbV l k).1]) ⟨nbK_le hl hk1, by simp; omega, by rw [List.append_assoc]; exact hVl, hK⟩
  · obtain rfl : c = 0 := by omega
    rw [plV, List.append_nil] at hVl
    rw [plK] at hK
    refine zg12 ?_
    rw [← hVl, ← hK]
    exact retMCf [34] rfl rfl rfl rfl rfl T27 (.agg (.cons (.pure rfl) (.cons (.pure rfl) (.cons (imm_refm ratE rfl rfl rfl) .nil)))) rfl rfl (dice_pure l _)
end Go.Proofs.YthhdcfhaldcheaaGreat
end
section
set_option linter.unusedVariables false
set_option linter.unusedSimpArgs false
set_option maxHeartbeats 8000000
set_option maxRecDepth 100000
attribute [local irreducible] Go.Lg.opsL Go.Lg.wpL Go.Lg.thenL Go.Lg.blockL
namespace Go.Proofs.YthhdcfhaldcheaaGreat
open Go.Lg
end Go.Proofs.YthhdcfhaldcheaaGreat
namespace Go.Lg
/-- a block of the call's own that is not written any more is a list -/
theorem Weak.imm {L : St} {t : Nat} {x y : LV} (bs : List Nat) (h0 : bs.contains 0 = false) (h : L.slot t = x) (hi : Imm (L.frz bs).heap x y) : Weak L ((L.frz bs).put (some t) y) := by
  rintro n W X Z0 a w ⟨hdf, hsz, μ, Z, hc, hr⟩
  obtain ⟨Z1, k1, k2⟩ := hc.widen (frz_le bs h0)
  refine ⟨hdf, hsz, μ, Z1, by rw [put_heap]; exact k1, fun s => ?_⟩
  have hfr : Frame Z μ w w := ⟨fun _ _ => rfl, fun _ id _ c _ _ hh => ⟨c, hh, rfl⟩⟩
  have hs := (hr s).mono k2 (fun _ _ h => h) hfr
  rw [put_slot]
  split
  · rename_i hst
    subst hst
    rw [h] at hs
    exact RepV.of1 (LV.pure_ne_tup hi.lay.2.2) (hi.soundV k1 hs)
  · exact hs
end Go.Lg
namespace Go.Proofs.YthhdcfhaldcheaaGreat
open Go.Lg
def rtV (n d : Int) : Rat := ((n % 41 - 20 : Int) : Rat) / ((d % 8 + 1 : Int) : Rat)
theorem rtV_rl (n d : Int) : rl (rtV n d) ≤ 1 := by
  unfold rtV
  have h1 := Int.emod_nonneg n (show (41 : Int) ≠ 0 by decide)
  have h2 := Int.emod_lt_of_pos n (show (0 : Int) < 41 by decide)
  have h3 := Int.emod_nonneg d (show (8 : Int) ≠ 0 by decide)
  have h4 := Int.emod_lt_of_pos d (show (0 : Int) < 8 by decide)
  exact rl_ints (by omega) (by omega)
def fE (a b : Rat) : Nat → (Nat → Rat) → Rat
  | 0, f => f 0
  | n + 1, f => fE a b n (fun i => a * f i + b * f (i + 1))
theorem fE_congr (a b : Rat) : ∀ (n : Nat) (f g : Nat → Rat), (∀ i, i ≤ n → f i = g i) → fE a b n f = fE a b n g
  | 0, f, g, h => h 0 (Nat.le_refl _)
  | n + 1, f, g, h => fE_congr a b n _ _ fun i hi => by rw [h i (by omega), h (i + 1) (by omega)]
theorem fE_lin (a b c d : Rat) : ∀ (n : Nat) (f g : Nat → Rat), fE a b n (fun i => c * f i + d * g i) = c * fE a b n f + d * fE a b n g
  | 0, f, g => rfl
  | n + 1, f, g => by
    rw [fE, fE, fE, ← fE_lin a b c d n]
    congr 1; funext i; grind
theorem fE_step (a b : Rat) (n : Nat) (f : Nat → Rat) : fE a b (n + 1) f = a * fE a b n f + b * fE a b n (fun i => f (i + 1)) := fE_lin a b a b n f (fun i => f (i + 1))
/-- de Casteljau's scheme on lists -/
theorem lo_fE (t : Rat) : ∀ (k : Nat) (q : List Rat), k < q.length → (loF t q.length q).getD k 0 = fE (1 - t) t k (fun i => q.getD i 0)
  | 0, q, h => by
    obtain ⟨m, hm⟩ : ∃ m, q.length = m + 1 := ⟨q.length - 1, by omega⟩
    rw [hm]; rfl
  | k + 1, q, h => by
    obtain ⟨m, hm⟩ : ∃ m, q.length = m + 1 := ⟨q.length - 1, by omega⟩
    have hs : (stp t q).length = m := by rw [stp_len]; omega
    have := lo_fE t k (stp t q) (by omega)
    rw [hs] at this
    rw [hm, loF, List.getD_cons_succ, this, fE]
    exact fE_congr _ _ _ _ _ fun i hi => stp_get t q i (by omega)
theorem ev_fE {p : List Rat} {t : Rat} (h : 0 < p.length) : evP p t = fE (1 - t) t (p.length - 1) (fun i => p.getD i 0) := lo_fE t _ p (by omega)
theorem lo_sz {t : Rat} {C M : Nat} (hC : rl (1 - t) + rl t + 1 ≤ C) : ∀ (k : Nat) (q : List Rat), q.length = k → (∀ x ∈ q, (rl x + C) * 2 ^ k ≤ M) → ∀ x ∈ loF t k q, rl x + C ≤ M
  | 0, q, _, _, x, hx => by cases hx
  | k + 1, q, hq, h, x, hx => by
    rw [loF, List.mem_cons] at hx
    rcases hx with rfl | hx
    · exact sz_rl (h _ (getD_mem (by omega)))
    · exact lo_sz hC k (stp t q) (by rw [stp_len]; omega) (stp_sz hC h) x hx
theorem hi_sz {t : Rat} {C M : Nat} (hC : rl (1 - t) + rl t + 1 ≤ C) : ∀ (k : Nat) (q tl : List Rat), q.length = k → (∀ x ∈ q, (rl x + C) * 2 ^ k ≤ M) → (∀ x ∈ tl, rl x + C ≤ M) → ∀ x ∈ hiF t k q tl, rl x + C ≤ M
  | 0, q, tl, hq, _, h2, x, hx => by
    obtain rfl : q = [] := List.eq_nil_of_length_eq_zero hq
    exact h2 x hx
  | k + 1, q, tl, hq, h, h2, x, hx => by
    refine hi_sz hC k (stp t q) _ (by rw [stp_len]; omega) (stp_sz hC h) (fun y hy => ?_) x hx
    rcases List.mem_cons.1 hy with rfl | hy
    · exact sz_rl (h _ (getD_mem (by omega)))
    · exact h2 y hy
theorem HS.lo {p : List Rat} {t : Rat} (h : HS p t) : ∀ x ∈ loP p t, Go.Lg.rl x ≤ 1073741824 := fun x hx => by
  obtain ⟨cc, h1, h2, h3⟩ := h
  have := lo_sz h1 p.length p rfl h3 x hx
  omega
theorem HS.hi {p : List Rat} {t : Rat} (h : HS p t) : ∀ x ∈ hiP p t, Go.Lg.rl x ≤ 1073741824 := fun x hx => by
  obtain ⟨cc, h1, h2, h3⟩ := h
  have := hi_sz h1 p.length p [] rfl h3 (fun y hy => by cases hy) x hx
  omega
theorem HS.ev {p : List Rat} {t : Rat} (h : HS p t) : Go.Lg.rl (evP p t) ≤ 1073741824 := getD_rl (by decide) h.lo _
theorem hs_gen {p : List Rat} {t : Rat} {R n : Nat} (h1 : ∀ x ∈ p, rl x ≤ R) (h2 : rl t ≤ R) (h3 : p.length ≤ n) (h4 : (3 * R + 8) * 2 ^ n ≤ 1073741824) : HS p t := by
  have h5 := rl_sub 1 t
  rw [show rl 1 = 1 from rfl] at h5
  have hp : 1 ≤ 2 ^ n := Nat.one_le_two_pow
  have h9 := Nat.le_trans (Nat.le_mul_of_pos_right (3 * R + 8) hp) h4
  refine ⟨2 * R + 6, by omega, by omega, fun x hx => ?_⟩
  have h6 := h1 x hx
  exact Nat.le_trans (Nat.mul_le_mul (show rl x + (2 * R + 6) ≤ 3 * R + 8 by omega) (Nat.pow_le_pow_right (by decide) h3)) h4
theorem lo_sz2 {p : List Rat} {t : Rat} {R n : Nat} (h1 : ∀ x ∈ p, rl x ≤ R) (h2 : rl t ≤ R) (h3 : p.length ≤ n) : (∀ x ∈ loP p t, rl x ≤ (3 * R + 8) * 2 ^ n) ∧ ∀ x ∈ hiP p t, rl x ≤ (3 * R + 8) * 2 ^ n := by
  have h5 := rl_sub 1 t
  rw [show rl 1 = 1 from rfl] at h5
  have hs : ∀ x ∈ p, (rl x + (2 * R + 6)) * 2 ^ p.length ≤ (3 * R + 8) * 2 ^ n := fun x hx => by
    have h6 := h1 x hx
    exact Nat.mul_le_mul (by omega) (Nat.pow_le_pow_right (by decide) h3)
  exact ⟨fun x hx => by have := lo_sz (C := 2 * R + 6) (by omega) p.length p rfl hs x hx; omega, fun x hx => by have := hi_sz (C := 2 * R + 6) (by omega) p.length p [] rfl hs (fun y hy => by cases hy) x hx; omega⟩
end Go.Proofs.YthhdcfhaldcheaaGreat
end
section
set_option linter.unusedVariables false
set_option linter.unusedSimpArgs false
set_option maxHeartbeats 8000000
set_option maxRecDepth 100000
attribute [local irreducible] Go.Lg.opsL Go.Lg.wpL Go.Lg.thenL Go.Lg.blockL
namespace Go.Proofs.YthhdcfhaldcheaaGreat
open Go.Lg
theorem set_zl {lo : List Rat} {m k : Nat} {v : Rat} (h : lo.length = k) : (lo ++ List.replicate (m + 1) 0).set k v = lo ++ [v] ++ List.replicate m 0 := by
  rw [List.replicate_succ, set_mid _ _ _ _ h.symm]; simp
theorem set_zr {tl : List Rat} {m : Nat} {v : Rat} : (List.replicate (m + 1) 0 ++ tl).set m v = List.replicate m 0 ++ v :: tl := by
  rw [List.replicate_succ', List.append_assoc]
  exact set_mid _ _ _ _ (by simp)
open H0 in
theorem c_FBetw (a b t : Rat) (h : rl a + rl b + rl t ≤ 8589934592) : CallP Tryz.prog 150 [ratL a, ratL b, ratL t] (ratL ((1 - t) * a + t * b)) := by
  have h1 := rl_sub b a
  have h2 := rl_mul (b - a) t
  have hE : (1 - t) * a + t * b = a + (b - a) * t := by grind
  refine fnP Tryz.func150 ?_
  refine zg9 ?_
  refine wl_regD 7 (by decide +kernel) ?_
  refine zg3 ?_
  refine cp am2 (c_FRSub b a (by omega)) ?_
  refine zg1 ?_
  refine cp am2 (c_FRMul (b - a) t (by omega)) ?_
  refine cp am2 (c_FRAdd a ((b - a) * t) (by omega)) ?_
  refine zg4 ?_
  rw [hE]
  exact retC [] rfl rfl rfl (ratE.csize _) (ratL_all _) T33 (.pure (ratE.pure _))
namespace H_c_FSplit
theorem zSm {p q : Prop} (k : q) (e : p = q := by simp only [e1, e2, e3, e4, p1, p2, p3, q1, q2, q3, l1, t0, t1, r1, r2, r3, r4, Nat.zero_add, Nat.reduceMul, Nat.reduceAdd, b1, b2, b3, b4, b5, b6, i1, i2, i3, i4, i5, i6, Nat.reduceBEq, frz_nil, dfq, eq0, eqm, esa, esb, ekm, ekn, emg1, emg2, ems, eme, ei1, take_map_len, map_snoc, len_snoc, List.length_cons, List.length_nil, List.nil_append, List.map_nil, List.take_nil, List.append_nil, kills_map ratE, ratL_kill, LV.kill, kills]; exact rfl) : p := e.mpr k
end H_c_FSplit
open H_c_FSplit in
theorem c_FSplit (p : List Rat) (t : Rat) (h : HS p t) : CallP Tryz.prog 125 [.list 3 (p.map ratL), ratL t] (.tup [.list 3 ((loP p t).map ratL), .list 3 ((hiP p t).map ratL)]) := by
  have hlen := h.len
  obtain ⟨cc, hC, hcc, hs⟩ := h
  have hpr : ∀ x ∈ p, rl x ≤ 1073741824 := fun x hx => by have := sz_rl (hs x hx); omega
  refine fnP Tryz.func125 ?_
  have eq0 : True := trivial
  have eqm : True := trivial
  have esa : True := trivial
  have esb : True := trivial
  have ekm : True := trivial
  have ekn : True := trivial
  have emg1 : True := trivial
  have emg2 : True := trivial
  have ems : True := trivial
  have eme : True := trivial
  have ei1 : True := trivial
  refine zg15 ?_
  refine wl_regD 6 (by decide +kernel) ?_
  refine zg1 ?_
  refine st_alloc rfl rfl (.mkE (n := p.length) (m := p.length) ml ml om om om) ?_
  refine zg1 ?_
  refine st_alloc rfl rfl (.mkE (n := p.length) (m := p.length) ml ml om om om) ?_
  refine zg8 ?_
  refine st_store rfl (.app (news := p.map ratL) rfl rfl rfl rfl rfl (Nat.zero_le _) (.inr rfl) (by decide) Tryz.underlying38 Tryz.underlying38 Z33a T33 rfl B33 (.inr (.inl rfl)) (by simp; omega) (by simp; omega) (by decide)) ?_
  refine zg10 ?_
  refine lp4 (fun (k : Nat) (q tl lo : List Rat) L => (((((((St.mk L.slot (hp [(3, ⟨3, [ratL t], true⟩), (15, ⟨3, (lo ++ List.replicate q.length 0).map ratL, true⟩), (17, ⟨3, (List.replicate q.length 0 ++ tl).map ratL, true⟩), (20, ⟨3, (q ++ tl).map ratL, true⟩)])).put (some 3) (.eptr 3 3 0 0)).put (some 6) (nI64 p.length)).put (some 7) (.ref 15 3 0 p.length)).put (some 8) (.ref 17 3 0 p.length)).put (some 9) (.ref 20 3 0 p.length)).put (some 10) (nI64 k))) (fun k q tl lo => q.length + k = p.length ∧ tl.length = k ∧ lo.length = k ∧ lo ++ loF t q.length q = loP p t ∧ hiF t q.length q tl = hiP p t ∧ ∀ x ∈ q, (rl x + cc) * 2 ^ q.length ≤ 1073741824) (fun k q tl lo => q.length) 0 p ([]) ([]) ⟨rfl, rfl, rfl, rfl, rfl, hs⟩ ?_
  rintro k q tl lo L1 ⟨hq, htl, hlo, hL, hH, hsz⟩
  refine zg8 ?_
  refine wl_if rfl (fun h23r h23 => ?_) (fun h23r h23 => ?_)
  · obtain ⟨m, hm⟩ : ∃ m, q.length = m + 1 := ⟨q.length - 1, by omega⟩
    rw [hm] at hL hH hsz
    have hl1 : (q ++ tl).length = p.length := by rw [List.length_append]; omega
    have hl2 : (lo ++ List.replicate q.length (0 : Rat)).length = p.length := by rw [List.length_append, List.length_replicate]; omega
    have hl3 : (List.replicate q.length (0 : Rat) ++ tl).length = p.length := by rw [List.length_append, List.length_replicate]; omega
    have eq0 : (q ++ tl).getD 0 0 = q.getD 0 0 := getD_app1 _ _ _ (by omega)
    have eqm : (q ++ tl).getD m 0 = q.getD m 0 := getD_app1 _ _ _ (by omega)
    have ekm : ((p.length : Int) - 1 - (k : Int)).toNat = m := by omega
    have esa := set_zl (lo := lo) (m := m) (v := q.getD 0 0) hlo
    have esb := set_zr (tl := tl) (m := m) (v := q.getD m 0)
    rw [← hm] at esa esb
    refine zg5 ?_
    refine wl_regF 18 [2, 3, 4, 5, 6] (by decide +kernel) ?_
    refine zg10 ?_
    simp only [tz0, dfq, Nat.zero_add, eq0]
    refine zg7 ?_
    simp only [ekm, dfq, Nat.zero_add, eqm]
    refine zg12 ?_
    refine lp1 (fun (i : Nat) L => ((((((((St.mk L.slot (hp [(3, ⟨3, [ratL t], true⟩), (15, ⟨3, (lo ++ [q.getD 0 0] ++ List.replicate m 0).map ratL, true⟩), (17, ⟨3, (List.replicate m 0 ++ q.getD m 0 :: tl).map ratL, true⟩), (20, ⟨3, ((stp t q).take i ++ (q.drop i ++ tl)).map ratL, true⟩)])).put (some 3) (.eptr 3 3 0 0)).put (some 6) (nI64 p.length)).put (some 7) (.ref 15 3 0 p.length)).put (some 8) (.ref 17 3 0 p.length)).put (some 9) (.ref 20 3 0 p.length)).put (some 10) (nI64 k)).put (some 11) (nI64 i))) (fun i => i ≤ m) (fun i => m - i) 0 (Nat.zero_le _) ?_
    rintro i L2 hi
    refine zg11 ?_
    refine wl_if rfl (fun h50r h50 => ?_) (fun h50r h50 => ?_)
    · have hij : i < m := by omega
      have ei1 : ((i : Int) + 1).toNat = i + 1 := by omega
      obtain ⟨emg1, emg2⟩ := mid_get (t := t) (q := q) (tl := tl) (i := i) (by omega)
      have ems := mid_set (t := t) (q := q) (tl := tl) (i := i) (by omega)
      have hr1 := sz_rl (hsz _ (getD_mem (i := i) (by omega)))
      have hr2 := sz_rl (hsz _ (getD_mem (i := i + 1) (by omega)))
      have hml := mid_len (t := t) (q := q) (tl := tl) (i := i) (by omega)
      refine zg4 ?_
      refine wl_regD 14 (by decide +kernel) ?_
      refine zg6 ?_
      simp only [t1, dfq, Nat.zero_add, emg1]
      refine zg5 ?_
      simp only [ei1, dfq, Nat.zero_add, emg2]
      refine zg1 ?_
      refine cp am3 (c_FBetw (q.getD i 0) (q.getD (i + 1) 0) t (by omega)) ?_
      refine zg11 ?_
      exact nx1 (i + 1) (by omega)
    · obtain rfl : m = i := by omega
      have eme := mid_end (t := t) (tl := tl) hm
      have ekn : (stp t q).length = m := by rw [stp_len]; omega
      refine zg12 ?_
      exact nx4 (k + 1) (stp t q) (q.getD m 0 :: tl) (lo ++ [q.getD 0 0]) ⟨by rw [stp_len]; omega, by simp [htl], by simp [hlo], by rw [List.append_assoc, stp_len, hm]; exact hL, by rw [stp_len, hm]; exact hH, by rw [stp_len, hm]; exact stp_sz hC hsz⟩ (hm := by rw [stp_len]; omega)
  · obtain rfl : q = [] := List.eq_nil_of_length_eq_zero (by omega)
    rw [List.length_nil, loF, List.append_nil] at hL
    rw [List.length_nil, hiF, List.nil_append] at hH
    have hL2 : lo ++ List.replicate 0 0 = loP p t := by rw [← hL]; simp
    have hH2 : List.replicate 0 0 ++ tl = hiP p t := by rw [← hH]; simp
    refine zg14 ?_
    rw [← hL2, ← hH2]
    exact ret2f [15, 17] rfl rfl (imm_refm ratE rfl rfl (by simp; omega)) rfl (imm_refm ratE rfl rfl (by simp; omega))
namespace H_c_FEval
theorem zSm {p q : Prop} (k : q) (e : p = q := by simp only [e1, e2, e3, e4, p1, p2, p3, q1, q2, q3, l1, t0, t1, r1, r2, r3, r4, Nat.zero_add, Nat.reduceMul, Nat.reduceAdd, b1, b2, b3, b4, b5, b6, i1, i2, i3, i4, i5, i6, Nat.reduceBEq, dfq, hll]; exact rfl) : p := e.mpr k
end H_c_FEval
open H_c_FEval in
theorem c_FEval (p : List Rat) (t : Rat) (h : HS p t) (hp0 : 0 < p.length) : CallP Tryz.prog 50 [.list 3 (p.map ratL), ratL t] (ratL (evP p t)) := by
  have hll := loP_len p t
  have hlen := h.len
  refine fnP Tryz.func50 ?_
  refine zg10 ?_
  refine cp am2 (c_FSplit p t h) ?_
  refine zg12 ?_
  refine st_pure rfl (.bin rfl rfl (sub1N (by omega) (by omega))) ?_
  refine zg6 ?_
  exact retC [] rfl rfl rfl (ratE.csize _) (ratL_all _) T33 (.pure (ratE.pure _))
end Go.Proofs.YthhdcfhaldcheaaGreat
end
section
set_option linter.unusedVariables false
set_option linter.unusedSimpArgs false
set_option maxHeartbeats 8000000
set_option maxRecDepth 100000
attribute [local irreducible] Go.Lg.opsL Go.Lg.wpL Go.Lg.thenL Go.Lg.blockL
namespace Go.Proofs.YthhdcfhaldcheaaGreat
open Go.Lg
open H0 in
theorem c_MRat (n d : Int) (hn : -9223372036854775808 ≤ n ∧ n ≤ 9223372036854775807) (hd : -9223372036854775808 ≤ d ∧ d ≤ 9223372036854775807) : CallP Tryz.prog 13 [iL n, iL d] (ratL (rtV n d)) := by
  have h1 := Int.emod_nonneg n (show (41 : Int) ≠ 0 by decide)
  have h2 := Int.emod_lt_of_pos n (show (0 : Int) < 41 by decide)
  have h3 := Int.emod_nonneg d (show (8 : Int) ≠ 0 by decide)
  have h4 := Int.emod_lt_of_pos d (show (0 : Int) < 8 by decide)
  refine fnP Tryz.func13 ?_
  refine zg8 ?_
  refine cp am2 (c_Mod n 41 (by decide) (by decide)) ?_
  refine st_pure rfl (.bin rfl rfl (sub64 (by omega) (by omega))) ?_
  refine zg1 ?_
  refine cp am2 (c_Mod d 8 (by decide) (by decide)) ?_
  refine st_pure rfl (.bin rfl rfl (add64 (by omega) (by omega))) ?_
  refine cp am2 (c_FFrac (n % 41 - 20) (d % 8 + 1) (by omega) (by omega) (by omega) (by omega) (by omega)) ?_
  refine zg4 ?_
  exact retC [] rfl rfl rfl (ratE.csize _) (ratL_all _) T33 (.pure (ratE.pure _))
end Go.Proofs.YthhdcfhaldcheaaGreat
end
section
set_option linter.unusedVariables false
set_option linter.unusedSimpArgs false
set_option maxHeartbeats 8000000
set_option maxRecDepth 100000
attribute [local irreducible] Go.Lg.opsL Go.Lg.wpL Go.Lg.thenL Go.Lg.blockL
namespace Go.Proofs.YthhdcfhaldcheaaGreat
open Go.Lg
theorem sw_mem {U V : Nat} {c : List Rat} (hc : c.length = (U + 1) * (V + 1)) {x : Rat} (hx : x ∈ swL U V c) : x ∈ c := by
  obtain ⟨i, hi, rfl⟩ := List.mem_map.1 hx
  have hi := List.mem_range.1 hi
  have h1 : i / (U + 1) < V + 1 := Nat.div_lt_of_lt_mul (by rw [Nat.mul_comm]; exact hi)
  have h2 := Nat.mod_lt i (show U + 1 > 0 by omega)
  exact getD_mem (by rw [hc]; exact ix_lt (by omega) (by omega))
theorem rs_mem {g : List Rat → List Rat} {V U : Nat} {c : List Rat} {Q : Rat → Prop} (h : ∀ i, i ≤ U → ∀ x ∈ g (rwL V c i), Q x) : ∀ {n : Nat}, n ≤ U + 1 → ∀ x ∈ rsL g V c n, Q x
  | 0, _, x, hx => by cases hx
  | n + 1, hn, x, hx => by
    rcases List.mem_append.1 (show x ∈ rsL g V c n ++ g (rwL V c n) from hx) with h1 | h1
    · exact rs_mem h (by omega) x h1
    · exact h n (by omega) x h1
theorem rs_get {g : List Rat → List Rat} {V W U : Nat} {c : List Rat} (hg : ∀ i, i ≤ U → (g (rwL V c i)).length = W + 1) {i j : Nat} (hj : j ≤ W) : ∀ {n : Nat}, n ≤ U + 1 → i < n → (rsL g V c n).getD (i * (W + 1) + j) 0 = (g (rwL V c i)).getD j 0
  | 0, _, hi => by omega
  | n + 1, hn, hi => by
    have hl := rsL_len hg n (by omega)
    rw [rsL]
    rcases Nat.lt_or_ge i n with h | h
    · rw [getD_app1 _ _ _ (by rw [hl]; have := Nat.mul_le_mul_right (W + 1) (show i + 1 ≤ n from h); rw [Nat.succ_mul] at this; omega)]
      exact rs_get hg hj (by omega) h
    · obtain rfl : i = n := by omega
      rw [List.getD_eq_getElem?_getD, List.getElem?_append_right (by rw [hl]; omega), hl, Nat.add_sub_cancel_left, ← List.getD_eq_getElem?_getD]
theorem sw_get {U V : Nat} {c : List Rat} {i j : Nat} (hi : i ≤ U) (hj : j ≤ V) : (swL U V c).getD (j * (U + 1) + i) 0 = c.getD (i * (V + 1) + j) 0 := by
  rw [swL, gL_get (ix_lt hj hi), swV, ix_div hi, ix_mod hi]
section
variable {m M a b : Rat} {U V : Nat} {c : List Rat} (hc : c.length = (U + 1) * (V + 1)) (h0 : 0 ≤ a) (hab : a ≤ b) (hb : b ≤ 1) (h : ∀ x ∈ c, m ≤ x ∧ x ≤ M)
end
theorem evT_hs {U V : Nat} {c : List Rat} {u v : Rat} (hc : c.length = (U + 1) * (V + 1)) (hU : U ≤ 4) (hV : V ≤ 4) (h : ∀ x ∈ c, rl x ≤ 1) (hu : rl u ≤ 1) (hv : rl v ≤ 1) : (∀ j, j ≤ V → HS (rwL U (swL U V c) j) u) ∧ HS (rowT U V c u) v := by
  have h1 : ∀ j, j ≤ V → ∀ x ∈ rwL U (swL U V c) j, rl x ≤ 1 := fun j _ x hx => h x (sw_mem hc (rwL_mem hx))
  have h2 : ∀ j, j ≤ V → (rwL U (swL U V c) j).length = U + 1 := fun j hj => rwL_len (swL_len U V c) hj
  refine ⟨fun j hj => hs_gen (R := 1) (n := 5) (h1 j hj) hu (by rw [h2 j hj]; omega) (by decide), hs_gen (R := 352) (n := 5) ?_ (by omega) (by rw [rowT_len]; omega) (by decide)⟩
  exact rs_mem (U := V) (fun j hj x hx => by
    rw [List.mem_singleton.1 hx]
    exact getD_rl (S := 352) (by decide) (lo_sz2 (R := 1) (n := 5) (h1 j hj) hu (by rw [h2 j hj]; omega)).1 _) (Nat.le_refl _)
end Go.Proofs.YthhdcfhaldcheaaGreat
end
section
set_option linter.unusedVariables false
set_option linter.unusedSimpArgs false
set_option maxHeartbeats 8000000
set_option maxRecDepth 100000
attribute [local irreducible] Go.Lg.opsL Go.Lg.wpL Go.Lg.thenL Go.Lg.blockL
namespace Go.Proofs.YthhdcfhaldcheaaGreat
open Go.Lg
theorem fE_swap (a b u v : Rat) (m : Nat) : ∀ (n : Nat) (f : Nat → Nat → Rat), fE a b n (fun i => fE u v m (f i)) = fE u v m (fun j => fE a b n (fun i => f i j))
  | 0, f => rfl
  | n + 1, f => by
    rw [fE_step, fE_swap a b u v m n f, fE_swap a b u v m n (fun i => f (i + 1)), ← fE_lin]
    exact fE_congr _ _ _ _ _ fun j _ => (fE_step a b n fun i => f i j).symm
theorem evT_swap {U V : Nat} {c : List Rat} (hc : c.length = (U + 1) * (V + 1)) (u v : Rat) : evP (colT U V c v) u = evT U V c u v := by
  have h1 : ∀ i, i ≤ U → (colT U V c v).getD i 0 = evP (rwL V c i) v := fun i hi => by
    have := rs_get (g := fun p => [evP p v]) (V := V) (W := 0) (U := U) (c := c) (fun i hi => rfl) (i := i) (j := 0) (Nat.le_refl _) (n := U + 1) (Nat.le_refl _) (by omega)
    rw [show i * (0 + 1) + 0 = i by omega] at this
    rw [colT, this]; rfl
  have h2 : ∀ j, j ≤ V → (rowT U V c u).getD j 0 = evP (rwL U (swL U V c) j) u := fun j hj => by
    have := rs_get (g := fun p => [evP p u]) (V := U) (W := 0) (U := V) (c := swL U V c) (fun i hi => rfl) (i := j) (j := 0) (Nat.le_refl _) (n := V + 1) (Nat.le_refl _) (by omega)
    rw [show j * (0 + 1) + 0 = j by omega] at this
    rw [rowT, this]; rfl
  rw [evT, ev_fE (by rw [colT_len]; omega), ev_fE (by rw [rowT_len]; omega), colT_len, rowT_len, Nat.add_sub_cancel, Nat.add_sub_cancel]
  rw [fE_congr _ _ U _ (fun i => fE (1 - v) v V (fun j => c.getD (i * (V + 1) + j) 0)) fun i hi => ?_, fE_swap]
  · refine fE_congr _ _ _ _ _ fun j hj => ?_
    rw [h2 j hj, ev_fE (by rw [rwL_len (swL_len U V c) hj]; omega), rwL_len (swL_len U V c) hj, Nat.add_sub_cancel]
    refine fE_congr _ _ _ _ _ fun i hi => ?_
    rw [rwL_get (swL_len U V c) hj hi, sw_get hi hj]
  · rw [h1 i hi, ev_fE (by rw [rwL_len hc hi]; omega), rwL_len hc hi, Nat.add_sub_cancel]
    refine fE_congr _ _ _ _ _ fun j hj => ?_
    rw [rwL_get hc hi hj]
theorem evF_hs {U V : Nat} {c : List Rat} {u v : Rat} (hc : c.length = (U + 1) * (V + 1)) (hU : U ≤ 4) (hV : V ≤ 4) (h : ∀ x ∈ c, rl x ≤ 1) (hu : rl u ≤ 1) (hv : rl v ≤ 1) : (∀ i, i ≤ U → HS (rwL V c i) v) ∧ HS (colT U V c v) u := by
  have h1 : ∀ j, j ≤ U → ∀ x ∈ rwL V c j, rl x ≤ 1 := fun j _ x hx => h x (rwL_mem hx)
  have h2 : ∀ j, j ≤ U → (rwL V c j).length = V + 1 := fun j hj => rwL_len hc hj
  refine ⟨fun j hj => hs_gen (R := 1) (n := 5) (h1 j hj) hv (by rw [h2 j hj]; omega) (by decide), hs_gen (R := 352) (n := 5) ?_ (by omega) (by rw [colT_len]; omega) (by decide)⟩
  exact rs_mem (U := U) (fun j hj x hx => by
    rw [List.mem_singleton.1 hx]
    exact getD_rl (S := 352) (by decide) (lo_sz2 (R := 1) (n := 5) (h1 j hj) hv (by rw [h2 j hj]; omega)).1 _) (Nat.le_refl _)
def plL (p : List Rat) : LV := .list 3 (p.map ratL)
theorem plE : EncOK plL 1 false := ⟨fun _ => rfl, fun _ => rfl, fun p => pure_lst ratE 3 p⟩
theorem plZ : ZeroOK Tryz.prog 38 (plL []) := ⟨Tryz.t38, _, by kernel_rfl, rfl, rfl, fun _ _ _ => repNil0 3⟩
instance : EC Tryz.prog 38 plL 1 false [] := ⟨plE, plZ, T38⟩
end Go.Proofs.YthhdcfhaldcheaaGreat
end
section
set_option linter.unusedVariables false
set_option linter.unusedSimpArgs false
set_option maxHeartbeats 8000000
set_option maxRecDepth 100000
attribute [local irreducible] Go.Lg.opsL Go.Lg.wpL Go.Lg.thenL Go.Lg.blockL
namespace Go.Proofs.YthhdcfhaldcheaaGreat
open Go.Lg
end Go.Proofs.YthhdcfhaldcheaaGreat
namespace Go.Lg
/-- a list that a call hands out as a block of its own, told as a list -/
theorem callP_own {P : Program} {f : FuncId} {args : List LV} {sz n : Nat} {vals : List LV} {mt : Bool} (h : CallOK P f args (.ref 1 sz 0 n) [⟨sz, vals, mt⟩]) (hp : pures vals = true) (hn : vals.length = n) : CallP P f args (.list sz vals) := by
  refine ⟨⟨h.1, fun W Z0 vs hz hr => Calls.mono (h.2 W Z0 vs hz hr) (fun e w' => ?_)⟩, fun g => LV.ren_pure g _ (by simp [LV.pure, hp])⟩
  rintro ⟨v, μ, Z, he, hc, hv⟩
  have hle : Heap.le (outHeap [⟨sz, vals, mt⟩]) (outHeap [⟨sz, vals, false⟩]) := fun b blk hb => by
    unfold outHeap at hb ⊢
    by_cases h0 : b = 0
    · rw [if_pos h0] at hb; cases hb
    · rw [if_neg h0] at hb
      rcases Nat.lt_or_ge (b - 1) 1 with h1 | h1
      · have e : b - 1 = 0 := by omega
        rw [e] at hb
        simp only [List.getElem?_cons_zero, Option.some.injEq] at hb
        subst hb
        exact ⟨false, by rw [if_neg h0, e]; rfl, fun _ => rfl, fun _ _ => h0⟩
      · rw [List.getElem?_eq_none (by simpa using h1)] at hb; cases hb
  obtain ⟨Z1, k1, k2⟩ := hc.widen hle
  have hfr : Frame Z μ w' w' := ⟨fun _ _ => rfl, fun _ id _ c _ _ hh => ⟨c, hh, rfl⟩⟩
  have hv1 := hv.mono k2 (fun _ _ h => h) hfr
  have hi : Imm (outHeap [⟨sz, vals, false⟩]) (.ref 1 sz 0 n) (.list sz vals) := by
    have := Imm.ref (H := outHeap [⟨sz, vals, false⟩]) (b := 1) (off := 0) (len := n) (blk := ⟨sz, vals, false⟩) rfl rfl hp (by simp [hn]) rfl
    simpa [← hn] using this
  refine ⟨v, drop1 μ 1, Z1, he, ?_, RepV.of1 (fun l h => by cases h) (hi.soundV k1 hv1)⟩
  have kk := Core.kill (L := ⟨fun _ => .any, outHeap [⟨sz, vals, false⟩]⟩) 1 (by decide) k1
  refine kk.reheap fun b id hb => ?_
  have hb1 : b ≠ 1 := fun e => by rw [e] at hb; simp [drop1] at hb
  have hb2 : μ b = some id := by unfold drop1 at hb; split at hb <;> first | exact hb | cases hb
  obtain ⟨blk, g1, _⟩ := k1.heap b id hb2
  unfold outHeap at g1
  split at g1
  · cases g1
  · rw [List.getElem?_eq_none (by simp; omega)] at g1; cases g1
end Go.Lg
namespace Go.Proofs.YthhdcfhaldcheaaGreat
open Go.Lg
theorem c_copiedP (p : List Rat) (hl : p.length ≤ 1048576) (hpr : ∀ x ∈ p, rl x ≤ 274877906944) : CallP Tryz.prog 134 [.list 3 (p.map ratL)] (.list 3 (p.map ratL)) :=
  callP_own (c_copiedO p hl hpr) (pures_map ratE _) (by simp)
def lifV (p : List Rat) (i : Nat) : Rat := (if 0 < i then ((i : Int) : Rat) / ((p.length : Int) : Rat) * p.getD (i - 1) 0 else 0) + (if i < p.length then (((p.length : Int) - (i : Int) : Int) : Rat) / ((p.length : Int) : Rat) * p.getD i 0 else 0)
def lifP (p : List Rat) : List Rat := (List.range (p.length + 1)).map (lifV p)
def itL : Nat → List Rat → List Rat
  | 0, p => p
  | k + 1, p => itL k (lifP p)
def upP (p : List Rat) (n : Nat) : List Rat := itL (n + 1 - p.length) p
theorem lifP_len (p : List Rat) : (lifP p).length = p.length + 1 := by simp [lifP]
theorem lifP_get {p : List Rat} {i : Nat} (h : i < p.length + 1) : (lifP p).getD i 0 = lifV p i := by
  rw [List.getD_eq_getElem?_getD, List.getElem?_eq_getElem (by rw [lifP_len]; exact h)]; simp [lifP]
theorem itL_len : ∀ (k : Nat) (p : List Rat), (itL k p).length = p.length + k
  | 0, p => rfl
  | k + 1, p => by rw [itL, itL_len k, lifP_len]; omega
theorem upP_len {p : List Rat} {n : Nat} (h : p.length ≤ n + 1) : (upP p n).length = n + 1 := by rw [upP, itL_len]; omega
theorem lifV_tt {p : List Rat} {i : Nat} (h0 : 0 < i) (h1 : i < p.length) : lifV p i = ((i : Int) : Rat) / ((p.length : Int) : Rat) * p.getD (i - 1) 0 + (((p.length : Int) - (i : Int) : Int) : Rat) / ((p.length : Int) : Rat) * p.getD i 0 := by
  rw [lifV, if_pos h0, if_pos h1]
theorem lifV_tf {p : List Rat} {i : Nat} (h0 : 0 < i) (h1 : ¬ i < p.length) : lifV p i = ((i : Int) : Rat) / ((p.length : Int) : Rat) * p.getD (i - 1) 0 := by
  rw [lifV, if_pos h0, if_neg h1, Rat.add_zero]
theorem lifV_ft {p : List Rat} {i : Nat} (h0 : ¬ 0 < i) (h1 : i < p.length) : lifV p i = (((p.length : Int) - (i : Int) : Int) : Rat) / ((p.length : Int) : Rat) * p.getD i 0 := by
  rw [lifV, if_neg h0, if_pos h1, Rat.zero_add]
/-- every elevation up to the degree n has numbers that are short enough -/
def upS (p : List Rat) (n : Nat) : Prop := (∀ x ∈ p, rl x ≤ 1073741824) ∧ ∀ k, p.length + k ≤ n + 1 → ∀ x ∈ itL k p, rl x ≤ 1073741824
theorem upS_rl {p : List Rat} {n : Nat} (h : upS p n) (k : Nat) : rl (p.getD k 0) ≤ 1073741824 := getD_rl (by decide) h.1 k
theorem upS_step {p : List Rat} {n : Nat} (hl : p.length ≤ n) (h : upS p n) : upS (lifP p) n := ⟨h.2 1 (by omega), fun k hk => h.2 (k + 1) (by rw [lifP_len] at hk; omega)⟩
theorem upP_self {p : List Rat} {n : Nat} (h : n + 1 ≤ p.length) : upP p n = p := by rw [upP, show n + 1 - p.length = 0 by omega]; rfl
theorem itL_step {p : List Rat} {n : Nat} (h : p.length ≤ n) : itL (n + 1 - (lifP p).length) (lifP p) = itL (n + 1 - p.length) p := by
  rw [show n + 1 - p.length = (n + 1 - (lifP p).length) + 1 by rw [lifP_len]; omega]; rfl
def zipG (g : Rat → Rat → Rat) (a b : List Rat) : List Rat := (List.range a.length).map fun i => g (a.getD i 0) (b.getD i 0)
theorem zipG_len (g : Rat → Rat → Rat) (a b : List Rat) : (zipG g a b).length = a.length := by simp [zipG]
namespace H_c_up
theorem zSm {p q : Prop} (k : q) (e : p = q := by simp only [e1, e2, e3, e4, p1, p2, p3, q1, q2, q3, l1, t0, t1, r1, r2, r3, r4, Nat.zero_add, Nat.reduceMul, Nat.reduceAdd, b1, b2, b3, b4, b5, b6, i1, i2, i3, i4, i5, i6, Nat.reduceBEq, dfq, List.length_set, List.set_set, egs, egz, eim, Rat.zero_add, kills_map ratE, ratL_kill, LV.kill, kills]; exact rfl) : p := e.mpr k
end H_c_up
open H_c_up in
theorem c_up (p : List Rat) (n : Nat) (hp0 : 0 < p.length) (hn : n ≤ 1000) (hl : p.length ≤ 1001) (hs : upS p n) : CallP Tryz.prog 104 [.list 3 (p.map ratL), nI64 n] (.list 3 ((upP p n).map ratL)) := by
  refine fnP Tryz.func104 ?_
  have egs : True := trivial
  have egz : True := trivial
  have eim : True := trivial
  refine zg8 ?_
  refine cp am1 (c_copiedP p (by omega) (fun x hx => by have := upS_rl hs; have h9 := List.getElem_of_mem hx; obtain ⟨k, hk, rfl⟩ := h9; have h8 := this k; rw [List.getD_eq_getElem?_getD, List.getElem?_eq_getElem hk] at h8; exact Nat.le_trans h8 (by decide))) ?_
  refine zg5 ?_
  refine lp1 (fun (o : List Rat) L => (((St.mk L.slot (hp [])).put (some 1) (nI64 n)).put (some 5) (.list 3 (o.map ratL)))) (fun o => 0 < o.length ∧ o.length ≤ 1001 ∧ upS o n ∧ itL (n + 1 - o.length) o = upP p n) (fun o => n + 1 - o.length) p ⟨hp0, hl, hs, rfl⟩ ?_
  rintro o L1 ⟨ho0, hol, hos, hit⟩
  refine zg7 ?_
  refine op_if 18 rfl (fun h18r h18 => ?_) (fun h18r h18 => ?_)
  · refine zg7 ?_
    refine wl_if rfl (fun h23r h23 => ?_) (fun h23r h23 => ?_)
    · have hon : o.length ≤ n := by omega
      refine zg13 ?_
      refine st_pure rfl (.bin rfl rfl (add1N (by omega))) ?_
      refine st_alloc rfl rfl (.mkE (n := (o.length + 1)) (m := (o.length + 1)) ml ml om om om) ?_
      refine zg12 ?_
      refine lp2 (fun (i : Nat) (w : List Rat) L => ((((((((St.mk L.slot (hp [(28, ⟨3, w.map ratL, true⟩)])).put (some 1) (nI64 n)).put (some 5) (.list 3 (o.map ratL))).put (some 6) (nI64 o.length)).put (some 7) (.ref 28 3 0 (o.length + 1))).put (some 29) (.ref 28 3 0 (o.length + 1))).put (some 30) (nI64 (o.length + 1))).put (some 31) (nI64 i))) (fun i w => i ≤ o.length + 1 ∧ w.length = o.length + 1 ∧ w.take i = (lifP o).take i ∧ ∀ x, i ≤ x → w.getD x 0 = 0) (fun i w => o.length + 1 - i) 0 (List.replicate (o.length + 1) 0) ⟨Nat.zero_le _, by simp, rfl, fun x _ => by simp [List.getD_eq_getElem?_getD, List.getElem?_replicate]; split <;> rfl⟩ ?_
      rintro i w L2 ⟨hi, hwl, hwt, hz⟩
      refine zg6 ?_
      refine wl_if rfl (fun h32r h32 => ?_) (fun h32r h32 => ?_)
      · have hi2 : i < o.length + 1 := by omega
        have hf1 := rl_ints (n := (i : Int)) (d := (o.length : Int)) (by omega) (by omega)
        have hf2 := rl_ints (n := (o.length : Int) - (i : Int)) (d := (o.length : Int)) (by omega) (by omega)
        have hr1 := upS_rl hos (i - 1)
        have hr2 := upS_rl hos i
        have hm1 := rl_mul (((i : Int) : Rat) / ((o.length : Int) : Rat)) (o.getD (i - 1) 0)
        have hm2 := rl_mul ((((o.length : Int) - (i : Int) : Int) : Rat) / ((o.length : Int) : Rat)) (o.getD i 0)
        have egs := fun v => set_get_self (o := w) (i := i) (v := v) (by omega)
        have egz := hz i (Nat.le_refl _)
        have eim : ((i : Int) - 1).toNat = i - 1 := by omega
        have hr0 : rl 0 = 1 := rfl
        refine zg17 ?_
        refine wl_if rfl (fun h35r h35 => ?_) (fun h35r h35 => ?_)
        · have hi0 : 0 < i := by omega
          refine zg4 ?_
          refine cp am2 (c_RMake (i : Int) (o.length : Int) (by omega) (by omega) (by omega) (by omega) (by omega)) ?_
          refine zg8 ?_
          refine wl_regD 10 (by decide +kernel) ?_
          refine zg8 ?_
          try simp only [t1, dfq, eim]
          refine cp am2 (c_RMul _ _ (by omega)) ?_
          refine zg12 ?_
          refine wl_if rfl (fun h55r h55 => ?_) (fun h55r h55 => ?_)
          · have hi1 : i < o.length := by omega
            refine zg4 ?_
            refine st_pure rfl (.bin rfl rfl (sub64 (by omega) (by omega))) ?_
            refine zg1 ?_
            refine cp am2 (c_RMake ((o.length : Int) - (i : Int)) (o.length : Int) (by omega) (by omega) (by omega) (by omega) (by omega)) ?_
            refine zg8 ?_
            refine wl_regD 14 (by decide +kernel) ?_
            refine zg11 ?_
            try simp only [t1, dfq]
            refine cp am2 (c_RMul _ _ (by omega)) ?_
            try simp only [t1, dfq, Nat.zero_add, egs, egz]
            refine cp am2 (c_RAdd _ _ (by omega)) ?_
            refine zg5 ?_
            refine wl_regW ((Weak.kill _ 9).trans (Weak.kill _ 11)) ?_
            refine zg4 ?_
            exact nx2 (i + 1) (w.set i (((i : Int) : Rat) / ((o.length : Int) : Rat) * o.getD (i - 1) 0 + (((o.length : Int) - (i : Int) : Int) : Rat) / ((o.length : Int) : Rat) * o.getD i 0)) ⟨by omega, by simp [hwl], set_takeR (by rw [lifP_len]; omega) (by rw [lifP_len]; omega) hwt (by rw [lifP_get (by omega), lifV_tt hi0 hi1]), fun x hx => by rw [set_getD _ _ _ _ (by omega), if_neg (by omega)]; exact hz x (by omega)⟩
          · have hi1 : ¬ i < o.length := by omega
            refine zg3 ?_
            refine wl_regW ((Weak.kill _ 9).trans (Weak.kill _ 11)) ?_
            refine zg4 ?_
            exact nx2 (i + 1) (w.set i (((i : Int) : Rat) / ((o.length : Int) : Rat) * o.getD (i - 1) 0)) ⟨by omega, by simp [hwl], set_takeR (by rw [lifP_len]; omega) (by rw [lifP_len]; omega) hwt (by rw [lifP_get (by omega), lifV_tf hi0 hi1]), fun x hx => by rw [set_getD _ _ _ _ (by omega), if_neg (by omega)]; exact hz x (by omega)⟩
        · have hi0 : ¬ 0 < i := by omega
          refine zg10 ?_
          refine wl_if rfl (fun h55r h55 => ?_) (fun h55r h55 => ?_)
          · have hi1 : i < o.length := by omega
            refine zg4 ?_
            refine st_pure rfl (.bin rfl rfl (sub64 (by omega) (by omega))) ?_
            refine zg1 ?_
            refine cp am2 (c_RMake ((o.length : Int) - (i : Int)) (o.length : Int) (by omega) (by omega) (by omega) (by omega) (by omega)) ?_
            refine zg8 ?_
            refine wl_regD 14 (by decide +kernel) ?_
            refine zg11 ?_
            try simp only [t1, dfq]
            refine cp am2 (c_RMul _ _ (by omega)) ?_
            try simp only [t1, dfq, Nat.zero_add, egs, egz]
            refine cp am2 (c_RAdd _ _ (by omega)) ?_
            refine zg5 ?_
            refine wl_regW ((Weak.kill _ 9).trans (Weak.kill _ 11)) ?_
            refine zg4 ?_
            exact nx2 (i + 1) (w.set i ((((o.length : Int) - (i : Int) : Int) : Rat) / ((o.length : Int) : Rat) * o.getD i 0)) ⟨by omega, by simp [hwl], set_takeR (by rw [lifP_len]; omega) (by rw [lifP_len]; omega) hwt (by rw [lifP_get (by omega), lifV_ft hi0 hi1]), fun x hx => by rw [set_getD _ _ _ _ (by omega), if_neg (by omega)]; exact hz x (by omega)⟩
          · have hi1 : ¬ i < o.length := by omega
            refine zg3 ?_
            refine wl_regW ((Weak.kill _ 9).trans (Weak.kill _ 11)) ?_
            refine zg4 ?_
            exact nx2 (i + 1) w (False.elim (by omega))
      · obtain rfl : i = o.length + 1 := by omega
        have hE : w = lifP o := by
          rw [List.take_of_length_le (by omega), List.take_of_length_le (by rw [lifP_len]; omega)] at hwt
          exact hwt
        subst hE
        refine zg5 ?_
        refine wl_regW ((Weak.imm (t := 7) [28] rfl rfl (imm_refm ratE rfl rfl (by rw [lifP_len]))).trans (Weak.kill _ 28)) ?_
        refine zg5 ?_
        exact nx1 (lifP o) ⟨by rw [lifP_len]; omega, by rw [lifP_len]; omega, upS_step (by omega) hos, by rw [itL_step (by omega)]; exact hit⟩ (hm := by rw [lifP_len]; omega)
    · refine zg12 ?_
      have hE : upP p n = o := by rw [← hit, show n + 1 - o.length = 0 by omega]; rfl
      rw [hE]
      exact ret1 rfl (by first | exact .pure rfl | exact .pure (limL_pure _) | exact .pure (magL_pure _) | exact .pure (ratE.pure _) | exact .pure (pure_lst u32E _ _) | exact .pure (pure_lst ratE _ _))
  · refine zg20 ?_
    have hE : upP p n = o := by rw [← hit, show n + 1 - o.length = 0 by omega]; rfl
    rw [hE]
    exact ret1 rfl (by first | exact .pure rfl | exact .pure (limL_pure _) | exact .pure (magL_pure _) | exact .pure (ratE.pure _) | exact .pure (pure_lst u32E _ _) | exact .pure (pure_lst ratE _ _))
end Go.Proofs.YthhdcfhaldcheaaGreat
end
section
set_option linter.unusedVariables false
set_option linter.unusedSimpArgs false
set_option maxHeartbeats 8000000
set_option maxRecDepth 100000
attribute [local irreducible] Go.Lg.opsL Go.Lg.wpL Go.Lg.thenL Go.Lg.blockL
namespace Go.Proofs.YthhdcfhaldcheaaGreat
open Go.Lg
theorem zip_self (a : List Rat) : ((zipG (· - ·) a a).any fun x => sgnR x != 0) = false := by
  rw [List.any_eq_false]
  intro x hx
  obtain ⟨i, _, rfl⟩ := List.mem_map.1 hx
  show ¬ (sgnR (a.getD i 0 - a.getD i 0) != 0) = true
  rw [Rat.sub_self]
  decide
open H0 in
theorem c_BZero1 (q : Rat) (h : rl q ≤ 1099511627776) : CallP Tryz.prog 137 [ratL q] (bL (sgnR q != 0)) := by
  refine fnP Tryz.func137 ?_
  refine zg9 ?_
  refine cp am1 (c_RSign _ (by omega)) ?_
  refine zg5 ?_
  exact ret1 rfl (by first | exact .pure rfl | exact .pure (limL_pure _) | exact .pure (magL_pure _) | exact .pure (ratE.pure _) | exact .pure (pure_lst u32E _ _) | exact .pure (pure_lst ratE _ _))
open H0 in
theorem c_BZero (p : List Rat) (hl : p.length ≤ 1048576) (hpr : ∀ x ∈ p, rl x ≤ 1099511627776) : CallP Tryz.prog 69 [.list 3 (p.map ratL)] (bL (!(p.any fun x => sgnR x != 0))) := by
  refine fnP Tryz.func69 ?_
  refine zg8 ?_
  refine cp am2 (c_ContainsFunc p 137 (fun x => sgnR x != 0) hl (fun x hx => c_BZero1 x (hpr x hx))) ?_
  refine zg5 ?_
  exact ret1 rfl (by first | exact .pure rfl | exact .pure (limL_pure _) | exact .pure (magL_pure _) | exact .pure (ratE.pure _) | exact .pure (pure_lst u32E _ _) | exact .pure (pure_lst ratE _ _))
open H0 in
theorem c_Elev (p : List Rat) (n : Nat) (hp0 : 0 < p.length) (hn : n ≤ 40) (hpn : p.length ≤ n + 1) (hps : upS p n) : CallP Tryz.prog 29 [.list 3 (p.map ratL), nI64 n] (.tup [.list 3 ((upP p n).map ratL), iL 0]) := by
  refine fnP Tryz.func29 ?_
  refine zg12 ?_
  refine st_pure rfl (.bin rfl rfl (sub64 (by omega) (by omega))) ?_
  refine zg2 ?_
  refine op_if 11 rfl (fun h11r h11 => ?_) (fun h11r h11 => ?_)
  · refine zg14 ?_
    exfalso
    omega
  · refine zg5 ?_
    refine wl_if rfl (fun h14r h14 => ?_) (fun h14r h14 => ?_)
    · omega
    · refine zg6 ?_
      refine cp am2 (c_up p n hp0 (by omega) (by omega) hps) ?_
      refine zg5 ?_
      exact ret2 rfl (.pure (pure_lst ratE _ _)) rfl (.pure rfl)
end Go.Proofs.YthhdcfhaldcheaaGreat
end
section
set_option linter.unusedVariables false
set_option linter.unusedSimpArgs false
set_option maxHeartbeats 8000000
set_option maxRecDepth 100000
attribute [local irreducible] Go.Lg.opsL Go.Lg.wpL Go.Lg.thenL Go.Lg.blockL
namespace Go.Proofs.YthhdcfhaldcheaaGreat
open Go.Lg
end Go.Proofs.YthhdcfhaldcheaaGreat
namespace Go.Lg
end Go.Lg
namespace Go.Proofs.YthhdcfhaldcheaaGreat
open Go.Lg
theorem chsQ_rl {n : Nat} (k : Nat) (hn : n ≤ 40) : rl (((chs n k : Nat) : Int) : Rat) ≤ 2 := by
  rcases Nat.lt_or_ge n k with h | h
  · rw [chs_gt h]; decide
  · have h1 := chR_rl hn _ (getD_mem (i := k) (by rw [chR_len]; omega))
    rw [chR_get h] at h1; exact h1
end Go.Proofs.YthhdcfhaldcheaaGreat
end
section
set_option linter.unusedVariables false
set_option linter.unusedSimpArgs false
set_option maxHeartbeats 8000000
set_option maxRecDepth 100000
attribute [local irreducible] Go.Lg.opsL Go.Lg.wpL Go.Lg.thenL Go.Lg.blockL
namespace Go.Proofs.YthhdcfhaldcheaaGreat
open Go.Lg
def upR (V : Nat) (c : List Rat) (v U : Nat) : List Rat := rsL (fun p => upP p v) V c (U + 1)
def upN (U V : Nat) (c : List Rat) (u v : Nat) : List Rat := swL v u (rsL (fun p => upP p u) U (swL U v (upR V c v U)) (v + 1))
theorem upR_len {U V v : Nat} {c : List Rat} (hc : c.length = (U + 1) * (V + 1)) (hV : V ≤ v) : (upR V c v U).length = (U + 1) * (v + 1) :=
  rsL_len (W := v) (U := U) (fun i hi => upP_len (by rw [rwL_len hc hi]; omega)) _ (Nat.le_refl _)
theorem upN_len (U V : Nat) (c : List Rat) (u v : Nat) : (upN U V c u v).length = (u + 1) * (v + 1) := swL_len v u _
theorem upP_mem {p : List Rat} {n : Nat} (hl : p.length ≤ n + 1) (h : upS p n) : ∀ x ∈ upP p n, rl x ≤ 1073741824 := h.2 _ (by omega)
theorem rs_one (V : Nat) (c : List Rat) : ∀ n, rsL (fun p => p) V c n = c.take (n * (V + 1))
  | 0 => by simp [rsL]
  | n + 1 => by
    rw [rsL, rs_one V c n, rwL, Nat.succ_mul]
    have h := List.take_append_drop (n * (V + 1)) (c.take (n * (V + 1) + (V + 1)))
    rw [List.take_take, Nat.min_eq_left (by omega)] at h
    exact h
theorem rs_congr {g h : List Rat → List Rat} {V U : Nat} {c : List Rat} (e : ∀ i, i ≤ U → g (rwL V c i) = h (rwL V c i)) : ∀ {n}, n ≤ U + 1 → rsL g V c n = rsL h V c n
  | 0, _ => rfl
  | n + 1, hn => by rw [rsL, rsL, rs_congr e (by omega), e n (by omega)]
open H0 in
theorem c_DiffV (U V : Nat) (c : List Rat) (hc : c.length = (U + 1) * (V + 1)) (hl : c.length ≤ 1048576) (hcR : ∀ x ∈ c, rl x ≤ 1073741824) (hV1 : V ≤ 900) : CallP Tryz.prog 52 [.agg [nI64 U, nI64 V, .list 3 (c.map ratL)]] (.agg [nI64 U, nI64 (V - 1), .list 3 ((dfV U V c).map ratL)]) := by
  have hU : U + 1 ≤ c.length := by rw [hc]; exact Nat.le_mul_of_pos_right _ (Nat.succ_pos V)
  have hV : V + 1 ≤ c.length := by rw [hc]; exact Nat.le_mul_of_pos_left _ (Nat.succ_pos U)
  have hnp := net_pureN U V c
  have hnp2 := net_pureN U (V - 1) (dfV U V c)
  refine fnP Tryz.func52 (ht := (fun g => LV.ren_pure g _ (net_pureN _ _ _))) ?_
  refine zg9 ?_
  refine cp am2 (c_rows U V c hc hl 40 [] rfl (fun x hx => by cases hx) difP (V - 1) (fun i hi => c_Diff _ (by rw [rwL_len hc hi]; omega) (fun x hx => hcR x (rwL_mem hx))) (fun i hi => dif_W (rwL_len hc hi)) (by have := Nat.mul_le_mul_left (U + 1) (show V - 1 + 1 ≤ V + 1 by omega); omega)) ?_
  refine zg4 ?_
  exact retC [] rfl rfl rfl rfl rfl T27 (.pure (net_pureN _ _ _))
open H0 in
theorem c_TZero (u v : Int) (c : List Rat) (hl : c.length ≤ 1048576) (hpr : ∀ x ∈ c, rl x ≤ 1099511627776) : CallP Tryz.prog 54 [.agg [iL u, iL v, .list 3 (c.map ratL)]] (bL (!(c.any fun x => sgnR x != 0))) := by
  refine fnP Tryz.func54 ?_
  refine zg10 ?_
  refine cp am1 (c_BZero c hl hpr) ?_
  refine zg4 ?_
  exact ret1 rfl (by first | exact .pure rfl | exact .pure (limL_pure _) | exact .pure (magL_pure _) | exact .pure (ratE.pure _) | exact .pure (pure_lst u32E _ _) | exact .pure (pure_lst ratE _ _))
open H0 in
theorem c_up11 (p : List Rat) (d : Nat) (hp0 : 0 < p.length) (hd : d ≤ 40) (hpn : p.length ≤ d + 1) (hps : upS p d) : CallP Tryz.prog 173 [.list 3 (p.map ratL), .boxp (nI64 d)] (.list 3 ((upP p d).map ratL)) := by
  refine fnP Tryz.func173 ?_
  refine zg9 ?_
  refine cp am2 (c_Elev p d hp0 hd hpn hps) ?_
  refine zg14 ?_
  exact ret1 rfl (by first | exact .pure rfl | exact .pure (limL_pure _) | exact .pure (magL_pure _) | exact .pure (ratE.pure _) | exact .pure (pure_lst u32E _ _) | exact .pure (pure_lst ratE _ _))
open H0 in
theorem c_up1 (d : Nat) : CallP Tryz.prog 172 [nI64 d] (.clo 173 [.boxp (nI64 d)]) := by
  refine fnP Tryz.func172 (ht := (fun g => by simp [LV.ren, rens])) ?_
  refine zg8 ?_
  refine st_opc [1] rfl rfl (.mk (caps := [.boxp (nI64 d)]) (.cons (.eptr rfl rfl rfl rfl (at_self (nI64 d) rfl) rfl rfl) .nil) (fun x hx => by rw [List.mem_singleton.1 hx]; exact ⟨rfl, rfl⟩)) rfl ?_
  refine zg4 ?_
  exact ret1 rfl (.pure rfl)
namespace H_c_up7
theorem zSm {p q : Prop} (k : q) (e : p = q := by simp only [e1, e2, e3, e4, p1, p2, p3, q1, q2, q3, l1, t0, t1, r1, r2, r3, r4, Nat.zero_add, Nat.reduceMul, Nat.reduceAdd, b1, b2, b3, b4, b5, b6, i1, i2, i3, i4, i5, i6, Nat.reduceBEq, frz_nil, dfq, kills_map ratE, ratL_kill, spL_kill, LV.kill, kills]; exact rfl) : p := e.mpr k
end H_c_up7
open H_c_up7 in
theorem c_up7 (U V : Nat) (c : List Rat) (hc : c.length = (U + 1) * (V + 1)) (hl : c.length ≤ 1048576) (hcR : ∀ x ∈ c, rl x ≤ 274877906944) (u v : Nat) (hUu : U ≤ u) (hVv : V ≤ v) (hu : u ≤ 40) (hv : v ≤ 40) (h1 : ∀ i, i ≤ U → upS (rwL V c i) v) (h2 : ∀ j, j ≤ v → upS (rwL U (swL U v (upR V c v U)) j) u) : CallP Tryz.prog 138 [.agg [nI64 U, nI64 V, .list 3 (c.map ratL)], nI64 u, nI64 v] (.agg [nI64 u, nI64 v, .list 3 ((upN U V c u v).map ratL)]) := by
  have hU : U + 1 ≤ c.length := by rw [hc]; exact Nat.le_mul_of_pos_right _ (Nat.succ_pos V)
  have hV : V + 1 ≤ c.length := by rw [hc]; exact Nat.le_mul_of_pos_left _ (Nat.succ_pos U)
  have hnp := net_pureN U V c
  have hl1 := upR_len hc hVv
  have hl1s : (upR V c v U).length ≤ 1048576 := by rw [hl1]; exact Nat.le_trans (Nat.mul_le_mul (show U + 1 ≤ 41 by omega) (show v + 1 ≤ 41 by omega)) (by decide)
  have hn1 := net_pureN U v (upR V c v U)
  have hR1 := c_rows U V c hc hl 173 [.boxp (nI64 v)] rfl (fun x hx => by rw [List.mem_singleton.1 hx]; exact ⟨rfl, rfl⟩) (fun p => upP p v) v (fun i hi => c_up11 _ v (by rw [rwL_len hc hi]; omega) hv (by rw [rwL_len hc hi]; omega) (h1 i hi)) (fun i hi => upP_len (by rw [rwL_len hc hi]; omega)) (by rw [← hl1]; exact hl1s)
  have hm1 : ∀ x ∈ (upR V c v U), rl x ≤ 1073741824 := rs_mem (U := U) (fun i hi => upP_mem (by rw [rwL_len hc hi]; omega) (h1 i hi)) (Nat.le_refl _)
  have hsl := swL_len U v (upR V c v U)
  have hR2 := c_columns U v (upR V c v U) hl1 hl1s (fun x hx => Nat.le_trans (hm1 x hx) (by decide)) 173 [.boxp (nI64 u)] rfl (fun x hx => by rw [List.mem_singleton.1 hx]; exact ⟨rfl, rfl⟩) (fun p => upP p u) u (fun j hj => c_up11 _ u (by rw [rwL_len hsl hj]; omega) hu (by rw [rwL_len hsl hj]; omega) (h2 j hj)) (fun j hj => upP_len (by rw [rwL_len hsl hj]; omega)) (by exact Nat.le_trans (Nat.mul_le_mul (show v + 1 ≤ 41 by omega) (show u + 1 ≤ 41 by omega)) (by decide)) (rs_mem (U := v) (fun j hj x hx => Nat.le_trans (upP_mem (by rw [rwL_len hsl hj]; omega) (h2 j hj) x hx) (by decide)) (Nat.le_refl _))
  refine fnP Tryz.func138 (ht := (fun g => LV.ren_pure g _ (net_pureN _ _ _))) ?_
  refine zg12 ?_
  refine wl_regD 9 (by decide +kernel) ?_
  refine zg3 ?_
  refine st_opc [] rfl rfl (.clo (f := 172) (cap := []) (args := [nI64 v]) rfl (.cons im0 .nil) ⟨rfl, fun _ h => by cases h⟩ (c_up1 v).1 (by decide) (fun _ h => by cases h)) ((c_up1 v).2 _) ?_
  refine st_callP rfl (.cons (.pure hnp) (.cons (.pure rfl) .nil)) hR1 ?_
  refine zg2 ?_
  refine st_opc [] rfl rfl (.clo (f := 172) (cap := []) (args := [nI64 u]) rfl (.cons im0 .nil) ⟨rfl, fun _ h => by cases h⟩ (c_up1 u).1 (by decide) (fun _ h => by cases h)) ((c_up1 u).2 _) ?_
  refine st_callP rfl (.cons (.pure hn1) (.cons (.pure rfl) .nil)) hR2 ?_
  refine zg4 ?_
  exact retC [] rfl rfl rfl rfl rfl T27 (.pure (net_pureN _ _ _))
end Go.Proofs.YthhdcfhaldcheaaGreat
end
section
set_option linter.unusedVariables false
set_option linter.unusedSimpArgs false
set_option maxHeartbeats 8000000
set_option maxRecDepth 100000
attribute [local irreducible] Go.Lg.opsL Go.Lg.wpL Go.Lg.thenL Go.Lg.blockL
namespace Go.Proofs.YthhdcfhaldcheaaGreat
open Go.Lg
theorem mx_u {a b u : Nat} (h1 : a ≤ u) (h2 : b ≤ u) (h : a = u ∨ b = u) : (if ((b : Nat) : Int) > ((a : Nat) : Int) then ((b : Nat) : Int) else ((a : Nat) : Int)) = ((u : Nat) : Int) := by split <;> omega
theorem mnE (a : Int) : (if a < a then a else a) = a := by split <;> rfl
/-- what `up` asks of a net -/
structure upH (U V : Nat) (c : List Rat) (u v : Nat) : Prop where
  hc : c.length = (U + 1) * (V + 1)
  hl : c.length ≤ 1048576
  hR : ∀ x ∈ c, rl x ≤ 274877906944
  hU : U ≤ u
  hV : V ≤ v
  hu : u ≤ 40
  hv : v ≤ 40
  h1 : ∀ i, i ≤ U → upS (rwL V c i) v
  h2 : ∀ j, j ≤ v → upS (rwL U (swL U v (upR V c v U)) j) u
theorem upH.rl {U V u v : Nat} {c : List Rat} (h : upH U V c u v) : ∀ x ∈ upN U V c u v, Go.Lg.rl x ≤ 1073741824 :=
  sw_rl (by decide) fun x hx => rs_mem (U := v) (V := U) (c := swL U v (upR V c v U)) (n := v + 1) (fun j hj y hy => upP_mem (by rw [rwL_len (swL_len U v _) hj]; have := h.hU; omega) (h.h2 j hj) y hy) (Nat.le_refl _) x hx
theorem upH.g {U V u v : Nat} {c : List Rat} (h : upH U V c u v) (k : Nat) : Go.Lg.rl ((upN U V c u v).getD k 0) ≤ 1073741824 := getD_rl (by decide) h.rl k
theorem upH.n {U V u v : Nat} {c : List Rat} (h : upH U V c u v) : (u + 1) * (v + 1) ≤ 1681 :=
  Nat.le_trans (Nat.mul_le_mul (show u + 1 ≤ 41 by have := h.hu; omega) (show v + 1 ≤ 41 by have := h.hv; omega)) (by decide)
namespace H_c_both7
theorem zSm {p q : Prop} (k : q) (e : p = q := by simp only [e1, e2, e3, e4, p1, p2, p3, q1, q2, q3, l1, t0, t1, r1, r2, r3, r4, Nat.zero_add, Nat.reduceMul, Nat.reduceAdd, b1, b2, b3, b4, b5, b6, i1, i2, i3, i4, i5, i6, Nat.reduceBEq, frz_nil, dfq, hmu, hmv, mnE, eg, take_gL, elp, elq, take_map_len, map_snoc, len_snoc, List.length_cons, List.length_nil, List.nil_append, List.map_nil, List.take_nil, List.append_nil, kills_map ratE, ratL_kill, spL_kill, LV.kill, kills]; exact rfl) : p := e.mpr k
end H_c_both7
open H_c_both7 in
theorem c_both7 (f : Nat) (g : Rat → Rat → Rat) (U1 V1 U2 V2 : Nat) (a b : List Rat) (u v : Nat) (ha : upH U1 V1 a u v) (hb : upH U2 V2 b u v) (hu : U1 = u ∨ U2 = u) (hv : V1 = v ∨ V2 = v) (hf : ∀ i, CallP Tryz.prog f [ratL ((upN U1 V1 a u v).getD i 0), ratL ((upN U2 V2 b u v).getD i 0)] (ratL (g ((upN U1 V1 a u v).getD i 0) ((upN U2 V2 b u v).getD i 0)))) : CallP Tryz.prog 129 [.agg [nI64 U1, nI64 V1, .list 3 (a.map ratL)], .agg [nI64 U2, nI64 V2, .list 3 (b.map ratL)], .clo f []] (.agg [nI64 u, nI64 v, .list 3 ((zipG g (upN U1 V1 a u v) (upN U2 V2 b u v)).map ratL)]) := by
  have hmu := mx_u ha.hU hb.hU hu
  have hmv := mx_u ha.hV hb.hV hv
  have elp : (upN U1 V1 a u v).length = (u + 1) * (v + 1) := upN_len _ _ _ _ _
  have elq : (upN U2 V2 b u v).length = (u + 1) * (v + 1) := upN_len _ _ _ _ _
  have hn := ha.n
  have hn1 := net_pureN U1 V1 a
  have hn2 := net_pureN U2 V2 b
  have hn3 := net_pureN u v (upN U1 V1 a u v)
  have hn4 := net_pureN u v (upN U2 V2 b u v)
  refine fnP Tryz.func129 (ht := (fun g => LV.ren_pure g _ (net_pureN _ _ _))) ?_
  have eg : True := trivial
  have elp : True := trivial
  have elq : True := trivial
  refine zg8 ?_
  refine wl_regD 12 (by decide +kernel) ?_
  refine zg15 ?_
  refine wl_regD 8 (by decide +kernel) ?_
  refine zg3 ?_
  refine cp am3 (c_up7 U1 V1 a ha.hc ha.hl ha.hR u v ha.hU ha.hV ha.hu ha.hv ha.h1 ha.h2) ?_
  refine zg3 ?_
  refine cp am3 (c_up7 U2 V2 b hb.hc hb.hl hb.hR u v hb.hU hb.hV hb.hu hb.hv hb.h1 hb.h2) ?_
  refine zg27 ?_
  refine wl_weak ((Weak.cell 9 rfl (fun Z μ w cs h => rep_net 57 3 _ _ Z μ w cs h)).trans (Weak.newB _ 57 3 rfl)) ?_
  refine lp1 (fun (i : Nat) L => ((((((((St.mk L.slot (hp [(3, ⟨3, [.agg [nI64 u, nI64 v, .list 3 ((upN U1 V1 a u v).map ratL)]], true⟩), (4, ⟨3, [.agg [nI64 u, nI64 v, .list 3 ((upN U2 V2 b u v).map ratL)]], true⟩), (6, ⟨3, [.agg [.v (.int .i64 0), .v (.int .i64 0), .v (.slice none 0 0)]], true⟩), (9, ⟨3, [.agg [nI64 u, nI64 v, .ref 57 3 0 i]], true⟩), (57, ⟨3, (gL i (fun k => g ((upN U1 V1 a u v).getD k 0) ((upN U2 V2 b u v).getD k 0))).map ratL, true⟩)])).put (some 2) (.clo f [])).put (some 3) (.eptr 3 3 0 0)).put (some 4) (.eptr 4 3 0 0)).put (some 6) (.eptr 6 3 0 0)).put (some 9) (.eptr 9 3 0 0)).put (some 38) (nI64 ((u + 1) * (v + 1)))).put (some 39) (nI64 i))) (fun i => i ≤ (u + 1) * (v + 1)) (fun i => (u + 1) * (v + 1) - i) 0 (Nat.zero_le _) ?_
  rintro i L1 hi
  refine zg6 ?_
  refine wl_if rfl (fun h40r h40 => ?_) (fun h40r h40 => ?_)
  · have hi2 : i < (u + 1) * (v + 1) := by omega
    have hfi := hf i
    have hgl := gL_len i (fun k => g ((upN U1 V1 a u v).getD k 0) ((upN U2 V2 b u v).getD k 0))
    have eg : gL (i + 1) (fun k => g ((upN U1 V1 a u v).getD k 0) ((upN U2 V2 b u v).getD k 0)) = gL i (fun k => g ((upN U1 V1 a u v).getD k 0) ((upN U2 V2 b u v).getD k 0)) ++ [g ((upN U1 V1 a u v).getD i 0) ((upN U2 V2 b u v).getD i 0)] := gL_succ _ _
    refine zg10 ?_
    refine wl_regD 15 (by decide +kernel) ?_
    refine zg13 ?_
    refine st_opc [] rfl rfl (.clo (f := f) (cap := []) (args := [ratL ((upN U1 V1 a u v).getD i 0), ratL ((upN U2 V2 b u v).getD i 0)]) rfl (.cons im0 (.cons im0 .nil)) ⟨rfl, fun _ h => by cases h⟩ hfi.1 (by decide) (fun _ h => by cases h)) (hfi.2 _) ?_
    refine zg1 ?_
    refine st_store rfl (.app (news := [ratL (g ((upN U1 V1 a u v).getD i 0) ((upN U2 V2 b u v).getD i 0))]) rfl rfl rfl rfl rfl (by simp [gL_len]) (.inl rfl) (by decide) Tryz.underlying25 Tryz.underlying25 Z33a T33 rfl B33 (.inl ⟨56, 0, _, rfl, by decide, rfl, rfl, by simp, rfl, by simp [pures, ratE.pure]⟩) (by simp; omega) (by simp; omega) (by decide)) ?_
    refine zg5 ?_
    refine wl_regW (Weak.kill _ 56) ?_
    refine st_pure rfl (.bin rfl rfl (add1N (by omega))) ?_
    refine zg3 ?_
    exact nx1 (i + 1) (by omega)
  · obtain rfl : i = (u + 1) * (v + 1) := by omega
    have hE : gL ((u + 1) * (v + 1)) (fun k => g ((upN U1 V1 a u v).getD k 0) ((upN U2 V2 b u v).getD k 0)) = (zipG g (upN U1 V1 a u v) (upN U2 V2 b u v)) := by rw [zipG, upN_len]; rfl
    refine zg12 ?_
    rw [← hE]
    exact retC [57] rfl rfl rfl rfl rfl T27 (.agg (.cons (.pure rfl) (.cons (.pure rfl) (.cons (imm_refm ratE rfl rfl (by rw [gL_len])) .nil))))
open H0 in
theorem c_TSub (U1 V1 U2 V2 : Nat) (a b : List Rat) (u v : Nat) (ha : upH U1 V1 a u v) (hb : upH U2 V2 b u v) (hu : U1 = u ∨ U2 = u) (hv : V1 = v ∨ V2 = v) : CallP Tryz.prog 55 [.agg [nI64 U1, nI64 V1, .list 3 (a.map ratL)], .agg [nI64 U2, nI64 V2, .list 3 (b.map ratL)]] (.agg [nI64 u, nI64 v, .list 3 ((zipG (· - ·) (upN U1 V1 a u v) (upN U2 V2 b u v)).map ratL)]) := by
  have hn1 := net_pureN U1 V1 a
  have hn2 := net_pureN U2 V2 b
  refine fnP Tryz.func55 (ht := (fun g => LV.ren_pure g _ (net_pureN _ _ _))) ?_
  refine zg11 ?_
  refine cp am3 (c_both7 114 (· - ·) U1 V1 U2 V2 a b u v ha hb hu hv (fun i => c_RSub _ _ (by have := ha.g i; have := hb.g i; omega))) ?_
  refine zg4 ?_
  exact retC [] rfl rfl rfl rfl rfl T27 (.pure (net_pureN _ _ _))
end Go.Proofs.YthhdcfhaldcheaaGreat
end
section
set_option linter.unusedVariables false
set_option linter.unusedSimpArgs false
set_option maxHeartbeats 8000000
set_option maxRecDepth 100000
attribute [local irreducible] Go.Lg.opsL Go.Lg.wpL Go.Lg.thenL Go.Lg.blockL
namespace Go.Proofs.YthhdcfhaldcheaaGreat
open Go.Lg
end Go.Proofs.YthhdcfhaldcheaaGreat
namespace Go.Lg
end Go.Lg
namespace Go.Proofs.YthhdcfhaldcheaaGreat
open Go.Lg
namespace H_c_FDiff5
theorem zSm {p q : Prop} (k : q) (e : p = q := by simp only [e1, e2, e3, e4, p1, p2, p3, q1, q2, q3, l1, t0, t1, r1, r2, r3, r4, Nat.zero_add, Nat.reduceMul, Nat.reduceAdd, b1, b2, b3, b4, b5, b6, i1, i2, i3, i4, i5, i6, Nat.reduceBEq, dfq, etk, ers, take_map_len, map_snoc, len_snoc, List.length_cons, List.length_nil, List.nil_append, List.map_nil, List.take_nil, List.append_nil, kills_map ratE, ratL_kill, spL_kill, LV.kill, kills]; exact rfl) : p := e.mpr k
end H_c_FDiff5
open H_c_FDiff5 in
theorem c_FDiff5 (p : List Rat) (hp0 : 0 < p.length) (hl : p.length ≤ 1000) (hpr : ∀ x ∈ p, rl x ≤ 1073741824) : CallP Tryz.prog 41 [.list 3 (p.map ratL)] (.list 3 ((difP p).map ratL)) := by
  refine fnP Tryz.func41 ?_
  have etk : True := trivial
  have ers : True := trivial
  refine zg13 ?_
  refine wl_if rfl (fun h8r h8 => ?_) (fun h8r h8 => ?_)
  · have hE : difP p = [0] := by unfold difP; rw [if_pos (by omega)]
    refine zg2 ?_
    refine st_pure rfl (.build0 SL33 Z33a) ?_
    refine zg6 ?_
    rw [hE]
    exact ret1f [10] rfl rfl (imm_refm ratE rfl rfl rfl)
  · have hdl : (difP p).length = p.length - 1 := by rw [difP_len, if_neg (by omega)]
    refine zg6 ?_
    refine st_pure rfl (.bin rfl rfl (sub1N (by omega) (by omega))) ?_
    refine cp am1 (c_FInt ((p.length - 1 : Nat) : Int) (by omega) (by omega)) ?_
    refine zg16 ?_
    refine wl_weak (Weak.own (t := 4) 36 3 rfl rfl) ?_
    refine lp1 (fun (i : Nat) L => (((((St.mk L.slot (hp [(3, ⟨3, [ratL (((p.length - 1 : Nat) : Int) : Rat)], true⟩), (36, ⟨3, ((difP p).take i).map ratL, true⟩)])).put (some 0) (.list 3 (p.map ratL))).put (some 3) (.eptr 3 3 0 0)).put (some 4) (.ref 36 3 0 i)).put (some 5) (nI64 i))) (fun i => i ≤ p.length - 1) (fun i => p.length - 1 - i) 0 (Nat.zero_le _) ?_
    rintro i L1 hi
    refine zg4 ?_
    refine st_pure rfl (.bin rfl rfl (add1N (by omega))) ?_
    refine zg5 ?_
    refine wl_if rfl (fun h19r h19 => ?_) (fun h19r h19 => ?_)
    · have hi2 : i < p.length - 1 := by omega
      have hr1 := hpr _ (getD_mem (i := i) (by omega))
      have hr2 := hpr _ (getD_mem (i := i + 1) (by omega))
      have hr3 := rl_sub (p.getD (i + 1) 0) (p.getD i 0)
      have hr4 := rl_int (n := ((p.length - 1 : Nat) : Int)) (by omega)
      have hdt : ((difP p).take i).length = i := by rw [List.length_take]; omega
      have etk : (((difP p).take i).map ratL).take i = ((difP p).take i).map ratL := List.take_of_length_le (by rw [List.length_map]; omega)
      have ers : (difP p).take i ++ [((((p.length - 1 : Nat) : Int) : Rat) * (p.getD (i + 1) 0 - p.getD i 0))] = (difP p).take (i + 1) := by rw [← difP_get (by omega), List.take_add_one, List.getD_eq_getElem?_getD, List.getElem?_eq_getElem (by omega)]; rfl
      refine zg4 ?_
      refine wl_regD 14 (by decide +kernel) ?_
      refine zg4 ?_
      refine st_pure rfl (.bin rfl rfl (add1N (by omega))) ?_
      refine zg6 ?_
      refine cp am2 (c_FRSub (p.getD (i + 1) 0) (p.getD i 0) (by omega)) ?_
      refine cp am2 (c_FRMul (((p.length - 1 : Nat) : Int) : Rat) (p.getD (i + 1) 0 - p.getD i 0) (by omega)) ?_
      refine zg1 ?_
      refine st_store rfl (.app (news := [ratL ((((p.length - 1 : Nat) : Int) : Rat) * (p.getD (i + 1) 0 - p.getD i 0))]) rfl rfl rfl rfl rfl (by rw [List.length_map]; omega) (.inl rfl) (by decide) Tryz.underlying38 Tryz.underlying38 Z33a T33 rfl B33 (.inl ⟨35, 0, _, rfl, by decide, rfl, rfl, by simp, rfl, by simp [pures, ratE.pure]⟩) (by simp; omega) (by simp; omega) (by decide)) ?_
      refine zg4 ?_
      refine wl_regW (Weak.kill _ 35) ?_
      refine zg1 ?_
      refine st_pure rfl (.bin rfl rfl (add1N (by omega))) ?_
      refine zg3 ?_
      exact nx1 (i + 1) (by omega)
    · obtain rfl : i = p.length - 1 := by omega
      have hE : (difP p).take (p.length - 1) = difP p := List.take_of_length_le (by omega)
      refine zg12 ?_
      simp only [hE]
      exact ret1f [36] rfl rfl (imm_refm ratE rfl rfl (by omega))
end Go.Proofs.YthhdcfhaldcheaaGreat
end
section
set_option linter.unusedVariables false
set_option linter.unusedSimpArgs false
set_option maxHeartbeats 8000000
set_option maxRecDepth 100000
attribute [local irreducible] Go.Lg.opsL Go.Lg.wpL Go.Lg.thenL Go.Lg.blockL
namespace Go.Proofs.YthhdcfhaldcheaaGreat
open Go.Lg
/-- the coefficients of (α + β z) times a polynomial, c the coefficient before -/
def lin (α β : Rat) : Rat → List Rat → List Rat
  | c, [] => [β * c]
  | c, x :: l => (β * c + α * x) :: lin α β x l
/-- the scaled coefficients of a product of n factors with a root between 0 and 1, and of others -/
inductive KS : Nat → List Rat → Prop
  | z {s : Int} {l : List Rat} : l ≠ [] → s = 1 ∨ s = -1 → (∀ x ∈ l, sgnR x = s) → KS 0 l
  | r {n : Nat} {l : List Rat} {a b : Rat} : KS n l → 0 < a → 0 < b → KS (n + 1) (lin (-a) b 0 l)
end Go.Proofs.YthhdcfhaldcheaaGreat
end
section
set_option linter.unusedVariables false
set_option linter.unusedSimpArgs false
set_option maxHeartbeats 8000000
set_option maxRecDepth 100000
attribute [local irreducible] Go.Lg.opsL Go.Lg.wpL Go.Lg.thenL Go.Lg.blockL
namespace Go.Proofs.YthhdcfhaldcheaaGreat
open Go.Lg
def gH (a b : Rat) : Nat → (Nat → Rat) → Rat
  | 0, f => f 0
  | n + 1, f => f 0 * a ^ (n + 1) + b * gH a b n (fun k => f (k + 1))
theorem gH_add (a b : Rat) : ∀ (n : Nat) (f g : Nat → Rat), gH a b n (fun k => f k + g k) = gH a b n f + gH a b n g
  | 0, f, g => rfl
  | n + 1, f, g => by rw [gH, gH, gH, gH_add a b n]; grind
theorem gH_mul (a b c : Rat) : ∀ (n : Nat) (f : Nat → Rat), gH a b n (fun k => c * f k) = c * gH a b n f
  | 0, f => rfl
  | n + 1, f => by rw [gH, gH, gH_mul a b c n]; grind
theorem gH_tail (a b : Rat) : ∀ (n : Nat) (f : Nat → Rat), f (n + 1) = 0 → gH a b (n + 1) f = a * gH a b n f
  | 0, f, h => by
    show f 0 * a ^ 1 + b * f 1 = a * f 0
    rw [h]; grind
  | n + 1, f, h => by
    rw [gH, gH_tail a b n (fun k => f (k + 1)) h, gH]
    grind
theorem gH_tails (a b : Rat) (f : Nat → Rat) (m : Nat) (h : ∀ k, m < k → f k = 0) : ∀ n, gH a b (m + n) f = a ^ n * gH a b m f
  | 0 => by simp
  | n + 1 => by
    rw [← Nat.add_assoc, gH_tail a b (m + n) f (h _ (by omega)), gH_tails a b f m h n]; grind
theorem gH_sr (a b : Rat) (n : Nat) (f : Nat → Rat) : gH a b (n + 1) (fun k => if k = 0 then 0 else f (k - 1)) = b * gH a b n f := by
  rw [gH, if_pos rfl]
  have : (fun k => if k + 1 = 0 then 0 else f (k + 1 - 1)) = f := by funext k; rw [if_neg (by omega)]; rfl
  rw [this]; grind
def cR (n k : Nat) : Rat := ((chs n k : Nat) : Int)
theorem cR_pas (n k : Nat) : cR (n + 1) k = cR n k + (if k = 0 then 0 else cR n (k - 1)) := by
  unfold cR
  cases k with
  | zero => rw [chs_zero, chs_zero, if_pos rfl, Rat.add_zero]
  | succ k =>
    rw [if_neg (by omega), chs, ← Rat.intCast_add]
    congr 1
    rw [show k + 1 - 1 = k from rfl]; omega
theorem fE_gH (a b : Rat) : ∀ (n : Nat) (f : Nat → Rat), fE a b n f = gH a b n (fun k => cR n k * f k)
  | 0, f => by
    show f 0 = cR 0 0 * f 0
    rw [show cR 0 0 = 1 from rfl, Rat.one_mul]
  | n + 1, f => by
    have e : (fun k => cR (n + 1) k * f k) = fun k => (fun k => cR n k * f k) k + (fun k => if k = 0 then 0 else (fun j => cR n j * f (j + 1)) (k - 1)) k := by
      funext k
      show cR (n + 1) k * f k = cR n k * f k + (if k = 0 then 0 else cR n (k - 1) * f (k - 1 + 1))
      rw [cR_pas]
      by_cases h : k = 0
      · rw [if_pos h, if_pos h]; grind
      · rw [if_neg h, if_neg h, show k - 1 + 1 = k by omega]; grind
    have hz : cR n (n + 1) = 0 := by unfold cR; rw [chs_gt (by omega)]; rfl
    have h2 := gH_sr a b n (fun j => cR n j * f (j + 1))
    rw [e, gH_add, h2, gH_tail _ _ _ _ (by show cR n (n + 1) * f (n + 1) = 0; rw [hz, Rat.zero_mul]), fE_step, fE_gH a b n f, fE_gH a b n (fun i => f (i + 1))]
/-- the coefficients times binomials, 0 behind -/
def sq (p : List Rat) (k : Nat) : Rat := cR (p.length - 1) k * p.getD k 0
theorem sq_gt {p : List Rat} {k : Nat} (h : p.length ≤ k) : sq p k = 0 := by unfold sq; rw [ge_zero h, Rat.mul_zero]
theorem ev_gH {p : List Rat} {t : Rat} (h : 0 < p.length) : evP p t = gH (1 - t) t (p.length - 1) (sq p) := by rw [ev_fE h, fE_gH]; rfl
theorem cR_ne {n k : Nat} (h : k ≤ n) : cR n k ≠ 0 := by
  have := chs_pos h
  exact fun e => by have := Rat.intCast_eq_zero_iff.1 e; omega
def sm : Nat → (Nat → Rat) → Rat
  | 0, _ => 0
  | n + 1, f => sm n f + f n
theorem sm_congr : ∀ (n : Nat) (f g : Nat → Rat), (∀ i, i < n → f i = g i) → sm n f = sm n g
  | 0, _, _, _ => rfl
  | n + 1, f, g, h => by rw [sm, sm, sm_congr n f g (fun i hi => h i (by omega)), h n (by omega)]
theorem sm_add : ∀ (n : Nat) (f g : Nat → Rat), sm n (fun i => f i + g i) = sm n f + sm n g
  | 0, _, _ => by show (0 : Rat) = 0 + 0; grind
  | n + 1, f, g => by rw [sm, sm, sm, sm_add n]; grind
theorem sm_head : ∀ (n : Nat) (f : Nat → Rat), sm (n + 1) f = f 0 + sm n (fun i => f (i + 1))
  | 0, f => by show 0 + f 0 = f 0 + 0; grind
  | n + 1, f => by rw [sm, sm_head n f, sm]; grind
theorem sm_zero (n : Nat) (f : Nat → Rat) (h : ∀ i, i < n → f i = 0) : sm n f = 0 := by
  induction n with
  | zero => rfl
  | succ n ih => rw [sm, ih (fun i hi => h i (by omega)), h n (by omega)]; exact Rat.add_zero 0
theorem sm_ext (n : Nat) (f : Nat → Rat) (h : ∀ i, n ≤ i → f i = 0) : ∀ m, sm (n + m) f = sm n f
  | 0 => rfl
  | m + 1 => by rw [← Nat.add_assoc, sm, sm_ext n f h m, h _ (by omega)]; grind
/-- products of sequences -/
def cf (f g : Nat → Rat) (k : Nat) : Rat := sm (k + 1) fun i => f i * g (k - i)
theorem cf_head (f g : Nat → Rat) (k : Nat) : cf f g k = f 0 * g k + (if k = 0 then 0 else cf (fun i => f (i + 1)) g (k - 1)) := by
  unfold cf
  rw [sm_head, Nat.sub_zero]
  cases k with
  | zero => rfl
  | succ k =>
    rw [if_neg (by omega)]
    congr 1
    refine sm_congr _ _ _ fun i hi => ?_
    rw [show k + 1 - (i + 1) = k + 1 - 1 - i by omega]
theorem gH_cf (a b : Rat) (g : Nat → Rat) (m : Nat) (hg : ∀ k, m < k → g k = 0) : ∀ (n : Nat) (f : Nat → Rat), (∀ k, n < k → f k = 0) → gH a b (m + n) (cf f g) = gH a b n f * gH a b m g
  | 0, f, hf => by
    have e : cf f g = fun k => f 0 * g k := by
      funext k
      rw [cf, sm_head, sm_zero _ _ (fun i _ => by rw [hf (i + 1) (by omega), Rat.zero_mul]), Rat.add_zero, Nat.sub_zero]
    rw [e, gH_mul]; rfl
  | n + 1, f, hf => by
    have e : cf f g = fun k => (fun k => f 0 * g k) k + (fun k => if k = 0 then 0 else cf (fun i => f (i + 1)) g (k - 1)) k := by funext k; exact cf_head f g k
    rw [e, gH_add, gH_mul, ← Nat.add_assoc, gH_sr, gH_cf a b g m hg n _ (fun k hk => hf _ (by omega)), Nat.add_assoc, gH_tails a b g m hg (n + 1), gH]
    grind
end Go.Proofs.YthhdcfhaldcheaaGreat
end
section
set_option linter.unusedVariables false
set_option linter.unusedSimpArgs false
set_option maxHeartbeats 8000000
set_option maxRecDepth 100000
attribute [local irreducible] Go.Lg.opsL Go.Lg.wpL Go.Lg.thenL Go.Lg.blockL
namespace Go.Proofs.YthhdcfhaldcheaaGreat
open Go.Lg
theorem sm_comm : ∀ (n m : Nat) (f : Nat → Nat → Rat), sm n (fun i => sm m (f i)) = sm m (fun j => sm n (fun i => f i j))
  | 0, m, f => (sm_zero m _ (fun _ _ => rfl)).symm
  | n + 1, m, f => by rw [sm, sm_comm n m f, ← sm_add]; rfl
def sx (U V : Nat) (c : List Rat) (i j : Nat) : Rat := cR U i * sq (rwL V c i) j
theorem wt_sx {U V i j : Nat} {c : List Rat} (hc : c.length = (U + 1) * (V + 1)) (hi : i ≤ U) (hj : j ≤ V) : (wtL U V c).getD (i * (V + 1) + j) 0 = sx U V c i j := by
  rw [wtL, gL_get (ix_lt hi hj), wtV, ix_div hj, ix_mod hj, sx, sq, rwL_len hc hi, Nat.add_sub_cancel, rwL_get hc hi hj, Rat.mul_assoc]; rfl
theorem sx_gt {U V i j : Nat} {c : List Rat} (hc : c.length = (U + 1) * (V + 1)) (hi : i ≤ U) (hj : V < j) : sx U V c i j = 0 := by
  rw [sx, sq_gt (by rw [rwL_len hc hi]; omega), Rat.mul_zero]
theorem ix_inj {W i j r s : Nat} (hj : j ≤ W) (hs : s ≤ W) (h : i * (W + 1) + j = r * (W + 1) + s) : i = r ∧ j = s := by
  have h1 := congrArg (· / (W + 1)) h
  have h2 := congrArg (· % (W + 1)) h
  simp only [ix_div hj, ix_div hs, ix_mod hj, ix_mod hs] at h1 h2
  exact ⟨h1, h2⟩
section
variable {V1 V2 W U U2 r s : Nat} {x y o : List Rat} (i j k : Nat)
theorem mL_len : ∀ l (o : List Rat), (mL V1 V2 W x y i j k l o).length = o.length
  | 0, o => rfl
  | l + 1, o => by rw [mL, List.length_set, mL_len l o]
theorem mK_len : ∀ k (o : List Rat), (mK V1 V2 W x y i j k o).length = o.length
  | 0, o => rfl
  | k + 1, o => by rw [mK, mL_len, mK_len k o]
theorem mJ_len : ∀ j (o : List Rat), (mJ V1 V2 W U2 x y i j o).length = o.length
  | 0, o => rfl
  | j + 1, o => by rw [mJ, mK_len, mJ_len j o]
theorem mI_len : ∀ i (o : List Rat), (mI V1 V2 W U2 x y i o).length = o.length
  | 0, o => rfl
  | i + 1, o => by rw [mI, mJ_len, mI_len i o]
theorem mL_get (hik : i + k ≤ U) (ho : o.length = (U + 1) * (W + 1)) : ∀ l, j + l ≤ W + 1 → ∀ r s, s ≤ W → (mL V1 V2 W x y i j k l o).getD (r * (W + 1) + s) 0 = o.getD (r * (W + 1) + s) 0 + (if i + k = r ∧ j ≤ s ∧ s < j + l then x.getD (i * (V1 + 1) + j) 0 * y.getD (k * (V2 + 1) + (s - j)) 0 else 0)
  | 0, _, r, s, hs => by rw [mL, if_neg (by omega), Rat.add_zero]
  | l + 1, h, r, s, hs => by
    have hix := ix_lt (U := U) (V := W) (i := i + k) (j := j + l) (by omega) (by omega)
    have ih := mL_get hik ho l (by omega)
    rw [mL, set_get0 _ _ _ _ (by rw [mL_len, ho]; omega)]
    by_cases h1 : (i + k) * (W + 1) + j + l = r * (W + 1) + s
    · obtain ⟨h2, h3⟩ := ix_inj (W := W) (i := i + k) (j := j + l) (r := r) (s := s) (by omega) hs (by omega)
      rw [if_pos h1, h1, ih r s hs, if_neg (by omega), if_pos (by omega), show s - j = l by omega]; grind
    · rw [if_neg h1, ih r s hs]
      have h4 : ¬ (i + k = r ∧ j + l = s) := fun ⟨e1, e2⟩ => h1 (by rw [← e1, ← e2]; omega)
      by_cases h2 : i + k = r ∧ j ≤ s ∧ s < j + l
      · rw [if_pos h2, if_pos (by omega)]
      · rw [if_neg h2, if_neg (by omega)]
theorem mK_get (hs : s ≤ W) (hj : j + V2 ≤ W) (ho : o.length = (U + 1) * (W + 1)) : ∀ k, i + k ≤ U + 1 → (mK V1 V2 W x y i j k o).getD (r * (W + 1) + s) 0 = o.getD (r * (W + 1) + s) 0 + sm k (fun k => if i + k = r ∧ j ≤ s ∧ s < j + (V2 + 1) then x.getD (i * (V1 + 1) + j) 0 * y.getD (k * (V2 + 1) + (s - j)) 0 else 0)
  | 0, _ => by rw [mK, sm, Rat.add_zero]
  | k + 1, h => by
    rw [mK, mL_get (U := U) i j k (by omega) (by rw [mK_len]; exact ho) _ (by omega) r s hs, mK_get hs hj ho k (by omega), Rat.add_assoc]; rfl
theorem mJ_get (hs : s ≤ W) (hV : V1 + V2 ≤ W) (ho : o.length = (U + 1) * (W + 1)) (hi : i + U2 ≤ U) : ∀ j, j ≤ V1 + 1 → (mJ V1 V2 W U2 x y i j o).getD (r * (W + 1) + s) 0 = o.getD (r * (W + 1) + s) 0 + sm j (fun j => sm (U2 + 1) fun k => if i + k = r ∧ j ≤ s ∧ s < j + (V2 + 1) then x.getD (i * (V1 + 1) + j) 0 * y.getD (k * (V2 + 1) + (s - j)) 0 else 0)
  | 0, _ => by rw [mJ, sm, Rat.add_zero]
  | j + 1, h => by
    rw [mJ, mK_get (U := U) i j hs (by omega) (by rw [mJ_len]; exact ho) _ (by omega), mJ_get hs hV ho hi j (by omega), Rat.add_assoc]; rfl
theorem mI_get {U1 : Nat} (hs : s ≤ W) (hV : V1 + V2 ≤ W) (ho : o.length = (U + 1) * (W + 1)) (hU : U1 + U2 ≤ U) : ∀ i, i ≤ U1 + 1 → (mI V1 V2 W U2 x y i o).getD (r * (W + 1) + s) 0 = o.getD (r * (W + 1) + s) 0 + sm i (fun i => sm (V1 + 1) fun j => sm (U2 + 1) fun k => if i + k = r ∧ j ≤ s ∧ s < j + (V2 + 1) then x.getD (i * (V1 + 1) + j) 0 * y.getD (k * (V2 + 1) + (s - j)) 0 else 0)
  | 0, _ => by rw [mI, sm, Rat.add_zero]
  | i + 1, h => by
    rw [mI, mJ_get (U := U) i hs hV (by rw [mI_len]; exact ho) (by omega) _ (Nat.le_refl _), mI_get hs hV ho hU i (by omega), Rat.add_assoc]; rfl
end
/-- the sum of products of one entry -/
def tpS (U1 V1 U2 V2 : Nat) (a b : List Rat) (r s : Nat) : Rat := sm (U1 + 1) fun i => sm (U2 + 1) fun k => if i + k = r then cf (sx U1 V1 a i) (sx U2 V2 b k) s else 0
theorem top_get {U1 V1 U2 V2 r s : Nat} {a b : List Rat} (ha : a.length = (U1 + 1) * (V1 + 1)) (hb : b.length = (U2 + 1) * (V2 + 1)) (hs : s ≤ V1 + V2) : (mTop U1 V1 U2 V2 a b).getD (r * (V1 + V2 + 1) + s) 0 = tpS U1 V1 U2 V2 a b r s := by
  rw [mTop, mI_get (U := U1 + U2) (U1 := U1) hs (Nat.le_refl _) (by simp) (Nat.le_refl _) _ (Nat.le_refl _), repl_get, Rat.zero_add]
  refine sm_congr _ _ _ fun i hi => ?_
  rw [sm_comm]
  refine sm_congr _ _ _ fun k hk => ?_
  by_cases h : i + k = r
  · rw [if_pos h]
    have hG1 : ∀ j, V1 + 1 ≤ j → (fun j => if j ≤ s then sx U1 V1 a i j * sx U2 V2 b k (s - j) else 0) j = 0 := fun j hj => by
      show (if j ≤ s then sx U1 V1 a i j * sx U2 V2 b k (s - j) else 0) = 0
      split
      · rw [sx_gt ha (by omega) (by omega), Rat.zero_mul]
      · rfl
    have hG2 : ∀ j, s + 1 ≤ j → (fun j => if j ≤ s then sx U1 V1 a i j * sx U2 V2 b k (s - j) else 0) j = 0 := fun j hj => if_neg (by omega)
    have e : cf (sx U1 V1 a i) (sx U2 V2 b k) s = sm (V1 + 1) (fun j => if j ≤ s then sx U1 V1 a i j * sx U2 V2 b k (s - j) else 0) := by
      rw [← sm_ext _ _ hG1 (s + 1), Nat.add_comm, sm_ext _ _ hG2]
      exact sm_congr _ _ _ fun j hj => (if_pos (by omega)).symm
    rw [e]
    refine sm_congr _ _ _ fun j hj => ?_
    by_cases h2 : j ≤ s
    · rw [if_pos h2]
      by_cases h3 : s < j + (V2 + 1)
      · rw [if_pos ⟨h, h2, h3⟩, wt_sx ha (by omega) (by omega), wt_sx hb (by omega) (by omega)]
      · rw [if_neg (by omega), sx_gt hb (by omega) (by omega), Rat.mul_zero]
    · rw [if_neg h2, if_neg (by omega)]
  · rw [if_neg h]
    exact sm_zero _ _ fun j _ => if_neg (by omega)
theorem tm_len (U1 V1 U2 V2 : Nat) (a b : List Rat) : (tmL U1 V1 U2 V2 a b).length = (U1 + U2 + 1) * (V1 + V2 + 1) := gL_len _ _
theorem tm_get {U1 V1 U2 V2 r s : Nat} {a b : List Rat} (ha : a.length = (U1 + 1) * (V1 + 1)) (hb : b.length = (U2 + 1) * (V2 + 1)) (hr : r ≤ U1 + U2) (hs : s ≤ V1 + V2) : (tmL U1 V1 U2 V2 a b).getD (r * (V1 + V2 + 1) + s) 0 = tpS U1 V1 U2 V2 a b r s / (cR (U1 + U2) r * cR (V1 + V2) s) := by
  rw [tmL, gL_get (ix_lt hr hs), dvV, ix_div hs, ix_mod hs, top_get ha hb hs]; rfl
section
variable {U1 V1 U2 V2 i k : Nat} {a b : List Rat} (ha : a.length = (U1 + 1) * (V1 + 1)) (hb : b.length = (U2 + 1) * (V2 + 1)) (hi : i ≤ U1) (hk : k ≤ U2)
end
def oE : Option (List Rat) → LV
  | none => .v (.slice none 0 0)
  | some p => plL p
theorem net_ext {U V : Nat} {c d : List Rat} (hc : c.length = (U + 1) * (V + 1)) (hd : d.length = (U + 1) * (V + 1)) (h : ∀ i j, i ≤ U → j ≤ V → c.getD (i * (V + 1) + j) 0 = d.getD (i * (V + 1) + j) 0) : c = d := by
  refine ext0 (by rw [hc, hd]) fun k hk => ?_
  rw [hc] at hk
  have h1 : k / (V + 1) < U + 1 := Nat.div_lt_of_lt_mul (by rw [Nat.mul_comm]; exact hk)
  have h2 := Nat.mod_lt k (show V + 1 > 0 by omega)
  have e : k = k / (V + 1) * (V + 1) + k % (V + 1) := by rw [Nat.mul_comm]; exact (Nat.div_add_mod k (V + 1)).symm
  rw [e]; exact h _ _ (by omega) (by omega)
section
variable {U1 V1 U2 V2 R : Nat} {a b : List Rat}
end
theorem oE_ok : EncOK oE 1 false := ⟨fun o => by cases o <;> rfl, fun o => by cases o <;> rfl, fun o => by
  cases o with
  | none => rfl
  | some p => exact pure_lst ratE 3 p⟩
theorem oE_z : ZeroOK Tryz.prog 38 (oE none) := ⟨Tryz.t38, _, by kernel_rfl, rfl, rfl, fun _ _ _ => ⟨rfl, rfl⟩⟩
instance : EC Tryz.prog 38 oE 1 false none := ⟨oE_ok, oE_z, T38⟩
end Go.Proofs.YthhdcfhaldcheaaGreat
end
section
set_option linter.unusedVariables false
set_option linter.unusedSimpArgs false
set_option maxHeartbeats 8000000
set_option maxRecDepth 100000
attribute [local irreducible] Go.Lg.opsL Go.Lg.wpL Go.Lg.thenL Go.Lg.blockL
namespace Go.Proofs.YthhdcfhaldcheaaGreat
open Go.Lg
theorem gH_congr (a b : Rat) : ∀ (n : Nat) (f g : Nat → Rat), (∀ i, i ≤ n → f i = g i) → gH a b n f = gH a b n g
  | 0, f, g, h => h 0 (Nat.le_refl _)
  | n + 1, f, g, h => by rw [gH, gH, h 0 (by omega), gH_congr a b n _ _ (fun i hi => h (i + 1) (by omega))]
theorem gH_0 (a b : Rat) (n : Nat) : gH a b n (fun _ => 0) = 0 := by
  have := gH_mul a b 0 n (fun _ => 0)
  simp only [Rat.zero_mul] at this
  exact this
theorem gH_sm (a b : Rat) (n : Nat) (f : Nat → Nat → Rat) : ∀ m, gH a b n (fun k => sm m (fun i => f i k)) = sm m (fun i => gH a b n (f i))
  | 0 => gH_0 a b n
  | m + 1 => by
    rw [sm, ← gH_sm a b n f m, ← gH_add]; rfl
theorem gH_ite (a b : Rat) (n : Nat) (p : Prop) [Decidable p] (f : Nat → Rat) : gH a b n (fun k => if p then f k else 0) = if p then gH a b n f else 0 := by
  by_cases h : p
  · simp only [if_pos h]
  · simp only [if_neg h]; exact gH_0 a b n
theorem rw_ev {U V i : Nat} {c : List Rat} (hc : c.length = (U + 1) * (V + 1)) (hi : i ≤ U) (v : Rat) : cR U i * evP (rwL V c i) v = gH (1 - v) v V (sx U V c i) := by
  rw [ev_gH (by rw [rwL_len hc hi]; omega), rwL_len hc hi, Nat.add_sub_cancel, ← gH_mul]; rfl
theorem col_get {U V i : Nat} {c : List Rat} (hi : i ≤ U) (v : Rat) : (colT U V c v).getD i 0 = evP (rwL V c i) v := by
  have := rs_get (g := fun p => [evP p v]) (V := V) (W := 0) (U := U) (c := c) (fun i hi => rfl) (i := i) (j := 0) (Nat.le_refl _) (n := U + 1) (Nat.le_refl _) (by omega)
  rw [show i * (0 + 1) + 0 = i by omega] at this
  rw [colT, this]; rfl
theorem row_get {U V j : Nat} {c : List Rat} (hj : j ≤ V) (u : Rat) : (rowT U V c u).getD j 0 = fE (1 - u) u U (fun i => c.getD (i * (V + 1) + j) 0) := by
  have := rs_get (g := fun p => [evP p u]) (V := U) (W := 0) (U := V) (c := swL U V c) (fun i hi => rfl) (i := j) (j := 0) (Nat.le_refl _) (n := V + 1) (Nat.le_refl _) (by omega)
  rw [show j * (0 + 1) + 0 = j by omega] at this
  rw [rowT, this]
  show evP (rwL U (swL U V c) j) u = _
  rw [ev_fE (by rw [rwL_len (swL_len U V c) hj]; omega), rwL_len (swL_len U V c) hj, Nat.add_sub_cancel]
  exact fE_congr _ _ _ _ _ fun i hi => by rw [rwL_get (swL_len U V c) hj hi, sw_get hi hj]
theorem col_fE {U V i : Nat} {c : List Rat} (hc : c.length = (U + 1) * (V + 1)) (hi : i ≤ U) (v : Rat) : (colT U V c v).getD i 0 = fE (1 - v) v V (fun j => c.getD (i * (V + 1) + j) 0) := by
  rw [col_get hi, ev_fE (by rw [rwL_len hc hi]; omega), rwL_len hc hi, Nat.add_sub_cancel]
  exact fE_congr _ _ _ _ _ fun j hj => rwL_get hc hi hj
theorem ev_col {U V : Nat} {c : List Rat} (hc : c.length = (U + 1) * (V + 1)) (u v : Rat) : evP (colT U V c v) u = gH (1 - u) u U (fun i => gH (1 - v) v V (sx U V c i)) := by
  rw [ev_gH (by rw [colT_len]; omega), colT_len, Nat.add_sub_cancel]
  refine gH_congr _ _ _ _ _ fun i hi => ?_
  rw [sq, colT_len, Nat.add_sub_cancel, col_get hi, rw_ev hc hi]
theorem sx_gtU {U V i : Nat} (c : List Rat) (hi : U < i) : sx U V c i = fun _ => 0 := by
  funext j
  rw [sx, show cR U i = 0 from by unfold cR; rw [chs_gt hi]; rfl, Rat.zero_mul]
theorem sum_cf {n m r : Nat} {F G : Nat → Rat} (hF : ∀ i, n < i → F i = 0) (hG : ∀ i, m < i → G i = 0) : sm (n + 1) (fun i => sm (m + 1) fun k => if i + k = r then F i * G k else 0) = cf F G r := by
  have h1 : ∀ i, sm (m + 1) (fun k => if i + k = r then F i * G k else 0) = if i ≤ r then F i * G (r - i) else 0 := fun i => by
    by_cases h : i ≤ r
    · rw [if_pos h]
      have e : ∀ M, sm M (fun k => if i + k = r then F i * G k else 0) = if r - i < M then F i * G (r - i) else 0 := fun M => by
        induction M with
        | zero => rfl
        | succ M ih =>
          rw [sm, ih]
          by_cases h2 : i + M = r
          · rw [if_neg (by omega), if_pos h2, if_pos (by omega), Rat.zero_add, show r - i = M by omega]
          · rw [if_neg h2, Rat.add_zero]
            by_cases h3 : r - i < M
            · rw [if_pos h3, if_pos (by omega)]
            · rw [if_neg h3, if_neg (by omega)]
      rw [e]
      by_cases h2 : r - i < m + 1
      · rw [if_pos h2]
      · rw [if_neg h2, hG _ (by omega), Rat.mul_zero]
    · rw [if_neg h]
      exact sm_zero _ _ fun k _ => if_neg (by omega)
  rw [sm_congr _ _ _ fun i _ => h1 i]
  have h2 : ∀ i, n + 1 ≤ i → (fun i => if i ≤ r then F i * G (r - i) else 0) i = 0 := fun i hi => by
    show (if i ≤ r then F i * G (r - i) else 0) = 0
    rw [hF i (by omega), Rat.zero_mul]; split <;> rfl
  have h3 : ∀ i, r + 1 ≤ i → (fun i => if i ≤ r then F i * G (r - i) else 0) i = 0 := fun i hi => if_neg (by omega)
  rw [← sm_ext _ _ h2 (r + 1), Nat.add_comm, sm_ext _ _ h3]
  exact sm_congr _ _ _ fun i hi => if_pos (by omega)
theorem evT_tm {U1 V1 U2 V2 : Nat} {a b : List Rat} (ha : a.length = (U1 + 1) * (V1 + 1)) (hb : b.length = (U2 + 1) * (V2 + 1)) (u v : Rat) : evT (U1 + U2) (V1 + V2) (tmL U1 V1 U2 V2 a b) u v = evT U1 V1 a u v * evT U2 V2 b u v := by
  have ht := tm_len U1 V1 U2 V2 a b
  rw [← evT_swap ht, ← evT_swap ha, ← evT_swap hb, ev_col ht, ev_col ha, ev_col hb]
  have hF : ∀ i, U1 < i → (fun i => gH (1 - v) v V1 (sx U1 V1 a i)) i = 0 := fun i hi => by
    show gH (1 - v) v V1 (sx U1 V1 a i) = 0
    rw [sx_gtU a hi, gH_0]
  have hG : ∀ i, U2 < i → (fun i => gH (1 - v) v V2 (sx U2 V2 b i)) i = 0 := fun i hi => by
    show gH (1 - v) v V2 (sx U2 V2 b i) = 0
    rw [sx_gtU b hi, gH_0]
  rw [Nat.add_comm U1 U2, ← gH_cf _ _ _ _ hG _ _ hF]
  refine gH_congr _ _ _ _ _ fun r hr => ?_
  rw [← sum_cf hF hG]
  have e : ∀ s, s ≤ V1 + V2 → sx (U1 + U2) (V1 + V2) (tmL U1 V1 U2 V2 a b) r s = tpS U1 V1 U2 V2 a b r s := fun s hs => by
    have hc1 := cR_ne (n := U1 + U2) (k := r) (by omega)
    have hc2 := cR_ne hs
    rw [sx, sq, rwL_len ht (by omega), Nat.add_sub_cancel, rwL_get ht (by omega) hs, tm_get ha hb (by omega) hs]
    have e1 := Rat.mul_inv_cancel _ hc1
    have e2 := Rat.mul_inv_cancel _ hc2
    rw [Rat.div_def, Rat.inv_mul_rev]
    grind
  rw [Nat.add_comm U2 U1, gH_congr _ _ _ _ _ e]
  show gH (1 - v) v (V1 + V2) (fun s => sm (U1 + 1) fun i => sm (U2 + 1) fun k => if i + k = r then cf (sx U1 V1 a i) (sx U2 V2 b k) s else 0) = _
  rw [gH_sm]
  refine sm_congr _ _ _ fun i hi => ?_
  rw [gH_sm]
  refine sm_congr _ _ _ fun k hk => ?_
  rw [gH_ite]
  by_cases h : i + k = r
  · rw [if_pos h, if_pos h, Nat.add_comm V1 V2]
    exact gH_cf _ _ _ _ (fun j hj => sx_gt hb (by omega) hj) _ _ (fun j hj => sx_gt ha (by omega) hj)
  · rw [if_neg h, if_neg h]
theorem dif_at {p : List Rat} {V j : Nat} (hl : p.length = V + 1) (hj : j ≤ V - 1) : (difP p).getD j 0 = ((V : Nat) : Int) * (p.getD (j + 1) 0 - p.getD j 0) := by
  rcases Nat.eq_zero_or_pos V with rfl | hV
  · obtain rfl : j = 0 := by omega
    have : difP p = [0] := by unfold difP; rw [if_pos (by omega)]
    rw [this, show (((0 : Nat) : Int) : Rat) = 0 from rfl, Rat.zero_mul]; rfl
  · rw [difP_get (by omega), hl, Nat.add_sub_cancel]
theorem dfV_get {U V i j : Nat} {c : List Rat} (hc : c.length = (U + 1) * (V + 1)) (hi : i ≤ U) (hj : j ≤ V - 1) : (dfV U V c).getD (i * (V - 1 + 1) + j) 0 = ((V : Nat) : Int) * (c.getD (i * (V + 1) + (j + 1)) 0 - c.getD (i * (V + 1) + j) 0) := by
  rw [dfV, rs_get (W := V - 1) (U := U) (fun i hi => dif_W (rwL_len hc hi)) hj (Nat.le_refl _) (by omega), dif_at (rwL_len hc hi) hj]
  rcases Nat.eq_zero_or_pos V with rfl | hV
  · rw [show (((0 : Nat) : Int) : Rat) = 0 from rfl, Rat.zero_mul, Rat.zero_mul]
  · rw [rwL_get hc hi (by omega), rwL_get hc hi (by omega)]
theorem dfV_len {U V : Nat} {c : List Rat} (hc : c.length = (U + 1) * (V + 1)) : (dfV U V c).length = (U + 1) * (V - 1 + 1) :=
  rsL_len (W := V - 1) (U := U) (fun i hi => dif_W (rwL_len hc hi)) _ (Nat.le_refl _)
theorem dfU_len (U V : Nat) (c : List Rat) : (dfU U V c).length = (U - 1 + 1) * (V + 1) := swL_len _ _ _
theorem dfU_get {U V i j : Nat} {c : List Rat} (hi : i ≤ U - 1) (hj : j ≤ V) : (dfU U V c).getD (i * (V + 1) + j) 0 = ((U : Nat) : Int) * (c.getD ((i + 1) * (V + 1) + j) 0 - c.getD (i * (V + 1) + j) 0) := by
  have hsl := swL_len U V c
  rw [dfU, sw_get (U := V) (V := U - 1) (i := j) (j := i) hj hi, rs_get (W := U - 1) (U := V) (fun i hi => dif_W (rwL_len hsl hi)) hi (Nat.le_refl _) (by omega), dif_at (rwL_len hsl hj) hi]
  rcases Nat.eq_zero_or_pos U with rfl | hU
  · rw [show (((0 : Nat) : Int) : Rat) = 0 from rfl, Rat.zero_mul, Rat.zero_mul]
  · rw [rwL_get hsl hj (by omega), rwL_get hsl hj (by omega), sw_get (by omega) hj, sw_get (by omega) hj]
theorem row_dfV {U V : Nat} {c : List Rat} (hc : c.length = (U + 1) * (V + 1)) (u : Rat) : rowT U (V - 1) (dfV U V c) u = difP (rowT U V c u) := by
  have hr := rowT_len U V c u
  refine ext0 (by rw [rowT_len, dif_W hr]) fun j hj => ?_
  rw [rowT_len] at hj
  rw [row_get (by omega), dif_at hr (by omega)]
  rcases Nat.eq_zero_or_pos V with rfl | hV
  · rw [show (((0 : Nat) : Int) : Rat) = 0 from rfl, Rat.zero_mul, fE_congr _ _ _ _ (fun _ => 0 * 0 + 0 * 0) fun i hi => ?_, fE_lin, Rat.zero_mul, Rat.zero_add]
    rw [dfV_get hc hi (by omega)]
    show ((0 : Int) : Rat) * _ = _
    rw [show ((0 : Int) : Rat) = 0 from rfl, Rat.zero_mul]; grind
  · rw [row_get (by omega), row_get (by omega), fE_congr _ _ _ _ (fun i => (((V : Nat) : Int) : Rat) * c.getD (i * (V + 1) + (j + 1)) 0 + (-(((V : Nat) : Int) : Rat)) * c.getD (i * (V + 1) + j) 0) fun i hi => ?_, fE_lin]
    · grind
    · rw [dfV_get hc hi (by omega)]; grind
theorem col_dfU {U V : Nat} {c : List Rat} (hc : c.length = (U + 1) * (V + 1)) (v : Rat) : colT (U - 1) V (dfU U V c) v = difP (colT U V c v) := by
  have hr := colT_len U V c v
  have hd := dfU_len U V c
  refine ext0 (by rw [colT_len, dif_W hr]) fun i hi => ?_
  rw [colT_len] at hi
  rw [col_fE hd (by omega), dif_at hr (by omega)]
  rcases Nat.eq_zero_or_pos U with rfl | hU
  · rw [show (((0 : Nat) : Int) : Rat) = 0 from rfl, Rat.zero_mul, fE_congr _ _ _ _ (fun _ => 0 * 0 + 0 * 0) fun j hj => ?_, fE_lin, Rat.zero_mul, Rat.zero_add]
    rw [dfU_get (by omega) hj]
    show ((0 : Int) : Rat) * _ = _
    rw [show ((0 : Int) : Rat) = 0 from rfl, Rat.zero_mul]; grind
  · rw [col_fE hc (by omega), col_fE hc (by omega), fE_congr _ _ _ _ (fun j => (((U : Nat) : Int) : Rat) * c.getD ((i + 1) * (V + 1) + j) 0 + (-(((U : Nat) : Int) : Rat)) * c.getD (i * (V + 1) + j) 0) fun j hj => ?_, fE_lin]
    · grind
    · rw [dfU_get (by omega) hj]; grind
theorem ev_dfV {U V : Nat} {c : List Rat} (hc : c.length = (U + 1) * (V + 1)) (u v : Rat) : evT U (V - 1) (dfV U V c) u v = evP (difP (rowT U V c u)) v := by rw [evT, row_dfV hc]
theorem ev_dfU {U V : Nat} {c : List Rat} (hc : c.length = (U + 1) * (V + 1)) (u v : Rat) : evT (U - 1) V (dfU U V c) u v = evP (difP (colT U V c v)) u := by rw [← evT_swap (dfU_len U V c), col_dfU hc]
theorem df_mix {U V : Nat} {c : List Rat} (hc : c.length = (U + 1) * (V + 1)) : dfU U (V - 1) (dfV U V c) = dfV (U - 1) V (dfU U V c) := by
  have h1 := dfU_len U V c
  refine net_ext (U := U - 1) (V := V - 1) (dfU_len _ _ _) (dfV_len h1) fun i j hi hj => ?_
  rw [dfU_get hi hj, dfV_get h1 hi hj]
  rcases Nat.eq_zero_or_pos U with rfl | hU
  · have e : ∀ j, j ≤ V → (dfU 0 V c).getD (i * (V + 1) + j) 0 = 0 := fun j hj => by rw [dfU_get hi hj, show (((0 : Nat) : Int) : Rat) = 0 from rfl, Rat.zero_mul]
    rcases Nat.eq_zero_or_pos V with rfl | hV
    · rw [show (((0 : Nat) : Int) : Rat) = 0 from rfl, Rat.zero_mul, Rat.zero_mul]
    · rw [e _ (by omega), e _ (by omega), show (((0 : Nat) : Int) : Rat) = 0 from rfl]; grind
  · rw [dfV_get hc (by omega) hj, dfV_get hc (by omega) hj]
    rcases Nat.eq_zero_or_pos V with rfl | hV
    · rw [show (((0 : Nat) : Int) : Rat) = 0 from rfl]; grind
    · rw [dfU_get hi (by omega), dfU_get hi (by omega)]; grind
theorem sm_rl {B : Nat} : ∀ (n : Nat) (f : Nat → Rat), (∀ i, i < n → rl (f i) ≤ B) → rl (sm n f) ≤ 1 + n * (B + 1)
  | 0, f, _ => by show rl 0 ≤ _; rw [show rl 0 = 1 from rfl]; omega
  | n + 1, f, h => by
    have h1 := sm_rl n f (fun i hi => h i (by omega))
    have h2 := h n (by omega)
    have h3 := rl_add (sm n f) (f n)
    rw [sm, Nat.succ_mul]; omega
theorem sx_rl {U V i j : Nat} {c : List Rat} (hU : U ≤ 40) (hV : V ≤ 40) (hc : c.length = (U + 1) * (V + 1)) (hi : i ≤ U) (h : ∀ x ∈ c, rl x ≤ 1) : rl (sx U V c i j) ≤ 5 := by
  have h1 := chsQ_rl (n := U) i hU
  have h2 := chsQ_rl (n := V) j hV
  have h3 := getD_rl (S := 1) (Nat.le_refl _) (fun x hx => h x (rwL_mem (V := V) (i := i) hx)) j
  have h4 := rl_mul (cR V j) ((rwL V c i).getD j 0)
  have h5 := rl_mul (cR U i) (cR V j * (rwL V c i).getD j 0)
  rw [sx, sq, rwL_len hc hi, Nat.add_sub_cancel]
  unfold cR at *
  omega
theorem tm_rl {U1 V1 U2 V2 : Nat} {a b : List Rat} (ha : a.length = (U1 + 1) * (V1 + 1)) (hb : b.length = (U2 + 1) * (V2 + 1)) (hU1 : U1 ≤ 3) (hV1 : V1 ≤ 3) (hU2 : U2 ≤ 3) (hV2 : V2 ≤ 3) (haR : ∀ x ∈ a, rl x ≤ 1) (hbR : ∀ x ∈ b, rl x ≤ 1) : ∀ x ∈ tmL U1 V1 U2 V2 a b, rl x ≤ 1400 := by
  intro x hx
  have ht := tm_len U1 V1 U2 V2 a b
  obtain ⟨k, hk, rfl⟩ := List.getElem_of_mem hx
  rw [ht] at hk
  have h1 : k / (V1 + V2 + 1) < U1 + U2 + 1 := Nat.div_lt_of_lt_mul (by rw [Nat.mul_comm]; exact hk)
  have h2 := Nat.mod_lt k (show V1 + V2 + 1 > 0 by omega)
  have e : k = k / (V1 + V2 + 1) * (V1 + V2 + 1) + k % (V1 + V2 + 1) := by rw [Nat.mul_comm]; exact (Nat.div_add_mod k _).symm
  have e2 : (tmL U1 V1 U2 V2 a b)[k] = (tmL U1 V1 U2 V2 a b).getD k 0 := by rw [List.getD_eq_getElem?_getD, List.getElem?_eq_getElem (by rw [ht]; exact hk)]; rfl
  rw [e2, e]
  generalize k / (V1 + V2 + 1) = r at *
  generalize k % (V1 + V2 + 1) = s at *
  rw [tm_get ha hb (by omega) (by omega)]
  have c1 := chsQ_rl (n := U1 + U2) r (by omega)
  have c2 := chsQ_rl (n := V1 + V2) s (by omega)
  have c3 := rl_mul (cR (U1 + U2) r) (cR (V1 + V2) s)
  have hcf : ∀ i, i < U1 + 1 → ∀ k, k < U2 + 1 → rl (if i + k = r then cf (sx U1 V1 a i) (sx U2 V2 b k) s else 0) ≤ 78 := fun i hi k hk => by
    split
    · have := sm_rl (B := 10) (s + 1) (fun j => sx U1 V1 a i j * sx U2 V2 b k (s - j)) (fun j _ => by
        have g1 := sx_rl (j := j) (show U1 ≤ 40 by omega) (show V1 ≤ 40 by omega) ha (show i ≤ U1 by omega) haR
        have g2 := sx_rl (j := s - j) (show U2 ≤ 40 by omega) (show V2 ≤ 40 by omega) hb (show k ≤ U2 by omega) hbR
        have g3 := rl_mul (sx U1 V1 a i j) (sx U2 V2 b k (s - j))
        omega)
      exact Nat.le_trans this (by omega)
    · decide
  have h3 := sm_rl (B := 320) (U1 + 1) _ (fun i hi => Nat.le_trans (sm_rl (B := 78) (U2 + 1) _ (hcf i hi)) (by omega))
  have h4 := rl_div (tpS U1 V1 U2 V2 a b r s) (cR (U1 + U2) r * cR (V1 + V2) s)
  have h5 : rl (tpS U1 V1 U2 V2 a b r s) ≤ 1 + (U1 + 1) * (320 + 1) := h3
  unfold cR at *
  omega
theorem evT_hsR {R n : Nat} {U V : Nat} {c : List Rat} {u v : Rat} (hc : c.length = (U + 1) * (V + 1)) (hU : U + 1 ≤ n) (hV : V + 1 ≤ n) (h : ∀ x ∈ c, rl x ≤ R) (hR : 1 ≤ R) (hu : rl u ≤ 1) (hv : rl v ≤ 1) (hb1 : (3 * R + 8) * 2 ^ n ≤ 1073741824) (hb2 : (3 * ((3 * R + 8) * 2 ^ n) + 8) * 2 ^ n ≤ 1073741824) : (∀ j, j ≤ V → HS (rwL U (swL U V c) j) u) ∧ HS (rowT U V c u) v := by
  have h1 : ∀ j, j ≤ V → ∀ x ∈ rwL U (swL U V c) j, rl x ≤ R := fun j _ x hx => h x (sw_mem hc (rwL_mem hx))
  have h2 : ∀ j, j ≤ V → (rwL U (swL U V c) j).length = U + 1 := fun j hj => rwL_len (swL_len U V c) hj
  have hp : 1 ≤ 2 ^ n := Nat.one_le_two_pow
  have hS : 1 ≤ (3 * R + 8) * 2 ^ n := Nat.le_trans (show 1 ≤ 3 * R + 8 by omega) (Nat.le_mul_of_pos_right _ hp)
  refine ⟨fun j hj => hs_gen (R := R) (n := n) (h1 j hj) (by omega) (by rw [h2 j hj]; omega) hb1, hs_gen (R := (3 * R + 8) * 2 ^ n) (n := n) ?_ (by omega) (by rw [rowT_len]; omega) hb2⟩
  exact rs_mem (U := V) (fun j hj x hx => by
    rw [List.mem_singleton.1 hx]
    exact getD_rl hS (lo_sz2 (R := R) (n := n) (h1 j hj) (by omega) (by rw [h2 j hj]; omega)).1 _) (Nat.le_refl _)
theorem rowT_rl {R n : Nat} {U V : Nat} {c : List Rat} {u : Rat} (hc : c.length = (U + 1) * (V + 1)) (hU : U + 1 ≤ n) (h : ∀ x ∈ c, rl x ≤ R) (hR : 1 ≤ R) (hu : rl u ≤ 1) : ∀ x ∈ rowT U V c u, rl x ≤ (3 * R + 8) * 2 ^ n := by
  have hS : 1 ≤ (3 * R + 8) * 2 ^ n := Nat.le_trans (show 1 ≤ 3 * R + 8 by omega) (Nat.le_mul_of_pos_right _ Nat.one_le_two_pow)
  exact rs_mem (U := V) (fun j hj x hx => by
    rw [List.mem_singleton.1 hx]
    exact getD_rl hS (lo_sz2 (R := R) (n := n) (fun y hy => h y (sw_mem hc (rwL_mem hy))) (by omega) (by rw [rwL_len (swL_len U V c) hj]; omega)).1 _) (Nat.le_refl _)
theorem colT_rl {R n : Nat} {U V : Nat} {c : List Rat} {v : Rat} (hc : c.length = (U + 1) * (V + 1)) (hV : V + 1 ≤ n) (h : ∀ x ∈ c, rl x ≤ R) (hR : 1 ≤ R) (hv : rl v ≤ 1) : ∀ x ∈ colT U V c v, rl x ≤ (3 * R + 8) * 2 ^ n := by
  have hS : 1 ≤ (3 * R + 8) * 2 ^ n := Nat.le_trans (show 1 ≤ 3 * R + 8 by omega) (Nat.le_mul_of_pos_right _ Nat.one_le_two_pow)
  exact rs_mem (U := U) (fun i hi x hx => by
    rw [List.mem_singleton.1 hx]
    exact getD_rl hS (lo_sz2 (R := R) (n := n) (fun y hy => h y (rwL_mem hy)) (by omega) (by rw [rwL_len hc hi]; omega)).1 _) (Nat.le_refl _)
theorem upH_same {U V : Nat} {c : List Rat} (hc : c.length = (U + 1) * (V + 1)) (hU : U ≤ 40) (hV : V ≤ 40) (hR : ∀ x ∈ c, rl x ≤ 1073741824) : upH U V c U V := by
  have h1 : upR V c V U = c := by
    rw [upR, rs_congr (h := fun p => p) (fun i hi => upP_self (by rw [rwL_len hc hi]; omega)) (Nat.le_refl _), rs_one, List.take_of_length_le (by omega)]
  have h2 : ∀ {p : List Rat} {n : Nat}, p.length = n + 1 → (∀ x ∈ p, rl x ≤ 1073741824) → upS p n := fun {p n} hp hpR => ⟨hpR, fun k hk => by
    obtain rfl : k = 0 := by omega
    exact hpR⟩
  refine ⟨hc, ?_, fun x hx => Nat.le_trans (hR x hx) (by decide), Nat.le_refl _, Nat.le_refl _, hU, hV, fun i hi => h2 (rwL_len hc hi) (fun x hx => hR x (rwL_mem hx)), fun j hj => ?_⟩
  · rw [hc]; exact Nat.le_trans (Nat.mul_le_mul (show U + 1 ≤ 41 by omega) (show V + 1 ≤ 41 by omega)) (by decide)
  · rw [h1]
    exact h2 (rwL_len (swL_len U V c) hj) (fun x hx => hR x (sw_mem hc (rwL_mem hx)))
theorem dfV_rl {U V R : Nat} {c : List Rat} (hc : c.length = (U + 1) * (V + 1)) (hV : V ≤ 900) (hR : 1 ≤ R) (h : ∀ x ∈ c, rl x ≤ R) : ∀ x ∈ dfV U V c, rl x ≤ 2 * R + 4 :=
  rs_mem (U := U) (fun i hi => difP_rl hR (by rw [rwL_len hc hi]; omega) (fun x hx => h x (rwL_mem hx))) (Nat.le_refl _)
theorem dfU_rl {U V R : Nat} {c : List Rat} (hc : c.length = (U + 1) * (V + 1)) (hU : U ≤ 900) (hR : 1 ≤ R) (h : ∀ x ∈ c, rl x ≤ R) : ∀ x ∈ dfU U V c, rl x ≤ 2 * R + 4 :=
  sw_rl (by omega) (rs_mem (U := V) (fun j hj => difP_rl hR (by rw [rwL_len (swL_len U V c) hj]; omega) (fun x hx => h x (sw_mem hc (rwL_mem hx)))) (Nat.le_refl _))
theorem dice_len {l : List Int} {k u v : Nat} (hu : u ≤ 7) (hv : v ≤ 7) : (ntC l k u v).length ≤ 64 := by
  have h1 := nU_le l k u
  have h2 := nU_le l (nxK l k) v
  rw [ntC_len]; exact Nat.le_trans (Nat.mul_le_mul (show nU l k u + 1 ≤ 8 by omega) (show nU l (nxK l k) v + 1 ≤ 8 by omega)) (by decide)
theorem zipS_rl {R : Nat} {p q : List Rat} {g : Rat → Rat → Rat} (hg : ∀ a b, rl (g a b) ≤ rl a + rl b + 1) (hR : 1 ≤ R) (hp : ∀ x ∈ p, rl x ≤ R) (hq : ∀ x ∈ q, rl x ≤ R) : ∀ x ∈ zipG g p q, rl x ≤ 2 * R + 1 := fun x hx => by
  obtain ⟨i, _, rfl⟩ := List.mem_map.1 hx
  have h1 := getD_rl hR hp i
  have h2 := getD_rl hR hq i
  have h3 := hg (p.getD i 0) (q.getD i 0)
  omega
namespace H_c_TensorValues
theorem zSm {p q : Prop} (k : q) (e : p = q := by simp only [e1, e2, e3, e4, p1, p2, p3, q1, q2, q3, l1, t0, t1, r1, r2, r3, r4, Nat.zero_add, Nat.reduceMul, Nat.reduceAdd, b1, b2, b3, b4, b5, b6, i1, i2, i3, i4, i5, i6, Nat.reduceBEq, dfq, tz0, kills_map ratE, ratL_kill, spL_kill, LV.kill, kills, dice_kill]; exact rfl) : p := e.mpr k
end H_c_TensorValues
open H_c_TensorValues in
theorem c_TensorValues (l : List Int) (i j k : Int) (hl : l.length ≤ 9223372036854775807 ∧ ∀ n ∈ l, -9223372036854775808 ≤ n ∧ n ≤ 9223372036854775807) (hi : -9223372036854775808 ≤ i ∧ i ≤ 9223372036854775807) (hj : -9223372036854775808 ≤ j ∧ j ≤ 9223372036854775807) (hk : -9223372036854775808 ≤ k ∧ k ≤ 9223372036854775807) : CallP Tryz.prog 6 [.list 1 (l.map i64L), iL i, iL j, iL k] (bL true) := by
  have hUA : (nU l 0 3) ≤ 3 := nU_le _ _ _
  have hVA : (nU l (nxK l 0) 3) ≤ 3 := nU_le _ _ _
  have hUB : (nU l (ntK l 0 3 3) 3) ≤ 3 := nU_le _ _ _
  have hVB : (nU l (nxK l (ntK l 0 3 3)) 3) ≤ 3 := nU_le _ _ _
  have hal := ntC_len l 0 3 3
  have haR := ntC_rl l 0 3 3
  have hbl := ntC_len l (ntK l 0 3 3) 3 3
  have hbR := ntC_rl l (ntK l 0 3 3) 3 3
  have has : (ntC l 0 3 3).length ≤ 64 := dice_len (by decide) (by decide)
  have hbs : (ntC l (ntK l 0 3 3) 3 3).length ≤ 64 := dice_len (by decide) (by decide)
  have ru := rtV_rl i k
  have rv := rtV_rl j k
  have htl := tm_len (nU l 0 3) (nU l (nxK l 0) 3) (nU l (ntK l 0 3 3) 3) (nU l (nxK l (ntK l 0 3 3)) 3) (ntC l 0 3 3) (ntC l (ntK l 0 3 3) 3 3)
  have htR := tm_rl hal hbl hUA hVA hUB hVB haR hbR
  have hts : (tmL (nU l 0 3) (nU l (nxK l 0) 3) (nU l (ntK l 0 3 3) 3) (nU l (nxK l (ntK l 0 3 3)) 3) (ntC l 0 3 3) (ntC l (ntK l 0 3 3) 3 3)).length ≤ 49 := by rw [htl]; exact Nat.le_trans (Nat.mul_le_mul (show (nU l 0 3) + (nU l (ntK l 0 3 3) 3) + 1 ≤ 7 by omega) (show (nU l (nxK l 0) 3) + (nU l (nxK l (ntK l 0 3 3)) 3) + 1 ≤ 7 by omega)) (by decide)
  obtain ⟨hS1, hS2⟩ := evT_hs hal (by omega) (by omega) haR ru rv
  obtain ⟨hS3, hS4⟩ := evF_hs hal (by omega) (by omega) haR ru rv
  obtain ⟨hT1, hT2⟩ := evT_hs hbl (by omega) (by omega) hbR ru rv
  obtain ⟨hP1, hP2⟩ := evT_hsR (R := 1400) (n := 7) htl (by omega) (by omega) htR (by decide) ru rv (by decide) (by decide)
  have hdVl := dfV_len hal
  have hdVR := dfV_rl hal (by omega) (by decide) haR
  have hdUl := dfU_len (nU l 0 3) (nU l (nxK l 0) 3) (ntC l 0 3 3)
  have hdUR := dfU_rl hal (by omega) (by decide) haR
  obtain ⟨hD1, hD2⟩ := evT_hsR (R := 6) (n := 5) hdVl (u := (rtV i k)) (v := (rtV j k)) (by omega) (by omega) hdVR (by decide) ru rv (by decide) (by decide)
  obtain ⟨hD3, hD4⟩ := evT_hsR (R := 6) (n := 5) hdUl (u := (rtV i k)) (v := (rtV j k)) (by omega) (by omega) hdUR (by decide) ru rv (by decide) (by decide)
  have hdVs : (dfV (nU l 0 3) (nU l (nxK l 0) 3) (ntC l 0 3 3)).length ≤ 64 := by rw [hdVl]; exact Nat.le_trans (Nat.mul_le_mul (show (nU l 0 3) + 1 ≤ 4 by omega) (show (nU l (nxK l 0) 3) - 1 + 1 ≤ 4 by omega)) (by decide)
  have hdUs : (dfU (nU l 0 3) (nU l (nxK l 0) 3) (ntC l 0 3 3)).length ≤ 64 := by rw [hdUl]; exact Nat.le_trans (Nat.mul_le_mul (show (nU l 0 3) - 1 + 1 ≤ 4 by omega) (show (nU l (nxK l 0) 3) + 1 ≤ 4 by omega)) (by decide)
  have hXl := dfU_len (nU l 0 3) ((nU l (nxK l 0) 3) - 1) (dfV (nU l 0 3) (nU l (nxK l 0) 3) (ntC l 0 3 3))
  have hXR := dfU_rl hdVl (by omega) (by decide) hdVR
  have hXH := upH_same hXl (by omega) (by omega) (fun x hx => Nat.le_trans (hXR x hx) (by decide))
  have hRl := rowT_len (nU l 0 3) (nU l (nxK l 0) 3) (ntC l 0 3 3) (rtV i k)
  have hCl := colT_len (nU l 0 3) (nU l (nxK l 0) 3) (ntC l 0 3 3) (rtV j k)
  have hRr := rowT_rl (n := 5) hal (by omega) haR (by decide) ru
  have hCr := colT_rl (n := 5) hal (by omega) haR (by decide) rv
  have hRd : HS (difP (rowT (nU l 0 3) (nU l (nxK l 0) 3) (ntC l 0 3 3) (rtV i k))) (rtV j k) := hs_gen (R := 708) (n := 5) (fun x hx => Nat.le_trans (difP_rl (R := (3 * 1 + 8) * 2 ^ 5) (by decide) (by omega) hRr x hx) (by decide)) (by omega) (by rw [dif_W hRl]; omega) (by decide)
  have hCd : HS (difP (colT (nU l 0 3) (nU l (nxK l 0) 3) (ntC l 0 3 3) (rtV j k))) (rtV i k) := hs_gen (R := 708) (n := 5) (fun x hx => Nat.le_trans (difP_rl (R := (3 * 1 + 8) * 2 ^ 5) (by decide) (by omega) hCr x hx) (by decide)) (by omega) (by rw [dif_W hCl]; omega) (by decide)
  have hR0 : 0 < (difP (rowT (nU l 0 3) (nU l (nxK l 0) 3) (ntC l 0 3 3) (rtV i k))).length := by rw [dif_W hRl]; omega
  have hC0 : 0 < (difP (colT (nU l 0 3) (nU l (nxK l 0) 3) (ntC l 0 3 3) (rtV j k))).length := by rw [dif_W hCl]; omega
  have hEx : rl (evT (nU l 0 3) (nU l (nxK l 0) 3) (ntC l 0 3 3) (rtV i k) (rtV j k)) ≤ 1073741824 := hS2.ev
  have hEy : rl (evT (nU l (ntK l 0 3 3) 3) (nU l (nxK l (ntK l 0 3 3)) 3) (ntC l (ntK l 0 3 3) 3 3) (rtV i k) (rtV j k)) ≤ 1073741824 := hT2.ev
  have hE4 := hRd.ev
  have hE5 := hCd.ev
  have hxy := rl_mul (evT (nU l 0 3) (nU l (nxK l 0) 3) (ntC l 0 3 3) (rtV i k) (rtV j k)) (evT (nU l (ntK l 0 3 3) 3) (nU l (nxK l (ntK l 0 3 3)) 3) (ntC l (ntK l 0 3 3) 3 3) (rtV i k) (rtV j k))
  have hF2 := c_FEval (colT (nU l 0 3) (nU l (nxK l 0) 3) (ntC l 0 3 3) (rtV j k)) (rtV i k) hS4 (by omega)
  rw [evT_swap hal] at hF2
  have hTP := c_TEval ((nU l 0 3) + (nU l (ntK l 0 3 3) 3)) ((nU l (nxK l 0) 3) + (nU l (nxK l (ntK l 0 3 3)) 3)) (tmL (nU l 0 3) (nU l (nxK l 0) 3) (nU l (ntK l 0 3 3) 3) (nU l (nxK l (ntK l 0 3 3)) 3) (ntC l 0 3 3) (ntC l (ntK l 0 3 3) 3 3)) htl (by omega) (fun x hx => Nat.le_trans (htR x hx) (by decide)) (rtV i k) (rtV j k) hP1 hP2
  rw [evT_tm hal hbl] at hTP
  have hTV := c_TEval (nU l 0 3) ((nU l (nxK l 0) 3) - 1) (dfV (nU l 0 3) (nU l (nxK l 0) 3) (ntC l 0 3 3)) hdVl (by omega) (fun x hx => Nat.le_trans (hdVR x hx) (by decide)) (rtV i k) (rtV j k) hD1 hD2
  rw [ev_dfV hal] at hTV
  have hTU := c_TEval ((nU l 0 3) - 1) (nU l (nxK l 0) 3) (dfU (nU l 0 3) (nU l (nxK l 0) 3) (ntC l 0 3 3)) hdUl (by omega) (fun x hx => Nat.le_trans (hdUR x hx) (by decide)) (rtV i k) (rtV j k) hD3 hD4
  rw [ev_dfU hal] at hTU
  have hmx := df_mix hal
  have hTS := c_TSub ((nU l 0 3) - 1) ((nU l (nxK l 0) 3) - 1) ((nU l 0 3) - 1) ((nU l (nxK l 0) 3) - 1) (dfU (nU l 0 3) ((nU l (nxK l 0) 3) - 1) (dfV (nU l 0 3) (nU l (nxK l 0) 3) (ntC l 0 3 3))) (dfU (nU l 0 3) ((nU l (nxK l 0) 3) - 1) (dfV (nU l 0 3) (nU l (nxK l 0) 3) (ntC l 0 3 3))) ((nU l 0 3) - 1) ((nU l (nxK l 0) 3) - 1) hXH hXH (.inl rfl) (.inl rfl)
  have hzz := zipS_rl (R := 1073741824) (g := (· - ·)) rl_sub (by decide) hXH.rl hXH.rl
  have hzl : (zipG (· - ·) (upN ((nU l 0 3) - 1) ((nU l (nxK l 0) 3) - 1) (dfU (nU l 0 3) ((nU l (nxK l 0) 3) - 1) (dfV (nU l 0 3) (nU l (nxK l 0) 3) (ntC l 0 3 3))) ((nU l 0 3) - 1) ((nU l (nxK l 0) 3) - 1)) (upN ((nU l 0 3) - 1) ((nU l (nxK l 0) 3) - 1) (dfU (nU l 0 3) ((nU l (nxK l 0) 3) - 1) (dfV (nU l 0 3) (nU l (nxK l 0) 3) (ntC l 0 3 3))) ((nU l 0 3) - 1) ((nU l (nxK l 0) 3) - 1))).length ≤ 1681 := by rw [zipG_len, upN_len]; exact hXH.n
  have hn1 := net_pureN (nU l 0 3) (nU l (nxK l 0) 3) (ntC l 0 3 3)
  have hn2 := net_pureN (nU l (ntK l 0 3 3) 3) (nU l (nxK l (ntK l 0 3 3)) 3) (ntC l (ntK l 0 3 3) 3 3)
  have hn3 := net_pureN ((nU l 0 3) + (nU l (ntK l 0 3 3) 3)) ((nU l (nxK l 0) 3) + (nU l (nxK l (ntK l 0 3 3)) 3)) (tmL (nU l 0 3) (nU l (nxK l 0) 3) (nU l (ntK l 0 3 3) 3) (nU l (nxK l (ntK l 0 3 3)) 3) (ntC l 0 3 3) (ntC l (ntK l 0 3 3) 3 3))
  have hn4 := net_pureN (nU l 0 3) ((nU l (nxK l 0) 3) - 1) (dfV (nU l 0 3) (nU l (nxK l 0) 3) (ntC l 0 3 3))
  have hn5 := net_pureN ((nU l 0 3) - 1) (nU l (nxK l 0) 3) (dfU (nU l 0 3) (nU l (nxK l 0) 3) (ntC l 0 3 3))
  have hn6 := net_pureN ((nU l 0 3) - 1) ((nU l (nxK l 0) 3) - 1) (dfU (nU l 0 3) ((nU l (nxK l 0) 3) - 1) (dfV (nU l 0 3) (nU l (nxK l 0) 3) (ntC l 0 3 3)))
  have hn8 := net_pureN ((nU l 0 3) - 1) ((nU l (nxK l 0) 3) - 1) (zipG (· - ·) (upN ((nU l 0 3) - 1) ((nU l (nxK l 0) 3) - 1) (dfU (nU l 0 3) ((nU l (nxK l 0) 3) - 1) (dfV (nU l 0 3) (nU l (nxK l 0) 3) (ntC l 0 3 3))) ((nU l 0 3) - 1) ((nU l (nxK l 0) 3) - 1)) (upN ((nU l 0 3) - 1) ((nU l (nxK l 0) 3) - 1) (dfU (nU l 0 3) ((nU l (nxK l 0) 3) - 1) (dfV (nU l 0 3) (nU l (nxK l 0) 3) (ntC l 0 3 3))) ((nU l 0 3) - 1) ((nU l (nxK l 0) 3) - 1)))
  have hDV2 := c_DiffV ((nU l 0 3) - 1) (nU l (nxK l 0) 3) (dfU (nU l 0 3) (nU l (nxK l 0) 3) (ntC l 0 3 3)) hdUl (by omega) (fun x hx => Nat.le_trans (hdUR x hx) (by decide)) (by omega)
  rw [← hmx] at hDV2
  refine fnP Tryz.func6 ?_
  refine zg9 ?_
  refine cp am1 (c_Light l (by omega)) ?_
  refine zg3 ?_
  refine wl_if rfl (fun h21r h21 => ?_) (fun h21r h21 => ?_)
  · refine zg2 ?_
    refine cp am0 (c_awake7) ?_
    refine zg5 ?_
    exact ret1 rfl (by first | exact .pure rfl | exact .pure (limL_pure _) | exact .pure (magL_pure _) | exact .pure (ratE.pure _) | exact .pure (pure_lst u32E _ _) | exact .pure (pure_lst ratE _ _))
  · have hk1 := ntK_le (l := l) (k := 0) (by omega) (by omega) 3 3
    refine zg5 ?_
    refine st_call1 [] rfl rfl (.cons im0 .nil) (c_Roll l) (dice_pure l 0) rfl ?_
    refine zg6 ?_
    refine st_callMp 1000385 rfl rfl rfl (dice_pure l _) (.cons .ptr (.cons (.imm (.pure rfl)) (.cons (.imm (.pure rfl)) .nil))) .ptr (c_Net l 0 3 3 (by omega) (by omega) (by decide) (by decide)) rfl (dice_pure l _) (net_pureN _ _ _) ?_
    refine zg1 ?_
    refine st_callMp 1000385 rfl rfl rfl (dice_pure l _) (.cons .ptr (.cons (.imm (.pure rfl)) (.cons (.imm (.pure rfl)) .nil))) .ptr (c_Net l (ntK l 0 3 3) 3 3 (by omega) (by omega) (by decide) (by decide)) rfl (dice_pure l _) (net_pureN _ _ _) ?_
    refine zg10 ?_
    refine cp am2 (c_MRat i k hi hk) ?_
    refine zg2 ?_
    refine cp am2 (c_MRat j k hj hk) ?_
    refine zg10 ?_
    refine cp am2 (c_TMul (nU l 0 3) (nU l (nxK l 0) 3) (nU l (ntK l 0 3 3) 3) (nU l (nxK l (ntK l 0 3 3)) 3) (ntC l 0 3 3) (ntC l (ntK l 0 3 3) 3 3) hal hbl (by omega) (by omega) (by omega) (by omega) 1 (by decide) (by decide) haR hbR) ?_
    refine zg9 ?_
    refine wl_regD 8 (by decide +kernel) ?_
    refine zg2 ?_
    refine cp am2 (c_TRow (nU l 0 3) (nU l (nxK l 0) 3) (ntC l 0 3 3) hal (by omega) (fun x hx => Nat.le_trans (haR x hx) (by decide)) (rtV i k) hS1) ?_
    refine zg2 ?_
    refine cp am2 (c_Column (nU l 0 3) (nU l (nxK l 0) 3) (ntC l 0 3 3) hal (by omega) (rtV j k) hS3) ?_
    refine zg10 ?_
    refine st_pure (guardX (v := false) rfl rfl ((by simp)) rfl) (.move _) ?_
    refine st_pure (guardX (v := false) rfl rfl ((by simp)) rfl) ln38 ?_
    refine st_pure (guardX (v := false) rfl rfl ((by simp)) rfl) (.bin rfl rfl rfl) ?_
    refine st_pure rfl (.pickF rfl ((by simp))) ?_
    refine zg1 ?_
    refine st_pure (guardX (v := false) rfl rfl ((beq_false_of_ne (by omega))) rfl) (.move _) ?_
    refine st_pure (guardX (v := false) rfl rfl ((beq_false_of_ne (by omega))) rfl) ln38 ?_
    refine st_pure (guardX (v := false) rfl rfl ((beq_false_of_ne (by omega))) rfl) (.bin rfl rfl rfl) ?_
    refine st_pure rfl (.pickF rfl ((beq_false_of_ne (by omega)))) ?_
    refine zg2 ?_
    refine wl_condY (b := _) rfl (beq_false_of_ne (by omega)) ?_
    refine zg7 ?_
    refine cp am3 (c_TEval (nU l 0 3) (nU l (nxK l 0) 3) (ntC l 0 3 3) hal (by omega) (fun x hx => Nat.le_trans (haR x hx) (by decide)) (rtV i k) (rtV j k) hS1 hS2) ?_
    refine zg5 ?_
    refine wl_regD 63 (by decide +kernel) ?_
    refine zg2 ?_
    refine cp am2 (c_FEval (rowT (nU l 0 3) (nU l (nxK l 0) 3) (ntC l 0 3 3) (rtV i k)) (rtV j k) hS2 (by omega)) ?_
    refine zg1 ?_
    refine cp am2 (c_FSame (evT (nU l 0 3) (nU l (nxK l 0) 3) (ntC l 0 3 3) (rtV i k) (rtV j k)) (evT (nU l 0 3) (nU l (nxK l 0) 3) (ntC l 0 3 3) (rtV i k) (rtV j k)) (by omega)) ?_
    refine zg1 ?_
    refine st_pure (guardX (v := true) rfl rfl ((decide_eq_true rfl)) rfl) (.move _) ?_
    refine st_pure (guardX (v := true) rfl rfl ((decide_eq_true rfl)) rfl) ld33 ?_
    refine st_callP (guardX (v := true) rfl rfl ((decide_eq_true rfl)) rfl) (.cons im0 (.cons im0 .nil)) (hF2) ?_
    refine st_pure (guardX (v := true) rfl rfl ((decide_eq_true rfl)) rfl) ld33 ?_
    refine st_callP (guardX (v := true) rfl rfl ((decide_eq_true rfl)) rfl) (.cons im0 (.cons im0 .nil)) (c_FSame (evT (nU l 0 3) (nU l (nxK l 0) 3) (ntC l 0 3 3) (rtV i k) (rtV j k)) (evT (nU l 0 3) (nU l (nxK l 0) 3) (ntC l 0 3 3) (rtV i k) (rtV j k)) (by omega)) ?_
    refine st_pure rfl (.pickT rfl ((decide_eq_true rfl))) ?_
    refine zg1 ?_
    refine st_pure (guardX (v := true) rfl rfl ((decide_eq_true rfl)) rfl) ld27 ?_
    refine st_pure (guardX (v := true) rfl rfl ((decide_eq_true rfl)) rfl) ld33 ?_
    refine st_pure (guardX (v := true) rfl rfl ((decide_eq_true rfl)) rfl) ld33 ?_
    refine st_callP (guardX (v := true) rfl rfl ((decide_eq_true rfl)) rfl) (.cons im0 (.cons im0 (.cons im0 .nil))) (hTP) ?_
    refine st_pure (guardX (v := true) rfl rfl ((decide_eq_true rfl)) rfl) ld33 ?_
    refine st_pure (guardX (v := true) rfl rfl ((decide_eq_true rfl)) rfl) ld27 ?_
    refine st_pure (guardX (v := true) rfl rfl ((decide_eq_true rfl)) rfl) ld33 ?_
    refine st_pure (guardX (v := true) rfl rfl ((decide_eq_true rfl)) rfl) ld33 ?_
    refine st_callP (guardX (v := true) rfl rfl ((decide_eq_true rfl)) rfl) (.cons im0 (.cons im0 (.cons im0 .nil))) (c_TEval (nU l (ntK l 0 3 3) 3) (nU l (nxK l (ntK l 0 3 3)) 3) (ntC l (ntK l 0 3 3) 3 3) hbl (by omega) (fun x hx => Nat.le_trans (hbR x hx) (by decide)) (rtV i k) (rtV j k) hT1 hT2) ?_
    refine st_callP (guardX (v := true) rfl rfl ((decide_eq_true rfl)) rfl) (.cons im0 (.cons im0 .nil)) (c_FRMul (evT (nU l 0 3) (nU l (nxK l 0) 3) (ntC l 0 3 3) (rtV i k) (rtV j k)) (evT (nU l (ntK l 0 3 3) 3) (nU l (nxK l (ntK l 0 3 3)) 3) (ntC l (ntK l 0 3 3) 3 3) (rtV i k) (rtV j k)) (by omega)) ?_
    refine st_callP (guardX (v := true) rfl rfl ((decide_eq_true rfl)) rfl) (.cons im0 (.cons im0 .nil)) (c_FSame ((evT (nU l 0 3) (nU l (nxK l 0) 3) (ntC l 0 3 3) (rtV i k) (rtV j k)) * (evT (nU l (ntK l 0 3 3) 3) (nU l (nxK l (ntK l 0 3 3)) 3) (ntC l (ntK l 0 3 3) 3 3) (rtV i k) (rtV j k))) ((evT (nU l 0 3) (nU l (nxK l 0) 3) (ntC l 0 3 3) (rtV i k) (rtV j k)) * (evT (nU l (ntK l 0 3 3) 3) (nU l (nxK l (ntK l 0 3 3)) 3) (ntC l (ntK l 0 3 3) 3 3) (rtV i k) (rtV j k))) (by omega)) ?_
    refine st_pure rfl (.pickT rfl ((decide_eq_true rfl))) ?_
    refine zg1 ?_
    refine st_pure (guardX (v := true) rfl rfl ((decide_eq_true rfl)) rfl) ld27 ?_
    refine st_callP (guardX (v := true) rfl rfl ((decide_eq_true rfl)) rfl) (.cons im0 .nil) (c_DiffV (nU l 0 3) (nU l (nxK l 0) 3) (ntC l 0 3 3) hal (by omega) (fun x hx => Nat.le_trans (haR x hx) (by decide)) (by omega)) ?_
    refine st_pure (guardX (v := true) rfl rfl ((decide_eq_true rfl)) rfl) ld33 ?_
    refine st_pure (guardX (v := true) rfl rfl ((decide_eq_true rfl)) rfl) ld33 ?_
    refine st_callP (guardX (v := true) rfl rfl ((decide_eq_true rfl)) rfl) (.cons im0 (.cons im0 (.cons im0 .nil))) (hTV) ?_
    refine st_pure (guardX (v := true) rfl rfl ((decide_eq_true rfl)) rfl) (.move _) ?_
    refine st_callP (guardX (v := true) rfl rfl ((decide_eq_true rfl)) rfl) (.cons im0 .nil) (c_FDiff5 (rowT (nU l 0 3) (nU l (nxK l 0) 3) (ntC l 0 3 3) (rtV i k)) (by omega) (by omega) (fun x hx => Nat.le_trans (hRr x hx) (by decide))) ?_
    refine st_pure (guardX (v := true) rfl rfl ((decide_eq_true rfl)) rfl) ld33 ?_
    refine st_callP (guardX (v := true) rfl rfl ((decide_eq_true rfl)) rfl) (.cons im0 (.cons im0 .nil)) (c_FEval (difP (rowT (nU l 0 3) (nU l (nxK l 0) 3) (ntC l 0 3 3) (rtV i k))) (rtV j k) hRd hR0) ?_
    refine st_callP (guardX (v := true) rfl rfl ((decide_eq_true rfl)) rfl) (.cons im0 (.cons im0 .nil)) (c_FSame (evP (difP (rowT (nU l 0 3) (nU l (nxK l 0) 3) (ntC l 0 3 3) (rtV i k))) (rtV j k)) (evP (difP (rowT (nU l 0 3) (nU l (nxK l 0) 3) (ntC l 0 3 3) (rtV i k))) (rtV j k)) (by omega)) ?_
    refine st_pure rfl (.pickT rfl ((decide_eq_true rfl))) ?_
    refine zg1 ?_
    refine st_pure (guardX (v := true) rfl rfl ((decide_eq_true rfl)) rfl) ld27 ?_
    refine st_callP (guardX (v := true) rfl rfl ((decide_eq_true rfl)) rfl) (.cons im0 .nil) (c_DiffU (nU l 0 3) (nU l (nxK l 0) 3) (ntC l 0 3 3) hal (by omega) (fun x hx => Nat.le_trans (haR x hx) (by decide)) (by omega)) ?_
    refine st_pure (guardX (v := true) rfl rfl ((decide_eq_true rfl)) rfl) ld33 ?_
    refine st_pure (guardX (v := true) rfl rfl ((decide_eq_true rfl)) rfl) ld33 ?_
    refine st_callP (guardX (v := true) rfl rfl ((decide_eq_true rfl)) rfl) (.cons im0 (.cons im0 (.cons im0 .nil))) (hTU) ?_
    refine st_pure (guardX (v := true) rfl rfl ((decide_eq_true rfl)) rfl) (.move _) ?_
    refine st_callP (guardX (v := true) rfl rfl ((decide_eq_true rfl)) rfl) (.cons im0 .nil) (c_FDiff5 (colT (nU l 0 3) (nU l (nxK l 0) 3) (ntC l 0 3 3) (rtV j k)) (by omega) (by omega) (fun x hx => Nat.le_trans (hCr x hx) (by decide))) ?_
    refine st_pure (guardX (v := true) rfl rfl ((decide_eq_true rfl)) rfl) ld33 ?_
    refine st_callP (guardX (v := true) rfl rfl ((decide_eq_true rfl)) rfl) (.cons im0 (.cons im0 .nil)) (c_FEval (difP (colT (nU l 0 3) (nU l (nxK l 0) 3) (ntC l 0 3 3) (rtV j k))) (rtV i k) hCd hC0) ?_
    refine st_callP (guardX (v := true) rfl rfl ((decide_eq_true rfl)) rfl) (.cons im0 (.cons im0 .nil)) (c_FSame (evP (difP (colT (nU l 0 3) (nU l (nxK l 0) 3) (ntC l 0 3 3) (rtV j k))) (rtV i k)) (evP (difP (colT (nU l 0 3) (nU l (nxK l 0) 3) (ntC l 0 3 3) (rtV j k))) (rtV i k)) (by omega)) ?_
    refine st_pure rfl (.pickT rfl ((decide_eq_true rfl))) ?_
    refine zg1 ?_
    refine st_pure (guardX (v := true) rfl rfl ((decide_eq_true rfl)) rfl) ld27 ?_
    refine st_callP (guardX (v := true) rfl rfl ((decide_eq_true rfl)) rfl) (.cons im0 .nil) (c_DiffV (nU l 0 3) (nU l (nxK l 0) 3) (ntC l 0 3 3) hal (by omega) (fun x hx => Nat.le_trans (haR x hx) (by decide)) (by omega)) ?_
    refine st_callP (guardX (v := true) rfl rfl ((decide_eq_true rfl)) rfl) (.cons im0 .nil) (c_DiffU (nU l 0 3) ((nU l (nxK l 0) 3) - 1) (dfV (nU l 0 3) (nU l (nxK l 0) 3) (ntC l 0 3 3)) hdVl (by omega) (fun x hx => Nat.le_trans (hdVR x hx) (by decide)) (by omega)) ?_
    refine st_pure (guardX (v := true) rfl rfl ((decide_eq_true rfl)) rfl) ld27 ?_
    refine st_callP (guardX (v := true) rfl rfl ((decide_eq_true rfl)) rfl) (.cons im0 .nil) (c_DiffU (nU l 0 3) (nU l (nxK l 0) 3) (ntC l 0 3 3) hal (by omega) (fun x hx => Nat.le_trans (haR x hx) (by decide)) (by omega)) ?_
    refine st_callP (guardX (v := true) rfl rfl ((decide_eq_true rfl)) rfl) (.cons im0 .nil) (hDV2) ?_
    refine st_callP (guardX (v := true) rfl rfl ((decide_eq_true rfl)) rfl) (.cons im0 (.cons im0 .nil)) (hTS) ?_
    refine st_callP (guardX (v := true) rfl rfl ((decide_eq_true rfl)) rfl) (.cons im0 .nil) (c_TZero _ _ (zipG (· - ·) (upN ((nU l 0 3) - 1) ((nU l (nxK l 0) 3) - 1) (dfU (nU l 0 3) ((nU l (nxK l 0) 3) - 1) (dfV (nU l 0 3) (nU l (nxK l 0) 3) (ntC l 0 3 3))) ((nU l 0 3) - 1) ((nU l (nxK l 0) 3) - 1)) (upN ((nU l 0 3) - 1) ((nU l (nxK l 0) 3) - 1) (dfU (nU l 0 3) ((nU l (nxK l 0) 3) - 1) (dfV (nU l 0 3) (nU l (nxK l 0) 3) (ntC l 0 3 3))) ((nU l 0 3) - 1) ((nU l (nxK l 0) 3) - 1))) (by omega) (fun x hx => Nat.le_trans (hzz x hx) (by decide))) ?_
    refine st_pure rfl (.pickT rfl ((decide_eq_true rfl))) ?_
    refine zg1 ?_
    refine st_callP (guardX (v := true) rfl rfl ((by rw [zip_self]; rfl)) rfl) .nil (c_awake7) ?_
    refine st_pure rfl (.pickT rfl ((by rw [zip_self]; rfl))) ?_
    refine zg4 ?_
    exact ret1 rfl (by first | exact .pure rfl | exact .pure (limL_pure _) | exact .pure (magL_pure _) | exact .pure (ratE.pure _) | exact .pure (pure_lst u32E _ _) | exact .pure (pure_lst ratE _ _))
end Go.Proofs.YthhdcfhaldcheaaGreat
end
