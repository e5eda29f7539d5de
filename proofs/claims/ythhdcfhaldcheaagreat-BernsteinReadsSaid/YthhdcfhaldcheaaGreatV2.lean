/- Derivatives, powers, mirrored polynomials, parts. -/
import Derived.Test.YthhdcfhaldcheaaGreatV1
set_option linter.unusedVariables false
set_option linter.unusedSimpArgs false
set_option maxHeartbeats 8000000
set_option maxRecDepth 100000
attribute [local irreducible] Go.Lg.opsL Go.Lg.wpL Go.Lg.thenL Go.Lg.blockL
namespace Go.Proofs.YthhdcfhaldcheaaGreat
open Go.Lg
/-! ### rows in place -/
theorem row_get {s q tl : List Rat} {i : Nat} (hs : s.length = q.length - 1) (h : i + 1 < q.length) : (s.take i ++ (q.drop i ++ tl)).getD i 0 = q.getD i 0 ∧ (s.take i ++ (q.drop i ++ tl)).getD (i + 1) 0 = q.getD (i + 1) 0 := by
  have hl : (s.take i).length = i := by rw [List.length_take]; omega
  constructor
  · rw [getD_app2 _ _ _ (by omega), hl, Nat.sub_self, getD_app1 _ _ _ (by simp; omega), getD_dropR, Nat.add_zero]
  · rw [getD_app2 _ _ _ (by omega), hl, getD_app1 _ _ _ (by simp; omega), getD_dropR]; congr 1; omega
theorem row_set {s q tl : List Rat} {i : Nat} {v : Rat} (hs : s.length = q.length - 1) (h : i + 1 < q.length) (hv : v = s.getD i 0) : (s.take i ++ (q.drop i ++ tl)).set i v = s.take (i + 1) ++ (q.drop (i + 1) ++ tl) := by
  subst hv
  have hl : (s.take i).length = i := by rw [List.length_take]; omega
  rw [List.drop_eq_getElem_cons (by omega), List.cons_append, set_mid _ _ _ _ hl.symm]
  have hs2 : i < s.length := by omega
  rw [List.take_succ_eq_append_getElem hs2, List.append_assoc]
  congr 1
  rw [List.getD_eq_getElem?_getD, List.getElem?_eq_getElem hs2]
  simp
theorem row_end {s q tl : List Rat} {k : Nat} (hs : s.length = q.length - 1) (h : q.length = k + 1) : s.take k ++ (q.drop k ++ tl) = s ++ (q.getD k 0 :: tl) := by
  rw [List.take_of_length_le (by omega), List.drop_eq_getElem_cons (by omega), List.drop_of_length_le (by omega), List.getD_eq_getElem?_getD, List.getElem?_eq_getElem (by omega)]
  simp
theorem row_len {s q tl : List Rat} {i : Nat} (hs : s.length = q.length - 1) (h : i < q.length) : (s.take i ++ (q.drop i ++ tl)).length = q.length + tl.length := by
  simp; omega
theorem dfl_sz {q : List Rat} {M k : Nat} (h : ∀ x ∈ q, (rl x + 1) * 2 ^ (k + 1) ≤ M) : ∀ x ∈ dfl q, (rl x + 1) * 2 ^ k ≤ M := by
  intro x hx
  obtain ⟨i, hi, rfl⟩ := mem_getD hx
  rw [dfl_len] at hi
  rw [dfl_get q i (by omega)]
  have h1 := h _ (getD_mem (p := q) (i := i) (by omega))
  have h2 := h _ (getD_mem (p := q) (i := i + 1) (by omega))
  have e1 := rl_sub (q.getD (i + 1) 0) (q.getD i 0)
  rw [Nat.pow_succ] at h1 h2
  have hle : rl (q.getD (i + 1) 0 - q.getD i 0) + 1 ≤ (rl (q.getD i 0) + 1) + (rl (q.getD (i + 1) 0) + 1) := by omega
  have := Nat.mul_le_mul_right (2 ^ k) hle
  have e6 := Nat.add_mul (rl (q.getD i 0) + 1) (rl (q.getD (i + 1) 0) + 1) (2 ^ k)
  have e4 : (rl (q.getD i 0) + 1) * (2 ^ k * 2) = (rl (q.getD i 0) + 1) * 2 ^ k * 2 := by rw [Nat.mul_assoc]
  have e5 : (rl (q.getD (i + 1) 0) + 1) * (2 ^ k * 2) = (rl (q.getD (i + 1) 0) + 1) * 2 ^ k * 2 := by rw [Nat.mul_assoc]
  omega
theorem top_step {p : List Rat} {k : Nat} {tl : List Rat} (h : k < p.length) : (topP p).take (k + 1) = (topP p).take k ++ [(chR (p.length - 1)).getD k 0 * (dfk k p).getD 0 0] := by
  have hl := topP_len p
  rw [List.take_succ_eq_append_getElem (by omega)]
  congr 1
  have := topP_get h
  rw [List.getD_eq_getElem?_getD, List.getElem?_eq_getElem (by omega)] at this
  simpa using this
namespace H_c_Top
theorem zSm {p q : Prop} (k : q) (e : p = q := by simp only [e1, e2, e3, e4, p1, p2, p3, q1, q2, q3, l1, t0, t1, r1, r2, r3, r4, Nat.zero_add, Nat.reduceMul, Nat.reduceAdd, b1, b2, b3, b4, b5, b6, i1, i2, i3, i4, i5, i6, Nat.reduceBEq, frz_nil, dfq, chR_len, List.append_nil, List.length_append, ek, eq0, emg1, emg2, ems, eme, ei1, eti, take_map_len, map_snoc, len_snoc, List.length_cons, List.length_nil, kills_map ratE, ratL_kill, LV.kill, kills]; exact rfl) : p := e.mpr k
end H_c_Top
open H_c_Top in
theorem c_Top (p : List Rat) (hp0 : 0 < p.length) (hl : p.length ≤ 25) (hs : ∀ x ∈ p, (rl x + 1) * 2 ^ p.length ≤ 1073741824) : CallP Tryz.prog 63 [.list 3 (p.map ratL)] (.list 3 ((topP p).map ratL)) := by
  have hpr : ∀ x ∈ p, rl x ≤ 274877906944 := fun x hx => by have := sz_rl (hs x hx); omega
  have htl0 := topP_len p
  refine fnP Tryz.func63 ?_
  have ek : True := trivial
  have eq0 : True := trivial
  have emg1 : True := trivial
  have emg2 : True := trivial
  have ems : True := trivial
  have eme : True := trivial
  have ei1 : True := trivial
  have eti : True := trivial
  refine zg8 ?_
  refine st_call1 [] rfl rfl (.cons (.pure (pure_lst ratE _ _)) .nil) (c_copiedO p (by omega) hpr) (pures_map ratE _) rfl ?_
  refine zg7 ?_
  refine st_alloc rfl rfl (.makeM (n := 0) (m := p.length) ratE Tryz.underlying25 Z33 T33 B33 rfl rfl (by omega) (by omega) (by omega)) ?_
  refine zg8 ?_
  refine st_pure rfl (.bin rfl rfl (sub1N (by omega) (by omega))) ?_
  refine zg1 ?_
  refine cp am1 (c_choose (p.length - 1) (by omega)) ?_
  refine zg5 ?_
  refine wl_weak (Weak.mv (t := 4) (b := 12) 35 (by decide) (by decide) (by decide) rfl rfl rfl) ?_
  refine lp3 (fun (k : Nat) (tl lo : List Rat) L => (((((((St.mk L.slot (hp [(1000145, ⟨3, (dfk k p ++ tl).map ratL, true⟩), (35, ⟨3, lo.map ratL, true⟩)])).put (some 0) (.list 3 (p.map ratL))).put (some 17) (.list 3 ((chR (p.length - 1)).map ratL))).put (some 18) (nI64 p.length)).put (some 19) (nI64 k)).put (some 3) (.ref 1000145 3 0 (p.length - k))).put (some 4) (.ref 35 3 0 lo.length))) (fun k tl lo => k ≤ p.length ∧ tl.length = k ∧ lo = (topP p).take k ∧ lo.length = k ∧ ∀ x ∈ dfk k p, (rl x + 1) * 2 ^ (p.length - k) ≤ 1073741824) (fun k tl lo => p.length - k) 0 ([]) ([]) ⟨Nat.zero_le _, rfl, rfl, rfl, hs⟩ ?_
  rintro k tl lo L1 ⟨hk, htl, hlo, htk, hsz⟩
  refine zg6 ?_
  refine wl_if rfl (fun h20r h20 => ?_) (fun h20r h20 => ?_)
  · have hkn : k < p.length := by omega
    have hdl := dfk_len p k
    obtain ⟨j, hj⟩ : ∃ j, p.length - k = j + 1 := ⟨p.length - k - 1, by omega⟩
    rw [hj] at hsz
    have ek : (((p.length - k : Nat) : Int) - 1) = (j : Int) := by omega
    have hds := dfl_len (dfk k p)
    have eq0 : (dfk k p ++ tl).getD 0 0 = (dfk k p).getD 0 0 := getD_app1 _ _ _ (by omega)
    have hq0 := sz_rl (hsz _ (getD_mem (i := 0) (by omega)))
    have hc0 := chR_rl (n := p.length - 1) (by omega) _ (getD_mem (i := k) (by rw [chR_len]; omega))
    have ets := top_step (tl := tl) hkn
    refine zg23 ?_
    refine wl_if rfl (fun h27r h27 => ?_) (fun h27r h27 => ?_)
    · omega
    · refine zg3 ?_
      refine wl_regD 7 (by decide +kernel) ?_
      refine zg5 ?_
      simp only [tz0, dfq, Nat.zero_add, eq0]
      refine cp am2 (c_RMul _ _ (by omega)) ?_
      refine zg1 ?_
      refine st_store rfl (.app (news := [ratL ((chR (p.length - 1)).getD k 0 * (dfk k p).getD 0 0)]) rfl rfl rfl rfl rfl (by simp) (.inl rfl) (by decide) Tryz.underlying25 Tryz.underlying25 Z33a T33 rfl B33 (.inl ⟨34, 0, _, rfl, by decide, rfl, rfl, by simp, rfl, by simp [pures, ratE.pure]⟩) (by simp; omega) (by simp; omega) (by decide)) ?_
      refine zg5 ?_
      refine wl_regW ((Weak.kill _ 34).trans (Weak.kill _ 6)) ?_
      refine zg7 ?_
      refine lp1 (fun (i : Nat) L => (((((((((St.mk L.slot (hp [(1000145, ⟨3, ((dfl (dfk k p)).take i ++ ((dfk k p).drop i ++ tl)).map ratL, true⟩), (35, ⟨3, (lo ++ [((chR (p.length - 1)).getD k 0 * (dfk k p).getD 0 0)]).map ratL, true⟩)])).put (some 0) (.list 3 (p.map ratL))).put (some 17) (.list 3 ((chR (p.length - 1)).map ratL))).put (some 18) (nI64 p.length)).put (some 19) (nI64 k)).put (some 3) (.ref 1000145 3 0 (p.length - k))).put (some 4) (.ref 35 3 0 (lo.length + 1))).put (some 38) (nI64 j)).put (some 39) (nI64 i))) (fun i => i ≤ j) (fun i => j - i) 0 (Nat.zero_le _) ?_
      rintro i L2 hi
      refine zg6 ?_
      refine wl_if rfl (fun h40r h40 => ?_) (fun h40r h40 => ?_)
      · have hij : i < j := by omega
        have ei1 : ((i : Int) + 1).toNat = i + 1 := by omega
        obtain ⟨emg1, emg2⟩ := row_get (s := dfl (dfk k p)) (q := dfk k p) (tl := tl) (i := i) (by omega) (by omega)
        have ems := row_set (s := dfl (dfk k p)) (q := dfk k p) (tl := tl) (i := i) (by omega) (by omega) (dfl_get (dfk k p) i (by omega)).symm
        have hr1 := sz_rl (hsz _ (getD_mem (i := i) (by omega)))
        have hr2 := sz_rl (hsz _ (getD_mem (i := i + 1) (by omega)))
        have hml := row_len (s := dfl (dfk k p)) (q := dfk k p) (tl := tl) (i := i) (by omega) (by omega)
        refine zg10 ?_
        refine wl_regD 13 (by decide +kernel) ?_
        refine zg7 ?_
        simp only [ei1, dfq, Nat.zero_add, emg2]
        refine zg4 ?_
        simp only [t1, dfq, Nat.zero_add, emg1]
        refine cp am2 (c_RSub ((dfk k p).getD (i + 1) 0) ((dfk k p).getD i 0) (by omega)) ?_
        refine zg10 ?_
        exact nx1 (i + 1) (by omega)
      · obtain rfl : j = i := by omega
        have eme := row_end (s := dfl (dfk k p)) (q := dfk k p) (tl := tl) (k := j) (by omega) (by omega)
        refine zg9 ?_
        refine st_pure rfl (.bin rfl rfl (sub1N (by omega) (by omega))) ?_
        refine st_pure rfl (.sliceRh rfl Tryz.underlying38 T33 rfl om om) ?_
        refine zg9 ?_
        exact nx3 (k + 1) ((dfk k p).getD j 0 :: tl) (lo ++ [((chR (p.length - 1)).getD k 0 * (dfk k p).getD 0 0)]) ⟨by omega, by simp [htl], by rw [hlo, ets], by simp [htk], by rw [show p.length - (k + 1) = j by omega]; exact dfl_sz hsz⟩
  · obtain rfl : k = p.length := by omega
    rw [List.take_of_length_le (by omega)] at hlo
    refine zg12 ?_
    rw [← hlo]
    exact ret1f [35] rfl rfl (imm_refm ratE rfl rfl rfl)
end Go.Proofs.YthhdcfhaldcheaaGreat
