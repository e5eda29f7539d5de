/- Powers and the least degree, in the program and in the document. -/
import Derived.Test.YthhdcfhaldcheaaGreatG4
import Derived.Test.YthhdcfhaldcheaaGreatV2
set_option linter.unusedVariables false
set_option linter.unusedSimpArgs false
set_option maxHeartbeats 8000000
set_option maxRecDepth 100000
attribute [local irreducible] Go.Lg.opsL Go.Lg.wpL Go.Lg.thenL Go.Lg.blockL
namespace Go.Proofs.YthhdcfhaldcheaaGreat
open Go.Lg
theorem dfk_szB {p : List Rat} {M n : Nat} (hs : ∀ x ∈ p, (rl x + 1) * 2 ^ n ≤ M) : ∀ k, k ≤ n → ∀ x ∈ dfk k p, (rl x + 1) * 2 ^ (n - k) ≤ M
  | 0, _ => hs
  | k + 1, hk => by
    have ih := dfk_szB hs k (by omega)
    rw [show n - k = n - (k + 1) + 1 by omega] at ih
    exact dfl_sz ih
theorem top_rlB {p : List Rat} {M : Nat} (hM : 1 ≤ M) (hl : p.length ≤ 41) (hs : ∀ x ∈ p, (rl x + 1) * 2 ^ p.length ≤ M) : ∀ x ∈ topP p, rl x ≤ M + 2 := fun x hx => by
  obtain ⟨k, hk, rfl⟩ := List.mem_map.1 hx
  rw [List.mem_range] at hk
  have h1 := fun x hx => sz_rl (dfk_szB hs k (by omega) x hx)
  have h2 := getD_rl (S := M) hM (fun x hx => by have := h1 x hx; omega) (o := dfk k p) 0
  have h3 := chR_rl (n := p.length - 1) (by omega) _ (getD_mem (i := k) (by rw [chR_len]; omega))
  have h4 := rl_mul ((chR (p.length - 1)).getD k 0) ((dfk k p).getD 0 0)
  show rl ((chR (p.length - 1)).getD k 0 * (dfk k p).getD 0 0) ≤ _
  omega
/-! ### leading zeros -/
def zN : Nat → List Rat → Nat
  | 0, _ => 0
  | n + 1, c => if sgnR (c.getD n 0) = 0 then zN n c else n + 1
theorem zN_le : ∀ (n : Nat) (c : List Rat), zN n c ≤ n
  | 0, _ => Nat.le_refl _
  | n + 1, c => by
    rw [zN]; split
    · exact Nat.le_succ_of_le (zN_le n c)
    · exact Nat.le_refl _
theorem zN_zero : ∀ (n : Nat) (c : List Rat), zN n c = 0 → ∀ i, i < n → sgnR (c.getD i 0) = 0
  | n + 1, c, h, i, hi => by
    rw [zN] at h
    split at h
    · rename_i h0
      rcases Nat.lt_or_ge i n with h1 | h1
      · exact zN_zero n c h i h1
      · rw [show i = n by omega]; exact h0
    · omega
def tr0 (c : List Rat) : List Rat := c.take (zN c.length c)
def tr1 (c : List Rat) : List Rat := c.take (max 1 (zN c.length c))
def trmP (p : List Rat) : List Rat := fpP (tr1 (topP p))
theorem tr0_end {c : List Rat} {n : Nat} (h : zN n c = zN c.length c) (h2 : zN n c = n) : tr0 c = c.take n := by rw [tr0, ← h, h2]
theorem take_get {c : List Rat} {j : Nat} : (c.take (j + 1)).getD j 0 = c.getD j 0 := by
  rw [List.getD_eq_getElem?_getD, List.getElem?_take_of_lt (by omega), ← List.getD_eq_getElem?_getD]
theorem take_tk {c : List Rat} {j : Nat} : (c.take (j + 1)).take j = c.take j := by rw [List.take_take, Nat.min_eq_left (by omega)]
theorem fp_one : fpP [0] = [0] := by decide +kernel
theorem tr_nil {c : List Rat} (h0 : 0 < c.length) (h : (tr0 c).length = 0) : fpP (tr1 c) = [0] := by
  have hz : zN c.length c = 0 := by
    have := zN_le c.length c
    rw [tr0, List.length_take] at h; omega
  have h1 := sgnR_z (zN_zero _ _ hz 0 h0)
  rw [tr1, hz]
  match c, h0, h1 with
  | a :: c, _, h1 =>
    have : a = 0 := h1
    subst this
    exact fp_one
theorem tr_cons {c : List Rat} (h : (tr0 c).length ≠ 0) : tr1 c = tr0 c := by
  have h1 : zN c.length c ≠ 0 := fun e => h (by rw [tr0, e]; rfl)
  rw [tr0, tr1, Nat.max_eq_right (by omega)]
namespace H_c_FTop
theorem zSm {p q : Prop} (k : q) (e : p = q := by simp only [e1, e2, e3, e4, p1, p2, p3, q1, q2, q3, l1, t0, t1, r1, r2, r3, r4, Nat.zero_add, Nat.reduceMul, Nat.reduceAdd, b1, b2, b3, b4, b5, b6, i1, i2, i3, i4, i5, i6, Nat.reduceBEq, frz_nil, dfq, List.length_append, ech, ek, eq0, emg1, emg2, ems, eme, ei1, take_map_len, map_snoc, len_snoc, List.length_cons, List.length_nil, List.nil_append, List.map_nil, List.take_nil, List.append_nil, kills_map ratE, ratL_kill, spL_kill, LV.kill, kills]; exact rfl) : p := e.mpr k
end H_c_FTop
open H_c_FTop in
theorem c_FTop (p : List Rat) (hp0 : 0 < p.length) (hl : p.length ≤ 25) (hs : ∀ x ∈ p, (rl x + 1) * 2 ^ p.length ≤ 1073741824) : CallP Tryz.prog 64 [.list 3 (p.map ratL)] (.list 3 ((topP p).map ratL)) := by
  have htl0 := topP_len p
  refine fnP Tryz.func64 ?_
  have ech : True := trivial
  have ek : True := trivial
  have eq0 : True := trivial
  have emg1 : True := trivial
  have emg2 : True := trivial
  have ems : True := trivial
  have eme : True := trivial
  have ei1 : True := trivial
  refine zg9 ?_
  refine st_pure rfl (.bin rfl rfl (sub1N (by omega) (by omega))) ?_
  refine zg7 ?_
  refine st_store rfl (.app (news := p.map ratL) rfl rfl rfl rfl rfl (Nat.zero_le _) (.inr rfl) (by decide) Tryz.underlying25 Tryz.underlying38 Z33a T33 rfl B33 (.inr (.inl rfl)) (by simp; omega) (by simp; omega) (by decide)) ?_
  refine zg15 ?_
  refine wl_weak (Weak.own (t := 5) 28 3 rfl rfl) ?_
  refine lp3 (fun (k : Nat) (tl lo : List Rat) L => ((((((St.mk L.slot (hp [(13, ⟨3, (dfk k p ++ tl).map ratL, true⟩), (28, ⟨3, lo.map ratL, true⟩)])).put (some 0) (.list 3 (p.map ratL))).put (some 3) (nI64 (p.length - 1))).put (some 6) (nI64 k)).put (some 4) (.ref 13 3 0 (p.length - k))).put (some 5) (.ref 28 3 0 lo.length))) (fun k tl lo => k ≤ p.length ∧ tl.length = k ∧ lo = (topP p).take k ∧ lo.length = k ∧ ∀ x ∈ dfk k p, (rl x + 1) * 2 ^ (p.length - k) ≤ 1073741824) (fun k tl lo => p.length - k) 0 ([]) ([]) ⟨Nat.zero_le _, rfl, rfl, rfl, hs⟩ (h0 := ⟨_, Weak.of_eq (put_id' (put_id' (put_id' (put_id' (put_id' (mk_id' (by rw [show dfk 0 p = p from rfl]; exact cl)) cl) cl) cl) cl) cl)⟩) ?_
  rintro k tl lo L1 ⟨hk, htl, hlo, htk, hsz⟩
  refine zg8 ?_
  refine wl_if rfl (fun h16r h16 => ?_) (fun h16r h16 => ?_)
  · have hkn : k < p.length := by omega
    have hdl := dfk_len p k
    obtain ⟨j, hj⟩ : ∃ j, p.length - k = j + 1 := ⟨p.length - k - 1, by omega⟩
    rw [hj] at hsz
    have ek : (((p.length - k : Nat) : Int) - 1) = (j : Int) := by omega
    have hds := dfl_len (dfk k p)
    have eq0 : (dfk k p ++ tl).getD 0 0 = (dfk k p).getD 0 0 := getD_app1 _ _ _ (by omega)
    have hq0 := sz_rl (hsz _ (getD_mem (i := 0) (by omega)))
    have hc0 := chsQ_rl (n := p.length - 1) k (by omega)
    have ech : (((chs (p.length - 1) k : Nat) : Int) : Rat) = (chR (p.length - 1)).getD k 0 := (chR_get (by omega)).symm
    have ets := top_step (tl := tl) hkn
    have hdtl : (dfk k p ++ tl).length = p.length := by rw [List.length_append]; omega
    refine zg5 ?_
    refine wl_regD 9 (by decide +kernel) ?_
    refine zg3 ?_
    refine cp am2 (c_FChoose (p.length - 1) k (by omega) (by omega)) ?_
    refine zg3 ?_
    simp only [tz0, dfq, Nat.zero_add, eq0]
    refine cp am2 (c_FRMul (((chs (p.length - 1) k : Nat) : Int) : Rat) ((dfk k p).getD 0 0) (by omega)) ?_
    refine zg1 ?_
    refine st_store rfl (.app (news := [ratL ((((chs (p.length - 1) k : Nat) : Int) : Rat) * (dfk k p).getD 0 0)]) rfl rfl rfl rfl rfl (by simp) (.inl rfl) (by decide) Tryz.underlying25 Tryz.underlying25 Z33a T33 rfl B33 (.inl ⟨27, 0, _, rfl, by decide, rfl, rfl, by simp, rfl, by simp [pures, ratE.pure]⟩) (by simp; omega) (by simp; omega) (by decide)) ?_
    refine zg5 ?_
    refine wl_regW (Weak.kill _ 27) ?_
    refine zg4 ?_
    refine lp1 (fun (i : Nat) L => (((((((St.mk L.slot (hp [(13, ⟨3, ((dfl (dfk k p)).take i ++ ((dfk k p).drop i ++ tl)).map ratL, true⟩), (28, ⟨3, (lo ++ [((chR (p.length - 1)).getD k 0 * (dfk k p).getD 0 0)]).map ratL, true⟩)])).put (some 0) (.list 3 (p.map ratL))).put (some 3) (nI64 (p.length - 1))).put (some 6) (nI64 k)).put (some 4) (.ref 13 3 0 (p.length - k))).put (some 5) (.ref 28 3 0 (lo.length + 1))).put (some 7) (nI64 i))) (fun i => i ≤ j) (fun i => j - i) 0 (Nat.zero_le _) ?_
    rintro i L2 hi
    refine zg10 ?_
    refine wl_if rfl (fun h33r h33 => ?_) (fun h33r h33 => ?_)
    · have hij : i < j := by omega
      have ei1 : ((i : Int) + 1).toNat = i + 1 := by omega
      obtain ⟨emg1, emg2⟩ := row_get (s := dfl (dfk k p)) (q := dfk k p) (tl := tl) (i := i) (by omega) (by omega)
      have ems := row_set (s := dfl (dfk k p)) (q := dfk k p) (tl := tl) (i := i) (by omega) (by omega) (dfl_get (dfk k p) i (by omega)).symm
      have hr1 := sz_rl (hsz _ (getD_mem (i := i) (by omega)))
      have hr2 := sz_rl (hsz _ (getD_mem (i := i + 1) (by omega)))
      have hml := row_len (s := dfl (dfk k p)) (q := dfk k p) (tl := tl) (i := i) (by omega) (by omega)
      refine zg4 ?_
      refine wl_regD 13 (by decide +kernel) ?_
      refine zg7 ?_
      simp only [ei1, dfq, Nat.zero_add, emg2]
      refine zg4 ?_
      simp only [t1, dfq, Nat.zero_add, emg1]
      refine cp am2 (c_FRSub ((dfk k p).getD (i + 1) 0) ((dfk k p).getD i 0) (by omega)) ?_
      refine zg7 ?_
      refine st_pure rfl (.bin rfl rfl (add1N (by omega))) ?_
      refine zg3 ?_
      exact nx1 (i + 1) (by omega)
    · obtain rfl : j = i := by omega
      have eme := row_end (s := dfl (dfk k p)) (q := dfk k p) (tl := tl) (k := j) (by omega) (by omega)
      refine zg9 ?_
      refine st_pure rfl (.bin rfl rfl (sub1N (by omega) (by omega))) ?_
      refine st_pure rfl (.sliceRh rfl Tryz.underlying25 T33 rfl om om) ?_
      refine zg6 ?_
      refine st_pure rfl (.bin rfl rfl (add1N (by omega))) ?_
      refine zg3 ?_
      exact nx3 (k + 1) ((dfk k p).getD j 0 :: tl) (lo ++ [((chR (p.length - 1)).getD k 0 * (dfk k p).getD 0 0)]) ⟨by omega, by simp [htl], by rw [hlo, ets], by simp [htk], by rw [show p.length - (k + 1) = j by omega]; exact dfl_sz hsz⟩
  · obtain rfl : k = p.length := by omega
    rw [List.take_of_length_le (by omega)] at hlo
    refine zg12 ?_
    rw [← hlo]
    exact ret1f [28] rfl rfl (imm_refm ratE rfl rfl rfl)
namespace H_c_FPowers
theorem zSm {p q : Prop} (k : q) (e : p = q := by simp only [e1, e2, e3, e4, p1, p2, p3, q1, q2, q3, l1, t0, t1, r1, r2, r3, r4, Nat.zero_add, Nat.reduceMul, Nat.reduceAdd, b1, b2, b3, b4, b5, b6, i1, i2, i3, i4, i5, i6, Nat.reduceBEq, dfq, t1, eln, etg, ett, Nat.add_sub_cancel, kills_map ratE, ratL_kill, spL_kill, LV.kill, kills]; exact rfl) : p := e.mpr k
end H_c_FPowers
open H_c_FPowers in
theorem c_FPowers (p : List Rat) (hp0 : 0 < p.length) (hl : p.length ≤ 25) (hs : ∀ x ∈ p, (rl x + 1) * 2 ^ p.length ≤ 1048576) : CallP Tryz.prog 135 [.list 3 (p.map ratL)] (.list 3 ((tr0 (topP p)).map ratL)) := by
  have htl := topP_len p
  have htr := top_rlB (by decide) (by omega) hs
  have hs2 : ∀ x ∈ p, (rl x + 1) * 2 ^ p.length ≤ 1073741824 := fun x hx => Nat.le_trans (hs x hx) (by decide)
  refine fnP Tryz.func135 ?_
  have eln : True := trivial
  have etg : True := trivial
  have ett : True := trivial
  refine zg8 ?_
  refine cp am1 (c_FTop p hp0 hl hs2) ?_
  refine zg5 ?_
  refine lp1 (fun (n : Nat) L => ((St.mk L.slot (hp [])).put (some 3) (.list 3 (((topP p).take n).map ratL)))) (fun n => n ≤ (topP p).length ∧ zN n (topP p) = zN (topP p).length (topP p)) (fun n => n) ((topP p).length) ⟨Nat.le_refl _, rfl⟩ (h0 := ⟨_, Weak.of_eq (put_id' (mk_id' cl) (by rw [List.take_length]; exact cl))⟩) ?_
  rintro n L1 ⟨hn, hz⟩
  refine zg7 ?_
  refine op_if 9 rfl (fun h9r h9 => ?_) (fun h9r h9 => ?_)
  · have hlt := List.length_take_of_le hn
    obtain ⟨j, rfl⟩ : ∃ j, n = j + 1 := ⟨n - 1, by omega⟩
    have eln : ((topP p).take (j + 1)).length = j + 1 := by rw [List.length_take]; omega
    have hln := eln
    have etg : ((topP p).take (j + 1)).getD j 0 = (topP p).getD j 0 := take_get
    have ett : ((topP p).take (j + 1)).take j = (topP p).take j := take_tk
    refine zg3 ?_
    refine st_pure (guardX (v := true) rfl rfl (h9r) rfl) (.bin rfl rfl (sub1N (by omega) (by omega))) ?_
    refine zg2 ?_
    refine cp am1 (c_FSign _) ?_
    refine zg4 ?_
    refine wl_if rfl (fun h18r h18 => ?_) (fun h18r h18 => ?_)
    · refine zg7 ?_
      refine st_pure rfl (.bin rfl rfl (sub1N (by omega) (by omega))) ?_
      refine st_pure rfl (by first | exact .sliceLh (h := _) ratE rfl Tryz.underlying25 T33 rfl om | exact .sliceRh rfl Tryz.underlying25 T33 rfl om om) ?_
      refine zg4 ?_
      exact nx1 j ⟨by omega, by rw [← hz, zN, if_pos h18]⟩
    · have hE := tr0_end hz (by rw [zN, if_neg h18])
      refine zg12 ?_
      rw [hE]
      exact ret1 rfl (by first | exact .pure rfl | exact .pure (limL_pure _) | exact .pure (magL_pure _) | exact .pure (ratE.pure _) | exact .pure (pure_lst u32E _ _) | exact .pure (pure_lst ratE _ _))
  · have hlt := List.length_take_of_le hn
    obtain rfl : n = 0 := by omega
    have hE := tr0_end hz rfl
    refine zg24 ?_
    rw [hE]
    exact ret1 rfl (by first | exact .pure rfl | exact .pure (limL_pure _) | exact .pure (magL_pure _) | exact .pure (ratE.pure _) | exact .pure (pure_lst u32E _ _) | exact .pure (pure_lst ratE _ _))
namespace H_c_BTrim
theorem zSm {p q : Prop} (k : q) (e : p = q := by simp only [e1, e2, e3, e4, p1, p2, p3, q1, q2, q3, l1, t0, t1, r1, r2, r3, r4, Nat.zero_add, Nat.reduceMul, Nat.reduceAdd, b1, b2, b3, b4, b5, b6, i1, i2, i3, i4, i5, i6, Nat.reduceBEq, dfq, t1, eln, etg, ett, Nat.add_sub_cancel, kills_map ratE, ratL_kill, spL_kill, LV.kill, kills]; exact rfl) : p := e.mpr k
end H_c_BTrim
open H_c_BTrim in
theorem c_BTrim (p : List Rat) (hp0 : 0 < p.length) (hl : p.length ≤ 25) (hs : ∀ x ∈ p, (rl x + 1) * 2 ^ p.length ≤ 1048576) : CallP Tryz.prog 65 [.list 3 (p.map ratL)] (.list 3 ((trmP p).map ratL)) := by
  have htl := topP_len p
  have htr := top_rlB (by decide) (by omega) hs
  have hs2 : ∀ x ∈ p, (rl x + 1) * 2 ^ p.length ≤ 1073741824 := fun x hx => Nat.le_trans (hs x hx) (by decide)
  refine fnP Tryz.func65 ?_
  have eln : True := trivial
  have etg : True := trivial
  have ett : True := trivial
  refine zg8 ?_
  refine cp am1 (c_Top p hp0 hl hs2) ?_
  refine zg5 ?_
  refine lp1 (fun (n : Nat) L => ((St.mk L.slot (hp [])).put (some 3) (.list 3 (((topP p).take n).map ratL)))) (fun n => 1 ≤ n ∧ n ≤ (topP p).length ∧ max 1 (zN n (topP p)) = max 1 (zN (topP p).length (topP p))) (fun n => n) ((topP p).length) ⟨by omega, Nat.le_refl _, rfl⟩ (h0 := ⟨_, Weak.of_eq (put_id' (mk_id' cl) (by rw [List.take_length]; exact cl))⟩) ?_
  rintro n L1 ⟨hn1, hn, hz⟩
  refine zg7 ?_
  refine op_if 11 rfl (fun h11r h11 => ?_) (fun h11r h11 => ?_)
  · have hlt := List.length_take_of_le hn
    obtain ⟨j, rfl⟩ : ∃ j, n = j + 1 := ⟨n - 1, by omega⟩
    have eln : ((topP p).take (j + 1)).length = j + 1 := by rw [List.length_take]; omega
    have hln := eln
    have etg : ((topP p).take (j + 1)).getD j 0 = (topP p).getD j 0 := take_get
    have ett : ((topP p).take (j + 1)).take j = (topP p).take j := take_tk
    refine zg3 ?_
    refine st_pure (guardX (v := true) rfl rfl (h11r) rfl) (.bin rfl rfl (sub1N (by omega) (by omega))) ?_
    refine zg2 ?_
    refine cp am1 (c_RSign _ (by simp only [t1, dfq, Nat.zero_add, eln, Nat.add_sub_cancel, etg]; have := getD_rl (S := 1048578) (by decide) htr j; omega)) ?_
    refine zg4 ?_
    refine wl_if rfl (fun h20r h20 => ?_) (fun h20r h20 => ?_)
    · refine zg7 ?_
      refine st_pure rfl (.bin rfl rfl (sub1N (by omega) (by omega))) ?_
      refine st_pure rfl (by first | exact .sliceLh (h := _) ratE rfl Tryz.underlying25 T33 rfl om | exact .sliceRh rfl Tryz.underlying25 T33 rfl om om) ?_
      refine zg4 ?_
      exact nx1 j ⟨by omega, by omega, by rw [← hz, zN, if_pos h20]⟩
    · have hE : tr1 (topP p) = (topP p).take (j + 1) := by rw [tr1, ← hz, zN, if_neg h20, Nat.max_eq_right (by omega)]
      refine zg8 ?_
      refine cp am1 (c_FP _ 1048578 (by rw [List.length_take]; omega) (by rw [List.length_take]; omega) (by decide) (fun x hx => htr x (List.mem_of_mem_take hx))) ?_
      refine zg14 ?_
      rw [trmP, hE]
      exact ret1 rfl (by first | exact .pure rfl | exact .pure (limL_pure _) | exact .pure (magL_pure _) | exact .pure (ratE.pure _) | exact .pure (pure_lst u32E _ _) | exact .pure (pure_lst ratE _ _))
  · have hlt := List.length_take_of_le hn
    obtain rfl : n = 1 := by omega
    have hE : tr1 (topP p) = (topP p).take 1 := by rw [tr1, ← hz, Nat.max_eq_left (zN_le 1 _)]
    refine zg20 ?_
    refine cp am1 (c_FP _ 1048578 (by rw [List.length_take]; omega) (by rw [List.length_take]; omega) (by decide) (fun x hx => htr x (List.mem_of_mem_take hx))) ?_
    refine zg14 ?_
    rw [trmP, hE]
    exact ret1 rfl (by first | exact .pure rfl | exact .pure (limL_pure _) | exact .pure (magL_pure _) | exact .pure (ratE.pure _) | exact .pure (pure_lst u32E _ _) | exact .pure (pure_lst ratE _ _))
namespace H_c_FTrim5
theorem zSm {p q : Prop} (k : q) (e : p = q := by simp only [e1, e2, e3, e4, p1, p2, p3, q1, q2, q3, l1, t0, t1, r1, r2, r3, r4, Nat.zero_add, Nat.reduceMul, Nat.reduceAdd, b1, b2, b3, b4, b5, b6, i1, i2, i3, i4, i5, i6, Nat.reduceBEq, dfq, kills_map ratE, ratL_kill, spL_kill, LV.kill, kills]; exact rfl) : p := e.mpr k
end H_c_FTrim5
open H_c_FTrim5 in
theorem c_FTrim5 (p : List Rat) (hp0 : 0 < p.length) (hl : p.length ≤ 25) (hs : ∀ x ∈ p, (rl x + 1) * 2 ^ p.length ≤ 1048576) : CallP Tryz.prog 66 [.list 3 (p.map ratL)] (.list 3 ((trmP p).map ratL)) := by
  have htl := topP_len p
  have htr := top_rlB (by decide) (by omega) hs
  have hs2 : ∀ x ∈ p, (rl x + 1) * 2 ^ p.length ≤ 1073741824 := fun x hx => Nat.le_trans (hs x hx) (by decide)
  have hz0 := zN_le (topP p).length (topP p)
  have htl0 : (tr0 (topP p)).length ≤ (topP p).length := by rw [tr0, List.length_take]; omega
  refine fnP Tryz.func66 ?_
  refine zg8 ?_
  refine cp am1 (c_FPowers p hp0 hl hs) ?_
  refine zg11 ?_
  refine wl_if rfl (fun h10r h10 => ?_) (fun h10r h10 => ?_)
  · have hE : fpP (tr1 (topP p)) = [0] := tr_nil (by omega) (by omega)
    refine zg2 ?_
    refine st_pure rfl (.build0 SL33 Z33a) ?_
    refine zg6 ?_
    rw [trmP, hE]
    exact ret1f [12] rfl rfl (imm_refm ratE rfl rfl rfl)
  · have hE : tr1 (topP p) = tr0 (topP p) := tr_cons (by omega)
    refine zg5 ?_
    refine cp am1 (c_FFP (tr0 (topP p)) 1048578 (by omega) (by omega) (by decide) (fun x hx => htr x (List.mem_of_mem_take hx))) ?_
    refine zg14 ?_
    rw [trmP, hE]
    exact ret1 rfl (by first | exact .pure rfl | exact .pure (limL_pure _) | exact .pure (magL_pure _) | exact .pure (ratE.pure _) | exact .pure (pure_lst u32E _ _) | exact .pure (pure_lst ratE _ _))
end Go.Proofs.YthhdcfhaldcheaaGreat
