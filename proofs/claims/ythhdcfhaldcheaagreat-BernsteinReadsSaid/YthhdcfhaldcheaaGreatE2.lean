/- Mirrored polynomials, parts; the document's values and parts. -/
import Derived.Test.YthhdcfhaldcheaaGreatE1
set_option linter.unusedVariables false
set_option linter.unusedSimpArgs false
set_option maxHeartbeats 8000000
set_option maxRecDepth 100000
attribute [local irreducible] Go.Lg.opsL Go.Lg.wpL Go.Lg.thenL Go.Lg.blockL
namespace Go.Proofs.YthhdcfhaldcheaaGreat
open Go.Lg
/-! ### lists that are filled from both sides -/
theorem set_zl {lo : List Rat} {m k : Nat} {v : Rat} (h : lo.length = k) : (lo ++ List.replicate (m + 1) 0).set k v = lo ++ [v] ++ List.replicate m 0 := by
  rw [List.replicate_succ, set_mid _ _ _ _ h.symm]; simp
theorem set_zr {tl : List Rat} {m : Nat} {v : Rat} : (List.replicate (m + 1) 0 ++ tl).set m v = List.replicate m 0 ++ v :: tl := by
  rw [List.replicate_succ', List.append_assoc]
  exact set_mid _ _ _ _ (by simp)
theorem set_rv {p : List Rat} {i : Nat} (h : i < p.length) : (List.replicate (p.length - i) 0 ++ (p.take i).reverse).set (p.length - (i + 1)) (p.getD i 0) = List.replicate (p.length - (i + 1)) 0 ++ (p.take (i + 1)).reverse := by
  rw [show p.length - i = p.length - (i + 1) + 1 by omega, set_zr, List.take_succ_eq_append_getElem h, List.reverse_append, List.reverse_singleton, List.singleton_append]
  rw [List.getD_eq_getElem?_getD, List.getElem?_eq_getElem h]; rfl
theorem sgnR_z {a : Rat} (h : sgnR a = 0) : a = 0 := by
  rcases sgn_cases a with ⟨g, e⟩ | ⟨_, e⟩ | ⟨_, e⟩
  · exact g
  · rw [e] at h; cases h
  · rw [e] at h; cases h
namespace H_c_Reverse
theorem zSm {p q : Prop} (k : q) (e : p = q := by simp only [e1, e2, e3, e4, p1, p2, p3, q1, q2, q3, l1, t0, t1, r1, r2, r3, r4, Nat.zero_add, Nat.reduceMul, Nat.reduceAdd, b1, b2, b3, b4, b5, b6, i1, i2, i3, i4, i5, i6, Nat.reduceBEq, dfq, ejm, List.length_set]; exact rfl) : p := e.mpr k
end H_c_Reverse
open H_c_Reverse in
theorem c_Reverse (p : List Rat) (n : Nat) (hpl : p.length = n) (hn0 : 0 < n) (hn : n ≤ 1048576) : CallOKM Tryz.prog 146 ⟨3, p.map ratL, true⟩ [.ref 0 3 0 n] (.tup []) ⟨3, p.reverse.map ratL, true⟩ := by
  refine fnM Tryz.func146 ?_
  have ejm : True := trivial
  refine zg4 ?_
  refine st_pure rfl (.bin rfl rfl (sub1N (by omega) (by omega))) ?_
  refine zg5 ?_
  refine lp3 (fun (i j : Nat) (o : List Rat) L => ((((St.mk L.slot (hp [(0, ⟨3, o.map ratL, true⟩)])).put (some 0) (.ref 0 3 0 n)).put (some 2) (nI64 i)).put (some 3) (nI64 j))) (fun i j o => j + i + 1 = n ∧ o.length = n ∧ ∀ x, x < n → o.getD x 0 = if x < i ∨ n ≤ x + i then p.getD (n - 1 - x) 0 else p.getD x 0) (fun i j o => j) 0 (n - 1) p ⟨by omega, hpl, fun x hx => by rw [if_neg (by omega)]⟩ ?_
  rintro i j o L1 ⟨hij, hol, hg⟩
  refine zg8 ?_
  refine wl_if rfl (fun h9r h9 => ?_) (fun h9r h9 => ?_)
  · have ejm : ((j : Int) - 1) = ((j - 1 : Nat) : Int) := by omega
    refine zg4 ?_
    refine wl_regF 13 [2, 3] (by decide +kernel) ?_
    refine zg28 ?_
    exact nx3 (i + 1) (j - 1) ((o.set i (o.getD j 0)).set j (o.getD i 0)) ⟨by omega, by simp [hol], rev_step hpl hol (by omega) hij hg⟩
  · refine zg4 ?_
    have hE := rev_end hpl hol (by omega) hg
    rw [← hE]
    exact retM0 rfl rfl (pures_map ratE _)
namespace H_c_Part
theorem zSm {p q : Prop} (k : q) (e : p = q := by simp only [e1, e2, e3, e4, p1, p2, p3, q1, q2, q3, l1, t0, t1, r1, r2, r3, r4, Nat.zero_add, Nat.reduceMul, Nat.reduceAdd, b1, b2, b3, b4, b5, b6, i1, i2, i3, i4, i5, i6, Nat.reduceBEq, dfq, r1r, kills_map ratE, ratL_kill, spL_kill, LV.kill, kills]; exact rfl) : p := e.mpr k
end H_c_Part
open H_c_Part in
theorem c_Part (p : List Rat) (a b : Rat) (hp0 : 0 < p.length) (hl : p.length ≤ 1048576) (hpr : ∀ x ∈ p, rl x ≤ 274877906944) (hab : rl a + rl b ≤ 1073741824) (g1 : 1 - a ≠ 0 → HS p a ∧ HS (hiP p a) ((b - a) / (1 - a))) (g2 : 1 - a = 0 → b ≠ 0 → HS p b ∧ HS (loP p b) (1 / b)) : CallP Tryz.prog 98 [.list 3 (p.map ratL), ratL a, ratL b] (.list 3 ((partB p a b).map ratL)) := by
  have hr1 := rl_sub 1 a
  have hr2 := rl_sub b a
  have hrr : rl 1 = 1 := rfl
  refine fnP Tryz.func98 ?_
  refine zg9 ?_
  refine cp am1 (c_RInt 1 (by decide) (by decide)) ?_
  refine zg9 ?_
  refine cp am2 (c_RSub 1 a (by omega)) ?_
  refine zg7 ?_
  refine cp am1 (c_RSign (1 - a) (by omega)) ?_
  refine zg3 ?_
  refine wl_if rfl (fun h24r h24 => ?_) (fun h24r h24 => ?_)
  · have hne : 1 - a ≠ 0 := sgnR_ne h24
    obtain ⟨gA, gB⟩ := g1 hne
    have hE : partB p a b = loP (hiP p a) ((b - a) / (1 - a)) := by rw [partB, if_pos hne]
    refine zg4 ?_
    refine cp am2 (c_halvesH p a gA) ?_
    refine zg8 ?_
    refine wl_regD 12 (by decide +kernel) ?_
    refine zg3 ?_
    refine cp am2 (c_RSub b a (by omega)) ?_
    refine zg1 ?_
    refine cp am2 (c_quo (b - a) (1 - a) (by omega)) ?_
    refine cp am2 (c_halvesH (hiP p a) ((b - a) / (1 - a)) gB) ?_
    refine zg15 ?_
    rw [hE]
    exact ret1 rfl (by first | exact .pure rfl | exact .pure (limL_pure _) | exact .pure (magL_pure _) | exact .pure (ratE.pure _) | exact .pure (pure_lst u32E _ _) | exact .pure (pure_lst ratE _ _))
  · have hne : 1 - a = 0 := sgnR_z (by omega)
    refine zg6 ?_
    refine cp am1 (c_RSign b (by omega)) ?_
    refine zg3 ?_
    refine wl_if rfl (fun h44r h44 => ?_) (fun h44r h44 => ?_)
    · have hnb : b ≠ 0 := sgnR_ne h44
      obtain ⟨gA, gB⟩ := g2 hne hnb
      have hE : partB p a b = hiP (loP p b) (1 / b) := by rw [partB, if_neg (by rw [hne]; simp), if_pos hnb]
      refine zg4 ?_
      refine cp am2 (c_halvesH p b gA) ?_
      refine zg12 ?_
      refine cp am2 (c_quo 1 b (by omega)) ?_
      refine cp am2 (c_halvesH (loP p b) (1 / b) gB) ?_
      refine zg15 ?_
      rw [hE]
      exact ret1 rfl (by first | exact .pure rfl | exact .pure (limL_pure _) | exact .pure (magL_pure _) | exact .pure (ratE.pure _) | exact .pure (pure_lst u32E _ _) | exact .pure (pure_lst ratE _ _))
    · have hnb : b = 0 := sgnR_z (by omega)
      have hE : partB p a b = p.reverse := by rw [partB, if_neg (by rw [hne]; simp), if_neg (by rw [hnb]; simp)]
      refine zg5 ?_
      refine st_call1 [] rfl rfl (.cons (.pure (pure_lst ratE _ _)) .nil) (c_copiedO p hl hpr) (pures_map ratE _) rfl ?_
      refine zg6 ?_
      refine st_callM 1000977 rfl rfl rfl (pures_map ratE _) (.cons .ref .nil) (.ref hp0) (c_Reverse p p.length rfl hp0 hl) rfl (pures_map ratE _) ?_
      refine zg9 ?_
      rw [hE]
      exact ret1f [1000977] rfl rfl (imm_refm ratE rfl rfl (by simp))
namespace H_c_FSameL
theorem zSm {p q : Prop} (k : q) (e : p = q := by simp only [e1, e2, e3, e4, p1, p2, p3, q1, q2, q3, l1, t0, t1, r1, r2, r3, r4, Nat.zero_add, Nat.reduceMul, Nat.reduceAdd, b1, b2, b3, b4, b5, b6, i1, i2, i3, i4, i5, i6, Nat.reduceBEq, dfq, kills_map ratE, ratL_kill, spL_kill, LV.kill, kills]; exact rfl) : p := e.mpr k
end H_c_FSameL
open H_c_FSameL in
theorem c_FSameL (p q : List Rat) (hl : p.length ≤ 1048576) (hl2 : q.length ≤ 1048576) (hpr : ∀ x ∈ p, rl x ≤ 137438953472) (hqr : ∀ x ∈ q, rl x ≤ 137438953472) : CallP Tryz.prog 17 [.list 3 (p.map ratL), .list 3 (q.map ratL)] (bL (decide (p = q))) := by
  refine fnP Tryz.func17 ?_
  refine zg15 ?_
  refine wl_if rfl (fun h10r h10 => ?_) (fun h10r h10 => ?_)
  · have hne : p ≠ q := fun e => by rw [e] at h10; exact h10 rfl
    refine zg7 ?_
    rw [decide_eq_false hne]
    exact ret1 rfl (by first | exact .pure rfl | exact .pure (limL_pure _) | exact .pure (magL_pure _) | exact .pure (ratE.pure _) | exact .pure (pure_lst u32E _ _) | exact .pure (pure_lst ratE _ _))
  · have hle : p.length = q.length := by omega
    refine zg9 ?_
    refine lp1 (fun (k : Nat) L => ((((St.mk L.slot (hp [])).put (some 0) (.list 3 (p.map ratL))).put (some 1) (.list 3 (q.map ratL))).put (some 5) (nI64 k))) (fun k => k ≤ p.length ∧ ∀ i, i < k → p.getD i 0 = q.getD i 0) (fun k => p.length - k) 0 ⟨Nat.zero_le _, fun i h => absurd h (Nat.not_lt_zero i)⟩ ?_
    rintro k L1 ⟨hk, hg⟩
    refine zg9 ?_
    refine wl_if rfl (fun h14r h14 => ?_) (fun h14r h14 => ?_)
    · have hk2 : k < p.length := by omega
      have hr1 := hpr _ (getD_mem (i := k) hk2)
      have hr2 := hqr _ (getD_mem (i := k) (by omega))
      refine zg5 ?_
      refine wl_regD 10 (by decide +kernel) ?_
      refine zg8 ?_
      refine cp am2 (c_FSame (p.getD k 0) (q.getD k 0) (by omega)) ?_
      refine zg3 ?_
      refine wl_if rfl (fun h26r h26 => ?_) (fun h26r h26 => ?_)
      · have hne : p ≠ q := fun e => by rw [e] at h26; exact h26 rfl
        refine zg11 ?_
        rw [decide_eq_false hne]
        exact ret1 rfl (by first | exact .pure rfl | exact .pure (limL_pure _) | exact .pure (magL_pure _) | exact .pure (ratE.pure _) | exact .pure (pure_lst u32E _ _) | exact .pure (pure_lst ratE _ _))
      · have heq : p.getD k 0 = q.getD k 0 := h26
        refine zg9 ?_
        exact nx1 (k + 1) ⟨by omega, fun i hi => by rcases Nat.lt_or_ge i k with h | h; exact hg i h; rw [show i = k by omega]; exact heq⟩
    · obtain rfl : k = p.length := by omega
      have hE : p = q := ext0 hle hg
      refine zg11 ?_
      rw [decide_eq_true hE]
      exact ret1 rfl (by first | exact .pure rfl | exact .pure (limL_pure _) | exact .pure (magL_pure _) | exact .pure (ratE.pure _) | exact .pure (pure_lst u32E _ _) | exact .pure (pure_lst ratE _ _))
open H0 in
theorem c_FBetw (a b t : Rat) (h : rl a + rl b + rl t ≤ 8589934592) : CallP Tryz.prog 150 [ratL a, ratL b, ratL t] (ratL ((1 - t) * a + t * b)) := by
  have h1 := rl_sub b a
  have h2 := rl_mul (b - a) t
  have hE : (1 - t) * a + t * b = a + (b - a) * t := by grind
  refine fnP Tryz.func150 ?_
  refine zg9 ?_
  refine wl_regD 7 (by decide +kernel) ?_
  refine zg3 ?_
  refine cp am2 (c_FRSub b a (by omega)) ?_
  refine zg1 ?_
  refine cp am2 (c_FRMul (b - a) t (by omega)) ?_
  refine cp am2 (c_FRAdd a ((b - a) * t) (by omega)) ?_
  refine zg4 ?_
  rw [hE]
  exact retC [] rfl rfl rfl (ratE.csize _) (ratL_all _) T33 (.pure (ratE.pure _))
namespace H_c_FSplit
theorem zSm {p q : Prop} (k : q) (e : p = q := by simp only [e1, e2, e3, e4, p1, p2, p3, q1, q2, q3, l1, t0, t1, r1, r2, r3, r4, Nat.zero_add, Nat.reduceMul, Nat.reduceAdd, b1, b2, b3, b4, b5, b6, i1, i2, i3, i4, i5, i6, Nat.reduceBEq, frz_nil, dfq, eq0, eqm, esa, esb, ekm, ekn, emg1, emg2, ems, eme, ei1, take_map_len, map_snoc, len_snoc, List.length_cons, List.length_nil, List.nil_append, List.map_nil, List.take_nil, List.append_nil, kills_map ratE, ratL_kill, LV.kill, kills]; exact rfl) : p := e.mpr k
end H_c_FSplit
open H_c_FSplit in
theorem c_FSplit (p : List Rat) (t : Rat) (h : HS p t) : CallP Tryz.prog 125 [.list 3 (p.map ratL), ratL t] (.tup [.list 3 ((loP p t).map ratL), .list 3 ((hiP p t).map ratL)]) := by
  have hlen := h.len
  obtain ⟨cc, hC, hcc, hs⟩ := h
  have hpr : ∀ x ∈ p, rl x ≤ 1073741824 := fun x hx => by have := sz_rl (hs x hx); omega
  refine fnP Tryz.func125 ?_
  have eq0 : True := trivial
  have eqm : True := trivial
  have esa : True := trivial
  have esb : True := trivial
  have ekm : True := trivial
  have ekn : True := trivial
  have emg1 : True := trivial
  have emg2 : True := trivial
  have ems : True := trivial
  have eme : True := trivial
  have ei1 : True := trivial
  refine zg15 ?_
  refine wl_regD 6 (by decide +kernel) ?_
  refine zg1 ?_
  refine st_alloc rfl rfl (.mkE (n := p.length) (m := p.length) ml ml om om om) ?_
  refine zg1 ?_
  refine st_alloc rfl rfl (.mkE (n := p.length) (m := p.length) ml ml om om om) ?_
  refine zg8 ?_
  refine st_store rfl (.app (news := p.map ratL) rfl rfl rfl rfl rfl (Nat.zero_le _) (.inr rfl) (by decide) Tryz.underlying38 Tryz.underlying38 Z33a T33 rfl B33 (.inr (.inl rfl)) (by simp; omega) (by simp; omega) (by decide)) ?_
  refine zg10 ?_
  refine lp4 (fun (k : Nat) (q tl lo : List Rat) L => (((((((St.mk L.slot (hp [(3, ⟨3, [ratL t], true⟩), (15, ⟨3, (lo ++ List.replicate q.length 0).map ratL, true⟩), (17, ⟨3, (List.replicate q.length 0 ++ tl).map ratL, true⟩), (20, ⟨3, (q ++ tl).map ratL, true⟩)])).put (some 3) (.eptr 3 3 0 0)).put (some 6) (nI64 p.length)).put (some 7) (.ref 15 3 0 p.length)).put (some 8) (.ref 17 3 0 p.length)).put (some 9) (.ref 20 3 0 p.length)).put (some 10) (nI64 k))) (fun k q tl lo => q.length + k = p.length ∧ tl.length = k ∧ lo.length = k ∧ lo ++ loF t q.length q = loP p t ∧ hiF t q.length q tl = hiP p t ∧ ∀ x ∈ q, (rl x + cc) * 2 ^ q.length ≤ 1073741824) (fun k q tl lo => q.length) 0 p ([]) ([]) ⟨rfl, rfl, rfl, rfl, rfl, hs⟩ ?_
  rintro k q tl lo L1 ⟨hq, htl, hlo, hL, hH, hsz⟩
  refine zg8 ?_
  refine wl_if rfl (fun h23r h23 => ?_) (fun h23r h23 => ?_)
  · obtain ⟨m, hm⟩ : ∃ m, q.length = m + 1 := ⟨q.length - 1, by omega⟩
    rw [hm] at hL hH hsz
    have hl1 : (q ++ tl).length = p.length := by rw [List.length_append]; omega
    have hl2 : (lo ++ List.replicate q.length (0 : Rat)).length = p.length := by rw [List.length_append, List.length_replicate]; omega
    have hl3 : (List.replicate q.length (0 : Rat) ++ tl).length = p.length := by rw [List.length_append, List.length_replicate]; omega
    have eq0 : (q ++ tl).getD 0 0 = q.getD 0 0 := getD_app1 _ _ _ (by omega)
    have eqm : (q ++ tl).getD m 0 = q.getD m 0 := getD_app1 _ _ _ (by omega)
    have ekm : ((p.length : Int) - 1 - (k : Int)).toNat = m := by omega
    have esa := set_zl (lo := lo) (m := m) (v := q.getD 0 0) hlo
    have esb := set_zr (tl := tl) (m := m) (v := q.getD m 0)
    rw [← hm] at esa esb
    refine zg5 ?_
    refine wl_regF 18 [2, 3, 4, 5, 6] (by decide +kernel) ?_
    refine zg10 ?_
    simp only [tz0, dfq, Nat.zero_add, eq0]
    refine zg7 ?_
    simp only [ekm, dfq, Nat.zero_add, eqm]
    refine zg12 ?_
    refine lp1 (fun (i : Nat) L => ((((((((St.mk L.slot (hp [(3, ⟨3, [ratL t], true⟩), (15, ⟨3, (lo ++ [q.getD 0 0] ++ List.replicate m 0).map ratL, true⟩), (17, ⟨3, (List.replicate m 0 ++ q.getD m 0 :: tl).map ratL, true⟩), (20, ⟨3, ((stp t q).take i ++ (q.drop i ++ tl)).map ratL, true⟩)])).put (some 3) (.eptr 3 3 0 0)).put (some 6) (nI64 p.length)).put (some 7) (.ref 15 3 0 p.length)).put (some 8) (.ref 17 3 0 p.length)).put (some 9) (.ref 20 3 0 p.length)).put (some 10) (nI64 k)).put (some 11) (nI64 i))) (fun i => i ≤ m) (fun i => m - i) 0 (Nat.zero_le _) ?_
    rintro i L2 hi
    refine zg11 ?_
    refine wl_if rfl (fun h50r h50 => ?_) (fun h50r h50 => ?_)
    · have hij : i < m := by omega
      have ei1 : ((i : Int) + 1).toNat = i + 1 := by omega
      obtain ⟨emg1, emg2⟩ := mid_get (t := t) (q := q) (tl := tl) (i := i) (by omega)
      have ems := mid_set (t := t) (q := q) (tl := tl) (i := i) (by omega)
      have hr1 := sz_rl (hsz _ (getD_mem (i := i) (by omega)))
      have hr2 := sz_rl (hsz _ (getD_mem (i := i + 1) (by omega)))
      have hml := mid_len (t := t) (q := q) (tl := tl) (i := i) (by omega)
      refine zg4 ?_
      refine wl_regD 14 (by decide +kernel) ?_
      refine zg6 ?_
      simp only [t1, dfq, Nat.zero_add, emg1]
      refine zg5 ?_
      simp only [ei1, dfq, Nat.zero_add, emg2]
      refine zg1 ?_
      refine cp am3 (c_FBetw (q.getD i 0) (q.getD (i + 1) 0) t (by omega)) ?_
      refine zg11 ?_
      exact nx1 (i + 1) (by omega)
    · obtain rfl : m = i := by omega
      have eme := mid_end (t := t) (tl := tl) hm
      have ekn : (stp t q).length = m := by rw [stp_len]; omega
      refine zg12 ?_
      exact nx4 (k + 1) (stp t q) (q.getD m 0 :: tl) (lo ++ [q.getD 0 0]) ⟨by rw [stp_len]; omega, by simp [htl], by simp [hlo], by rw [List.append_assoc, stp_len, hm]; exact hL, by rw [stp_len, hm]; exact hH, by rw [stp_len, hm]; exact stp_sz hC hsz⟩ (hm := by rw [stp_len]; omega)
  · obtain rfl : q = [] := List.eq_nil_of_length_eq_zero (by omega)
    rw [List.length_nil, loF, List.append_nil] at hL
    rw [List.length_nil, hiF, List.nil_append] at hH
    have hL2 : lo ++ List.replicate 0 0 = loP p t := by rw [← hL]; simp
    have hH2 : List.replicate 0 0 ++ tl = hiP p t := by rw [← hH]; simp
    refine zg14 ?_
    rw [← hL2, ← hH2]
    exact ret2f [15, 17] rfl rfl (imm_refm ratE rfl rfl (by simp; omega)) rfl (imm_refm ratE rfl rfl (by simp; omega))
namespace H_c_FEval
theorem zSm {p q : Prop} (k : q) (e : p = q := by simp only [e1, e2, e3, e4, p1, p2, p3, q1, q2, q3, l1, t0, t1, r1, r2, r3, r4, Nat.zero_add, Nat.reduceMul, Nat.reduceAdd, b1, b2, b3, b4, b5, b6, i1, i2, i3, i4, i5, i6, Nat.reduceBEq, dfq, hll]; exact rfl) : p := e.mpr k
end H_c_FEval
open H_c_FEval in
theorem c_FEval (p : List Rat) (t : Rat) (h : HS p t) (hp0 : 0 < p.length) : CallP Tryz.prog 50 [.list 3 (p.map ratL), ratL t] (ratL (evP p t)) := by
  have hll := loP_len p t
  have hlen := h.len
  refine fnP Tryz.func50 ?_
  refine zg10 ?_
  refine cp am2 (c_FSplit p t h) ?_
  refine zg12 ?_
  refine st_pure rfl (.bin rfl rfl (sub1N (by omega) (by omega))) ?_
  refine zg6 ?_
  exact retC [] rfl rfl rfl (ratE.csize _) (ratL_all _) T33 (.pure (ratE.pure _))
namespace H_c_mirror
theorem zSm {p q : Prop} (k : q) (e : p = q := by simp only [e1, e2, e3, e4, p1, p2, p3, q1, q2, q3, l1, t0, t1, r1, r2, r3, r4, Nat.zero_add, Nat.reduceMul, Nat.reduceAdd, b1, b2, b3, b4, b5, b6, i1, i2, i3, i4, i5, i6, Nat.reduceBEq, dfq, eix, ems, List.length_set, kills_map ratE, ratL_kill, spL_kill, LV.kill, kills]; exact rfl) : p := e.mpr k
theorem zSm1 {p q : Prop} (k : q) (e : p = q := by simp only [e1, e2, e3, e4, p1, p2, p3, q1, q2, q3, l1, t0, t1, r1, r2, r3, r4, Nat.zero_add, Nat.reduceMul, Nat.reduceAdd, b1, b2, b3, b4, b5, b6, i1, i2, i3, i4, i5, i6, Nat.reduceBEq, dfq, eix, ems, List.length_set, kills_map ratE, ratL_kill, spL_kill, LV.kill, kills, Nat.sub_zero, List.take_zero, List.reverse_nil, List.append_nil]; exact rfl) : p := e.mpr k
theorem cl1 {p : Prop} (h : p := by first | rfl | (refine zSm1 ?_; first | exact trivial | rfl | (congr 3 <;> omega) | (congr 2 <;> omega))) : p := h
end H_c_mirror
open H_c_mirror in
theorem c_mirror (p : List Rat) (hl : p.length ≤ 1048576) : CallP Tryz.prog 147 [.list 3 (p.map ratL)] (.list 3 (p.reverse.map ratL)) := by
  refine fnP Tryz.func147 ?_
  have eix : True := trivial
  have ems : True := trivial
  refine zg9 ?_
  refine st_alloc rfl rfl (.mkE (n := p.length) (m := p.length) ml ml om om om) ?_
  refine zg10 ?_
  refine lp1 (fun (i : Nat) L => ((((St.mk L.slot (hp [(7, ⟨3, (List.replicate (p.length - i) 0 ++ (p.take i).reverse).map ratL, true⟩)])).put (some 0) (.list 3 (p.map ratL))).put (some 3) (.ref 7 3 0 p.length)).put (some 4) (nI64 i))) (fun i => i ≤ p.length) (fun i => p.length - i) 0 (Nat.zero_le _) (h0 := ⟨_, Weak.of_eq (put_id' (put_id' (put_id' (mk_id' cl1) cl1) cl1) cl1)⟩) ?_
  rintro i L1 hi
  refine zg9 ?_
  refine wl_if rfl (fun h11r h11 => ?_) (fun h11r h11 => ?_)
  · have hi2 : i < p.length := by omega
    have eix : ((p.length : Int) - 1 - (i : Int)).toNat = p.length - (i + 1) := by omega
    have ems := set_rv hi2
    have hml : (List.replicate (p.length - i) (0 : Rat) ++ (p.take i).reverse).length = p.length := by simp; omega
    refine zg26 ?_
    exact nx1 (i + 1) (by omega) (he := Weak.of_eq (put_id' (put_id' (put_id' (mk_id' cl1) cl1) cl1) cl1))
  · obtain rfl : i = p.length := by omega
    have hE : List.replicate (p.length - p.length) 0 ++ (p.take p.length).reverse = p.reverse := by simp
    refine zg12 ?_
    rw [← hE]
    exact ret1f [7] rfl rfl (imm_refm ratE rfl rfl (by simp))
namespace H_c_FPart1
theorem zSm {p q : Prop} (k : q) (e : p = q := by simp only [e1, e2, e3, e4, p1, p2, p3, q1, q2, q3, l1, t0, t1, r1, r2, r3, r4, Nat.zero_add, Nat.reduceMul, Nat.reduceAdd, b1, b2, b3, b4, b5, b6, i1, i2, i3, i4, i5, i6, Nat.reduceBEq, dfq, r1r, kills_map ratE, ratL_kill, spL_kill, LV.kill, kills]; exact rfl) : p := e.mpr k
end H_c_FPart1
open H_c_FPart1 in
theorem c_FPart1 (p : List Rat) (a b : Rat) (hab : rl a + rl b ≤ 1073741824) (ha : a ≠ 1) (g : HS p a ∧ HS (hiP p a) ((b - a) / (1 - a))) : CallP Tryz.prog 100 [.list 3 (p.map ratL), ratL a, ratL b] (.list 3 ((loP (hiP p a) ((b - a) / (1 - a))).map ratL)) := by
  have hr1 := rl_sub 1 a
  have hr2 := rl_sub b a
  have hrr : rl 1 = 1 := rfl
  refine fnP Tryz.func100 ?_
  refine zg9 ?_
  refine cp am1 (c_FInt 1 (by decide) (by decide)) ?_
  refine zg9 ?_
  refine cp am2 (c_FSame a 1 (by omega)) ?_
  refine zg2 ?_
  refine wl_if rfl (fun h14r h14 => ?_) (fun h14r h14 => ?_)
  · exact absurd h14 ha
  · refine zg6 ?_
    refine cp am2 (c_FSplit p a g.1) ?_
    refine zg8 ?_
    refine wl_regD 13 (by decide +kernel) ?_
    refine zg3 ?_
    refine cp am2 (c_FRSub b a (by omega)) ?_
    refine zg2 ?_
    refine cp am2 (c_FRSub 1 a (by omega)) ?_
    refine cp am2 (c_FOver (b - a) (1 - a) (by omega)) ?_
    refine cp am2 (c_FSplit (hiP p a) ((b - a) / (1 - a)) g.2) ?_
    refine zg13 ?_
    exact ret1 rfl (by first | exact .pure rfl | exact .pure (limL_pure _) | exact .pure (magL_pure _) | exact .pure (ratE.pure _) | exact .pure (pure_lst u32E _ _) | exact .pure (pure_lst ratE _ _))
namespace H_c_FPart
theorem zSm {p q : Prop} (k : q) (e : p = q := by simp only [e1, e2, e3, e4, p1, p2, p3, q1, q2, q3, l1, t0, t1, r1, r2, r3, r4, Nat.zero_add, Nat.reduceMul, Nat.reduceAdd, b1, b2, b3, b4, b5, b6, i1, i2, i3, i4, i5, i6, Nat.reduceBEq, dfq, r1r, kills_map ratE, ratL_kill, spL_kill, LV.kill, kills]; exact rfl) : p := e.mpr k
end H_c_FPart
open H_c_FPart in
theorem c_FPart (p : List Rat) (a b : Rat) (hl : p.length ≤ 1048576) (hab : rl a + rl b ≤ 536870912) (g1 : a ≠ 1 → HS p a ∧ HS (hiP p a) ((b - a) / (1 - a))) (g2 : a = 1 → HS p.reverse 0 ∧ HS (hiP p.reverse 0) (((1 - b) - 0) / (1 - 0))) : CallP Tryz.prog 100 [.list 3 (p.map ratL), ratL a, ratL b] (.list 3 ((partF p a b).map ratL)) := by
  have hr1 := rl_sub 1 a
  have hr2 := rl_sub b a
  have hr3 := rl_sub 1 b
  have hrr : rl 1 = 1 := rfl
  have hr0 : rl 0 = 1 := rfl
  refine fnP Tryz.func100 ?_
  refine zg9 ?_
  refine cp am1 (c_FInt 1 (by decide) (by decide)) ?_
  refine zg9 ?_
  refine cp am2 (c_FSame a 1 (by omega)) ?_
  refine zg2 ?_
  refine wl_if rfl (fun h14r h14 => ?_) (fun h14r h14 => ?_)
  · have hE : partF p a b = loP (hiP p.reverse 0) ((1 - b - 0) / (1 - 0)) := by rw [partF, if_pos h14]
    refine zg1 ?_
    refine wl_regD 8 (by decide +kernel) ?_
    refine zg1 ?_
    refine cp am1 (c_mirror p hl) ?_
    refine st_pure rfl (.build0 SL33 Z33a) ?_
    refine zg2 ?_
    refine cp am2 (c_FRSub 1 b (by omega)) ?_
    refine cp am3 (c_FPart1 p.reverse 0 (1 - b) (by omega) (by decide) (g2 h14)) ?_
    refine zg11 ?_
    rw [hE]
    exact ret1 rfl (by first | exact .pure rfl | exact .pure (limL_pure _) | exact .pure (magL_pure _) | exact .pure (ratE.pure _) | exact .pure (pure_lst u32E _ _) | exact .pure (pure_lst ratE _ _))
  · have hE : partF p a b = loP (hiP p a) ((b - a) / (1 - a)) := by rw [partF, if_neg h14]
    refine zg6 ?_
    refine cp am2 (c_FSplit p a (g1 h14).1) ?_
    refine zg8 ?_
    refine wl_regD 13 (by decide +kernel) ?_
    refine zg3 ?_
    refine cp am2 (c_FRSub b a (by omega)) ?_
    refine zg2 ?_
    refine cp am2 (c_FRSub 1 a (by omega)) ?_
    refine cp am2 (c_FOver (b - a) (1 - a) (by omega)) ?_
    refine cp am2 (c_FSplit (hiP p a) ((b - a) / (1 - a)) (g1 h14).2) ?_
    refine zg13 ?_
    rw [hE]
    exact ret1 rfl (by first | exact .pure rfl | exact .pure (limL_pure _) | exact .pure (magL_pure _) | exact .pure (ratE.pure _) | exact .pure (pure_lst u32E _ _) | exact .pure (pure_lst ratE _ _))
end Go.Proofs.YthhdcfhaldcheaaGreat
