/- Texts K21, K22, K23, K24, K25 of this proof, joined. -/
import Derived.Test.YtgfbghoihhnahaaGreatQF6
set_option linter.unusedVariables false
set_option linter.unusedSimpArgs false
section
set_option linter.unusedVariables false
set_option linter.unusedSimpArgs false
set_option maxHeartbeats 8000000
set_option maxRecDepth 100000
attribute [local irreducible] Go.Lg.opsL Go.Lg.wpL Go.Lg.thenL Go.Lg.blockL
namespace Go.Proofs.YtgfbghoihhnahaaGreat
open Go.Lg
def kn2 (d : Nat) (a b : Rat) : List Rat := List.replicate (d + 1) a ++ List.replicate (d + 1) b
theorem kn2_0 (d : Nat) (T : Rat) : kn2 d T (T + 1) = kn0 d T := rfl
theorem kn2_len (d : Nat) (a b : Rat) : (kn2 d a b).length = 2 * (d + 1) := by simp [kn2]; omega
theorem kn2_get (d : Nat) (a b : Rat) (i : Nat) (h : i < 2 * (d + 1)) : (kn2 d a b).getD i 0 = if i < d + 1 then a else b := by
  unfold kn2
  split
  · rw [gD1 (by simp; omega), getD_rep (by omega)]
  · rw [gD2 (by simp; omega), List.length_replicate, getD_rep (by omega)]
theorem kn2_lo (d : Nat) (a b : Rat) : (kn2 d a b).getD 0 0 = a := by rw [kn2_get _ _ _ _ (by omega), if_pos (by omega)]
theorem kn2_hi (d : Nat) (a b : Rat) : (kn2 d a b).getD (2 * (d + 1) - 1) 0 = b := by rw [kn2_get _ _ _ _ (by omega), if_neg (by omega)]
theorem kn2_rl {d : Nat} {a b : Rat} {R : Nat} (ha : rl a ≤ R) (hb : rl b ≤ R) : ∀ x ∈ kn2 d a b, rl x ≤ R := fun x hx => by
  rcases List.mem_append.1 hx with g | g
  · rw [(List.mem_replicate.1 g).2]; exact ha
  · rw [(List.mem_replicate.1 g).2]; exact hb
theorem kn2_stA {d m : Nat} {a b : Rat} (h : m < 2 * (d + 1)) (h2 : m ≤ d) : (kn2 d a b).take m ++ [a] = (kn2 d a b).take (m + 1) := by
  have e := kn2_get d a b m h
  rw [if_pos (by omega)] at e
  rw [← take_snocL (l := kn2 d a b) (k := m) (by rw [kn2_len]; exact h), e]
theorem kn2_stB {d m : Nat} {a b : Rat} (h : m < 2 * (d + 1)) (h2 : ¬m ≤ d) : (kn2 d a b).take m ++ [b] = (kn2 d a b).take (m + 1) := by
  have e := kn2_get d a b m h
  rw [if_neg (by omega)] at e
  rw [← take_snocL (l := kn2 d a b) (k := m) (by rw [kn2_len]; exact h), e]
theorem mn_lt2 {a b : Rat} (h : a < b) : mnR a b = a := by unfold mnR; rw [if_neg (by grind)]
theorem mx_lt2 {a b : Rat} (h : a < b) : mxR a b = b := by unfold mxR; rw [if_pos h]
theorem hs_ofL {p : List Rat} {x : Rat} (hl : p.length ≤ 7) (hp : ∀ y ∈ p, rl y ≤ 7000000) (hx : rl x ≤ 100000) : HS p x := by
  have h1 := rl_sub 1 x
  have h0 : rl 1 = 1 := rfl
  refine ⟨rl (1 - x) + rl x + 1, Nat.le_refl _, by omega, fun y hy => ?_⟩
  have h2 := hp y hy
  have h3 : 2 ^ p.length ≤ 2 ^ 7 := Nat.pow_le_pow_right (by decide) hl
  have h4 : (rl y + (rl (1 - x) + rl x + 1)) * 2 ^ p.length ≤ 8000000 * 2 ^ 7 := Nat.mul_le_mul (by omega) h3
  omega
theorem hi_rl {p : List Rat} {x : Rat} {R S : Nat} (hl : p.length ≤ 7) (hp : ∀ y ∈ p, rl y ≤ R) (hR : 1 ≤ R) (hx : rl (1 - x) + rl x + 1 ≤ S) : ∀ y ∈ hiP p x, rl y ≤ (R + S) * 64 := fun y hy => by
  obtain ⟨j, hj, rfl⟩ := List.mem_iff_getElem.1 hy
  have hj2 : j < p.length := by rw [hiP_len] at hj; exact hj
  have e : (hiP p x)[j] = (hiP p x).getD j 0 := by rw [List.getD_eq_getElem?_getD, List.getElem?_eq_getElem hj]; rfl
  rw [e, hi_get hj2]
  have h1 := fE_rl (a := 1 - x) (b := x) (p.length - 1 - j) (fun i => p.getD (j + i) 0) R (fun i => getD_rl hR hp _)
  have h2 : 2 ^ (p.length - 1 - j) ≤ 64 := Nat.pow_le_pow_right (n := 2) (by decide) (show p.length - 1 - j ≤ 6 by omega)
  exact Nat.le_trans h1 (Nat.mul_le_mul (by omega) h2)
theorem mul2N {n : Nat} (h : 2 * n ≤ 9223372036854775807) : binI .mul .i64 2 (n : Nat) = some (.int .i64 ((2 * n : Nat) : Int)) := by
  rw [mul64 (by omega) (by omega)]; congr 2
theorem rep_crv2 (d sz : Nat) (x z : LV) (Z : Nat → Prop) (μ : Nat → Option Nat) (w : World) (cs : List Value) (h : Rep Z μ w (.agg [x, .v (.slice none 0 0), z]) cs) : Rep Z μ w (.agg [x, .ref d sz 0 0, z]) cs := by
  simp only [Rep, RepFs] at h ⊢
  obtain ⟨c1, c2, e1, e2, e3, c3, c4, e4, e5, e6, c5, c6, e7, e8, e9, e10⟩ := h
  exact ⟨c1, c2, e1, e2, e3, c3, c4, e4, e5, .inl ⟨e6.1, trivial⟩, c5, c6, e7, e8, e9, e10⟩
namespace H_c_points2
theorem zSm {p q : Prop} (k : q) (e : p = q := by simp only [e1, e2, e3, e4, p1, p2, p3, q1, q2, q3, l1, t0, t1, r1, r2, r3, r4, Nat.zero_add, Nat.reduceMul, Nat.reduceAdd, b1, b2, b3, b4, b5, b6, i1, i2, i3, i4, i5, i6, Nat.reduceBEq, etk, ers, take_map_len, map_snoc, len_snoc, List.length_cons, List.length_nil, List.nil_append, List.map_nil, List.take_nil, List.append_nil, List.set_cons_zero, List.set_cons_succ, Nat.reduceEqDiff, reduceIte, if_true, if_false, ptL_kill, poL_kill, kills_map ptE, kills_map poE, kills_map ratE, ratL_kill, spL_kill, LV.kill, kills]; exact rfl) : p := e.mpr k
end H_c_points2
open H_c_points2 in
theorem c_points2 (d : Nat) (kn : List Rat) (po : List PoR) (R : Nat) (hR : R ≤ 1000000) (h : cvR po d R) : CallP Tryz.prog 104 [.agg [nI64 d, .list 3 (kn.map ratL), .list 12 (po.map poL)]] (.list 9 ((po.map (·.p)).map ptL)) := by
  have hl := h.hl
  have hd := h.hd
  have h6 := h.h6
  have hcp : LV.pure (.agg [nI64 d, .list 3 (kn.map ratL), .list 12 (po.map poL)]) = true := by simp [LV.pure, pures, pures_map ratE, pures_map poE]
  refine fnP Tryz.func104 (ht := (fun g => LV.ren_pure g _ (pure_lst ptE _ _))) ?_
  have etk : True := trivial
  have ers : True := trivial
  refine zg21 ?_
  refine wl_weak ((Weak.kill _ 1).trans (Weak.own (t := 3) 17 9 rfl rfl)) ?_
  refine lp1 (fun (i : Nat) L => (((((St.mk L.slot (hp [(17, ⟨9, ((po.map (·.p)).take i).map ptL, true⟩)])).put (some 3) (.ref 17 9 0 i)).put (some 7) (.list 12 (po.map poL))).put (some 8) (nI64 po.length)).put (some 9) (nI64 i))) (fun i => i ≤ po.length) (fun i => po.length - i) 0 (Nat.zero_le _) ?_
  rintro i L1 hi
  refine zg6 ?_
  refine wl_if rfl (fun h10r h10 => ?_) (fun h10r h10 => ?_)
  · have hi2 : i < po.length := by omega
    have ers := take_snocM (·.p) po hi2
    have htl : ((po.map (·.p)).take i).length = i := by rw [List.length_take, List.length_map]; omega
    have etk : (((po.map (·.p)).take i).map ptL).take i = ((po.map (·.p)).take i).map ptL := List.take_of_length_le (by rw [List.length_map]; omega)
    refine zg17 ?_
    refine st_store rfl (.appX (d := 17) (news := [ptL (po.getD i default).p]) rfl rfl rfl rfl (by simp; omega) (.inl rfl) (by decide) Tryz.underlying129 Tryz.underlying129 Z31 T31 cs B31 (.inl ⟨16, 0, _, rfl, by decide, rfl, rfl, by simp, rfl, by simp [pures, ptE.pure]⟩) (by simp; omega) (by simp; omega) (by decide)) ?_
    refine zg4 ?_
    refine wl_regW ((Weak.kill _ 5).trans (Weak.kill _ 16)) ?_
    refine st_pure rfl (.bin rfl rfl (add1N (by omega))) ?_
    refine zg3 ?_
    exact nx1 (i + 1) (by omega)
  · obtain rfl : i = po.length := by omega
    have hE : (po.map (·.p)).take po.length = (po.map (·.p)) := List.take_of_length_le (by simp)
    refine zg12 ?_
    simp only [hE]
    exact ret1f [17] rfl rfl (imm_refm ptE rfl rfl (by simp))
namespace H_c_Of2
theorem zSm {p q : Prop} (k : q) (e : p = q := by simp only [e1, e2, e3, e4, p1, p2, p3, q1, q2, q3, l1, t0, t1, r1, r2, r3, r4, Nat.zero_add, Nat.reduceMul, Nat.reduceAdd, b1, b2, b3, b4, b5, b6, i1, i2, i3, i4, i5, i6, Nat.reduceBEq, List.set_cons_zero, List.set_cons_succ, Nat.reduceEqDiff, reduceIte, if_true, if_false, ptL_kill, poL_kill, kills_map ptE, kills_map poE, kills_map ratE, ratL_kill, spL_kill, LV.kill, kills]; exact rfl) : p := e.mpr k
end H_c_Of2
open H_c_Of2 in
theorem c_Of2 (q : PoR) (R : Nat) (hR : R ≤ 1000000) (h : okP R q) : CallP Tryz.prog 133 [poL q] (.agg [ratL (q.w * q.p.x), ratL (q.w * q.p.y), ratL (q.w * q.p.z), ratL q.w]) := by
  obtain ⟨⟨a1, a2, a3⟩, a4, _⟩ := h
  have hA := c_RAdd q.w 0 (by have : rl 0 = 1 := rfl; omega)
  rw [Rat.add_zero] at hA
  refine fnP Tryz.func133 (ht := (fun g => LV.ren_pure g _ pu)) ?_
  refine zg20 ?_
  refine wl_unroll ?_
  refine zg6 ?_
  refine wl_condX (b := _) rfl (by decide) ?_
  refine zg18 ?_
  refine cp am2 (c_RMul q.w q.p.x (by omega)) ?_
  refine zg5 ?_
  refine wl_regW (Weak.kill _ 5) ?_
  refine zg4 ?_
  refine wl_unroll ?_
  refine zg6 ?_
  refine wl_condX (b := _) rfl (by decide) ?_
  refine zg18 ?_
  refine cp am2 (c_RMul q.w q.p.y (by omega)) ?_
  refine zg5 ?_
  refine wl_regW (Weak.kill _ 5) ?_
  refine zg4 ?_
  refine wl_unroll ?_
  refine zg6 ?_
  refine wl_condX (b := _) rfl (by decide) ?_
  refine zg18 ?_
  refine cp am2 (c_RMul q.w q.p.z (by omega)) ?_
  refine zg5 ?_
  refine wl_regW (Weak.kill _ 5) ?_
  refine zg4 ?_
  refine wl_unroll ?_
  refine zg6 ?_
  refine wl_condY (b := _) rfl (by decide) ?_
  refine zg9 ?_
  refine st_pure rfl (.build0 SL29 Z29a) ?_
  refine cp am2 (hA) ?_
  refine zg11 ?_
  exact retC [] rfl rfl rfl cs (at_all cs rfl) T153 (.pure pu)
namespace H_c_BNum2
theorem zSm {p q : Prop} (k : q) (e : p = q := by simp only [e1, e2, e3, e4, p1, p2, p3, q1, q2, q3, l1, t0, t1, r1, r2, r3, r4, Nat.zero_add, Nat.reduceMul, Nat.reduceAdd, b1, b2, b3, b4, b5, b6, i1, i2, i3, i4, i5, i6, Nat.reduceBEq, etk0, etk1, etk2, etk3, ers0, ers1, ers2, ers3, take_map_len, map_snoc, len_snoc, List.length_cons, List.length_nil, List.nil_append, List.map_nil, List.take_nil, List.append_nil, List.set_cons_zero, List.set_cons_succ, Nat.reduceEqDiff, reduceIte, if_true, if_false, ptL_kill, poL_kill, kills_map ptE, kills_map poE, kills_map ratE, ratL_kill, spL_kill, LV.kill, kills]; exact rfl) : p := e.mpr k
end H_c_BNum2
open H_c_BNum2 in
theorem c_BNum2 (d : Nat) (kn : List Rat) (po : List PoR) (R : Nat) (hR : R ≤ 1000000) (h : cvR po d R) : CallP Tryz.prog 36 [.agg [nI64 d, .list 3 (kn.map ratL), .list 12 (po.map poL)]] (.agg [.list 3 ((nmP po 0).map ratL), .list 3 ((nmP po 1).map ratL), .list 3 ((nmP po 2).map ratL), .list 3 ((wtP po).map ratL)]) := by
  have hl := h.hl
  have hd := h.hd
  have h6 := h.h6
  have hcp : LV.pure (.agg [nI64 d, .list 3 (kn.map ratL), .list 12 (po.map poL)]) = true := by simp [LV.pure, pures, pures_map ratE, pures_map poE]
  have hn0 := nmP_len po 0
  have hn1 := nmP_len po 1
  have hn2 := nmP_len po 2
  have hn3 := wtP_len po
  refine fnP Tryz.func36 (ht := (fun g => LV.ren_pure g _ (by simp [LV.pure, pures, pures_map ratE]))) ?_
  have etk0 : True := trivial
  have etk1 : True := trivial
  have etk2 : True := trivial
  have etk3 : True := trivial
  have ers0 : True := trivial
  have ers1 : True := trivial
  have ers2 : True := trivial
  have ers3 : True := trivial
  refine zg21 ?_
  refine wl_weak (((Weak.kill _ 1).trans (Weak.cell 3 rfl (fun Z μ w cs h => rep_arr4 1001 1002 1003 1004 3 Z μ w cs h))).trans ((Weak.newB _ 1001 3 rfl).trans ((Weak.newB _ 1002 3 rfl).trans ((Weak.newB _ 1003 3 rfl).trans (Weak.newB _ 1004 3 rfl))))) ?_
  refine lp1 (fun (j : Nat) L => ((((((St.mk L.slot (hp [(2, ⟨4, [.agg [.v (.slice none 0 0), .v (.slice none 0 0), .v (.slice none 0 0), .v (.slice none 0 0)]], true⟩), (3, ⟨4, [.agg [.ref 1001 3 0 j, .ref 1002 3 0 j, .ref 1003 3 0 j, .ref 1004 3 0 j]], true⟩), (1001, ⟨3, ((nmP po 0).take j).map ratL, true⟩), (1002, ⟨3, ((nmP po 1).take j).map ratL, true⟩), (1003, ⟨3, ((nmP po 2).take j).map ratL, true⟩), (1004, ⟨3, ((wtP po).take j).map ratL, true⟩)])).put (some 2) (.eptr 2 4 0 0)).put (some 3) (.eptr 3 4 0 0)).put (some 9) (.list 12 (po.map poL))).put (some 10) (nI64 po.length)).put (some 11) (nI64 j))) (fun j => j ≤ po.length) (fun j => po.length - j) 0 (Nat.zero_le _) ?_
  rintro j L1 hj
  refine zg6 ?_
  refine wl_if rfl (fun h12r h12 => ?_) (fun h12r h12 => ?_)
  · have hj2 : j < po.length := by omega
    have hok := h.ok _ (getD_memP hj2)
    have ers0 : (nmP po 0).take j ++ [(po.getD j default).w * (po.getD j default).p.x] = (nmP po 0).take (j + 1) := take_snocM (fun q : PoR => q.w * q.p.at 0) po hj2
    have ers1 : (nmP po 1).take j ++ [(po.getD j default).w * (po.getD j default).p.y] = (nmP po 1).take (j + 1) := take_snocM (fun q : PoR => q.w * q.p.at 1) po hj2
    have ers2 : (nmP po 2).take j ++ [(po.getD j default).w * (po.getD j default).p.z] = (nmP po 2).take (j + 1) := take_snocM (fun q : PoR => q.w * q.p.at 2) po hj2
    have ers3 : (wtP po).take j ++ [(po.getD j default).w] = (wtP po).take (j + 1) := take_snocM (fun q : PoR => q.w) po hj2
    have etk0 : (((nmP po 0).take j).map ratL).take j = ((nmP po 0).take j).map ratL := List.take_of_length_le (by rw [List.length_map, List.length_take]; omega)
    have etk1 : (((nmP po 1).take j).map ratL).take j = ((nmP po 1).take j).map ratL := List.take_of_length_le (by rw [List.length_map, List.length_take]; omega)
    have etk2 : (((nmP po 2).take j).map ratL).take j = ((nmP po 2).take j).map ratL := List.take_of_length_le (by rw [List.length_map, List.length_take]; omega)
    have etk3 : (((wtP po).take j).map ratL).take j = ((wtP po).take j).map ratL := List.take_of_length_le (by rw [List.length_map, List.length_take]; omega)
    refine zg15 ?_
    refine cp am1 (c_Of2 (po.getD j default) R hR hok) ?_
    refine zg4 ?_
    refine wl_unroll ?_
    refine zg6 ?_
    refine wl_condX (b := _) rfl (by decide) ?_
    refine zg13 ?_
    refine wl_regF 6 [0] (by decide +kernel) ?_
    refine zg6 ?_
    refine st_store rfl (.appX (d := 1001) (news := [ratL ((po.getD j default).w * (po.getD j default).p.x)]) rfl rfl rfl rfl (by simp; omega) (.inl rfl) (by decide) Tryz.underlying56 Tryz.underlying56 Z29a T29 rfl B29 (.inl ⟨26, 0, _, rfl, by decide, rfl, rfl, by simp, rfl, by simp [pures, ratE.pure]⟩) (by simp; omega) (by simp; omega) (by decide)) ?_
    refine zg5 ?_
    refine wl_regW ((Weak.kill _ 7).trans (Weak.kill _ 26)) ?_
    refine zg4 ?_
    refine wl_unroll ?_
    refine zg6 ?_
    refine wl_condX (b := _) rfl (by decide) ?_
    refine zg13 ?_
    refine wl_regF 6 [0] (by decide +kernel) ?_
    refine zg6 ?_
    refine st_store rfl (.appX (d := 1002) (news := [ratL ((po.getD j default).w * (po.getD j default).p.y)]) rfl rfl rfl rfl (by simp; omega) (.inl rfl) (by decide) Tryz.underlying56 Tryz.underlying56 Z29a T29 rfl B29 (.inl ⟨26, 0, _, rfl, by decide, rfl, rfl, by simp, rfl, by simp [pures, ratE.pure]⟩) (by simp; omega) (by simp; omega) (by decide)) ?_
    refine zg5 ?_
    refine wl_regW ((Weak.kill _ 7).trans (Weak.kill _ 26)) ?_
    refine zg4 ?_
    refine wl_unroll ?_
    refine zg6 ?_
    refine wl_condX (b := _) rfl (by decide) ?_
    refine zg13 ?_
    refine wl_regF 6 [0] (by decide +kernel) ?_
    refine zg6 ?_
    refine st_store rfl (.appX (d := 1003) (news := [ratL ((po.getD j default).w * (po.getD j default).p.z)]) rfl rfl rfl rfl (by simp; omega) (.inl rfl) (by decide) Tryz.underlying56 Tryz.underlying56 Z29a T29 rfl B29 (.inl ⟨26, 0, _, rfl, by decide, rfl, rfl, by simp, rfl, by simp [pures, ratE.pure]⟩) (by simp; omega) (by simp; omega) (by decide)) ?_
    refine zg5 ?_
    refine wl_regW ((Weak.kill _ 7).trans (Weak.kill _ 26)) ?_
    refine zg4 ?_
    refine wl_unroll ?_
    refine zg6 ?_
    refine wl_condX (b := _) rfl (by decide) ?_
    refine zg13 ?_
    refine wl_regF 6 [0] (by decide +kernel) ?_
    refine zg6 ?_
    refine st_store rfl (.appX (d := 1004) (news := [ratL ((po.getD j default).w)]) rfl rfl rfl rfl (by simp; omega) (.inl rfl) (by decide) Tryz.underlying56 Tryz.underlying56 Z29a T29 rfl B29 (.inl ⟨26, 0, _, rfl, by decide, rfl, rfl, by simp, rfl, by simp [pures, ratE.pure]⟩) (by simp; omega) (by simp; omega) (by decide)) ?_
    refine zg5 ?_
    refine wl_regW ((Weak.kill _ 7).trans (Weak.kill _ 26)) ?_
    refine zg4 ?_
    refine wl_unroll ?_
    refine zg6 ?_
    refine wl_condY (b := _) rfl (by decide) ?_
    refine zg6 ?_
    refine wl_regW (Weak.kill _ 5) ?_
    refine st_pure rfl (.bin rfl rfl (add1N (by omega))) ?_
    refine zg3 ?_
    exact nx1 (j + 1) (by omega)
  · obtain rfl : j = po.length := by omega
    have hE0 : (nmP po 0).take po.length = (nmP po 0) := List.take_of_length_le (by omega)
    have hE1 : (nmP po 1).take po.length = (nmP po 1) := List.take_of_length_le (by omega)
    have hE2 : (nmP po 2).take po.length = (nmP po 2) := List.take_of_length_le (by omega)
    have hE3 : (wtP po).take po.length = (wtP po) := List.take_of_length_le (by omega)
    refine zg12 ?_
    simp only [hE0, hE1, hE2, hE3]
    exact retC [1001, 1002, 1003, 1004] rfl rfl rfl cs (at_all cs rfl) T57 (.agg (.cons (imm_refm ratE rfl rfl hn0.symm) (.cons (imm_refm ratE rfl rfl hn1.symm) (.cons (imm_refm ratE rfl rfl hn2.symm) (.cons (imm_refm ratE rfl rfl hn3.symm) .nil)))))
namespace H_c_Dom2
theorem zSm {p q : Prop} (k : q) (e : p = q := by simp only [e1, e2, e3, e4, p1, p2, p3, q1, q2, q3, l1, t0, t1, r1, r2, r3, r4, Nat.zero_add, Nat.reduceMul, Nat.reduceAdd, b1, b2, b3, b4, b5, b6, i1, i2, i3, i4, i5, i6, Nat.reduceBEq, dfq, hkl, hlo, hhi, List.length_map, List.set_cons_zero, List.set_cons_succ, Nat.reduceEqDiff, reduceIte, if_true, if_false, ptL_kill, poL_kill, kills_map ptE, kills_map poE, kills_map ratE, ratL_kill, spL_kill, LV.kill, kills]; exact rfl) : p := e.mpr k
end H_c_Dom2
open H_c_Dom2 in
theorem c_Dom2 (d : Nat) (a b : Rat) (po : List PoR) (ha : rl a ≤ 100) (hb : rl b ≤ 100) (hab : a < b) (h9 : d ≤ 6) : CallP Tryz.prog 141 [.agg [nI64 d, .list 3 ((kn2 d a b).map ratL), .list 12 (po.map poL)]] (spL (a, b)) := by
  have hkl := kn2_len d a b
  have hlo := kn2_lo d a b
  have hhi := kn2_hi d a b
  have hcp : LV.pure (.agg [nI64 d, .list 3 ((kn2 d a b).map ratL), .list 12 (po.map poL)]) = true := by simp [LV.pure, pures, pures_map ratE, pures_map poE]
  have hS := c_SOf a b (by omega)
  rw [mn_lt2 hab, mx_lt2 hab] at hS
  refine fnP Tryz.func141 ?_
  refine zg15 ?_
  refine wl_if rfl (fun h6r h6 => ?_) (fun h6r h6 => ?_)
  · omega
  · refine zg3 ?_
    refine wl_regD 13 (by decide +kernel) ?_
    refine zg9 ?_
    refine st_pure rfl (.bin rfl rfl (sub1N (by omega) (by omega))) ?_
    refine zg2 ?_
    try simp only [t1, dfq, hkl, hlo, hhi, List.length_map]
    refine cp am2 (hS) ?_
    refine zg4 ?_
    exact retC [] rfl rfl rfl (spE.csize _) (spL_all _) T42 (.pure (spE.pure _))
namespace H_c_FDom2
theorem zSm {p q : Prop} (k : q) (e : p = q := by simp only [e1, e2, e3, e4, p1, p2, p3, q1, q2, q3, l1, t0, t1, r1, r2, r3, r4, Nat.zero_add, Nat.reduceMul, Nat.reduceAdd, b1, b2, b3, b4, b5, b6, i1, i2, i3, i4, i5, i6, Nat.reduceBEq, dfq, hkl, hlo, hhi, List.length_map, List.set_cons_zero, List.set_cons_succ, Nat.reduceEqDiff, reduceIte, if_true, if_false, ptL_kill, poL_kill, kills_map ptE, kills_map poE, kills_map ratE, ratL_kill, spL_kill, LV.kill, kills]; exact rfl) : p := e.mpr k
end H_c_FDom2
open H_c_FDom2 in
theorem c_FDom2 (d : Nat) (a b : Rat) (po : List PoR) (ha : rl a ≤ 100) (hb : rl b ≤ 100) (hab : a < b) (h9 : d ≤ 6) : CallP Tryz.prog 24 [.agg [nI64 d, .list 3 ((kn2 d a b).map ratL), .list 12 (po.map poL)]] (spL (a, b)) := by
  have hkl := kn2_len d a b
  have hlo := kn2_lo d a b
  have hhi := kn2_hi d a b
  have hcp : LV.pure (.agg [nI64 d, .list 3 ((kn2 d a b).map ratL), .list 12 (po.map poL)]) = true := by simp [LV.pure, pures, pures_map ratE, pures_map poE]
  refine fnP Tryz.func24 ?_
  refine zg7 ?_
  refine wl_regD 13 (by decide +kernel) ?_
  refine zg9 ?_
  refine st_pure rfl (.bin rfl rfl (sub1N (by omega) (by omega))) ?_
  refine zg7 ?_
  exact retC [] rfl rfl rfl (spE.csize _) (spL_all _) T42 (.pure (spE.pure _))
namespace H_c_own2
theorem zSm {p q : Prop} (k : q) (e : p = q := by simp only [e1, e2, e3, e4, p1, p2, p3, q1, q2, q3, l1, t0, t1, r1, r2, r3, r4, Nat.zero_add, Nat.reduceMul, Nat.reduceAdd, b1, b2, b3, b4, b5, b6, i1, i2, i3, i4, i5, i6, Nat.reduceBEq, List.set_cons_zero, List.set_cons_succ, Nat.reduceEqDiff, reduceIte, if_true, if_false, ptL_kill, poL_kill, kills_map ptE, kills_map poE, kills_map ratE, ratL_kill, spL_kill, LV.kill, kills]; exact rfl) : p := e.mpr k
end H_c_own2
open H_c_own2 in
theorem c_own2 (d : Nat) (a b : Rat) (po : List PoR) (ha : rl a ≤ 100) (hb : rl b ≤ 100) (hab : a < b) (h9 : d ≤ 6) (t x : Rat) (ht : rl t ≤ 100) (h1 : a ≤ t) (h2 : t ≤ b) (hx : (t - a) / (b - a) = x) (hp0 : 0 < po.length) : CallP Tryz.prog 123 [.agg [nI64 d, .list 3 ((kn2 d a b).map ratL), .list 12 (po.map poL)], ratL t] (.tup [ratL x, ratL (b - a), bL true]) := by
  have hkl := kn2_len d a b
  have hlo := kn2_lo d a b
  have hhi := kn2_hi d a b
  have hcp : LV.pure (.agg [nI64 d, .list 3 ((kn2 d a b).map ratL), .list 12 (po.map poL)]) = true := by simp [LV.pure, pures, pures_map ratE, pures_map poE]
  have hz1 := rl_sub t a
  have hz2 := rl_sub b a
  have hD := c_Dom2 d a b po ha hb hab h9
  have hW : CallP Tryz.prog 140 [spL (a, b)] (ratL (b - a)) := c_SWidth (a, b) (by show rl b + rl a ≤ _; omega)
  have hQ : CallP Tryz.prog 125 [ratL (t - a), ratL (b - a)] (.tup [ratL x, iL 0]) := by
    have := c_RQuo (t - a) (b - a) (by omega)
    rw [if_neg (by grind), hx] at this
    exact this
  have hH : CallP Tryz.prog 216 [spL (a, b), ratL t] (bL true) := by
    have := c_SHas (a, b) t (by show rl a + rl t ≤ _; omega) (by show rl t + rl b ≤ _; omega)
    unfold hasR at this
    rw [decide_eq_true h1, decide_eq_true h2] at this
    exact this
  refine fnP Tryz.func123 (ht := (tame3 (ratE.pure _) (ratE.pure _) rfl)) ?_
  refine zg12 ?_
  refine cp am1 (hD) ?_
  refine zg12 ?_
  refine op_if 15 rfl (fun h15r h15 => ?_) (fun h15r h15 => ?_)
  · omega
  · refine zg2 ?_
    refine cp am2 (hH) ?_
    refine zg4 ?_
    refine wl_if rfl (fun h20r h20 => ?_) (fun h20r h20 => ?_)
    · first | exact h20.elim | cases h20r
    · refine zg5 ?_
      refine cp am1 (hW) ?_
      refine zg4 ?_
      refine wl_regF 9 [8] (by decide +kernel) ?_
      refine zg3 ?_
      refine cp am2 (c_RSub t a (by omega)) ?_
      refine zg1 ?_
      refine cp am2 (hQ) ?_
      refine zg8 ?_
      refine wl_regA ?_
      refine any_3 0 1 2 _ _ _ (by decide +kernel) rfl rfl rfl ?_ ?_ ?_
      · refine zg1 ?_
        refine st_nil ?_
        refine any_3 1 2 4 _ _ _ (by decide +kernel) rfl rfl rfl ?_ ?_ ?_
        · refine zg1 ?_
          refine st_nil ?_
          refine any_2 2 4 _ _ (by decide +kernel) rfl rfl ?_ ?_
          · refine zg1 ?_
            refine st_nil ?_
            refine any_2 3 4 _ _ (by decide +kernel) rfl rfl ?_ ?_
            · refine zg1 ?_
              refine st_nil ?_
              refine any_1 4 _ (by decide +kernel) rfl ?_
              refine zg1 ?_
              refine st_nil ?_
              refine any_1 5 _ (by decide +kernel) rfl ?_
              refine zg1 ?_
              refine st_nil ?_
              refine any_1 6 _ (by decide +kernel) rfl ?_
              refine zg1 ?_
              refine st_nil ?_
              refine any_0 (by decide +kernel) ?_
              refine zg2 ?_
              exact retCCT [] rfl rfl rfl (ratE.csize _) (ratL_all _) T29 (.pure (ratE.pure _)) rfl rfl (ratE.csize _) (ratL_all _) T29 (.pure (ratE.pure _)) rfl (.pure rfl)
            · refine zg1 ?_
              refine st_nil ?_
              refine any_2 3 5 _ _ (by decide +kernel) rfl rfl ?_ ?_
              · refine zg1 ?_
                refine st_nil ?_
                refine any_1 5 _ (by decide +kernel) rfl ?_
                refine zg1 ?_
                refine st_nil ?_
                refine any_1 6 _ (by decide +kernel) rfl ?_
                refine zg1 ?_
                refine st_nil ?_
                refine any_0 (by decide +kernel) ?_
                refine zg2 ?_
                exact retCCT [] rfl rfl rfl (ratE.csize _) (ratL_all _) T29 (.pure (ratE.pure _)) rfl rfl (ratE.csize _) (ratL_all _) T29 (.pure (ratE.pure _)) rfl (.pure rfl)
              · refine zg1 ?_
                refine st_nil ?_
                refine any_1 3 _ (by decide +kernel) rfl ?_
                refine zg1 ?_
                refine st_nil ?_
                refine any_1 6 _ (by decide +kernel) rfl ?_
                refine zg1 ?_
                refine st_nil ?_
                refine any_0 (by decide +kernel) ?_
                refine zg2 ?_
                exact retCCT [] rfl rfl rfl (ratE.csize _) (ratL_all _) T29 (.pure (ratE.pure _)) rfl rfl (ratE.csize _) (ratL_all _) T29 (.pure (ratE.pure _)) rfl (.pure rfl)
          · refine zg1 ?_
            refine st_nil ?_
            refine any_2 2 5 _ _ (by decide +kernel) rfl rfl ?_ ?_
            · refine zg1 ?_
              refine st_nil ?_
              refine any_2 3 5 _ _ (by decide +kernel) rfl rfl ?_ ?_
              · refine zg1 ?_
                refine st_nil ?_
                refine any_1 5 _ (by decide +kernel) rfl ?_
                refine zg1 ?_
                refine st_nil ?_
                refine any_1 6 _ (by decide +kernel) rfl ?_
                refine zg1 ?_
                refine st_nil ?_
                refine any_0 (by decide +kernel) ?_
                refine zg2 ?_
                exact retCCT [] rfl rfl rfl (ratE.csize _) (ratL_all _) T29 (.pure (ratE.pure _)) rfl rfl (ratE.csize _) (ratL_all _) T29 (.pure (ratE.pure _)) rfl (.pure rfl)
              · refine zg1 ?_
                refine st_nil ?_
                refine any_1 3 _ (by decide +kernel) rfl ?_
                refine zg1 ?_
                refine st_nil ?_
                refine any_1 6 _ (by decide +kernel) rfl ?_
                refine zg1 ?_
                refine st_nil ?_
                refine any_0 (by decide +kernel) ?_
                refine zg2 ?_
                exact retCCT [] rfl rfl rfl (ratE.csize _) (ratL_all _) T29 (.pure (ratE.pure _)) rfl rfl (ratE.csize _) (ratL_all _) T29 (.pure (ratE.pure _)) rfl (.pure rfl)
            · refine zg1 ?_
              refine st_nil ?_
              refine any_1 2 _ (by decide +kernel) rfl ?_
              refine zg1 ?_
              refine st_nil ?_
              refine any_1 3 _ (by decide +kernel) rfl ?_
              refine zg1 ?_
              refine st_nil ?_
              refine any_1 6 _ (by decide +kernel) rfl ?_
              refine zg1 ?_
              refine st_nil ?_
              refine any_0 (by decide +kernel) ?_
              refine zg2 ?_
              exact retCCT [] rfl rfl rfl (ratE.csize _) (ratL_all _) T29 (.pure (ratE.pure _)) rfl rfl (ratE.csize _) (ratL_all _) T29 (.pure (ratE.pure _)) rfl (.pure rfl)
        · refine zg1 ?_
          refine st_nil ?_
          refine any_3 1 3 4 _ _ _ (by decide +kernel) rfl rfl rfl ?_ ?_ ?_
          · refine zg1 ?_
            refine st_nil ?_
            refine any_2 3 4 _ _ (by decide +kernel) rfl rfl ?_ ?_
            · refine zg1 ?_
              refine st_nil ?_
              refine any_1 4 _ (by decide +kernel) rfl ?_
              refine zg1 ?_
              refine st_nil ?_
              refine any_1 5 _ (by decide +kernel) rfl ?_
              refine zg1 ?_
              refine st_nil ?_
              refine any_1 6 _ (by decide +kernel) rfl ?_
              refine zg1 ?_
              refine st_nil ?_
              refine any_0 (by decide +kernel) ?_
              refine zg2 ?_
              exact retCCT [] rfl rfl rfl (ratE.csize _) (ratL_all _) T29 (.pure (ratE.pure _)) rfl rfl (ratE.csize _) (ratL_all _) T29 (.pure (ratE.pure _)) rfl (.pure rfl)
            · refine zg1 ?_
              refine st_nil ?_
              refine any_2 3 5 _ _ (by decide +kernel) rfl rfl ?_ ?_
              · refine zg1 ?_
                refine st_nil ?_
                refine any_1 5 _ (by decide +kernel) rfl ?_
                refine zg1 ?_
                refine st_nil ?_
                refine any_1 6 _ (by decide +kernel) rfl ?_
                refine zg1 ?_
                refine st_nil ?_
                refine any_0 (by decide +kernel) ?_
                refine zg2 ?_
                exact retCCT [] rfl rfl rfl (ratE.csize _) (ratL_all _) T29 (.pure (ratE.pure _)) rfl rfl (ratE.csize _) (ratL_all _) T29 (.pure (ratE.pure _)) rfl (.pure rfl)
              · refine zg1 ?_
                refine st_nil ?_
                refine any_1 3 _ (by decide +kernel) rfl ?_
                refine zg1 ?_
                refine st_nil ?_
                refine any_1 6 _ (by decide +kernel) rfl ?_
                refine zg1 ?_
                refine st_nil ?_
                refine any_0 (by decide +kernel) ?_
                refine zg2 ?_
                exact retCCT [] rfl rfl rfl (ratE.csize _) (ratL_all _) T29 (.pure (ratE.pure _)) rfl rfl (ratE.csize _) (ratL_all _) T29 (.pure (ratE.pure _)) rfl (.pure rfl)
          · refine zg1 ?_
            refine st_nil ?_
            refine any_2 1 4 _ _ (by decide +kernel) rfl rfl ?_ ?_
            · refine zg1 ?_
              refine st_nil ?_
              refine any_1 4 _ (by decide +kernel) rfl ?_
              refine zg1 ?_
              refine st_nil ?_
              refine any_1 5 _ (by decide +kernel) rfl ?_
              refine zg1 ?_
              refine st_nil ?_
              refine any_1 6 _ (by decide +kernel) rfl ?_
              refine zg1 ?_
              refine st_nil ?_
              refine any_0 (by decide +kernel) ?_
              refine zg2 ?_
              exact retCCT [] rfl rfl rfl (ratE.csize _) (ratL_all _) T29 (.pure (ratE.pure _)) rfl rfl (ratE.csize _) (ratL_all _) T29 (.pure (ratE.pure _)) rfl (.pure rfl)
            · refine zg1 ?_
              refine st_nil ?_
              refine any_1 1 _ (by decide +kernel) rfl ?_
              refine zg1 ?_
              refine st_nil ?_
              refine any_1 5 _ (by decide +kernel) rfl ?_
              refine zg1 ?_
              refine st_nil ?_
              refine any_1 6 _ (by decide +kernel) rfl ?_
              refine zg1 ?_
              refine st_nil ?_
              refine any_0 (by decide +kernel) ?_
              refine zg2 ?_
              exact retCCT [] rfl rfl rfl (ratE.csize _) (ratL_all _) T29 (.pure (ratE.pure _)) rfl rfl (ratE.csize _) (ratL_all _) T29 (.pure (ratE.pure _)) rfl (.pure rfl)
          · refine zg1 ?_
            refine st_nil ?_
            refine any_2 1 3 _ _ (by decide +kernel) rfl rfl ?_ ?_
            · refine zg1 ?_
              refine st_nil ?_
              refine any_2 3 5 _ _ (by decide +kernel) rfl rfl ?_ ?_
              · refine zg1 ?_
                refine st_nil ?_
                refine any_1 5 _ (by decide +kernel) rfl ?_
                refine zg1 ?_
                refine st_nil ?_
                refine any_1 6 _ (by decide +kernel) rfl ?_
                refine zg1 ?_
                refine st_nil ?_
                refine any_0 (by decide +kernel) ?_
                refine zg2 ?_
                exact retCCT [] rfl rfl rfl (ratE.csize _) (ratL_all _) T29 (.pure (ratE.pure _)) rfl rfl (ratE.csize _) (ratL_all _) T29 (.pure (ratE.pure _)) rfl (.pure rfl)
              · refine zg1 ?_
                refine st_nil ?_
                refine any_1 3 _ (by decide +kernel) rfl ?_
                refine zg1 ?_
                refine st_nil ?_
                refine any_1 6 _ (by decide +kernel) rfl ?_
                refine zg1 ?_
                refine st_nil ?_
                refine any_0 (by decide +kernel) ?_
                refine zg2 ?_
                exact retCCT [] rfl rfl rfl (ratE.csize _) (ratL_all _) T29 (.pure (ratE.pure _)) rfl rfl (ratE.csize _) (ratL_all _) T29 (.pure (ratE.pure _)) rfl (.pure rfl)
            · refine zg1 ?_
              refine st_nil ?_
              refine any_1 1 _ (by decide +kernel) rfl ?_
              refine zg1 ?_
              refine st_nil ?_
              refine any_1 5 _ (by decide +kernel) rfl ?_
              refine zg1 ?_
              refine st_nil ?_
              refine any_1 6 _ (by decide +kernel) rfl ?_
              refine zg1 ?_
              refine st_nil ?_
              refine any_0 (by decide +kernel) ?_
              refine zg2 ?_
              exact retCCT [] rfl rfl rfl (ratE.csize _) (ratL_all _) T29 (.pure (ratE.pure _)) rfl rfl (ratE.csize _) (ratL_all _) T29 (.pure (ratE.pure _)) rfl (.pure rfl)
        · refine zg1 ?_
          refine st_nil ?_
          refine any_2 1 2 _ _ (by decide +kernel) rfl rfl ?_ ?_
          · refine zg1 ?_
            refine st_nil ?_
            refine any_2 2 5 _ _ (by decide +kernel) rfl rfl ?_ ?_
            · refine zg1 ?_
              refine st_nil ?_
              refine any_2 3 5 _ _ (by decide +kernel) rfl rfl ?_ ?_
              · refine zg1 ?_
                refine st_nil ?_
                refine any_1 5 _ (by decide +kernel) rfl ?_
                refine zg1 ?_
                refine st_nil ?_
                refine any_1 6 _ (by decide +kernel) rfl ?_
                refine zg1 ?_
                refine st_nil ?_
                refine any_0 (by decide +kernel) ?_
                refine zg2 ?_
                exact retCCT [] rfl rfl rfl (ratE.csize _) (ratL_all _) T29 (.pure (ratE.pure _)) rfl rfl (ratE.csize _) (ratL_all _) T29 (.pure (ratE.pure _)) rfl (.pure rfl)
              · refine zg1 ?_
                refine st_nil ?_
                refine any_1 3 _ (by decide +kernel) rfl ?_
                refine zg1 ?_
                refine st_nil ?_
                refine any_1 6 _ (by decide +kernel) rfl ?_
                refine zg1 ?_
                refine st_nil ?_
                refine any_0 (by decide +kernel) ?_
                refine zg2 ?_
                exact retCCT [] rfl rfl rfl (ratE.csize _) (ratL_all _) T29 (.pure (ratE.pure _)) rfl rfl (ratE.csize _) (ratL_all _) T29 (.pure (ratE.pure _)) rfl (.pure rfl)
            · refine zg1 ?_
              refine st_nil ?_
              refine any_1 2 _ (by decide +kernel) rfl ?_
              refine zg1 ?_
              refine st_nil ?_
              refine any_1 3 _ (by decide +kernel) rfl ?_
              refine zg1 ?_
              refine st_nil ?_
              refine any_1 6 _ (by decide +kernel) rfl ?_
              refine zg1 ?_
              refine st_nil ?_
              refine any_0 (by decide +kernel) ?_
              refine zg2 ?_
              exact retCCT [] rfl rfl rfl (ratE.csize _) (ratL_all _) T29 (.pure (ratE.pure _)) rfl rfl (ratE.csize _) (ratL_all _) T29 (.pure (ratE.pure _)) rfl (.pure rfl)
          · refine zg1 ?_
            refine st_nil ?_
            refine any_2 1 3 _ _ (by decide +kernel) rfl rfl ?_ ?_
            · refine zg1 ?_
              refine st_nil ?_
              refine any_2 3 5 _ _ (by decide +kernel) rfl rfl ?_ ?_
              · refine zg1 ?_
                refine st_nil ?_
                refine any_1 5 _ (by decide +kernel) rfl ?_
                refine zg1 ?_
                refine st_nil ?_
                refine any_1 6 _ (by decide +kernel) rfl ?_
                refine zg1 ?_
                refine st_nil ?_
                refine any_0 (by decide +kernel) ?_
                refine zg2 ?_
                exact retCCT [] rfl rfl rfl (ratE.csize _) (ratL_all _) T29 (.pure (ratE.pure _)) rfl rfl (ratE.csize _) (ratL_all _) T29 (.pure (ratE.pure _)) rfl (.pure rfl)
              · refine zg1 ?_
                refine st_nil ?_
                refine any_1 3 _ (by decide +kernel) rfl ?_
                refine zg1 ?_
                refine st_nil ?_
                refine any_1 6 _ (by decide +kernel) rfl ?_
                refine zg1 ?_
                refine st_nil ?_
                refine any_0 (by decide +kernel) ?_
                refine zg2 ?_
                exact retCCT [] rfl rfl rfl (ratE.csize _) (ratL_all _) T29 (.pure (ratE.pure _)) rfl rfl (ratE.csize _) (ratL_all _) T29 (.pure (ratE.pure _)) rfl (.pure rfl)
            · refine zg1 ?_
              refine st_nil ?_
              refine any_1 1 _ (by decide +kernel) rfl ?_
              refine zg1 ?_
              refine st_nil ?_
              refine any_1 5 _ (by decide +kernel) rfl ?_
              refine zg1 ?_
              refine st_nil ?_
              refine any_1 6 _ (by decide +kernel) rfl ?_
              refine zg1 ?_
              refine st_nil ?_
              refine any_0 (by decide +kernel) ?_
              refine zg2 ?_
              exact retCCT [] rfl rfl rfl (ratE.csize _) (ratL_all _) T29 (.pure (ratE.pure _)) rfl rfl (ratE.csize _) (ratL_all _) T29 (.pure (ratE.pure _)) rfl (.pure rfl)
      · refine zg1 ?_
        refine st_nil ?_
        refine any_2 0 2 _ _ (by decide +kernel) rfl rfl ?_ ?_
        · refine zg1 ?_
          refine st_nil ?_
          refine any_2 2 4 _ _ (by decide +kernel) rfl rfl ?_ ?_
          · refine zg1 ?_
            refine st_nil ?_
            refine any_2 3 4 _ _ (by decide +kernel) rfl rfl ?_ ?_
            · refine zg1 ?_
              refine st_nil ?_
              refine any_1 4 _ (by decide +kernel) rfl ?_
              refine zg1 ?_
              refine st_nil ?_
              refine any_1 5 _ (by decide +kernel) rfl ?_
              refine zg1 ?_
              refine st_nil ?_
              refine any_1 6 _ (by decide +kernel) rfl ?_
              refine zg1 ?_
              refine st_nil ?_
              refine any_0 (by decide +kernel) ?_
              refine zg2 ?_
              exact retCCT [] rfl rfl rfl (ratE.csize _) (ratL_all _) T29 (.pure (ratE.pure _)) rfl rfl (ratE.csize _) (ratL_all _) T29 (.pure (ratE.pure _)) rfl (.pure rfl)
            · refine zg1 ?_
              refine st_nil ?_
              refine any_2 3 5 _ _ (by decide +kernel) rfl rfl ?_ ?_
              · refine zg1 ?_
                refine st_nil ?_
                refine any_1 5 _ (by decide +kernel) rfl ?_
                refine zg1 ?_
                refine st_nil ?_
                refine any_1 6 _ (by decide +kernel) rfl ?_
                refine zg1 ?_
                refine st_nil ?_
                refine any_0 (by decide +kernel) ?_
                refine zg2 ?_
                exact retCCT [] rfl rfl rfl (ratE.csize _) (ratL_all _) T29 (.pure (ratE.pure _)) rfl rfl (ratE.csize _) (ratL_all _) T29 (.pure (ratE.pure _)) rfl (.pure rfl)
              · refine zg1 ?_
                refine st_nil ?_
                refine any_1 3 _ (by decide +kernel) rfl ?_
                refine zg1 ?_
                refine st_nil ?_
                refine any_1 6 _ (by decide +kernel) rfl ?_
                refine zg1 ?_
                refine st_nil ?_
                refine any_0 (by decide +kernel) ?_
                refine zg2 ?_
                exact retCCT [] rfl rfl rfl (ratE.csize _) (ratL_all _) T29 (.pure (ratE.pure _)) rfl rfl (ratE.csize _) (ratL_all _) T29 (.pure (ratE.pure _)) rfl (.pure rfl)
          · refine zg1 ?_
            refine st_nil ?_
            refine any_2 2 5 _ _ (by decide +kernel) rfl rfl ?_ ?_
            · refine zg1 ?_
              refine st_nil ?_
              refine any_2 3 5 _ _ (by decide +kernel) rfl rfl ?_ ?_
              · refine zg1 ?_
                refine st_nil ?_
                refine any_1 5 _ (by decide +kernel) rfl ?_
                refine zg1 ?_
                refine st_nil ?_
                refine any_1 6 _ (by decide +kernel) rfl ?_
                refine zg1 ?_
                refine st_nil ?_
                refine any_0 (by decide +kernel) ?_
                refine zg2 ?_
                exact retCCT [] rfl rfl rfl (ratE.csize _) (ratL_all _) T29 (.pure (ratE.pure _)) rfl rfl (ratE.csize _) (ratL_all _) T29 (.pure (ratE.pure _)) rfl (.pure rfl)
              · refine zg1 ?_
                refine st_nil ?_
                refine any_1 3 _ (by decide +kernel) rfl ?_
                refine zg1 ?_
                refine st_nil ?_
                refine any_1 6 _ (by decide +kernel) rfl ?_
                refine zg1 ?_
                refine st_nil ?_
                refine any_0 (by decide +kernel) ?_
                refine zg2 ?_
                exact retCCT [] rfl rfl rfl (ratE.csize _) (ratL_all _) T29 (.pure (ratE.pure _)) rfl rfl (ratE.csize _) (ratL_all _) T29 (.pure (ratE.pure _)) rfl (.pure rfl)
            · refine zg1 ?_
              refine st_nil ?_
              refine any_1 2 _ (by decide +kernel) rfl ?_
              refine zg1 ?_
              refine st_nil ?_
              refine any_1 3 _ (by decide +kernel) rfl ?_
              refine zg1 ?_
              refine st_nil ?_
              refine any_1 6 _ (by decide +kernel) rfl ?_
              refine zg1 ?_
              refine st_nil ?_
              refine any_0 (by decide +kernel) ?_
              refine zg2 ?_
              exact retCCT [] rfl rfl rfl (ratE.csize _) (ratL_all _) T29 (.pure (ratE.pure _)) rfl rfl (ratE.csize _) (ratL_all _) T29 (.pure (ratE.pure _)) rfl (.pure rfl)
        · refine zg1 ?_
          refine st_nil ?_
          refine any_2 0 3 _ _ (by decide +kernel) rfl rfl ?_ ?_
          · refine zg1 ?_
            refine st_nil ?_
            refine any_2 3 4 _ _ (by decide +kernel) rfl rfl ?_ ?_
            · refine zg1 ?_
              refine st_nil ?_
              refine any_1 4 _ (by decide +kernel) rfl ?_
              refine zg1 ?_
              refine st_nil ?_
              refine any_1 5 _ (by decide +kernel) rfl ?_
              refine zg1 ?_
              refine st_nil ?_
              refine any_1 6 _ (by decide +kernel) rfl ?_
              refine zg1 ?_
              refine st_nil ?_
              refine any_0 (by decide +kernel) ?_
              refine zg2 ?_
              exact retCCT [] rfl rfl rfl (ratE.csize _) (ratL_all _) T29 (.pure (ratE.pure _)) rfl rfl (ratE.csize _) (ratL_all _) T29 (.pure (ratE.pure _)) rfl (.pure rfl)
            · refine zg1 ?_
              refine st_nil ?_
              refine any_2 3 5 _ _ (by decide +kernel) rfl rfl ?_ ?_
              · refine zg1 ?_
                refine st_nil ?_
                refine any_1 5 _ (by decide +kernel) rfl ?_
                refine zg1 ?_
                refine st_nil ?_
                refine any_1 6 _ (by decide +kernel) rfl ?_
                refine zg1 ?_
                refine st_nil ?_
                refine any_0 (by decide +kernel) ?_
                refine zg2 ?_
                exact retCCT [] rfl rfl rfl (ratE.csize _) (ratL_all _) T29 (.pure (ratE.pure _)) rfl rfl (ratE.csize _) (ratL_all _) T29 (.pure (ratE.pure _)) rfl (.pure rfl)
              · refine zg1 ?_
                refine st_nil ?_
                refine any_1 3 _ (by decide +kernel) rfl ?_
                refine zg1 ?_
                refine st_nil ?_
                refine any_1 6 _ (by decide +kernel) rfl ?_
                refine zg1 ?_
                refine st_nil ?_
                refine any_0 (by decide +kernel) ?_
                refine zg2 ?_
                exact retCCT [] rfl rfl rfl (ratE.csize _) (ratL_all _) T29 (.pure (ratE.pure _)) rfl rfl (ratE.csize _) (ratL_all _) T29 (.pure (ratE.pure _)) rfl (.pure rfl)
          · refine zg1 ?_
            refine st_nil ?_
            refine any_1 0 _ (by decide +kernel) rfl ?_
            refine zg1 ?_
            refine st_nil ?_
            refine any_1 4 _ (by decide +kernel) rfl ?_
            refine zg1 ?_
            refine st_nil ?_
            refine any_1 5 _ (by decide +kernel) rfl ?_
            refine zg1 ?_
            refine st_nil ?_
            refine any_1 6 _ (by decide +kernel) rfl ?_
            refine zg1 ?_
            refine st_nil ?_
            refine any_0 (by decide +kernel) ?_
            refine zg2 ?_
            exact retCCT [] rfl rfl rfl (ratE.csize _) (ratL_all _) T29 (.pure (ratE.pure _)) rfl rfl (ratE.csize _) (ratL_all _) T29 (.pure (ratE.pure _)) rfl (.pure rfl)
      · refine zg1 ?_
        refine st_nil ?_
        refine any_3 0 1 3 _ _ _ (by decide +kernel) rfl rfl rfl ?_ ?_ ?_
        · refine zg1 ?_
          refine st_nil ?_
          refine any_3 1 3 4 _ _ _ (by decide +kernel) rfl rfl rfl ?_ ?_ ?_
          · refine zg1 ?_
            refine st_nil ?_
            refine any_2 3 4 _ _ (by decide +kernel) rfl rfl ?_ ?_
            · refine zg1 ?_
              refine st_nil ?_
              refine any_1 4 _ (by decide +kernel) rfl ?_
              refine zg1 ?_
              refine st_nil ?_
              refine any_1 5 _ (by decide +kernel) rfl ?_
              refine zg1 ?_
              refine st_nil ?_
              refine any_1 6 _ (by decide +kernel) rfl ?_
              refine zg1 ?_
              refine st_nil ?_
              refine any_0 (by decide +kernel) ?_
              refine zg2 ?_
              exact retCCT [] rfl rfl rfl (ratE.csize _) (ratL_all _) T29 (.pure (ratE.pure _)) rfl rfl (ratE.csize _) (ratL_all _) T29 (.pure (ratE.pure _)) rfl (.pure rfl)
            · refine zg1 ?_
              refine st_nil ?_
              refine any_2 3 5 _ _ (by decide +kernel) rfl rfl ?_ ?_
              · refine zg1 ?_
                refine st_nil ?_
                refine any_1 5 _ (by decide +kernel) rfl ?_
                refine zg1 ?_
                refine st_nil ?_
                refine any_1 6 _ (by decide +kernel) rfl ?_
                refine zg1 ?_
                refine st_nil ?_
                refine any_0 (by decide +kernel) ?_
                refine zg2 ?_
                exact retCCT [] rfl rfl rfl (ratE.csize _) (ratL_all _) T29 (.pure (ratE.pure _)) rfl rfl (ratE.csize _) (ratL_all _) T29 (.pure (ratE.pure _)) rfl (.pure rfl)
              · refine zg1 ?_
                refine st_nil ?_
                refine any_1 3 _ (by decide +kernel) rfl ?_
                refine zg1 ?_
                refine st_nil ?_
                refine any_1 6 _ (by decide +kernel) rfl ?_
                refine zg1 ?_
                refine st_nil ?_
                refine any_0 (by decide +kernel) ?_
                refine zg2 ?_
                exact retCCT [] rfl rfl rfl (ratE.csize _) (ratL_all _) T29 (.pure (ratE.pure _)) rfl rfl (ratE.csize _) (ratL_all _) T29 (.pure (ratE.pure _)) rfl (.pure rfl)
          · refine zg1 ?_
            refine st_nil ?_
            refine any_2 1 4 _ _ (by decide +kernel) rfl rfl ?_ ?_
            · refine zg1 ?_
              refine st_nil ?_
              refine any_1 4 _ (by decide +kernel) rfl ?_
              refine zg1 ?_
              refine st_nil ?_
              refine any_1 5 _ (by decide +kernel) rfl ?_
              refine zg1 ?_
              refine st_nil ?_
              refine any_1 6 _ (by decide +kernel) rfl ?_
              refine zg1 ?_
              refine st_nil ?_
              refine any_0 (by decide +kernel) ?_
              refine zg2 ?_
              exact retCCT [] rfl rfl rfl (ratE.csize _) (ratL_all _) T29 (.pure (ratE.pure _)) rfl rfl (ratE.csize _) (ratL_all _) T29 (.pure (ratE.pure _)) rfl (.pure rfl)
            · refine zg1 ?_
              refine st_nil ?_
              refine any_1 1 _ (by decide +kernel) rfl ?_
              refine zg1 ?_
              refine st_nil ?_
              refine any_1 5 _ (by decide +kernel) rfl ?_
              refine zg1 ?_
              refine st_nil ?_
              refine any_1 6 _ (by decide +kernel) rfl ?_
              refine zg1 ?_
              refine st_nil ?_
              refine any_0 (by decide +kernel) ?_
              refine zg2 ?_
              exact retCCT [] rfl rfl rfl (ratE.csize _) (ratL_all _) T29 (.pure (ratE.pure _)) rfl rfl (ratE.csize _) (ratL_all _) T29 (.pure (ratE.pure _)) rfl (.pure rfl)
          · refine zg1 ?_
            refine st_nil ?_
            refine any_2 1 3 _ _ (by decide +kernel) rfl rfl ?_ ?_
            · refine zg1 ?_
              refine st_nil ?_
              refine any_2 3 5 _ _ (by decide +kernel) rfl rfl ?_ ?_
              · refine zg1 ?_
                refine st_nil ?_
                refine any_1 5 _ (by decide +kernel) rfl ?_
                refine zg1 ?_
                refine st_nil ?_
                refine any_1 6 _ (by decide +kernel) rfl ?_
                refine zg1 ?_
                refine st_nil ?_
                refine any_0 (by decide +kernel) ?_
                refine zg2 ?_
                exact retCCT [] rfl rfl rfl (ratE.csize _) (ratL_all _) T29 (.pure (ratE.pure _)) rfl rfl (ratE.csize _) (ratL_all _) T29 (.pure (ratE.pure _)) rfl (.pure rfl)
              · refine zg1 ?_
                refine st_nil ?_
                refine any_1 3 _ (by decide +kernel) rfl ?_
                refine zg1 ?_
                refine st_nil ?_
                refine any_1 6 _ (by decide +kernel) rfl ?_
                refine zg1 ?_
                refine st_nil ?_
                refine any_0 (by decide +kernel) ?_
                refine zg2 ?_
                exact retCCT [] rfl rfl rfl (ratE.csize _) (ratL_all _) T29 (.pure (ratE.pure _)) rfl rfl (ratE.csize _) (ratL_all _) T29 (.pure (ratE.pure _)) rfl (.pure rfl)
            · refine zg1 ?_
              refine st_nil ?_
              refine any_1 1 _ (by decide +kernel) rfl ?_
              refine zg1 ?_
              refine st_nil ?_
              refine any_1 5 _ (by decide +kernel) rfl ?_
              refine zg1 ?_
              refine st_nil ?_
              refine any_1 6 _ (by decide +kernel) rfl ?_
              refine zg1 ?_
              refine st_nil ?_
              refine any_0 (by decide +kernel) ?_
              refine zg2 ?_
              exact retCCT [] rfl rfl rfl (ratE.csize _) (ratL_all _) T29 (.pure (ratE.pure _)) rfl rfl (ratE.csize _) (ratL_all _) T29 (.pure (ratE.pure _)) rfl (.pure rfl)
        · refine zg1 ?_
          refine st_nil ?_
          refine any_2 0 3 _ _ (by decide +kernel) rfl rfl ?_ ?_
          · refine zg1 ?_
            refine st_nil ?_
            refine any_2 3 4 _ _ (by decide +kernel) rfl rfl ?_ ?_
            · refine zg1 ?_
              refine st_nil ?_
              refine any_1 4 _ (by decide +kernel) rfl ?_
              refine zg1 ?_
              refine st_nil ?_
              refine any_1 5 _ (by decide +kernel) rfl ?_
              refine zg1 ?_
              refine st_nil ?_
              refine any_1 6 _ (by decide +kernel) rfl ?_
              refine zg1 ?_
              refine st_nil ?_
              refine any_0 (by decide +kernel) ?_
              refine zg2 ?_
              exact retCCT [] rfl rfl rfl (ratE.csize _) (ratL_all _) T29 (.pure (ratE.pure _)) rfl rfl (ratE.csize _) (ratL_all _) T29 (.pure (ratE.pure _)) rfl (.pure rfl)
            · refine zg1 ?_
              refine st_nil ?_
              refine any_2 3 5 _ _ (by decide +kernel) rfl rfl ?_ ?_
              · refine zg1 ?_
                refine st_nil ?_
                refine any_1 5 _ (by decide +kernel) rfl ?_
                refine zg1 ?_
                refine st_nil ?_
                refine any_1 6 _ (by decide +kernel) rfl ?_
                refine zg1 ?_
                refine st_nil ?_
                refine any_0 (by decide +kernel) ?_
                refine zg2 ?_
                exact retCCT [] rfl rfl rfl (ratE.csize _) (ratL_all _) T29 (.pure (ratE.pure _)) rfl rfl (ratE.csize _) (ratL_all _) T29 (.pure (ratE.pure _)) rfl (.pure rfl)
              · refine zg1 ?_
                refine st_nil ?_
                refine any_1 3 _ (by decide +kernel) rfl ?_
                refine zg1 ?_
                refine st_nil ?_
                refine any_1 6 _ (by decide +kernel) rfl ?_
                refine zg1 ?_
                refine st_nil ?_
                refine any_0 (by decide +kernel) ?_
                refine zg2 ?_
                exact retCCT [] rfl rfl rfl (ratE.csize _) (ratL_all _) T29 (.pure (ratE.pure _)) rfl rfl (ratE.csize _) (ratL_all _) T29 (.pure (ratE.pure _)) rfl (.pure rfl)
          · refine zg1 ?_
            refine st_nil ?_
            refine any_1 0 _ (by decide +kernel) rfl ?_
            refine zg1 ?_
            refine st_nil ?_
            refine any_1 4 _ (by decide +kernel) rfl ?_
            refine zg1 ?_
            refine st_nil ?_
            refine any_1 5 _ (by decide +kernel) rfl ?_
            refine zg1 ?_
            refine st_nil ?_
            refine any_1 6 _ (by decide +kernel) rfl ?_
            refine zg1 ?_
            refine st_nil ?_
            refine any_0 (by decide +kernel) ?_
            refine zg2 ?_
            exact retCCT [] rfl rfl rfl (ratE.csize _) (ratL_all _) T29 (.pure (ratE.pure _)) rfl rfl (ratE.csize _) (ratL_all _) T29 (.pure (ratE.pure _)) rfl (.pure rfl)
        · refine zg1 ?_
          refine st_nil ?_
          refine any_2 0 1 _ _ (by decide +kernel) rfl rfl ?_ ?_
          · refine zg1 ?_
            refine st_nil ?_
            refine any_2 1 4 _ _ (by decide +kernel) rfl rfl ?_ ?_
            · refine zg1 ?_
              refine st_nil ?_
              refine any_1 4 _ (by decide +kernel) rfl ?_
              refine zg1 ?_
              refine st_nil ?_
              refine any_1 5 _ (by decide +kernel) rfl ?_
              refine zg1 ?_
              refine st_nil ?_
              refine any_1 6 _ (by decide +kernel) rfl ?_
              refine zg1 ?_
              refine st_nil ?_
              refine any_0 (by decide +kernel) ?_
              refine zg2 ?_
              exact retCCT [] rfl rfl rfl (ratE.csize _) (ratL_all _) T29 (.pure (ratE.pure _)) rfl rfl (ratE.csize _) (ratL_all _) T29 (.pure (ratE.pure _)) rfl (.pure rfl)
            · refine zg1 ?_
              refine st_nil ?_
              refine any_1 1 _ (by decide +kernel) rfl ?_
              refine zg1 ?_
              refine st_nil ?_
              refine any_1 5 _ (by decide +kernel) rfl ?_
              refine zg1 ?_
              refine st_nil ?_
              refine any_1 6 _ (by decide +kernel) rfl ?_
              refine zg1 ?_
              refine st_nil ?_
              refine any_0 (by decide +kernel) ?_
              refine zg2 ?_
              exact retCCT [] rfl rfl rfl (ratE.csize _) (ratL_all _) T29 (.pure (ratE.pure _)) rfl rfl (ratE.csize _) (ratL_all _) T29 (.pure (ratE.pure _)) rfl (.pure rfl)
          · refine zg1 ?_
            refine st_nil ?_
            refine any_1 0 _ (by decide +kernel) rfl ?_
            refine zg1 ?_
            refine st_nil ?_
            refine any_1 4 _ (by decide +kernel) rfl ?_
            refine zg1 ?_
            refine st_nil ?_
            refine any_1 5 _ (by decide +kernel) rfl ?_
            refine zg1 ?_
            refine st_nil ?_
            refine any_1 6 _ (by decide +kernel) rfl ?_
            refine zg1 ?_
            refine st_nil ?_
            refine any_0 (by decide +kernel) ?_
            refine zg2 ?_
            exact retCCT [] rfl rfl rfl (ratE.csize _) (ratL_all _) T29 (.pure (ratE.pure _)) rfl rfl (ratE.csize _) (ratL_all _) T29 (.pure (ratE.pure _)) rfl (.pure rfl)
namespace H_c_FourP
theorem zSm {p q : Prop} (k : q) (e : p = q := by simp only [e1, e2, e3, e4, p1, p2, p3, q1, q2, q3, l1, t0, t1, r1, r2, r3, r4, Nat.zero_add, Nat.reduceMul, Nat.reduceAdd, b1, b2, b3, b4, b5, b6, i1, i2, i3, i4, i5, i6, Nat.reduceBEq, List.getD_cons_zero, List.set_cons_zero, List.set_cons_succ, Nat.reduceEqDiff, reduceIte, if_true, if_false, ptL_kill, poL_kill, kills_map ptE, kills_map poE, kills_map ratE, ratL_kill, spL_kill, LV.kill, kills]; exact rfl) : p := e.mpr k
end H_c_FourP
open H_c_FourP in
theorem c_FourP (n0 n1 n2 w : Rat) (R : Nat) (hR : R ≤ 1000000000) (h0 : rl n0 ≤ R) (h1 : rl n1 ≤ R) (h2 : rl n2 ≤ R) (hw : rl w ≤ R) (hpos : 0 < w) : CallP Tryz.prog 153 [.agg [ratL n0, ratL n1, ratL n2, ratL w]] (poL ⟨⟨n0 / w, n1 / w, n2 / w⟩, w⟩) := by
  have hA := c_RAdd w 0 (by have : rl 0 = 1 := rfl; omega)
  rw [Rat.add_zero] at hA
  have hne : w ≠ 0 := by grind
  have hQ0 : CallP Tryz.prog 125 [ratL n0, ratL w] (.tup [ratL (n0 / w), iL 0]) := by
    have := c_RQuo n0 w (by omega)
    rwa [if_neg hne] at this
  have hQ1 : CallP Tryz.prog 125 [ratL n1, ratL w] (.tup [ratL (n1 / w), iL 0]) := by
    have := c_RQuo n1 w (by omega)
    rwa [if_neg hne] at this
  have hQ2 : CallP Tryz.prog 125 [ratL n2, ratL w] (.tup [ratL (n2 / w), iL 0]) := by
    have := c_RQuo n2 w (by omega)
    rwa [if_neg hne] at this
  refine fnP Tryz.func153 (ht := (fun g => LV.ren_pure g _ (poE.pure _))) ?_
  refine zg8 ?_
  try simp only [List.getD_cons_zero]
  refine zg2 ?_
  refine st_pure rfl (.build0 SL29 Z29a) ?_
  refine cp am2 (hA) ?_
  refine s0bd (bdW rfl) ?_
  refine zg11 ?_
  refine wl_unroll ?_
  refine zg6 ?_
  refine wl_condX (b := _) rfl (by decide) ?_
  refine zg10 ?_
  refine wl_regF 12 [9] (by decide +kernel) ?_
  refine zg6 ?_
  refine cp am2 (hQ0) ?_
  refine zg14 ?_
  refine wl_unroll ?_
  refine zg6 ?_
  refine wl_condX (b := _) rfl (by decide) ?_
  refine zg10 ?_
  refine wl_regF 12 [9] (by decide +kernel) ?_
  refine zg6 ?_
  refine cp am2 (hQ1) ?_
  refine zg14 ?_
  refine wl_unroll ?_
  refine zg6 ?_
  refine wl_condX (b := _) rfl (by decide) ?_
  refine zg10 ?_
  refine wl_regF 12 [9] (by decide +kernel) ?_
  refine zg6 ?_
  refine cp am2 (hQ2) ?_
  refine zg14 ?_
  refine wl_unroll ?_
  refine zg6 ?_
  refine wl_condY (b := _) rfl (by decide) ?_
  refine zg12 ?_
  exact retC [] rfl rfl rfl cs (at_all cs rfl) T100 (.pure pu)
namespace H_c_Cut2
theorem zSm {p q : Prop} (k : q) (e : p = q := by simp only [e1, e2, e3, e4, p1, p2, p3, q1, q2, q3, l1, t0, t1, r1, r2, r3, r4, Nat.zero_add, Nat.reduceMul, Nat.reduceAdd, b1, b2, b3, b4, b5, b6, i1, i2, i3, i4, i5, i6, Nat.reduceBEq, List.take_zero, etk, ersA, ersB, ers, dfq, hn0, hn1, hn2, hn3, List.length_map, take_map_len, map_snoc, len_snoc, List.length_cons, List.length_nil, List.nil_append, List.map_nil, List.take_nil, List.append_nil, List.set_cons_zero, List.set_cons_succ, Nat.reduceEqDiff, reduceIte, if_true, if_false, ptL_kill, poL_kill, kills_map ptE, kills_map poE, kills_map ratE, ratL_kill, spL_kill, LV.kill, kills]; exact rfl) : p := e.mpr k
end H_c_Cut2
open H_c_Cut2 in
theorem c_Cut2 (d : Nat) (a b : Rat) (po : List PoR) (ha : rl a ≤ 100) (hb : rl b ≤ 100) (hab : a < b) (h9 : d ≤ 6) (lo hi x y : Rat) (hlo0 : rl lo ≤ 100) (hhi0 : rl hi ≤ 100) (k1 : a ≤ lo) (k2 : lo < hi) (k3 : hi ≤ b) (hx : (lo - a) / (b - a) = x) (hy : (hi - a) / (b - a) = y) (hx1 : x < 1) (hxr : rl (1 - x) + rl x + 1 ≤ 20) (hyr : rl (1 - y) + rl y + 1 ≤ 20) (R : Nat) (hR : R ≤ 1000000) (h : cvR po d R) (hN : ∀ k, ∀ z ∈ nmP po k, rl z ≤ 100000) (hW : ∀ z ∈ wtP po, rl z ≤ 100000) (hx0 : 0 ≤ x) (hy0 : 0 ≤ y) (hy1 : y ≤ 1) : CallP Tryz.prog 55 [.agg [nI64 d, .list 3 ((kn2 d a b).map ratL), .list 12 (po.map poL)], ratL lo, ratL hi] (.tup [.agg [nI64 d, .list 3 ((kn2 d lo hi).map ratL), .list 12 ((cutP po x y).map poL)], iL 0]) := by
  have hl := h.hl
  have hd := h.hd
  have h6 := h.h6
  have hcp : LV.pure (.agg [nI64 d, .list 3 ((kn2 d a b).map ratL), .list 12 (po.map poL)]) = true := by simp [LV.pure, pures, pures_map ratE, pures_map poE]
  have hOx := c_own2 d a b po ha hb hab h9 lo x hlo0 k1 (by grind) hx (by omega)
  have hOy := c_own2 d a b po ha hb hab h9 hi y hhi0 (by grind) k3 hy (by omega)
  have hcm : ¬0 ≤ cmpR lo hi := fun e => by have := cmpR_ge.1 e; grind
  have hrx : rl x ≤ 20 := by omega
  have hry : rl y ≤ 20 := by omega
  have hr0 : rl 0 = 1 := rfl
  have hAl := c_RAdd lo 0 (by omega)
  have hAh := c_RAdd hi 0 (by omega)
  rw [Rat.add_zero] at hAl hAh
  have hkl := kn2_len d lo hi
  have hw3 := cR_wl h
  have hq0 := cR_nl h 0
  have hq1 := cR_nl h 1
  have hq2 := cR_nl h 2
  have hn0 : (partF (nmP po 0) x y).length = d + 1 := by rw [partF_len]; omega
  have hn1 : (partF (nmP po 1) x y).length = d + 1 := by rw [partF_len]; omega
  have hn2 : (partF (nmP po 2) x y).length = d + 1 := by rw [partF_len]; omega
  have hn3 : (partF (wtP po) x y).length = d + 1 := by rw [partF_len]; omega
  have hsy := rl_sub y x
  have hpu : ∀ l : List Rat, pures (l.map ratL) = true := fun l => pures_map ratE l
  have hcp4 : ∀ q0 q1' q2' q3' : Rat, LV.pure (.agg [ratL q0, ratL q1', ratL q2', ratL q3']) = true := fun _ _ _ _ => by simp [LV.pure, pures, ratE.pure]
  have hsx := rl_sub 1 x
  have hdv := rl_div (y - x) (1 - x)
  have hne : 1 - x ≠ 0 := by grind
  have hP : ∀ p : List Rat, p.length = d + 1 → (∀ z ∈ p, rl z ≤ 100000) → CallP Tryz.prog 151 [.list 3 (p.map ratL), ratL x, ratL y] (.list 3 ((partF p x y).map ratL)) := fun p hp hz => by
    have := c_Part p x y (by omega) (by omega) (fun z hh => Nat.le_trans (hz z hh) (by decide)) (by omega) (fun _ => ⟨hs_ofL (by omega) (fun z hh => Nat.le_trans (hz z hh) (by decide)) (by omega), hs_ofL (by rw [hiP_len]; omega) (fun z hh => Nat.le_trans (hi_rl (by omega) hz (by decide) hxr z hh) (by decide)) (by omega)⟩) (fun e => absurd e hne)
    rwa [part_eq] at this
  have hP0 := hP (nmP po 0) (by omega) (hN 0)
  have hP1 := hP (nmP po 1) (by omega) (hN 1)
  have hP2 := hP (nmP po 2) (by omega) (hN 2)
  have hP3 := hP (wtP po) (by omega) hW
  refine fnP Tryz.func55 (ht := (tame2 (by simp [LV.pure, pures, pures_map ratE, pures_map poE]) rfl)) ?_
  have etk : True := trivial
  have ersA : True := trivial
  have ersB : True := trivial
  have ers : True := trivial
  refine zg13 ?_
  refine cp am2 (hOx) ?_
  refine zg15 ?_
  refine cp am2 (hOy) ?_
  refine zg17 ?_
  refine st_pure (guardX (v := false) rfl rfl ((rfl)) rfl) (.move _) ?_
  refine st_pure (guardX (v := false) rfl rfl ((rfl)) rfl) (.not rfl) ?_
  refine st_pure rfl (.pickF rfl ((rfl))) ?_
  refine zg1 ?_
  refine st_pure (guardX (v := false) rfl rfl ((rfl)) rfl) ldA ?_
  refine st_pure (guardX (v := false) rfl rfl ((rfl)) rfl) ldA ?_
  refine st_callP (guardX (v := false) rfl rfl ((rfl)) rfl) (.cons im0 (.cons im0 .nil)) (c_RCmp lo hi (by omega)) ?_
  refine st_pure (guardX (v := false) rfl rfl ((rfl)) rfl) (.bin rfl rfl rfl) ?_
  refine st_pure rfl (.pickF rfl ((rfl))) ?_
  refine zg2 ?_
  refine wl_if rfl (fun h46r h46 => ?_) (fun h46r h46 => ?_)
  · first | exact hcm h46 | omega
  · refine zg11 ?_
    refine cp am1 (c_BNum2 d (kn2 d a b) po R hR h) ?_
    refine zg4 ?_
    refine wl_unroll ?_
    refine zg6 ?_
    refine wl_condX (b := _) rfl (by decide) ?_
    refine zg17 ?_
    refine cp am3 (hP0) ?_
    refine zg10 ?_
    refine wl_unroll ?_
    refine zg6 ?_
    refine wl_condX (b := _) rfl (by decide) ?_
    refine zg17 ?_
    refine cp am3 (hP1) ?_
    refine zg10 ?_
    refine wl_unroll ?_
    refine zg6 ?_
    refine wl_condX (b := _) rfl (by decide) ?_
    refine zg17 ?_
    refine cp am3 (hP2) ?_
    refine zg10 ?_
    refine wl_unroll ?_
    refine zg6 ?_
    refine wl_condX (b := _) rfl (by decide) ?_
    refine zg17 ?_
    refine cp am3 (hP3) ?_
    refine zg10 ?_
    refine wl_unroll ?_
    refine zg6 ?_
    refine wl_condY (b := _) rfl (by decide) ?_
    refine zg19 ?_
    refine st_pure rfl (.bin rfl rfl (add1N (by omega))) ?_
    refine st_pure rfl (.bin rfl rfl (mul2N (by omega))) ?_
    refine zg4 ?_
    refine wl_weak ((Weak.cell 17 rfl (fun Z μ w cs h => rep_crv2 83 3 _ _ Z μ w cs h)).trans (Weak.newB _ 83 3 rfl)) ?_
    refine lp1 (fun (m : Nat) L => (((((((((St.mk L.slot (hp [(3, ⟨3, [.agg [nI64 d, .list 3 ((kn2 d a b).map ratL), .list 12 (po.map poL)]], true⟩), (4, ⟨3, [ratL lo], true⟩), (5, ⟨3, [ratL hi], true⟩), (6, ⟨3, [.agg [.v (.int .i64 0), .v (.slice none 0 0), .v (.slice none 0 0)]], true⟩), (8, ⟨3, [ratL x], true⟩), (9, ⟨3, [ratL (b - a)], true⟩), (11, ⟨3, [ratL y], true⟩), (12, ⟨3, [ratL (b - a)], true⟩), (14, ⟨4, [.agg [.list 3 ((partF (nmP po 0) x y).map ratL), .list 3 ((partF (nmP po 1) x y).map ratL), .list 3 ((partF (nmP po 2) x y).map ratL), .list 3 ((partF (wtP po) x y).map ratL)]], true⟩), (17, ⟨3, [.agg [nI64 d, .ref 83 3 0 m, .v (.slice none 0 0)]], true⟩), (83, ⟨3, ((kn2 d lo hi).take m).map ratL, true⟩)])).put (some 3) (.eptr 3 3 0 0)).put (some 4) (.eptr 4 3 0 0)).put (some 5) (.eptr 5 3 0 0)).put (some 6) (.eptr 6 3 0 0)).put (some 14) (.eptr 14 4 0 0)).put (some 17) (.eptr 17 3 0 0)).put (some 67) (nI64 (2 * (d + 1)))).put (some 68) (nI64 m))) (fun m => m ≤ 2 * (d + 1)) (fun m => 2 * (d + 1) - m) 0 (Nat.zero_le _) ?_
    rintro m L2 hm
    refine zg6 ?_
    refine wl_if rfl (fun h69r h69 => ?_) (fun h69r h69 => ?_)
    · have hm2 : m < 2 * (d + 1) := by omega
      have hdt : ((kn2 d lo hi).take m).length = m := by rw [List.length_take]; omega
      have etk : (((kn2 d lo hi).take m).map ratL).take m = ((kn2 d lo hi).take m).map ratL := List.take_of_length_le (by rw [List.length_map]; omega)
      refine zg26 ?_
      refine wl_if rfl (fun h75r h75 => ?_) (fun h75r h75 => ?_)
      · have hmd : ¬m ≤ d := by omega
        have ersB := kn2_stB (a := lo) (b := hi) hm2 hmd
        refine zg5 ?_
        refine wl_regD 6 (by decide +kernel) ?_
        refine zg4 ?_
        first | refine cp am2 hAl ?_ | refine cp am2 hAh ?_
        refine zg1 ?_
        first | refine st_store rfl (.app (news := [ratL lo]) rfl rfl rfl rfl rfl (by rw [List.length_map]; omega) (.inl rfl) (by decide) Tryz.underlying33 Tryz.underlying33 Z29a T29 rfl B29 (.inl ⟨82, 0, _, rfl, by decide, rfl, rfl, by simp, rfl, by simp [pures, ratE.pure]⟩) (by simp; omega) (by simp; omega) (by decide)) ?_ | refine st_store rfl (.app (news := [ratL hi]) rfl rfl rfl rfl rfl (by rw [List.length_map]; omega) (.inl rfl) (by decide) Tryz.underlying33 Tryz.underlying33 Z29a T29 rfl B29 (.inl ⟨82, 0, _, rfl, by decide, rfl, rfl, by simp, rfl, by simp [pures, ratE.pure]⟩) (by simp; omega) (by simp; omega) (by decide)) ?_
        refine zg5 ?_
        refine wl_regW ((Weak.kill _ 19).trans (Weak.kill _ 82)) ?_
        refine st_pure rfl (.bin rfl rfl (add1N (by omega))) ?_
        refine zg3 ?_
        exact nx1 (m + 1) (by omega)
      · have hmd : m ≤ d := by omega
        have ersA := kn2_stA (a := lo) (b := hi) hm2 hmd
        refine zg2 ?_
        refine wl_regD 6 (by decide +kernel) ?_
        refine zg4 ?_
        first | refine cp am2 hAl ?_ | refine cp am2 hAh ?_
        refine zg1 ?_
        first | refine st_store rfl (.app (news := [ratL lo]) rfl rfl rfl rfl rfl (by rw [List.length_map]; omega) (.inl rfl) (by decide) Tryz.underlying33 Tryz.underlying33 Z29a T29 rfl B29 (.inl ⟨82, 0, _, rfl, by decide, rfl, rfl, by simp, rfl, by simp [pures, ratE.pure]⟩) (by simp; omega) (by simp; omega) (by decide)) ?_ | refine st_store rfl (.app (news := [ratL hi]) rfl rfl rfl rfl rfl (by rw [List.length_map]; omega) (.inl rfl) (by decide) Tryz.underlying33 Tryz.underlying33 Z29a T29 rfl B29 (.inl ⟨82, 0, _, rfl, by decide, rfl, rfl, by simp, rfl, by simp [pures, ratE.pure]⟩) (by simp; omega) (by simp; omega) (by decide)) ?_
        refine zg5 ?_
        refine wl_regW ((Weak.kill _ 19).trans (Weak.kill _ 82)) ?_
        refine st_pure rfl (.bin rfl rfl (add1N (by omega))) ?_
        refine zg3 ?_
        exact nx1 (m + 1) (by omega)
    · obtain rfl : m = 2 * (d + 1) := by omega
      have hEk : (kn2 d lo hi).take (2 * (d + 1)) = (kn2 d lo hi) := List.take_of_length_le (by omega)
      simp only [hEk]
      refine zg15 ?_
      refine wl_weak ((Weak.cell 17 rfl (fun Z μ w cs h => rep_net 117 12 _ _ Z μ w cs h)).trans (Weak.newB _ 117 12 rfl)) ?_
      refine lp1 (fun (j : Nat) L => (((((((((St.mk L.slot (hp [(3, ⟨3, [.agg [nI64 d, .list 3 ((kn2 d a b).map ratL), .list 12 (po.map poL)]], true⟩), (4, ⟨3, [ratL lo], true⟩), (5, ⟨3, [ratL hi], true⟩), (6, ⟨3, [.agg [.v (.int .i64 0), .v (.slice none 0 0), .v (.slice none 0 0)]], true⟩), (8, ⟨3, [ratL x], true⟩), (9, ⟨3, [ratL (b - a)], true⟩), (11, ⟨3, [ratL y], true⟩), (12, ⟨3, [ratL (b - a)], true⟩), (14, ⟨4, [.agg [.list 3 ((partF (nmP po 0) x y).map ratL), .list 3 ((partF (nmP po 1) x y).map ratL), .list 3 ((partF (nmP po 2) x y).map ratL), .list 3 ((partF (wtP po) x y).map ratL)]], true⟩), (17, ⟨3, [.agg [nI64 d, .ref 83 3 0 (2 * (d + 1)), .ref 117 12 0 j]], true⟩), (83, ⟨3, (kn2 d lo hi).map ratL, true⟩), (117, ⟨12, ((cutP po x y).take j).map poL, true⟩)])).put (some 3) (.eptr 3 3 0 0)).put (some 4) (.eptr 4 3 0 0)).put (some 5) (.eptr 5 3 0 0)).put (some 6) (.eptr 6 3 0 0)).put (some 14) (.eptr 14 4 0 0)).put (some 17) (.eptr 17 3 0 0)).put (some 88) (nI64 (d + 1))).put (some 89) (nI64 j))) (fun j => j ≤ d + 1) (fun j => d + 1 - j) 0 (Nat.zero_le _) ?_
      rintro j L3 hj
      refine zg6 ?_
      refine wl_if rfl (fun h90r h90 => ?_) (fun h90r h90 => ?_)
      · have hj2 : j < d + 1 := by omega
        have hpj := cut_pos h hx0 hx1 hy0 hy1 (j := j) (by omega)
        have hdt : ((cutP po x y).take j).length = j := by rw [List.length_take, cutP_len]; omega
        have etk : (((cutP po x y).take j).map poL).take j = ((cutP po x y).take j).map poL := List.take_of_length_le (by rw [List.length_map]; omega)
        have ers : (cutP po x y).take j ++ [cpQ po x y j] = (cutP po x y).take (j + 1) := by
          rw [← cutP_get (x := x) (y := y) (show j < po.length by omega), List.take_add_one, List.getD_eq_getElem?_getD, List.getElem?_eq_getElem (by rw [cutP_len]; omega)]; rfl
        have hcw : rl ((partF (wtP po) x y).getD j 0) ≤ 500000000 := by
          rw [cut_w h hx1 (by omega)]
          exact Nat.le_trans (pc_rl (R := 100000) hxr hyr h6 (by omega) fun i => getD_rl (by decide) hW i) (by decide)
        have hcn0 : rl ((partF (nmP po 0) x y).getD j 0) ≤ 500000000 := by
          rw [cut_n h hx1 0 (by omega)]
          exact Nat.le_trans (pc_rl (R := 100000) hxr hyr h6 (by omega) fun i => getD_rl (by decide) (hN 0) i) (by decide)
        have hcn1 : rl ((partF (nmP po 1) x y).getD j 0) ≤ 500000000 := by
          rw [cut_n h hx1 1 (by omega)]
          exact Nat.le_trans (pc_rl (R := 100000) hxr hyr h6 (by omega) fun i => getD_rl (by decide) (hN 1) i) (by decide)
        have hcn2 : rl ((partF (nmP po 2) x y).getD j 0) ≤ 500000000 := by
          rw [cut_n h hx1 2 (by omega)]
          exact Nat.le_trans (pc_rl (R := 100000) hxr hyr h6 (by omega) fun i => getD_rl (by decide) (hN 2) i) (by decide)
        have hFP : CallP Tryz.prog 153 [.agg [ratL ((partF (nmP po 0) x y).getD j 0), ratL ((partF (nmP po 1) x y).getD j 0), ratL ((partF (nmP po 2) x y).getD j 0), ratL ((partF (wtP po) x y).getD j 0)]] (poL (cpQ po x y j)) := c_FourP _ _ _ _ 500000000 (by decide) hcn0 hcn1 hcn2 hcw hpj
        refine zg10 ?_
        refine wl_regD 25 (by decide +kernel) ?_
        refine zg23 ?_
        have hcp5 := hcp4 ((partF (nmP po 0) x y).getD j 0) ((partF (nmP po 1) x y).getD j 0) ((partF (nmP po 2) x y).getD j 0) ((partF (wtP po) x y).getD j 0)
        refine cp am1 (hFP) ?_
        refine zg1 ?_
        refine st_store rfl (.app (news := [poL (cpQ po x y j)]) rfl rfl rfl rfl rfl (by rw [List.length_map]; omega) (.inl rfl) (by decide) Tryz.underlying34 Tryz.underlying34 Z100 T100 cs B100 (.inl ⟨116, 0, _, rfl, by decide, rfl, rfl, by simp, rfl, by simp [pures, poE.pure]⟩) (by simp; omega) (by simp; omega) (by decide)) ?_
        refine zg5 ?_
        refine wl_regW (Weak.kill _ 116) ?_
        refine st_pure rfl (.bin rfl rfl (add1N (by omega))) ?_
        refine zg3 ?_
        exact nx1 (j + 1) (by omega)
      · obtain rfl : j = d + 1 := by omega
        have hEp : (cutP po x y).take (d + 1) = (cutP po x y) := List.take_of_length_le (by rw [cutP_len]; omega)
        refine zg13 ?_
        simp only [hEp]
        exact retCT [83, 117] rfl rfl rfl cs (at_all cs rfl) T36 (.agg (.cons (.pure rfl) (.cons (imm_refm (l := kn2 d lo hi) ratE rfl rfl hkl.symm) (.cons (imm_refm (l := cutP po x y) poE rfl rfl (by rw [cutP_len]; omega)) .nil)))) rfl (.pure rfl)
end Go.Proofs.YtgfbghoihhnahaaGreat
end
section
set_option linter.unusedVariables false
set_option linter.unusedSimpArgs false
set_option maxHeartbeats 8000000
set_option maxRecDepth 100000
attribute [local irreducible] Go.Lg.opsL Go.Lg.wpL Go.Lg.thenL Go.Lg.blockL
namespace Go.Proofs.YtgfbghoihhnahaaGreat
open Go.Lg
/-- over knots without inner ones the sum with coefficients is the value of a polynomial -/
theorem ng_step {D : Nat} {a b t x : Rat} (hab : b - a ≠ 0) (hx : (t - a) / (b - a) = x) {e j : Nat} (he : e < D) (hj : j ≤ e + 1) :
    nfn (kn2 D a b) D t (e + 1) (D - (e + 1) + j) = (if 1 ≤ j then x * nfn (kn2 D a b) D t e (D - e + (j - 1)) else 0) + (if j ≤ e then (1 - x) * nfn (kn2 D a b) D t e (D - e + j) else 0) := by
  have g := kn2_get D a b
  have hx2 : (b - t) / (b - a) = 1 - x := by
    have c1 : x * (b - a) = t - a := by rw [← hx]; exact Rat.div_mul_cancel hab
    have e1 : b - t = (1 - x) * (b - a) := by grind
    rw [e1, Rat.div_def, Rat.mul_assoc, Rat.mul_inv_cancel _ hab, Rat.mul_one]
  rw [nfn]
  have hk1 : (kn2 D a b).getD (D - (e + 1) + j) 0 = a := by rw [g _ (by omega), if_pos (by omega)]
  have hk4 : (kn2 D a b).getD (D - (e + 1) + j + (e + 1) + 1) 0 = b := by rw [g _ (by omega), if_neg (by omega)]
  rw [if_neg (by omega), hk1, hk4]
  have hi : D - (e + 1) + j + 1 = D - e + j := by omega
  rw [hi]
  congr 1
  · by_cases h1 : 1 ≤ j
    · rw [if_pos h1]
      have hk2 : (kn2 D a b).getD (D - (e + 1) + j + (e + 1)) 0 = b := by rw [g _ (by omega), if_neg (by omega)]
      rw [hk2, hx, show D - (e + 1) + j = D - e + (j - 1) by omega]
    · rw [if_neg h1]
      obtain rfl : j = 0 := by omega
      have hz : nfn (kn2 D a b) D t e (D - (e + 1) + 0) = 0 := by
        cases e with
        | zero => rw [nfn, if_neg (by omega)]
        | succ e => rw [nfn, if_pos (.inr (by omega))]
      rw [hz, Rat.mul_zero]
  · by_cases h1 : j ≤ e
    · rw [if_pos h1]
      have hk3 : (kn2 D a b).getD (D - e + j) 0 = a := by rw [g _ (by omega), if_pos (by omega)]
      rw [hk3, hx2]
    · rw [if_neg h1]
      obtain rfl : j = e + 1 := by omega
      have hz : nfn (kn2 D a b) D t e (D - e + (e + 1)) = 0 := by
        cases e with
        | zero => rw [nfn, if_neg (by omega)]
        | succ e => rw [nfn, if_pos (.inl (by omega))]
      rw [hz, Rat.mul_zero]
theorem ng_sum {D : Nat} {a b t x : Rat} (hab : b - a ≠ 0) (hx : (t - a) / (b - a) = x) : ∀ (e : Nat) (c : Nat → Rat), e ≤ D → sm (e + 1) (fun j => nfn (kn2 D a b) D t e (D - e + j) * c j) = fE (1 - x) x e c
  | 0, c, h => by
    show 0 + nfn _ _ _ 0 (D - 0 + 0) * c 0 = c 0
    rw [nfn, if_pos (by omega), Rat.zero_add, Rat.one_mul]
  | e + 1, c, h => by
    have ih := ng_sum (D := D) (t := t) hab hx e (fun i => (1 - x) * c i + x * c (i + 1)) (by omega)
    rw [fE, ← ih]
    obtain ⟨N, hN⟩ : ∃ N : Nat → Rat, N = fun j => nfn (kn2 D a b) D t e (D - e + j) := ⟨_, rfl⟩
    have e1 : sm (e + 1 + 1) (fun j => nfn (kn2 D a b) D t (e + 1) (D - (e + 1) + j) * c j) =
        sm (e + 2) (fun j => (if 1 ≤ j then x * (N (j - 1) * c j) else 0)) + sm (e + 2) (fun j => if j ≤ e then (1 - x) * (N j * c j) else 0) := by
      rw [← sm_add]
      refine sm_congr _ _ _ fun j hj => ?_
      rw [ng_step hab hx (by omega) (by omega), hN]
      split <;> split <;> grind
    have e2 : sm (e + 2) (fun j => (if 1 ≤ j then x * (N (j - 1) * c j) else 0)) = sm (e + 1) (fun j => x * (N j * c (j + 1))) := by
      rw [sm_head, if_neg (by omega), Rat.zero_add]
      refine sm_congr _ _ _ fun j hj => ?_
      rw [if_pos (by omega), Nat.add_sub_cancel]
    have e3 : sm (e + 2) (fun j => if j ≤ e then (1 - x) * (N j * c j) else 0) = sm (e + 1) (fun j => (1 - x) * (N j * c j)) := by
      rw [sm, if_neg (by omega), Rat.add_zero]
      refine sm_congr _ _ _ fun j hj => ?_
      rw [if_pos (by omega)]
    rw [e1, e2, e3, ← sm_add]
    refine sm_congr _ _ _ fun j hj => ?_
    rw [hN]; grind
/-- all basis functions of the degree -/
def ngL (D : Nat) (a b t : Rat) : List Rat := (List.range (D + 1)).map fun i => nfn (kn2 D a b) D t D i
theorem ngL_len (D : Nat) (a b t : Rat) : (ngL D a b t).length = D + 1 := by simp [ngL]
theorem ngL_get {D : Nat} {a b t : Rat} {i : Nat} (h : i < D + 1) : (ngL D a b t).getD i 0 = nfn (kn2 D a b) D t D i := by
  unfold ngL; rw [List.getD_eq_getElem?_getD, List.getElem?_eq_getElem (by simpa using h)]; simp
theorem ngL_ev {p : List Rat} {D : Nat} {a b t x : Rat} (hab : b - a ≠ 0) (hx : (t - a) / (b - a) = x) (h : p.length = D + 1) : sm (D + 1) (fun i => (ngL D a b t).getD i 0 * p.getD i 0) = evP p x := by
  have e := ng_sum (t := t) hab hx D (fun i => p.getD i 0) (Nat.le_refl _)
  rw [Nat.sub_self] at e
  rw [ev_fE (by omega), h, Nat.add_sub_cancel, ← e]
  refine sm_congr _ _ _ fun i hi => ?_
  rw [ngL_get hi, Nat.zero_add]
theorem ng_snoc {D : Nat} {a b t : Rat} {i : Nat} (h : i < D + 1) : (ngL D a b t).take i ++ [nfn (kn2 D a b) D t D i] = (ngL D a b t).take (i + 1) := by
  rw [← ngL_get h]; exact take_snocL (by rw [ngL_len]; exact h)
theorem ng_rl {D : Nat} {a b t : Rat} (hD : D ≤ 6) (hT : rl a ≤ 1000) (hT1 : rl b ≤ 1000) (ht : rl t ≤ 1000) : ∀ x ∈ ngL D a b t, rl x ≤ 632000 := fun x hx => by
  obtain ⟨i, hi, rfl⟩ := List.mem_map.1 hx
  have hk : ∀ y ∈ kn2 D a b, rl y ≤ 1000 := fun y hy => by
    rcases List.mem_append.1 hy with h | h
    · rw [(List.mem_replicate.1 h).2]; exact hT
    · rw [(List.mem_replicate.1 h).2]; exact hT1
  have h := nfn_rl (at_ := D) (by decide) hk ht D i
  have hpw : 2 ^ D ≤ 2 ^ 6 := Nat.pow_le_pow_right (by decide) hD
  omega
/-- the sum of the first coefficients of a homogeneous function times basis functions -/
def hgS (d : Nat) (a b t : Rat) (po : List PoR) (k i : Nat) : Rat := sm i fun j => (ngL d a b t).getD j 0 * (if k < 3 then (nmP po k).getD j 0 else (wtP po).getD j 0)
theorem hg_bd {po : List PoR} {d : Nat} {a b t : Rat} (h6 : d ≤ 6) (hN : ∀ k, ∀ z ∈ nmP po k, rl z ≤ 100000) (hW : ∀ z ∈ wtP po, rl z ≤ 100000) (hn : ∀ x ∈ ngL d a b t, rl x ≤ 632000) (i : Nat) (hi : i ≤ d + 1) (k : Nat) : rl (hgS d a b t po k i) ≤ 6000000 := by
  have hd := h6
  have h1 := sm_rl (f := fun j => (ngL d a b t).getD j 0 * (if k < 3 then (nmP po k).getD j 0 else (wtP po).getD j 0)) (R := 732000) (by decide) i (fun j hj => by
    have a1 := getD_rl (by decide) hn j
    have a2 := getD_rl (by decide) (hN k) j
    have a3 := getD_rl (by decide) hW j
    have m := rl_mul ((ngL d a b t).getD j 0) (if k < 3 then (nmP po k).getD j 0 else (wtP po).getD j 0)
    split at m <;> split <;> first | omega | contradiction)
  have h2 : i * (732000 + 1) ≤ 7 * (732000 + 1) := Nat.mul_le_mul_right _ (by omega)
  unfold hgS
  omega
theorem hg_st {po : List PoR} {d i : Nat} {a b t : Rat} (h : i < po.length) :
    hgS d a b t po 0 i + (ngL d a b t).getD i 0 * ((po.getD i default).w * (po.getD i default).p.x) = hgS d a b t po 0 (i + 1) ∧ hgS d a b t po 1 i + (ngL d a b t).getD i 0 * ((po.getD i default).w * (po.getD i default).p.y) = hgS d a b t po 1 (i + 1) ∧
    hgS d a b t po 2 i + (ngL d a b t).getD i 0 * ((po.getD i default).w * (po.getD i default).p.z) = hgS d a b t po 2 (i + 1) ∧ hgS d a b t po 3 i + (ngL d a b t).getD i 0 * (po.getD i default).w = hgS d a b t po 3 (i + 1) := by
  refine ⟨?_, ?_, ?_, ?_⟩
  · unfold hgS; rw [sm, if_pos (by decide), nm_get h]; rfl
  · unfold hgS; rw [sm, if_pos (by decide), nm_get h]; rfl
  · unfold hgS; rw [sm, if_pos (by decide), nm_get h]; rfl
  · unfold hgS; rw [sm, if_neg (by decide), wt_get h]
theorem hg_ev {po : List PoR} {d R : Nat} {a b t x : Rat} (hab : b - a ≠ 0) (hx : (t - a) / (b - a) = x) (h : cvR po d R) : (∀ k, k < 3 → hgS d a b t po k (d + 1) = evP (nmP po k) x) ∧ hgS d a b t po 3 (d + 1) = evP (wtP po) x := by
  refine ⟨fun k hk => ?_, ?_⟩
  · rw [← ngL_ev hab hx (p := nmP po k) (D := d) (cR_nl h k)]
    unfold hgS
    exact sm_congr _ _ _ fun i _ => by rw [if_pos hk]
  · rw [← ngL_ev hab hx (p := wtP po) (D := d) (cR_wl h)]
    unfold hgS
    exact sm_congr _ _ _ fun i _ => by rw [if_neg (by decide)]
namespace H_c_Lift2
theorem zSm {p q : Prop} (k : q) (e : p = q := by simp only [e1, e2, e3, e4, p1, p2, p3, q1, q2, q3, l1, t0, t1, r1, r2, r3, r4, Nat.zero_add, Nat.reduceMul, Nat.reduceAdd, b1, b2, b3, b4, b5, b6, i1, i2, i3, i4, i5, i6, Nat.reduceBEq, List.set_cons_zero, List.set_cons_succ, Nat.reduceEqDiff, reduceIte, if_true, if_false, ptL_kill, poL_kill, kills_map ptE, kills_map poE, kills_map ratE, ratL_kill, spL_kill, LV.kill, kills]; exact rfl) : p := e.mpr k
end H_c_Lift2
open H_c_Lift2 in
theorem c_Lift2 (q : PoR) (R : Nat) (hR : R ≤ 1000000) (h : okP R q) : CallP Tryz.prog 174 [poL q] (.agg [ratL (q.w * q.p.x), ratL (q.w * q.p.y), ratL (q.w * q.p.z), ratL q.w]) := by
  obtain ⟨hp, hw, hpos⟩ := h
  refine fnP Tryz.func174 (ht := (fun g => LV.ren_pure g _ pu)) ?_
  refine zg12 ?_
  refine cp am2 (c_FVScale q.w q.p R (by omega) hw hp) ?_
  refine zg19 ?_
  exact retC [] rfl rfl rfl cs (at_all cs rfl) T142 (.pure pu)
namespace H_c_GIvl
theorem zSm {p q : Prop} (k : q) (e : p = q := by simp only [e1, e2, e3, e4, p1, p2, p3, q1, q2, q3, l1, t0, t1, r1, r2, r3, r4, Nat.zero_add, Nat.reduceMul, Nat.reduceAdd, b1, b2, b3, b4, b5, b6, i1, i2, i3, i4, i5, i6, Nat.reduceBEq, hkl, hlo, hhi, hkd, hix, List.length_map, dfq, List.set_cons_zero, List.set_cons_succ, Nat.reduceEqDiff, reduceIte, if_true, if_false, ptL_kill, poL_kill, kills_map ptE, kills_map poE, kills_map ratE, ratL_kill, spL_kill, LV.kill, kills]; exact rfl) : p := e.mpr k
end H_c_GIvl
open H_c_GIvl in
theorem c_GIvl (d : Nat) (a b t : Rat) (hd : d ≤ 6) (hT : rl a ≤ 100) (hT1 : rl b ≤ 100) (ht : rl t ≤ 1000) (h1 : a ≤ t) (h2 : t ≤ b) : CallP Tryz.prog 120 [.list 3 ((kn2 d a b).map ratL), nI64 d, ratL t] (.tup [nI64 d, iL 0]) := by
  have hkl := kn2_len d a b
  have hlo := kn2_lo d a b
  have hhi := kn2_hi d a b
  have hkd : (kn2 d a b).getD d 0 = a := by rw [kn2_get _ _ _ _ (by omega), if_pos (by omega)]
  have c1 : ¬cmpR t a < 0 := fun e => by have := cmpR_ge.2 h1; omega
  have c2 : ¬cmpR t b > 0 := fun e => by have := cmpR_le.2 h2; omega
  have hix : ((2 * (d + 1) : Nat) : Int).toNat - 1 = 2 * (d + 1) - 1 := by omega
  refine fnP Tryz.func120 (ht := (tame2 rfl rfl)) ?_
  refine zg11 ?_
  refine st_pure rfl (.bin rfl rfl (sub1N (by omega) (by omega))) ?_
  refine zg5 ?_
  refine wl_regD 15 (by decide +kernel) ?_
  refine zg4 ?_
  try simp only [t1, dfq, hlo]
  refine cp am2 (c_FRCmp t a (by omega)) ?_
  refine zg2 ?_
  refine op_if 19 rfl (fun h19r h19 => ?_) (fun h19r h19 => ?_)
  · omega
  · refine zg5 ?_
    try simp only [t1, dfq, hkl, hhi]
    refine cp am2 (c_FRCmp t b (by omega)) ?_
    refine zg4 ?_
    refine wl_if rfl (fun h27r h27 => ?_) (fun h27r h27 => ?_)
    · omega
    · refine zg6 ?_
      refine st_pure rfl (.bin rfl rfl (subNN (c := d + 1) (by omega) (by omega))) ?_
      refine st_pure rfl (.bin rfl rfl (sub1N (by omega) (by omega))) ?_
      refine zg5 ?_
      refine wl_unroll ?_
      refine zg2 ?_
      refine wl_regD 11 (by decide +kernel) ?_
      refine zg3 ?_
      refine op_if 34 rfl (fun h34r h34 => ?_) (fun h34r h34 => ?_)
      · refine zg5 ?_
        try simp only [t1, dfq, Nat.add_sub_cancel, Int.toNat_natCast, hkd]
        refine cp am2 (c_FRCmp t a (by omega)) ?_
        refine zg4 ?_
        refine wl_condY (b := _) rfl (by first | rfl | exact decide_eq_false c1) ?_
        refine zg13 ?_
        exact ret2 rfl (.pure rfl) rfl (.pure rfl)
      · refine zg5 ?_
        try simp only [t1, dfq, Nat.add_sub_cancel, Int.toNat_natCast, hkd]
        refine zg5 ?_
        refine wl_condY (b := _) rfl (by first | rfl | exact decide_eq_false c1) ?_
        refine zg13 ?_
        exact ret2 rfl (.pure rfl) rfl (.pure rfl)
namespace H_c_GValues
theorem zSm {p q : Prop} (k : q) (e : p = q := by simp only [e1, e2, e3, e4, p1, p2, p3, q1, q2, q3, l1, t0, t1, r1, r2, r3, r4, Nat.zero_add, Nat.reduceMul, Nat.reduceAdd, b1, b2, b3, b4, b5, b6, i1, i2, i3, i4, i5, i6, Nat.reduceBEq, ers, etk, List.length_map, dfq, hdd, take_map_len, map_snoc, len_snoc, List.length_cons, List.length_nil, List.nil_append, List.map_nil, List.take_nil, List.append_nil, List.set_cons_zero, List.set_cons_succ, Nat.reduceEqDiff, reduceIte, if_true, if_false, ptL_kill, poL_kill, kills_map ptE, kills_map poE, kills_map ratE, ratL_kill, spL_kill, LV.kill, kills]; exact rfl) : p := e.mpr k
end H_c_GValues
open H_c_GValues in
theorem c_GValues (d : Nat) (a b t : Rat) (hd : d ≤ 6) (hT : rl a ≤ 100) (hT1 : rl b ≤ 100) (ht : rl t ≤ 1000) (h1 : a ≤ t) (h2 : t ≤ b) : CallP Tryz.prog 215 [.list 3 ((kn2 d a b).map ratL), nI64 d, ratL t] (.tup [iL 0, .list 3 ((ngL d a b t).map ratL), iL 0]) := by
  have hkl := kn2_len d a b
  have hlo := kn2_lo d a b
  have hhi := kn2_hi d a b
  have hkd : (kn2 d a b).getD d 0 = a := by rw [kn2_get _ _ _ _ (by omega), if_pos (by omega)]
  have c1 : ¬cmpR t a < 0 := fun e => by have := cmpR_ge.2 h1; omega
  have c2 : ¬cmpR t b > 0 := fun e => by have := cmpR_le.2 h2; omega
  have hdd : ((d : Int) - (d : Int)) = 0 := by omega
  have hkr : ∀ x ∈ kn2 d a b, rl x ≤ 1000 := fun x hx => by
    rcases List.mem_append.1 hx with h | h
    · rw [(List.mem_replicate.1 h).2]; omega
    · rw [(List.mem_replicate.1 h).2]; omega
  have hnl := ngL_len d a b t
  refine fnP Tryz.func215 (ht := (tame3 rfl (pure_lst ratE _ _) rfl)) ?_
  have ers : True := trivial
  have etk : True := trivial
  refine zg13 ?_
  refine cp am3 (c_GIvl d a b t hd hT hT1 ht h1 h2) ?_
  refine zg14 ?_
  refine wl_if rfl (fun h21r h21 => ?_) (fun h21r h21 => ?_)
  · first | exact h21.elim | cases h21r
  · refine zg12 ?_
    refine st_pure rfl (.bin rfl rfl (subNN (c := 0) (by omega) (by omega))) ?_
    refine zg4 ?_
    refine wl_weak (Weak.own (t := 11) 39 3 rfl rfl) ?_
    refine lp1 (fun (i : Nat) L => (((((((St.mk L.slot (hp [(5, ⟨3, [ratL t], true⟩), (39, ⟨3, ((ngL d a b t).take i).map ratL, true⟩)])).put (some 0) (.list 3 ((kn2 d a b).map ratL))).put (some 1) (nI64 d)).put (some 5) (.eptr 5 3 0 0)).put (some 9) (nI64 d)).put (some 11) (.ref 39 3 0 i)).put (some 12) (nI64 i))) (fun i => i ≤ d + 1) (fun i => d + 1 - i) 0 (Nat.zero_le _) ?_
    rintro i L1 hi
    refine zg8 ?_
    refine wl_if rfl (fun h28r h28 => ?_) (fun h28r h28 => ?_)
    · have hi2 : i < d + 1 := by omega
      have ers := ng_snoc (D := d) (a := a) (b := b) (t := t) hi2
      have etk : (((ngL d a b t).take i).map ratL).take i = ((ngL d a b t).take i).map ratL := List.take_of_length_le (by rw [List.length_map, List.length_take]; omega)
      refine zg11 ?_
      refine cp am5 (c_function (kn2 d a b) d t (by omega) (by omega) hkr ht d (by omega) i (by omega)) ?_
      refine zg1 ?_
      refine st_store rfl (.appX (d := 39) (news := [ratL (nfn (kn2 d a b) d t d i)]) rfl rfl rfl rfl (by simp; omega) (.inl rfl) (by decide) Tryz.underlying33 Tryz.underlying33 Z29a T29 rfl B29 (.inl ⟨38, 0, _, rfl, by decide, rfl, rfl, by simp, rfl, by simp [pures, ratE.pure]⟩) (by simp; omega) (by simp; omega) (by decide)) ?_
      refine zg4 ?_
      refine wl_regW (Weak.kill _ 38) ?_
      refine zg1 ?_
      refine st_pure rfl (.bin rfl rfl (add1N (by omega))) ?_
      refine zg3 ?_
      exact nx1 (i + 1) (by omega)
    · obtain rfl : i = d + 1 := by omega
      have hE : (ngL d a b t).take (d + 1) = (ngL d a b t) := List.take_of_length_le (by omega)
      refine zg9 ?_
      refine st_pure rfl (.bin rfl rfl (subNN (c := 0) (by omega) (by omega))) ?_
      refine zg7 ?_
      simp only [hE]
      exact ret3f [39] rfl rfl (.pure rfl) rfl (imm_refm ratE rfl rfl (by omega)) rfl (.pure rfl)
namespace H_c_GHom
theorem zSm {p q : Prop} (k : q) (e : p = q := by simp only [e1, e2, e3, e4, p1, p2, p3, q1, q2, q3, l1, t0, t1, r1, r2, r3, r4, Nat.zero_add, Nat.reduceMul, Nat.reduceAdd, b1, b2, b3, b4, b5, b6, i1, i2, i3, i4, i5, i6, Nat.reduceBEq, List.length_map, dfq, hnl, hm0, ratL_zero, eii, List.set_cons_zero, List.set_cons_succ, Nat.reduceEqDiff, reduceIte, if_true, if_false, ptL_kill, poL_kill, kills_map ptE, kills_map poE, kills_map ratE, ratL_kill, spL_kill, LV.kill, kills]; exact rfl) : p := e.mpr k
end H_c_GHom
open H_c_GHom in
theorem c_GHom (d : Nat) (a b t : Rat) (po : List PoR) (R : Nat) (hR : R ≤ 1000000) (h : cvR po d R) (hN : ∀ k, ∀ z ∈ nmP po k, rl z ≤ 100000) (hW : ∀ z ∈ wtP po, rl z ≤ 100000) (hd : d ≤ 6) (hT : rl a ≤ 100) (hT1 : rl b ≤ 100) (ht : rl t ≤ 1000) (h1 : a ≤ t) (h2 : t ≤ b) : CallP Tryz.prog 122 [.agg [nI64 d, .list 3 ((kn2 d a b).map ratL), .list 12 (po.map poL)], ratL t] (.agg [ratL (hgS d a b t po 0 (d + 1)), ratL (hgS d a b t po 1 (d + 1)), ratL (hgS d a b t po 2 (d + 1)), ratL (hgS d a b t po 3 (d + 1))]) := by
  have hnl := ngL_len d a b t
  have hm0 : ∀ k, hgS d a b t po k 0 = 0 := fun k => rfl
  have hnr := ng_rl (a := a) (b := b) (t := t) hd (by omega) (by omega) ht
  have hl := h.hl
  have hcp : LV.pure (.agg [nI64 d, .list 3 ((kn2 d a b).map ratL), .list 12 (po.map poL)]) = true := by simp [LV.pure, pures, pures_map ratE, pures_map poE]
  refine fnP Tryz.func122 (ht := (fun g => LV.ren_pure g _ pu)) ?_
  have eii : True := trivial
  refine zg14 ?_
  refine cp am3 (c_GValues d a b t hd hT hT1 ht h1 h2) ?_
  refine zg21 ?_
  refine lp1 (fun (i : Nat) L => (((((((St.mk L.slot (hp [(2, ⟨3, [.agg [nI64 d, .list 3 ((kn2 d a b).map ratL), .list 12 (po.map poL)]], true⟩), (3, ⟨3, [ratL t], true⟩), (4, ⟨12, [.agg [ratL 0, ratL 0, ratL 0, ratL 0]], true⟩), (8, ⟨12, [.agg [ratL (hgS d a b t po 0 i), ratL (hgS d a b t po 1 i), ratL (hgS d a b t po 2 i), ratL (hgS d a b t po 3 i)]], true⟩)])).put (some 2) (.eptr 2 3 0 0)).put (some 4) (.eptr 4 12 0 0)).put (some 5) (iL 0)).put (some 6) (.list 3 ((ngL d a b t).map ratL))).put (some 8) (.eptr 8 12 0 0)).put (some 9) (nI64 i))) (fun i => i ≤ d + 1) (fun i => d + 1 - i) 0 (Nat.zero_le _) ?_
  rintro i L1 hi
  refine zg9 ?_
  refine wl_if rfl (fun h25r h25 => ?_) (fun h25r h25 => ?_)
  · have hi2 : i < po.length := by omega
    have hok := h.ok _ (getD_memP hi2)
    have hng := getD_rl (by decide) hnr i
    have hbd := hg_bd (po := po) (a := a) (b := b) (t := t) hd hN hW hnr i (by omega)
    have hst := hg_st (a := a) (b := b) (t := t) (po := po) (d := d) hi2
    obtain ⟨⟨ok1, ok2, ok3⟩, ok4, _⟩ := hok
    have eii : ((0 : Int) + (i : Int)).toNat = i := by omega
    have hok := h.ok _ (getD_memP hi2)
    have bb0 := hbd 0
    have bb1 := hbd 1
    have bb2 := hbd 2
    have bb3 := hbd 3
    have m0 := rl_mul ((ngL d a b t).getD i 0) ((po.getD i default).w * (po.getD i default).p.x)
    have m1 := rl_mul ((ngL d a b t).getD i 0) ((po.getD i default).w * (po.getD i default).p.y)
    have m2 := rl_mul ((ngL d a b t).getD i 0) ((po.getD i default).w * (po.getD i default).p.z)
    have m3 := rl_mul ((ngL d a b t).getD i 0) (po.getD i default).w
    have n0 := rl_mul (po.getD i default).w (po.getD i default).p.x
    have n1 := rl_mul (po.getD i default).w (po.getD i default).p.y
    have n2 := rl_mul (po.getD i default).w (po.getD i default).p.z
    have hA0 : CallP Tryz.prog 35 [ratL (hgS d a b t po 0 i), ratL ((ngL d a b t).getD i 0 * ((po.getD i default).w * (po.getD i default).p.x))] (ratL (hgS d a b t po 0 (i + 1))) := by
      rw [← hst.1]; exact c_FRAdd _ _ (by omega)
    have hA1 : CallP Tryz.prog 35 [ratL (hgS d a b t po 1 i), ratL ((ngL d a b t).getD i 0 * ((po.getD i default).w * (po.getD i default).p.y))] (ratL (hgS d a b t po 1 (i + 1))) := by
      rw [← hst.2.1]; exact c_FRAdd _ _ (by omega)
    have hA2 : CallP Tryz.prog 35 [ratL (hgS d a b t po 2 i), ratL ((ngL d a b t).getD i 0 * ((po.getD i default).w * (po.getD i default).p.z))] (ratL (hgS d a b t po 2 (i + 1))) := by
      rw [← hst.2.2.1]; exact c_FRAdd _ _ (by omega)
    have hA3 : CallP Tryz.prog 35 [ratL (hgS d a b t po 3 i), ratL ((ngL d a b t).getD i 0 * (po.getD i default).w)] (ratL (hgS d a b t po 3 (i + 1))) := by
      rw [← hst.2.2.2]; exact c_FRAdd _ _ (by omega)
    refine zg10 ?_
    refine st_pure rfl (.bin rfl rfl (add64 (by omega) (by omega))) ?_
    refine zg2 ?_
    try simp only [t1, eii]
    refine cp am1 (c_Lift2 (po.getD i default) R hR hok) ?_
    refine zg10 ?_
    refine wl_unroll ?_
    refine zg7 ?_
    refine wl_condX (b := _) rfl (by decide) ?_
    refine zg4 ?_
    refine wl_regD 14 (by decide +kernel) ?_
    refine zg11 ?_
    try simp only [t1, dfq]
    refine cp am2 (c_FRMul ((ngL d a b t).getD i 0) ((po.getD i default).w * (po.getD i default).p.x) (by omega)) ?_
    refine cp am2 (hA0) ?_
    refine zg11 ?_
    refine wl_unroll ?_
    refine zg7 ?_
    refine wl_condX (b := _) rfl (by decide) ?_
    refine zg4 ?_
    refine wl_regD 14 (by decide +kernel) ?_
    refine zg11 ?_
    try simp only [t1, dfq]
    refine cp am2 (c_FRMul ((ngL d a b t).getD i 0) ((po.getD i default).w * (po.getD i default).p.y) (by omega)) ?_
    refine cp am2 (hA1) ?_
    refine zg11 ?_
    refine wl_unroll ?_
    refine zg7 ?_
    refine wl_condX (b := _) rfl (by decide) ?_
    refine zg4 ?_
    refine wl_regD 14 (by decide +kernel) ?_
    refine zg11 ?_
    try simp only [t1, dfq]
    refine cp am2 (c_FRMul ((ngL d a b t).getD i 0) ((po.getD i default).w * (po.getD i default).p.z) (by omega)) ?_
    refine cp am2 (hA2) ?_
    refine zg11 ?_
    refine wl_unroll ?_
    refine zg7 ?_
    refine wl_condX (b := _) rfl (by decide) ?_
    refine zg4 ?_
    refine wl_regD 14 (by decide +kernel) ?_
    refine zg11 ?_
    try simp only [t1, dfq]
    refine cp am2 (c_FRMul ((ngL d a b t).getD i 0) (po.getD i default).w (by omega)) ?_
    refine cp am2 (hA3) ?_
    refine zg11 ?_
    refine wl_unroll ?_
    refine zg7 ?_
    refine wl_condY (b := _) rfl (by decide) ?_
    refine zg6 ?_
    refine wl_regW (Weak.kill _ 10) ?_
    refine zg1 ?_
    refine st_pure rfl (.bin rfl rfl (add1N (by omega))) ?_
    refine zg3 ?_
    exact nx1 (i + 1) (by omega)
  · obtain rfl : i = d + 1 := by omega
    refine zg12 ?_
    exact retC [] rfl rfl rfl cs (at_all cs rfl) T142 (.pure pu)
namespace H_c_GEval
theorem zSm {p q : Prop} (k : q) (e : p = q := by simp only [e1, e2, e3, e4, p1, p2, p3, q1, q2, q3, l1, t0, t1, r1, r2, r3, r4, Nat.zero_add, Nat.reduceMul, Nat.reduceAdd, b1, b2, b3, b4, b5, b6, i1, i2, i3, i4, i5, i6, Nat.reduceBEq, List.set_cons_zero, List.set_cons_succ, Nat.reduceEqDiff, reduceIte, if_true, if_false, ptL_kill, poL_kill, kills_map ptE, kills_map poE, kills_map ratE, ratL_kill, spL_kill, LV.kill, kills]; exact rfl) : p := e.mpr k
end H_c_GEval
open H_c_GEval in
theorem c_GEval (d : Nat) (a b t x : Rat) (po : List PoR) (R : Nat) (hR : R ≤ 1000000) (h : cvR po d R) (hN : ∀ k, ∀ z ∈ nmP po k, rl z ≤ 100000) (hW : ∀ z ∈ wtP po, rl z ≤ 100000) (hab : b - a ≠ 0) (hx : (t - a) / (b - a) = x) (hT : rl a ≤ 100) (hT1 : rl b ≤ 100) (ht : rl t ≤ 1000) (h1 : a ≤ t) (h2 : t ≤ b) : CallP Tryz.prog 27 [.agg [nI64 d, .list 3 ((kn2 d a b).map ratL), .list 12 (po.map poL)], ratL t] (.tup [ptL (evV po x), iL 0]) := by
  have hd := h.h6
  have hb := hg_bd (po := po) (a := a) (b := b) (t := t) hd hN hW (ng_rl (a := a) (b := b) (t := t) hd (by omega) (by omega) ht) (d + 1) (Nat.le_refl _)
  have he := hg_ev hab hx h
  have hDr : CallP Tryz.prog 121 [.agg [ratL (hgS d a b t po 0 (d + 1)), ratL (hgS d a b t po 1 (d + 1)), ratL (hgS d a b t po 2 (d + 1)), ratL (hgS d a b t po 3 (d + 1))]] (poL ⟨evV po x, evP (wtP po) x⟩) := by
    have := c_FDrop _ _ _ _ 6000000 (by decide) (hb 0) (hb 1) (hb 2) (hb 3)
    rw [he.1 0 (by decide), he.1 1 (by decide), he.1 2 (by decide), he.2] at this ⊢
    exact this
  have hcp4 : LV.pure (.agg [ratL (hgS d a b t po 0 (d + 1)), ratL (hgS d a b t po 1 (d + 1)), ratL (hgS d a b t po 2 (d + 1)), ratL (hgS d a b t po 3 (d + 1))]) = true := by simp [LV.pure, pures, ratE.pure]
  have hcp : LV.pure (.agg [nI64 d, .list 3 ((kn2 d a b).map ratL), .list 12 (po.map poL)]) = true := by simp [LV.pure, pures, pures_map ratE, pures_map poE]
  refine fnP Tryz.func27 (ht := (tame2 (ptE.pure _) rfl)) ?_
  refine zg16 ?_
  refine cp am3 (c_GIvl d a b t hd hT hT1 ht h1 h2) ?_
  refine zg13 ?_
  refine wl_if rfl (fun h18r h18 => ?_) (fun h18r h18 => ?_)
  · first | exact h18.elim | cases h18r
  · refine zg6 ?_
    refine cp am2 (c_GHom d a b t po R hR h hN hW hd hT hT1 ht h1 h2) ?_
    refine cp am1 (hDr) ?_
    refine zg6 ?_
    exact retCT [] rfl rfl rfl cs (at_all cs rfl) T31 (.pure pu) rfl (.pure rfl)
end Go.Proofs.YtgfbghoihhnahaaGreat
end
section
set_option linter.unusedVariables false
set_option linter.unusedSimpArgs false
set_option maxHeartbeats 8000000
set_option maxRecDepth 100000
attribute [local irreducible] Go.Lg.opsL Go.Lg.wpL Go.Lg.thenL Go.Lg.blockL
namespace Go.Proofs.YtgfbghoihhnahaaGreat
open Go.Lg
def shL (l : List Rat) : Bool := l.all fun q => decide (bitR q ≤ 2048)
def shP (po : List PoR) : Bool := po.all fun q => shL [q.p.x, q.p.y, q.p.z, q.w]
theorem all_no {α : Type} [Inhabited α] {f : α → Bool} {l : List α} {i : Nat} (hi : i < l.length) (h : f (l.getD i default) = false) : l.all f = false := by
  rw [List.all_eq_false]
  exact ⟨l.getD i default, getD_memL hi, by rw [h]; decide⟩
theorem all_ok {α : Type} [Inhabited α] {f : α → Bool} {l : List α} (h : ∀ i, i < l.length → f (l.getD i default) = true) : l.all f = true := by
  rw [List.all_eq_true]
  intro x hx
  obtain ⟨i, hi, rfl⟩ := List.mem_iff_getElem.1 hx
  have := h i hi
  rwa [List.getD_eq_getElem?_getD, List.getElem?_eq_getElem hi] at this
theorem ds_first (k : List Rat) : ∀ n, 0 < n → (dsN k n).getD 0 0 = k.getD 0 0
  | 1, _ => by rw [dsN, if_pos (.inl rfl)]; rfl
  | n + 2, _ => by
    have ih := ds_first k (n + 1) (by omega)
    have hp := dsN_pos k (n + 1) (by omega)
    rw [dsN]; split
    · rw [gD1 hp]; exact ih
    · exact ih
theorem ds_last (k : List Rat) : ∀ n, 0 < n → (dsN k n).getD ((dsN k n).length - 1) 0 = k.getD (n - 1) 0
  | 1, _ => by rw [dsN, if_pos (.inl rfl)]; rfl
  | n + 2, _ => by
    have ih := ds_last k (n + 1) (by omega)
    rw [dsN]; split
    · rw [List.length_append, List.length_singleton, Nat.add_sub_cancel, gD2 (Nat.le_refl _), Nat.sub_self]; rfl
    · rename_i h
      have h : k.getD (n + 1) 0 = k.getD (n + 1 - 1) 0 := Classical.byContradiction fun e => h (.inr e)
      rw [ih, show n + 2 - 1 = n + 1 by omega, h]
theorem ds_mono {k : List Rat} (hs : ∀ i, i + 1 < k.length → k.getD i 0 ≤ k.getD (i + 1) 0) : ∀ n, 0 < n → n ≤ k.length → ∀ i j, i < j → j < (dsN k n).length → (dsN k n).getD i 0 < (dsN k n).getD j 0
  | 1, _, _, i, j, hij, hj => by
    have := dsN_le k 1
    omega
  | n + 2, _, hn, i, j, hij, hj => by
    have ih := ds_mono hs (n + 1) (by omega) (by omega)
    have hl := ds_last k (n + 1) (by omega)
    have hp := dsN_pos k (n + 1) (by omega)
    rw [dsN] at hj ⊢
    split at hj
    · rename_i h
      rw [if_pos h]
      rw [List.length_append, List.length_singleton] at hj
      have hlt : k.getD n 0 < k.getD (n + 1) 0 := by
        have h1 := hs n (by omega)
        rcases h with h | h
        · omega
        · have h : k.getD (n + 1) 0 ≠ k.getD n 0 := h
          grind
      rcases Nat.lt_or_ge j (dsN k (n + 1)).length with c | c
      · rw [gD1 (by omega), gD1 c]; exact ih i j hij c
      · obtain rfl : j = (dsN k (n + 1)).length := by omega
        rw [gD1 (by omega), gD2 (Nat.le_refl _), Nat.sub_self]
        show _ < k.getD (n + 1) 0
        have hl : (dsN k (n + 1)).getD ((dsN k (n + 1)).length - 1) 0 = k.getD n 0 := hl
        rcases Nat.lt_or_ge i ((dsN k (n + 1)).length - 1) with c2 | c2
        · have := ih i ((dsN k (n + 1)).length - 1) c2 (by omega)
          rw [hl] at this
          grind
        · obtain rfl : i = (dsN k (n + 1)).length - 1 := by omega
          rw [hl]; exact hlt
    · rename_i h
      rw [if_neg h]; exact ih i j hij hj
/-- how often each of the different knots occurs -/
theorem ds_tm {k : List Rat} {d : Nat} (h : kOK k d) {i : Nat} (hi : i < (dsN k k.length).length) :
    ((i = 0 ∨ i = (dsN k k.length).length - 1) → tmN k ((dsN k k.length).getD i 0) k.length = d + 1) ∧ tmN k ((dsN k k.length).getD i 0) k.length ≤ d + 1 ∧ (0 < i → i < (dsN k k.length).length - 1 → tmN k ((dsN k k.length).getD i 0) k.length ≤ d) := by
  have hl := h.len
  have h0 : 0 < k.length := by omega
  have hm := dsN_mem k k.length (Nat.le_refl _) _ (getD_mem hi)
  have e0 := ds_first k k.length h0
  have e1 := ds_last k k.length h0
  refine ⟨fun hc => h.endk _ hm ?_, ?_, fun p q => ?_⟩
  · rcases hc with rfl | rfl
    · exact .inl e0
    · exact .inr e1
  · by_cases c0 : (dsN k k.length).getD i 0 = k.getD 0 0
    · exact Nat.le_of_eq (h.endk _ hm (.inl c0))
    · by_cases c1 : (dsN k k.length).getD i 0 = k.getD (k.length - 1) 0
      · exact Nat.le_of_eq (h.endk _ hm (.inr c1))
      · exact Nat.le_succ_of_le (h.ink _ hm c0 c1)
  · have m0 := ds_mono h.srt k.length h0 (Nat.le_refl _) 0 i p hi
    have m1 := ds_mono h.srt k.length h0 (Nat.le_refl _) i ((dsN k k.length).length - 1) q (by omega)
    rw [e0] at m0
    rw [e1] at m1
    exact h.ink _ hm (by grind) (by grind)
theorem ds_two {k : List Rat} {d : Nat} (h : kOK k d) : 2 ≤ (dsN k k.length).length := by
  have hl := h.len
  have h0 : 0 < k.length := by omega
  have hp := dsN_pos k k.length h0
  rcases Nat.lt_or_ge (dsN k k.length).length 2 with c | c
  · exfalso
    have e0 := ds_first k k.length h0
    have e1 := ds_last k k.length h0
    rw [show (dsN k k.length).length - 1 = 0 by omega, e0] at e1
    exact h.ne e1
  · exact c
namespace H_c_FRValid
theorem zSm {p q : Prop} (k : q) (e : p = q := by simp only [e1, e2, e3, e4, p1, p2, p3, q1, q2, q3, l1, t0, t1, r1, r2, r3, r4, Nat.zero_add, Nat.reduceMul, Nat.reduceAdd, b1, b2, b3, b4, b5, b6, i1, i2, i3, i4, i5, i6, Nat.reduceBEq, val_dig, dflt, tz0, List.length_cons, List.length_nil]; exact rfl) : p := e.mpr k
end H_c_FRValid
open H_c_FRValid in
theorem c_FRValid (q : Rat) (h : rl q ≤ 68719476736) : CallP Tryz.prog 252 [ratL q] (bL true) := by
  have a1 := rl_num q
  have a2 := rl_den q
  have a3 := rl_denN q
  have hne := denN_ne1 q
  have hg1 := gcd1d q
  have hG := c_FGcd q.num.natAbs q.den (by omega) (by omega)
  rw [hg1] at hG
  have hk : ¬ ((dig (denN q)).length = 1 ∧ (dig (denN q)).getD 0 0 = 1) := fun ⟨a, b⟩ => by
    have := (dig_is1 (n := denN q) a).1
    omega
  have hz0 : (dig q.num.natAbs).length = 0 → (dig (denN q)).length = 0 ∧ ¬ q < 0 := fun h => by
    have hz := num0 h
    subst hz
    exact ⟨by decide, by decide +kernel⟩
  have hd1 : dig 1 = [1] := dig_small (by decide) (by decide)
  rw [show magL 1 = .list 1 ([1].map u32L) from by rw [magL, hd1]] at hG
  refine fnP Tryz.func252 ?_
  refine zg11 ?_
  refine cp am1 (c_FValidD _ (by omega)) ?_
  refine zg4 ?_
  refine cp am1 (c_FValidD _ (by omega)) ?_
  refine zg8 ?_
  refine op_if 19 rfl (fun h19r h19 => ?_) (fun h19r h19 => ?_)
  · refine zg8 ?_
    refine op_if 27 rfl (fun h27r h27 => ?_) (fun h27r h27 => ?_)
    · exfalso
      omega
    · refine zg5 ?_
      refine op_if 32 rfl (fun h32r h32 => ?_) (fun h32r h32 => ?_)
      · refine zg3 ?_
        refine st_pure (guardX (v := false) rfl rfl ((decide_eq_false (hz0 (by omega)).2)) rfl) faA ?_
        refine st_pure (guardX (v := false) rfl rfl ((decide_eq_false (hz0 (by omega)).2)) rfl) ldA ?_
        refine st_pure (guardX (v := false) rfl rfl ((decide_eq_false (hz0 (by omega)).2)) rfl) lnA ?_
        refine st_pure (guardX (v := false) rfl rfl ((decide_eq_false (hz0 (by omega)).2)) rfl) (.bin rfl rfl rfl) ?_
        refine st_pure (guardX (v := true) rfl rfl (h32r) rfl) (.pickF rfl ((decide_eq_false (hz0 (by omega)).2))) ?_
        refine zg4 ?_
        refine wl_condY (b := _) rfl (decide_eq_false (by have := (hz0 (by omega)).1; omega)) ?_
        refine zg3 ?_
        refine wl_regD 6 (by decide +kernel) ?_
        refine zg3 ?_
        refine cp am1 (c_FDen _) ?_
        refine cp am2 (hG) ?_
        refine zg9 ?_
        refine st_pure (guardX (v := true) rfl rfl ((by decide)) rfl) (.move _) ?_
        refine st_pure (guardX (v := true) rfl rfl ((by decide)) rfl) ixA ?_
        refine st_pure (guardX (v := true) rfl rfl ((by decide)) rfl) ldA ?_
        refine st_pure (guardX (v := true) rfl rfl ((by decide)) rfl) (.bin rfl rfl rfl) ?_
        refine st_pure rfl (.pickT rfl ((by decide))) ?_
        refine zg4 ?_
        exact ret1 rfl (by first | exact .pure rfl | exact .pure (limL_pure _) | exact .pure (magL_pure _) | exact .pure (ratE.pure _) | exact .pure (pure_lst u32E _ _) | exact .pure (pure_lst ratE _ _))
      · refine zg16 ?_
        refine wl_regD 6 (by decide +kernel) ?_
        refine zg3 ?_
        refine cp am1 (c_FDen _) ?_
        refine cp am2 (hG) ?_
        refine zg9 ?_
        refine st_pure (guardX (v := true) rfl rfl ((by decide)) rfl) (.move _) ?_
        refine st_pure (guardX (v := true) rfl rfl ((by decide)) rfl) ixA ?_
        refine st_pure (guardX (v := true) rfl rfl ((by decide)) rfl) ldA ?_
        refine st_pure (guardX (v := true) rfl rfl ((by decide)) rfl) (.bin rfl rfl rfl) ?_
        refine st_pure rfl (.pickT rfl ((by decide))) ?_
        refine zg4 ?_
        exact ret1 rfl (by first | exact .pure rfl | exact .pure (limL_pure _) | exact .pure (magL_pure _) | exact .pure (ratE.pure _) | exact .pure (pure_lst u32E _ _) | exact .pure (pure_lst ratE _ _))
  · refine zg13 ?_
    refine op_if 32 rfl (fun h32r h32 => ?_) (fun h32r h32 => ?_)
    · refine zg3 ?_
      refine st_pure (guardX (v := false) rfl rfl ((decide_eq_false (hz0 (by omega)).2)) rfl) faA ?_
      refine st_pure (guardX (v := false) rfl rfl ((decide_eq_false (hz0 (by omega)).2)) rfl) ldA ?_
      refine st_pure (guardX (v := false) rfl rfl ((decide_eq_false (hz0 (by omega)).2)) rfl) lnA ?_
      refine st_pure (guardX (v := false) rfl rfl ((decide_eq_false (hz0 (by omega)).2)) rfl) (.bin rfl rfl rfl) ?_
      refine st_pure (guardX (v := true) rfl rfl (h32r) rfl) (.pickF rfl ((decide_eq_false (hz0 (by omega)).2))) ?_
      refine zg4 ?_
      refine wl_condY (b := _) rfl (decide_eq_false (by have := (hz0 (by omega)).1; omega)) ?_
      refine zg3 ?_
      refine wl_regD 6 (by decide +kernel) ?_
      refine zg3 ?_
      refine cp am1 (c_FDen _) ?_
      refine cp am2 (hG) ?_
      refine zg9 ?_
      refine st_pure (guardX (v := true) rfl rfl ((by decide)) rfl) (.move _) ?_
      refine st_pure (guardX (v := true) rfl rfl ((by decide)) rfl) ixA ?_
      refine st_pure (guardX (v := true) rfl rfl ((by decide)) rfl) ldA ?_
      refine st_pure (guardX (v := true) rfl rfl ((by decide)) rfl) (.bin rfl rfl rfl) ?_
      refine st_pure rfl (.pickT rfl ((by decide))) ?_
      refine zg4 ?_
      exact ret1 rfl (by first | exact .pure rfl | exact .pure (limL_pure _) | exact .pure (magL_pure _) | exact .pure (ratE.pure _) | exact .pure (pure_lst u32E _ _) | exact .pure (pure_lst ratE _ _))
    · refine zg16 ?_
      refine wl_regD 6 (by decide +kernel) ?_
      refine zg3 ?_
      refine cp am1 (c_FDen _) ?_
      refine cp am2 (hG) ?_
      refine zg9 ?_
      refine st_pure (guardX (v := true) rfl rfl ((by decide)) rfl) (.move _) ?_
      refine st_pure (guardX (v := true) rfl rfl ((by decide)) rfl) ixA ?_
      refine st_pure (guardX (v := true) rfl rfl ((by decide)) rfl) ldA ?_
      refine st_pure (guardX (v := true) rfl rfl ((by decide)) rfl) (.bin rfl rfl rfl) ?_
      refine st_pure rfl (.pickT rfl ((by decide))) ?_
      refine zg4 ?_
      exact ret1 rfl (by first | exact .pure rfl | exact .pure (limL_pure _) | exact .pure (magL_pure _) | exact .pure (ratE.pure _) | exact .pure (pure_lst u32E _ _) | exact .pure (pure_lst ratE _ _))
namespace H_c_FValids
theorem zSm {p q : Prop} (k : q) (e : p = q := by simp only [e1, e2, e3, e4, p1, p2, p3, q1, q2, q3, l1, t0, t1, r1, r2, r3, r4, Nat.zero_add, Nat.reduceMul, Nat.reduceAdd, b1, b2, b3, b4, b5, b6, i1, i2, i3, i4, i5, i6, Nat.reduceBEq, dfq, List.set_cons_zero, List.set_cons_succ, Nat.reduceEqDiff, reduceIte, if_true, if_false, ptL_kill, poL_kill, kills_map ptE, kills_map poE, kills_map ratE, ratL_kill, spL_kill, LV.kill, kills]; exact rfl) : p := e.mpr k
end H_c_FValids
open H_c_FValids in
theorem c_FValids (c : List Rat) (hl : c.length ≤ 1048576) (hcR : ∀ x ∈ c, rl x ≤ 68719476736) : CallP Tryz.prog 250 [.list 3 (c.map ratL)] (bL true) := by
  refine fnP Tryz.func250 ?_
  refine zg12 ?_
  refine lp1 (fun (k : Nat) L => (((St.mk L.slot (hp [])).put (some 0) (.list 3 (c.map ratL))).put (some 3) (nI64 k))) (fun k => k ≤ c.length) (fun k => c.length - k) 0 (Nat.zero_le _) ?_
  rintro k L1 hk
  refine zg9 ?_
  refine wl_if rfl (fun h7r h7 => ?_) (fun h7r h7 => ?_)
  · have hk2 : k < c.length := by omega
    have hr1 := hcR _ (getD_mem (i := k) hk2)
    refine zg10 ?_
    refine cp am1 (c_FRValid (c.getD k 0) (by omega)) ?_
    refine zg9 ?_
    refine st_pure rfl (.bin rfl rfl (add1N (by omega))) ?_
    refine zg3 ?_
    exact nx1 (k + 1) (by omega)
  · refine zg11 ?_
    exact ret1 rfl (by first | exact .pure rfl | exact .pure (limL_pure _) | exact .pure (magL_pure _) | exact .pure (ratE.pure _) | exact .pure (pure_lst u32E _ _) | exact .pure (pure_lst ratE _ _))
namespace H_c_FRBits
theorem zSm {p q : Prop} (k : q) (e : p = q := by simp only [e1, e2, e3, e4, p1, p2, p3, q1, q2, q3, l1, t0, t1, r1, r2, r3, r4, Nat.zero_add, Nat.reduceMul, Nat.reduceAdd, b1, b2, b3, b4, b5, b6, i1, i2, i3, i4, i5, i6, Nat.reduceBEq, val_dig]; exact rfl) : p := e.mpr k
end H_c_FRBits
open H_c_FRBits in
theorem c_FRBits (q : Rat) (h : rl q ≤ 1000000) : CallP Tryz.prog 318 [ratL q] (nI64 (bitR q)) := by
  have a1 := rl_num q
  have a2 := rl_den q
  have a3 := rl_denN q
  refine fnP Tryz.func318 ?_
  refine zg7 ?_
  refine wl_regD 8 (by decide +kernel) ?_
  refine zg2 ?_
  refine cp am1 (c_FBits _ (by omega)) ?_
  refine zg1 ?_
  refine cp am1 (c_FDen _) ?_
  refine cp am1 (c_FBits _ (by omega)) ?_
  refine zg5 ?_
  rw [bitR]
  refine ret1 ?_ (.pure rfl)
  simp only [e1, e2, e3, e4, p1, p2, p3, q1, q2, q3, Nat.reduceBEq, val_dig]
  congr 2
  omega
namespace H_c_FShort
theorem zSm {p q : Prop} (k : q) (e : p = q := by simp only [e1, e2, e3, e4, p1, p2, p3, q1, q2, q3, l1, t0, t1, r1, r2, r3, r4, Nat.zero_add, Nat.reduceMul, Nat.reduceAdd, b1, b2, b3, b4, b5, b6, i1, i2, i3, i4, i5, i6, Nat.reduceBEq, dfq, List.set_cons_zero, List.set_cons_succ, Nat.reduceEqDiff, reduceIte, if_true, if_false, ptL_kill, poL_kill, kills_map ptE, kills_map poE, kills_map ratE, ratL_kill, spL_kill, LV.kill, kills]; exact rfl) : p := e.mpr k
end H_c_FShort
open H_c_FShort in
theorem c_FShort (l : List Rat) (hl : l.length ≤ 1000) (hr : ∀ x ∈ l, rl x ≤ 1000000) : CallP Tryz.prog 255 [.list 3 (l.map ratL)] (bL (shL l)) := by
  refine fnP Tryz.func255 ?_
  refine zg12 ?_
  refine lp1 (fun (k : Nat) L => (((St.mk L.slot (hp [])).put (some 0) (.list 3 (l.map ratL))).put (some 3) (nI64 k))) (fun k => k ≤ l.length ∧ ∀ i, i < k → decide (bitR (l.getD i default) ≤ 2048) = true) (fun k => l.length - k) 0 ⟨Nat.zero_le _, fun i hi => absurd hi (Nat.not_lt_zero i)⟩ ?_
  rintro k L1 ⟨hk, hs⟩
  refine zg9 ?_
  refine wl_if rfl (fun h7r h7 => ?_) (fun h7r h7 => ?_)
  · have hk2 : k < l.length := by omega
    have hr1 := hr _ (getD_mem (i := k) hk2)
    refine zg10 ?_
    refine cp am1 (c_FRBits (l.getD k 0) (by omega)) ?_
    refine zg3 ?_
    refine wl_if rfl (fun h15r h15 => ?_) (fun h15r h15 => ?_)
    · have hV : shL l = false := all_no (f := fun q => decide (bitR q ≤ 2048)) hk2 (decide_eq_false (by show ¬bitR (l.getD k 0) ≤ 2048; omega))
      refine zg11 ?_
      rw [hV]
      exact ret1 rfl (by first | exact .pure rfl | exact .pure (limL_pure _) | exact .pure (magL_pure _) | exact .pure (ratE.pure _) | exact .pure (pure_lst u32E _ _) | exact .pure (pure_lst ratE _ _))
    · have hsn : ∀ i, i < k + 1 → decide (bitR (l.getD i default) ≤ 2048) = true := fun i hi => by
        rcases Nat.lt_succ_iff_lt_or_eq.1 hi with c | rfl
        · exact hs i c
        · exact decide_eq_true (by show bitR (l.getD i 0) ≤ 2048; omega)
      refine zg5 ?_
      refine st_pure rfl (.bin rfl rfl (add1N (by omega))) ?_
      refine zg3 ?_
      exact nx1 (k + 1) ⟨by omega, hsn⟩
  · obtain rfl : k = l.length := by omega
    have hV : shL l = true := all_ok hs
    refine zg11 ?_
    rw [hV]
    exact ret1 rfl (by first | exact .pure rfl | exact .pure (limL_pure _) | exact .pure (magL_pure _) | exact .pure (ratE.pure _) | exact .pure (pure_lst u32E _ _) | exact .pure (pure_lst ratE _ _))
namespace H_c_FShortP
theorem zSm {p q : Prop} (k : q) (e : p = q := by simp only [e1, e2, e3, e4, p1, p2, p3, q1, q2, q3, l1, t0, t1, r1, r2, r3, r4, Nat.zero_add, Nat.reduceMul, Nat.reduceAdd, b1, b2, b3, b4, b5, b6, i1, i2, i3, i4, i5, i6, Nat.reduceBEq, dfq, List.set_cons_zero, List.set_cons_succ, Nat.reduceEqDiff, reduceIte, if_true, if_false, ptL_kill, poL_kill, kills_map ptE, kills_map poE, kills_map ratE, ratL_kill, spL_kill, LV.kill, kills]; exact rfl) : p := e.mpr k
end H_c_FShortP
open H_c_FShortP in
theorem c_FShortP (po : List PoR) (hl : po.length ≤ 1000) (hq : (∀ q ∈ po, okP 1000000 q)) : CallP Tryz.prog 256 [.list 12 (po.map poL)] (bL (shP po)) := by
  refine fnP Tryz.func256 ?_
  refine zg12 ?_
  refine lp1 (fun (k : Nat) L => (((St.mk L.slot (hp [])).put (some 0) (.list 12 (po.map poL))).put (some 3) (nI64 k))) (fun k => k ≤ po.length ∧ ∀ i, i < k → shL [(po.getD i default).p.x, (po.getD i default).p.y, (po.getD i default).p.z, (po.getD i default).w] = true) (fun k => po.length - k) 0 ⟨Nat.zero_le _, fun i hi => absurd hi (Nat.not_lt_zero i)⟩ ?_
  rintro k L1 ⟨hk, hs⟩
  refine zg9 ?_
  refine wl_if rfl (fun h7r h7 => ?_) (fun h7r h7 => ?_)
  · have hk2 : k < po.length := by omega
    obtain ⟨⟨o1, o2, o3⟩, o4, _⟩ := hq _ (getD_memP hk2)
    have hSh := c_FShort [(po.getD k default).p.x, (po.getD k default).p.y, (po.getD k default).p.z, (po.getD k default).w] (by simp) (fun x hx => by
      simp only [List.mem_cons, List.not_mem_nil, or_false] at hx
      rcases hx with rfl | rfl | rfl | rfl <;> assumption)
    refine zg5 ?_
    refine wl_regD 26 (by decide +kernel) ?_
    refine zg24 ?_
    refine cpf [33] fm1 (hSh) ?_
    refine zg3 ?_
    refine wl_if rfl (fun h35r h35 => ?_) (fun h35r h35 => ?_)
    · have hV : shP po = false := all_no (f := fun q : PoR => shL [q.p.x, q.p.y, q.p.z, q.w]) (l := po) hk2 (by simpa using h35)
      refine zg11 ?_
      rw [hV]
      exact ret1 rfl (by first | exact .pure rfl | exact .pure (limL_pure _) | exact .pure (magL_pure _) | exact .pure (ratE.pure _) | exact .pure (pure_lst u32E _ _) | exact .pure (pure_lst ratE _ _))
    · have hsn : ∀ i, i < k + 1 → shL [(po.getD i default).p.x, (po.getD i default).p.y, (po.getD i default).p.z, (po.getD i default).w] = true := fun i hi => by
        rcases Nat.lt_succ_iff_lt_or_eq.1 hi with c | rfl
        · exact hs i c
        · simpa using h35
      refine zg3 ?_
      refine wl_regW (Weak.kill _ 33) ?_
      refine zg1 ?_
      refine st_pure rfl (.bin rfl rfl (add1N (by omega))) ?_
      refine zg3 ?_
      exact nx1 (k + 1) ⟨by omega, hsn⟩
  · obtain rfl : k = po.length := by omega
    have hV : shP po = true := all_ok hs
    refine zg11 ?_
    rw [hV]
    exact ret1 rfl (by first | exact .pure rfl | exact .pure (limL_pure _) | exact .pure (magL_pure _) | exact .pure (ratE.pure _) | exact .pure (pure_lst u32E _ _) | exact .pure (pure_lst ratE _ _))
namespace H_c_FPtValid
theorem zSm {p q : Prop} (k : q) (e : p = q := by simp only [e1, e2, e3, e4, p1, p2, p3, q1, q2, q3, l1, t0, t1, r1, r2, r3, r4, Nat.zero_add, Nat.reduceMul, Nat.reduceAdd, b1, b2, b3, b4, b5, b6, i1, i2, i3, i4, i5, i6, Nat.reduceBEq, List.set_cons_zero, List.set_cons_succ, Nat.reduceEqDiff, reduceIte, if_true, if_false, ptL_kill, poL_kill, kills_map ptE, kills_map poE, kills_map ratE, ratL_kill, spL_kill, LV.kill, kills]; exact rfl) : p := e.mpr k
end H_c_FPtValid
open H_c_FPtValid in
theorem c_FPtValid (p : V3) (h : bd3 1000000 p) : CallP Tryz.prog 251 [ptL p] (bL true) := by
  obtain ⟨a1, a2, a3⟩ := h
  refine fnP Tryz.func251 ?_
  refine zg10 ?_
  refine cp am1 (c_FRValid p.x (by omega)) ?_
  refine zg3 ?_
  refine cp am1 (c_FRValid p.y (by omega)) ?_
  refine zg4 ?_
  refine cp am1 (c_FRValid p.z (by omega)) ?_
  refine zg5 ?_
  exact ret1 rfl (.pure rfl)
namespace H_c_FTimes
theorem zSm {p q : Prop} (k : q) (e : p = q := by simp only [e1, e2, e3, e4, p1, p2, p3, q1, q2, q3, l1, t0, t1, r1, r2, r3, r4, Nat.zero_add, Nat.reduceMul, Nat.reduceAdd, b1, b2, b3, b4, b5, b6, i1, i2, i3, i4, i5, i6, Nat.reduceBEq, dfq, etm, List.set_cons_zero, List.set_cons_succ, Nat.reduceEqDiff, reduceIte, if_true, if_false, ptL_kill, poL_kill, kills_map ptE, kills_map poE, kills_map ratE, ratL_kill, spL_kill, LV.kill, kills]; exact rfl) : p := e.mpr k
end H_c_FTimes
open H_c_FTimes in
theorem c_FTimes (k : List Rat) (hl : k.length ≤ 1000) (hr : ∀ x ∈ k, rl x ≤ 1000000) (t : Rat) (ht : rl t ≤ 1000000) : CallP Tryz.prog 317 [.list 3 (k.map ratL), ratL t] (nI64 (tmN k t k.length)) := by
  refine fnP Tryz.func317 ?_
  have etm : True := trivial
  refine zg18 ?_
  refine lp1 (fun (i : Nat) L => (((((St.mk L.slot (hp [(3, ⟨3, [ratL t], true⟩)])).put (some 0) (.list 3 (k.map ratL))).put (some 3) (.eptr 3 3 0 0)).put (some 5) (nI64 (tmN k t i))).put (some 6) (nI64 i))) (fun i => i ≤ k.length) (fun i => k.length - i) 0 (Nat.zero_le _) ?_
  rintro i L1 hi
  refine zg9 ?_
  refine wl_if rfl (fun h10r h10 => ?_) (fun h10r h10 => ?_)
  · have hi2 : i < k.length := by omega
    have hx := hr _ (getD_mem (i := i) (by omega))
    have htl := tmN_le k t i
    refine zg5 ?_
    refine wl_regD 6 (by decide +kernel) ?_
    refine zg5 ?_
    refine cp am2 (c_FSame (k.getD i 0) t (by omega)) ?_
    refine zg2 ?_
    refine wl_if rfl (fun h18r h18 => ?_) (fun h18r h18 => ?_)
    · have etm : tmN k t (i + 1) = tmN k t i + 1 := by rw [tmN, if_pos h18]
      refine zg2 ?_
      refine st_pure rfl (.bin rfl rfl (add1N (by omega))) ?_
      refine zg6 ?_
      refine st_pure rfl (.bin rfl rfl (add1N (by omega))) ?_
      refine zg3 ?_
      exact nx1 (i + 1) (by omega)
    · have etm : tmN k t (i + 1) = tmN k t i := by rw [tmN, if_neg h18]; rfl
      refine zg5 ?_
      refine st_pure rfl (.bin rfl rfl (add1N (by omega))) ?_
      refine zg3 ?_
      exact nx1 (i + 1) (by omega)
  · obtain rfl : i = k.length := by omega
    refine zg12 ?_
    exact ret1 rfl (.pure rfl)
namespace H_c_FDistinct
theorem zSm {p q : Prop} (k : q) (e : p = q := by simp only [e1, e2, e3, e4, p1, p2, p3, q1, q2, q3, l1, t0, t1, r1, r2, r3, r4, Nat.zero_add, Nat.reduceMul, Nat.reduceAdd, b1, b2, b3, b4, b5, b6, i1, i2, i3, i4, i5, i6, Nat.reduceBEq, dfq, eij, eii, ers, etk, edl, List.length_map, take_map_len, map_snoc, len_snoc, List.length_cons, List.length_nil, List.nil_append, List.map_nil, List.take_nil, List.append_nil, List.set_cons_zero, List.set_cons_succ, Nat.reduceEqDiff, reduceIte, if_true, if_false, ptL_kill, poL_kill, kills_map ptE, kills_map poE, kills_map ratE, ratL_kill, spL_kill, LV.kill, kills]; exact rfl) : p := e.mpr k
end H_c_FDistinct
open H_c_FDistinct in
theorem c_FDistinct (k : List Rat) (hl : k.length ≤ 1000) (hr : ∀ x ∈ k, rl x ≤ 1000000) : CallP Tryz.prog 316 [.list 3 (k.map ratL)] (.list 3 ((dsN k k.length).map ratL)) := by
  refine fnP Tryz.func316 ?_
  have eij : True := trivial
  have eii : True := trivial
  have ers : True := trivial
  have etk : True := trivial
  have edl : True := trivial
  refine zg17 ?_
  refine wl_weak (Weak.own (t := 3) 32 3 rfl rfl) ?_
  refine lp1 (fun (i : Nat) L => ((((St.mk L.slot (hp [(32, ⟨3, (dsN k i).map ratL, true⟩)])).put (some 0) (.list 3 (k.map ratL))).put (some 3) (.ref 32 3 0 (dsN k i).length)).put (some 4) (nI64 i))) (fun i => i ≤ k.length) (fun i => k.length - i) 0 (Nat.zero_le _) ?_
  rintro i L1 hi
  refine zg9 ?_
  refine wl_if rfl (fun h8r h8 => ?_) (fun h8r h8 => ?_)
  · have hi2 : i < k.length := by omega
    have hdi := dsN_le k i
    have hx := hr _ (getD_mem (i := i) (by omega))
    have hx1 := hr _ (getD_mem (i := (i - 1)) (by omega))
    refine zg5 ?_
    refine wl_regD 15 (by decide +kernel) ?_
    refine zg3 ?_
    refine op_if 13 rfl (fun h13r h13 => ?_) (fun h13r h13 => ?_)
    · have hc : i = 0 ∨ k.getD i 0 ≠ k.getD (i - 1) 0 := .inl (by omega)
      have ers : dsN k i ++ [k.getD i 0] = dsN k (i + 1) := by rw [dsN, if_pos hc]
      have edl : (dsN k (i + 1)).length = (dsN k i).length + 1 := by rw [dsN, if_pos hc]; simp
      have etk : ((dsN k i).map ratL).take (dsN k i).length = (dsN k i).map ratL := List.take_of_length_le (by rw [List.length_map]; omega)
      refine zg22 ?_
      refine st_store rfl (.app (news := [ratL (k.getD i 0)]) rfl rfl rfl rfl rfl (by rw [List.length_map]; omega) (.inl rfl) (by decide) Tryz.underlying33 Tryz.underlying33 Z29a T29 rfl B29 (.inl ⟨31, 0, _, rfl, by decide, rfl, rfl, by simp, rfl, by simp [pures, ratE.pure]⟩) (by simp; omega) (by simp; omega) (by decide)) ?_
      refine zg4 ?_
      refine wl_regW (Weak.kill _ 31) ?_
      refine zg1 ?_
      refine st_pure rfl (.bin rfl rfl (add1N (by omega))) ?_
      refine zg3 ?_
      exact nx1 (i + 1) (by omega)
    · have eij : ((i : Int) - 1).toNat = i - 1 := by omega
      refine zg6 ?_
      refine st_pure (guardX (v := false) rfl rfl (h13r) rfl) (.bin rfl rfl (sub1N (by omega) (by omega))) ?_
      refine zg2 ?_
      refine cp am2 (c_FSame (k.getD i 0) (k.getD (i - 1) 0) (by omega)) ?_
      refine zg4 ?_
      refine wl_if rfl (fun h25r h25 => ?_) (fun h25r h25 => ?_)
      · have hc : i = 0 ∨ k.getD i 0 ≠ k.getD (i - 1) 0 := by first | exact .inl (by omega) | exact .inr h24 | exact .inr (by simpa using h24) | exact .inr h25 | exact .inr (by simpa using h25)
        have ers : dsN k i ++ [k.getD i 0] = dsN k (i + 1) := by rw [dsN, if_pos hc]
        have edl : (dsN k (i + 1)).length = (dsN k i).length + 1 := by rw [dsN, if_pos hc]; simp
        have etk : ((dsN k i).map ratL).take (dsN k i).length = (dsN k i).map ratL := List.take_of_length_le (by rw [List.length_map]; omega)
        refine zg7 ?_
        refine st_store rfl (.app (news := [ratL (k.getD i 0)]) rfl rfl rfl rfl rfl (by rw [List.length_map]; omega) (.inl rfl) (by decide) Tryz.underlying33 Tryz.underlying33 Z29a T29 rfl B29 (.inl ⟨31, 0, _, rfl, by decide, rfl, rfl, by simp, rfl, by simp [pures, ratE.pure]⟩) (by simp; omega) (by simp; omega) (by decide)) ?_
        refine zg4 ?_
        refine wl_regW (Weak.kill _ 31) ?_
        refine zg1 ?_
        refine st_pure rfl (.bin rfl rfl (add1N (by omega))) ?_
        refine zg3 ?_
        exact nx1 (i + 1) (by omega)
      · have ers : dsN k (i + 1) = dsN k i := by
          rw [dsN, if_neg]
          rintro (e | e)
          · omega
          · first | exact e h24 | exact absurd e (by simpa using h24) | exact e h25 | exact absurd e (by simpa using h25)
        have edl : True := trivial
        refine zg3 ?_
        refine wl_regW (Weak.kill _ 31) ?_
        refine zg1 ?_
        refine st_pure rfl (.bin rfl rfl (add1N (by omega))) ?_
        refine zg3 ?_
        exact nx1 (i + 1) (by omega)
  · obtain rfl : i = k.length := by omega
    refine zg12 ?_
    exact ret1f [32] rfl rfl (imm_refm ratE rfl rfl rfl)
end Go.Proofs.YtgfbghoihhnahaaGreat
end
section
set_option linter.unusedVariables false
set_option linter.unusedSimpArgs false
set_option maxHeartbeats 8000000
set_option maxRecDepth 100000
attribute [local irreducible] Go.Lg.opsL Go.Lg.wpL Go.Lg.thenL Go.Lg.blockL
namespace Go.Proofs.YtgfbghoihhnahaaGreat
open Go.Lg
open H0 in
theorem c_FKPoles (k : List Rat) (d : Nat) (h : d + 1 ≤ k.length) (hl : k.length ≤ 1048576) : CallP Tryz.prog 254 [.list 3 (k.map ratL), nI64 d] (nI64 (k.length - d - 1)) := by
  refine fnP Tryz.func254 ?_
  refine zg10 ?_
  refine st_pure rfl (.bin rfl rfl (sub64 (by omega) (by omega))) ?_
  refine st_pure rfl (.bin rfl rfl (sub64 (by omega) (by omega))) ?_
  refine zg4 ?_
  refine ret1 ?_ (.pure rfl)
  simp only [e1, e2, e3, e4, p1, p2, p3, q1, q2, q3, Nat.reduceBEq]
  congr 2
  omega
namespace H_c_FKCheck
theorem zSm {p q : Prop} (k : q) (e : p = q := by simp only [e1, e2, e3, e4, p1, p2, p3, q1, q2, q3, l1, t0, t1, r1, r2, r3, r4, Nat.zero_add, Nat.reduceMul, Nat.reduceAdd, b1, b2, b3, b4, b5, b6, i1, i2, i3, i4, i5, i6, Nat.reduceBEq, dfq, eij, List.length_map, List.set_cons_zero, List.set_cons_succ, Nat.reduceEqDiff, reduceIte, if_true, if_false, ptL_kill, poL_kill, kills_map ptE, kills_map poE, kills_map ratE, ratL_kill, spL_kill, LV.kill, kills]; exact rfl) : p := e.mpr k
end H_c_FKCheck
open H_c_FKCheck in
theorem c_FKCheck (k : List Rat) (d : Nat) (h : kOK k d) : CallP Tryz.prog 253 [.list 3 (k.map ratL), nI64 d] (iL 0) := by
  have hd1 := h.d1
  have hd6 := h.d6
  have hlen := h.len
  have hmax := h.max
  have hr : ∀ x ∈ k, rl x ≤ 1000000 := fun x hx => Nat.le_trans (h.sz x hx) (by decide)
  have hds2 := ds_two h
  have hdl := dsN_le k k.length
  refine fnP Tryz.func253 ?_
  have eij : True := trivial
  refine zg11 ?_
  refine op_if 11 rfl (fun h11r h11 => ?_) (fun h11r h11 => ?_)
  · omega
  · refine zg5 ?_
    refine wl_if rfl (fun h14r h14 => ?_) (fun h14r h14 => ?_)
    · omega
    · refine zg8 ?_
      refine st_pure rfl (.bin rfl rfl (mul64 (by omega) (by omega))) ?_
      refine st_pure rfl (.bin rfl rfl (add64 (by omega) (by omega))) ?_
      refine zg3 ?_
      refine wl_if rfl (fun h20r h20 => ?_) (fun h20r h20 => ?_)
      · omega
      · refine zg7 ?_
        refine cp am2 (c_FKPoles k d (by omega) (by omega)) ?_
        refine zg3 ?_
        refine wl_if rfl (fun h24r h24 => ?_) (fun h24r h24 => ?_)
        · omega
        · refine zg9 ?_
          refine lp1 (fun (i : Nat) L => ((((St.mk L.slot (hp [])).put (some 0) (.list 3 (k.map ratL))).put (some 1) (nI64 d)).put (some 5) (nI64 (i + 1)))) (fun i => i + 1 ≤ k.length) (fun i => k.length - i) 0 (by omega) ?_
          rintro i L1 hi
          refine zg9 ?_
          refine wl_if rfl (fun h28r h28 => ?_) (fun h28r h28 => ?_)
          · have hi2 : i + 1 < k.length := by omega
            have hx := hr _ (getD_mem (p := k) (i := i) (by omega))
            have hx1 := hr _ (getD_mem (p := k) (i := i + 1) (by omega))
            have hs1 := h.srt i hi2
            have eij : (((i + 1 : Nat) : Int) - 1).toNat = i := by omega
            refine zg5 ?_
            refine wl_regD 11 (by decide +kernel) ?_
            refine zg6 ?_
            refine st_pure rfl (.bin rfl rfl (sub1N (by omega) (by omega))) ?_
            refine zg2 ?_
            try simp only [t1, dfq, Nat.add_sub_cancel, Int.toNat_natCast, eij]
            refine cp am2 (c_FRCmp (k.getD (i + 1) 0) (k.getD i 0) (by omega)) ?_
            refine zg3 ?_
            refine wl_if rfl (fun h41r h41 => ?_) (fun h41r h41 => ?_)
            · have := cmpR_ge.2 (show k.getD i 0 ≤ k.getD (i + 1) 0 from hs1)
              omega
            · refine zg5 ?_
              refine st_pure rfl (.bin rfl rfl (add1N (by omega))) ?_
              refine zg3 ?_
              exact nx1 (i + 1) (by omega)
          · refine zg8 ?_
            refine cp am1 (c_FDistinct k (by omega) hr) ?_
            refine zg10 ?_
            refine lp1 (fun (i : Nat) L => (((((St.mk L.slot (hp [])).put (some 0) (.list 3 (k.map ratL))).put (some 1) (nI64 d)).put (some 6) (.list 3 ((dsN k k.length).map ratL))).put (some 7) (nI64 i))) (fun i => i ≤ (dsN k k.length).length) (fun i => (dsN k k.length).length - i) 0 (Nat.zero_le _) ?_
            rintro i L2 hi
            refine zg9 ?_
            refine wl_if rfl (fun h47r h47 => ?_) (fun h47r h47 => ?_)
            · have hi2 : i < (dsN k k.length).length := by omega
              have hm := dsN_mem k k.length (Nat.le_refl _) _ (getD_mem hi2)
              have hrt := hr _ hm
              obtain ⟨w1, w2, w3⟩ := ds_tm h hi2
              refine zg11 ?_
              refine cp am2 (c_FTimes k (by omega) hr ((dsN k k.length).getD i 0) hrt) ?_
              refine zg8 ?_
              refine op_if 58 rfl (fun h58r h58 => ?_) (fun h58r h58 => ?_)
              · refine zg9 ?_
                refine st_pure (guardX (v := true) rfl rfl (rfl) rfl) (.bin rfl rfl (add1N (by omega))) ?_
                refine zg3 ?_
                refine op_if 71 rfl (fun h71r h71 => ?_) (fun h71r h71 => ?_)
                · have := w1 (by omega)
                  omega
                · refine zg2 ?_
                  refine st_pure (guardX (v := false) rfl rfl (h71r) rfl) (.bin rfl rfl (add1N (by omega))) ?_
                  refine zg3 ?_
                  refine op_if 77 rfl (fun h77r h77 => ?_) (fun h77r h77 => ?_)
                  · omega
                  · refine zg3 ?_
                    refine op_if 80 rfl (fun h80r h80 => ?_) (fun h80r h80 => ?_)
                    · refine zg3 ?_
                      refine st_pure (guardX (v := true) rfl rfl (h80r) rfl) (.bin rfl rfl (sub1N (by omega) (by omega))) ?_
                      refine zg3 ?_
                      refine op_if 87 rfl (fun h87r h87 => ?_) (fun h87r h87 => ?_)
                      · refine zg7 ?_
                        refine wl_if rfl (fun h92r h92 => ?_) (fun h92r h92 => ?_)
                        · first | omega | (have := w3 (by omega) (by omega); omega)
                        · refine zg5 ?_
                          refine st_pure rfl (.bin rfl rfl (add1N (by omega))) ?_
                          refine zg3 ?_
                          exact nx1 (i + 1) (by omega)
                      · refine zg13 ?_
                        refine st_pure rfl (.bin rfl rfl (add1N (by omega))) ?_
                        refine zg3 ?_
                        exact nx1 (i + 1) (by omega)
                    · refine zg20 ?_
                      refine st_pure rfl (.bin rfl rfl (add1N (by omega))) ?_
                      refine zg3 ?_
                      exact nx1 (i + 1) (by omega)
              · refine zg3 ?_
                refine st_pure (guardX (v := false) rfl rfl (h58r) rfl) (.bin rfl rfl (sub1N (by omega) (by omega))) ?_
                refine zg3 ?_
                refine op_if 65 rfl (fun h65r h65 => ?_) (fun h65r h65 => ?_)
                · refine zg2 ?_
                  refine st_pure (guardX (v := true) rfl rfl (h65r) rfl) (.bin rfl rfl (add1N (by omega))) ?_
                  refine zg3 ?_
                  refine op_if 71 rfl (fun h71r h71 => ?_) (fun h71r h71 => ?_)
                  · have := w1 (by omega)
                    omega
                  · refine zg2 ?_
                    refine st_pure (guardX (v := false) rfl rfl (h71r) rfl) (.bin rfl rfl (add1N (by omega))) ?_
                    refine zg3 ?_
                    refine op_if 77 rfl (fun h77r h77 => ?_) (fun h77r h77 => ?_)
                    · omega
                    · refine zg3 ?_
                      refine op_if 80 rfl (fun h80r h80 => ?_) (fun h80r h80 => ?_)
                      · refine zg3 ?_
                        refine st_pure (guardX (v := true) rfl rfl (h80r) rfl) (.bin rfl rfl (sub1N (by omega) (by omega))) ?_
                        refine zg3 ?_
                        refine op_if 87 rfl (fun h87r h87 => ?_) (fun h87r h87 => ?_)
                        · refine zg7 ?_
                          refine wl_if rfl (fun h92r h92 => ?_) (fun h92r h92 => ?_)
                          · first | omega | (have := w3 (by omega) (by omega); omega)
                          · refine zg5 ?_
                            refine st_pure rfl (.bin rfl rfl (add1N (by omega))) ?_
                            refine zg3 ?_
                            exact nx1 (i + 1) (by omega)
                        · refine zg13 ?_
                          refine st_pure rfl (.bin rfl rfl (add1N (by omega))) ?_
                          refine zg3 ?_
                          exact nx1 (i + 1) (by omega)
                      · refine zg20 ?_
                        refine st_pure rfl (.bin rfl rfl (add1N (by omega))) ?_
                        refine zg3 ?_
                        exact nx1 (i + 1) (by omega)
                · refine zg8 ?_
                  refine st_pure (guardX (v := false) rfl rfl (rfl) rfl) (.bin rfl rfl (add1N (by omega))) ?_
                  refine zg3 ?_
                  refine op_if 77 rfl (fun h77r h77 => ?_) (fun h77r h77 => ?_)
                  · omega
                  · refine zg3 ?_
                    refine op_if 80 rfl (fun h80r h80 => ?_) (fun h80r h80 => ?_)
                    · refine zg3 ?_
                      refine st_pure (guardX (v := true) rfl rfl (h80r) rfl) (.bin rfl rfl (sub1N (by omega) (by omega))) ?_
                      refine zg3 ?_
                      refine op_if 87 rfl (fun h87r h87 => ?_) (fun h87r h87 => ?_)
                      · refine zg7 ?_
                        refine wl_if rfl (fun h92r h92 => ?_) (fun h92r h92 => ?_)
                        · first | omega | (have := w3 (by omega) (by omega); omega)
                        · refine zg5 ?_
                          refine st_pure rfl (.bin rfl rfl (add1N (by omega))) ?_
                          refine zg3 ?_
                          exact nx1 (i + 1) (by omega)
                      · refine zg13 ?_
                        refine st_pure rfl (.bin rfl rfl (add1N (by omega))) ?_
                        refine zg3 ?_
                        exact nx1 (i + 1) (by omega)
                    · refine zg20 ?_
                      refine st_pure rfl (.bin rfl rfl (add1N (by omega))) ?_
                      refine zg3 ?_
                      exact nx1 (i + 1) (by omega)
            · refine zg13 ?_
              refine wl_if rfl (fun h95r h95 => ?_) (fun h95r h95 => ?_)
              · omega
              · refine zg8 ?_
                exact ret1 rfl (.pure rfl)
namespace H_c_FCk10
theorem zSm {p q : Prop} (k : q) (e : p = q := by simp only [e1, e2, e3, e4, p1, p2, p3, q1, q2, q3, l1, t0, t1, r1, r2, r3, r4, Nat.zero_add, Nat.reduceMul, Nat.reduceAdd, b1, b2, b3, b4, b5, b6, i1, i2, i3, i4, i5, i6, Nat.reduceBEq, dfq, List.length_map, List.set_cons_zero, List.set_cons_succ, Nat.reduceEqDiff, reduceIte, if_true, if_false, ptL_kill, poL_kill, kills_map ptE, kills_map poE, kills_map ratE, ratL_kill, spL_kill, LV.kill, kills]; exact rfl) : p := e.mpr k
end H_c_FCk10
open H_c_FCk10 in
theorem c_FCk10 (d : Nat) (kn : List Rat) (po : List PoR) (hk : kOK kn d) (hpo : po.length = kn.length - d - 1) (hq : ∀ q ∈ po, okP 1000000 q) : CallP Tryz.prog 156 [.agg [nI64 d, .list 3 (kn.map ratL), .list 12 (po.map poL)]] (iL (if shL kn = true ∧ shP po = true then 0 else 2)) := by
  have hcp : LV.pure (.agg [nI64 d, .list 3 (kn.map ratL), .list 12 (po.map poL)]) = true := by simp [LV.pure, pures, pures_map ratE, pures_map poE]
  have hd1 := hk.d1
  have hd6 := hk.d6
  have hlen := hk.len
  have hmax := hk.max
  have hr : ∀ x ∈ kn, rl x ≤ 1000000 := fun x hx => Nat.le_trans (hk.sz x hx) (by decide)
  refine fnP Tryz.func156 ?_
  refine zg11 ?_
  refine cp am1 (c_FValids kn (by omega) (fun x hx => Nat.le_trans (hr x hx) (by decide))) ?_
  refine zg3 ?_
  refine wl_condY (b := _) rfl (rfl) ?_
  refine zg9 ?_
  refine lp1 (fun (i : Nat) L => (((St.mk L.slot (hp [(1, ⟨3, [.agg [nI64 d, .list 3 (kn.map ratL), .list 12 (po.map poL)]], true⟩)])).put (some 1) (.eptr 1 3 0 0)).put (some 3) (nI64 i))) (fun i => i ≤ po.length) (fun i => po.length - i) 0 (Nat.zero_le _) ?_
  rintro i L1 hi
  refine zg10 ?_
  refine wl_if rfl (fun h14r h14 => ?_) (fun h14r h14 => ?_)
  · have hi2 : i < po.length := by omega
    obtain ⟨o1, o4, o5⟩ := hq _ (getD_memP hi2)
    refine zg12 ?_
    refine cp am1 (c_FPtValid (po.getD i default).p o1) ?_
    refine zg2 ?_
    refine st_pure (guardX (v := false) rfl rfl ((rfl)) rfl) faA ?_
    refine st_pure (guardX (v := false) rfl rfl ((rfl)) rfl) ldA ?_
    refine st_pure (guardX (v := false) rfl rfl ((rfl)) rfl) (.move _) ?_
    refine st_pure (guardX (v := false) rfl rfl ((rfl)) rfl) ixA ?_
    refine st_pure (guardX (v := false) rfl rfl ((rfl)) rfl) faA ?_
    refine st_pure (guardX (v := false) rfl rfl ((rfl)) rfl) ldA ?_
    refine st_callP (guardX (v := false) rfl rfl ((rfl)) rfl) (.cons im0 .nil) (c_FRValid (po.getD i default).w (by omega)) ?_
    refine st_pure (guardX (v := false) rfl rfl ((rfl)) rfl) (.not rfl) ?_
    refine st_pure rfl (.pickF rfl ((rfl))) ?_
    refine zg2 ?_
    refine wl_condY (b := _) rfl (rfl) ?_
    refine zg5 ?_
    refine st_pure rfl (.bin rfl rfl (add1N (by omega))) ?_
    refine zg3 ?_
    exact nx1 (i + 1) (by omega)
  · refine zg12 ?_
    refine cp am2 (c_FKCheck kn d hk) ?_
    refine zg9 ?_
    refine wl_if rfl (fun h41r h41 => ?_) (fun h41r h41 => ?_)
    · first | exact h41.elim | cases h41r | exact absurd h41r (by decide)
    · refine zg4 ?_
      refine wl_regD 9 (by decide +kernel) ?_
      refine zg7 ?_
      refine cp am2 (c_FKPoles kn d (by omega) (by omega)) ?_
      refine zg3 ?_
      refine wl_if rfl (fun h51r h51 => ?_) (fun h51r h51 => ?_)
      · omega
      · refine zg9 ?_
        refine lp1 (fun (i : Nat) L => (((St.mk L.slot (hp [(1, ⟨3, [.agg [nI64 d, .list 3 (kn.map ratL), .list 12 (po.map poL)]], true⟩)])).put (some 1) (.eptr 1 3 0 0)).put (some 5) (nI64 i))) (fun i => i ≤ po.length) (fun i => po.length - i) 0 (Nat.zero_le _) ?_
        rintro i L2 hi
        refine zg10 ?_
        refine wl_if rfl (fun h56r h56 => ?_) (fun h56r h56 => ?_)
        · have hi2 : i < po.length := by omega
          obtain ⟨o1, o4, o5⟩ := hq _ (getD_memP hi2)
          refine zg12 ?_
          refine cp am1 (c_FSign (po.getD i default).w) ?_
          refine zg3 ?_
          refine wl_if rfl (fun h66r h66 => ?_) (fun h66r h66 => ?_)
          · have := sgn_pos o5
            omega
          · refine zg5 ?_
            refine st_pure rfl (.bin rfl rfl (add1N (by omega))) ?_
            refine zg3 ?_
            exact nx1 (i + 1) (by omega)
        · refine zg10 ?_
          refine cp am1 (c_FShort kn (by omega) hr) ?_
          refine zg2 ?_
          refine op_if 71 rfl (fun h71r h71 => ?_) (fun h71r h71 => ?_)
          · have hV : ¬(shL kn = true ∧ shP po = true) := fun e => by rw [e.1] at h71r; cases h71r
            refine zg15 ?_
            first | (rw [if_pos hV]; exact ret1 rfl (.pure rfl)) | (rw [if_neg hV]; exact ret1 rfl (.pure rfl))
          · refine zg2 ?_
            refine cp am1 (c_FShortP po (by omega) hq) ?_
            refine zg4 ?_
            refine wl_if rfl (fun h76r h76 => ?_) (fun h76r h76 => ?_)
            · have hV : ¬(shL kn = true ∧ shP po = true) := fun e => by first | (rw [e.1] at h75r; cases h75r) | (rw [e.2] at h76r; cases h76r) | (simp [e.1, e.2] at *)
              refine zg7 ?_
              first | (rw [if_pos hV]; exact ret1 rfl (.pure rfl)) | (rw [if_neg hV]; exact ret1 rfl (.pure rfl))
            · have hV : shL kn = true ∧ shP po = true := by first | (simp at *; simp [*]; done) | (constructor <;> simp_all)
              refine zg8 ?_
              first | (rw [if_pos hV]; exact ret1 rfl (.pure rfl)) | (rw [if_neg hV]; exact ret1 rfl (.pure rfl))
namespace H_c_FCk11a
theorem zSm {p q : Prop} (k : q) (e : p = q := by simp only [e1, e2, e3, e4, p1, p2, p3, q1, q2, q3, l1, t0, t1, r1, r2, r3, r4, Nat.zero_add, Nat.reduceMul, Nat.reduceAdd, b1, b2, b3, b4, b5, b6, i1, i2, i3, i4, i5, i6, Nat.reduceBEq, List.set_cons_zero, List.set_cons_succ, Nat.reduceEqDiff, reduceIte, if_true, if_false, ptL_kill, poL_kill, kills_map ptE, kills_map poE, kills_map ratE, ratL_kill, spL_kill, LV.kill, kills]; exact rfl) : p := e.mpr k
end H_c_FCk11a
open H_c_FCk11a in
theorem c_FCk11a (d : Nat) (kn : List Rat) (po : List PoR) (hk : kOK kn d) (hpo : po.length = kn.length - d - 1) (hq : ∀ q ∈ po, okP 1000000 q) (hc : CallP Tryz.prog 156 [.agg [nI64 d, .list 3 (kn.map ratL), .list 12 (po.map poL)]] (iL 0)) : CallP Tryz.prog 58 [.agg [nI64 d, .list 3 (kn.map ratL), .list 12 (po.map poL)]] (iL (if po.length = d + 1 then 0 else 5)) := by
  have hcp : LV.pure (.agg [nI64 d, .list 3 (kn.map ratL), .list 12 (po.map poL)]) = true := by simp [LV.pure, pures, pures_map ratE, pures_map poE]
  have hd6 := hk.d6
  have hmax := hk.max
  refine fnP Tryz.func58 ?_
  refine zg10 ?_
  refine cp am1 (hc) ?_
  refine zg9 ?_
  refine wl_if rfl (fun h7r h7 => ?_) (fun h7r h7 => ?_)
  · first | exact h7.elim | cases h7r | exact absurd h7r (by decide)
  · refine zg10 ?_
    refine st_pure rfl (.bin rfl rfl (add1N (by omega))) ?_
    refine zg3 ?_
    refine wl_if rfl (fun h15r h15 => ?_) (fun h15r h15 => ?_)
    · have hV : ¬po.length = d + 1 := by omega
      refine zg7 ?_
      first | (rw [if_pos hV]; exact ret1 rfl (.pure rfl)) | (rw [if_neg hV]; exact ret1 rfl (.pure rfl))
    · have hV : po.length = d + 1 := by omega
      refine zg8 ?_
      first | (rw [if_pos hV]; exact ret1 rfl (.pure rfl)) | (rw [if_neg hV]; exact ret1 rfl (.pure rfl))
namespace H_c_FCk11b
theorem zSm {p q : Prop} (k : q) (e : p = q := by simp only [e1, e2, e3, e4, p1, p2, p3, q1, q2, q3, l1, t0, t1, r1, r2, r3, r4, Nat.zero_add, Nat.reduceMul, Nat.reduceAdd, b1, b2, b3, b4, b5, b6, i1, i2, i3, i4, i5, i6, Nat.reduceBEq, List.set_cons_zero, List.set_cons_succ, Nat.reduceEqDiff, reduceIte, if_true, if_false, ptL_kill, poL_kill, kills_map ptE, kills_map poE, kills_map ratE, ratL_kill, spL_kill, LV.kill, kills]; exact rfl) : p := e.mpr k
end H_c_FCk11b
open H_c_FCk11b in
theorem c_FCk11b (d : Nat) (kn : List Rat) (po : List PoR) (hk : kOK kn d) (hpo : po.length = kn.length - d - 1) (hq : ∀ q ∈ po, okP 1000000 q) (hc : CallP Tryz.prog 156 [.agg [nI64 d, .list 3 (kn.map ratL), .list 12 (po.map poL)]] (iL 2)) : CallP Tryz.prog 58 [.agg [nI64 d, .list 3 (kn.map ratL), .list 12 (po.map poL)]] (iL 2) := by
  have hcp : LV.pure (.agg [nI64 d, .list 3 (kn.map ratL), .list 12 (po.map poL)]) = true := by simp [LV.pure, pures, pures_map ratE, pures_map poE]
  have hd6 := hk.d6
  have hmax := hk.max
  refine fnP Tryz.func58 ?_
  refine zg10 ?_
  refine cp am1 (hc) ?_
  refine zg9 ?_
  refine wl_if rfl (fun h7r h7 => ?_) (fun h7r h7 => ?_)
  · refine zg8 ?_
    exact ret1 rfl (.pure rfl)
  · first | exact h7.elim | cases h7r | exact absurd h7r (by decide)
theorem c_FCk11 (d : Nat) (kn : List Rat) (po : List PoR) (hk : kOK kn d) (hpo : po.length = kn.length - d - 1) (hq : ∀ q ∈ po, okP 1000000 q) : CallP Tryz.prog 58 [.agg [nI64 d, .list 3 (kn.map ratL), .list 12 (po.map poL)]] (iL (if shL kn = true ∧ shP po = true then (if po.length = d + 1 then 0 else 5) else 2)) := by
  have hc := c_FCk10 d kn po hk hpo hq
  by_cases hS : shL kn = true ∧ shP po = true
  · rw [if_pos hS] at hc ⊢
    exact c_FCk11a d kn po hk hpo hq hc
  · rw [if_neg hS] at hc ⊢
    exact c_FCk11b d kn po hk hpo hq hc
end Go.Proofs.YtgfbghoihhnahaaGreat
end
section
set_option linter.unusedVariables false
set_option linter.unusedSimpArgs false
set_option maxHeartbeats 8000000
set_option maxRecDepth 100000
attribute [local irreducible] Go.Lg.opsL Go.Lg.wpL Go.Lg.thenL Go.Lg.blockL
namespace Go.Proofs.YtgfbghoihhnahaaGreat
open Go.Lg
/-- knots with inner ones between T and E -/
def kx (d : Nat) (T : Rat) (inn : List Rat) (E : Rat) : List Rat := List.replicate (d + 1) T ++ (inn ++ List.replicate (d + 1) E)
theorem kx_len (d : Nat) (T : Rat) (inn : List Rat) (E : Rat) : (kx d T inn E).length = 2 * (d + 1) + inn.length := by simp [kx]; omega
theorem kx_get (d : Nat) (T : Rat) (inn : List Rat) (E : Rat) (i : Nat) (h : i < 2 * (d + 1) + inn.length) : (kx d T inn E).getD i 0 = if i < d + 1 then T else if i < d + 1 + inn.length then inn.getD (i - (d + 1)) 0 else E := by
  unfold kx
  split
  · rw [gD1 (by simp; omega), getD_rep (by omega)]
  · rw [gD2 (by simp; omega), List.length_replicate]
    split
    · rw [gD1 (by omega)]
    · rw [gD2 (by omega), getD_rep (by omega)]
theorem tm_no {l : List Rat} {t : Rat} (h : ∀ x ∈ l, x ≠ t) : ∀ i, i ≤ l.length → tmN l t i = 0
  | 0, _ => rfl
  | i + 1, hi => by rw [tmN, tm_no h i (by omega), if_neg (h _ (getD_mem (by omega)))]
theorem kx_tm (d : Nat) (T : Rat) (inn : List Rat) (E t : Rat) : tmN (kx d T inn E) t (kx d T inn E).length = (if T = t then d + 1 else 0) + (tmN inn t inn.length + (if E = t then d + 1 else 0)) := by
  have h := tm_app (List.replicate (d + 1) T) (inn ++ List.replicate (d + 1) E) t (inn.length + (d + 1))
  have h2 := tm_app inn (List.replicate (d + 1) E) t (d + 1)
  rw [List.length_replicate] at h
  have e : (kx d T inn E).length = d + 1 + (inn.length + (d + 1)) := by rw [kx_len]; omega
  rw [e]
  show tmN (List.replicate (d + 1) T ++ _) t _ = _
  rw [h, h2, tm_const _ _ _ _ (Nat.le_refl _), tm_const _ _ _ _ (Nat.le_refl _)]
/-- what inner knots are -/
structure inOK (d : Nat) (T : Rat) (inn : List Rat) (E : Rat) : Prop where
  btw : ∀ x ∈ inn, T < x ∧ x < E
  srt : ∀ i, i + 1 < inn.length → inn.getD i 0 ≤ inn.getD (i + 1) 0
  tms : ∀ x ∈ inn, tmN inn x inn.length ≤ d
  len : inn.length ≤ 2
  sz : ∀ x ∈ inn, rl x ≤ 64
theorem kx_ok {d : Nat} {T E : Rat} {inn : List Rat} (h1 : 1 ≤ d) (h6 : d ≤ 6) (hT : rl T ≤ 64) (hE : rl E ≤ 64) (hTE : T < E) (h : inOK d T inn E) : kOK (kx d T inn E) d := by
  have hl := kx_len d T inn E
  have hn := h.len
  have hne : T ≠ E := by grind
  have e0 : (kx d T inn E).getD 0 0 = T := by rw [kx_get _ _ _ _ _ (by omega), if_pos (by omega)]
  have e1 : (kx d T inn E).getD ((kx d T inn E).length - 1) 0 = E := by rw [hl, kx_get _ _ _ _ _ (by omega), if_neg (by omega), if_neg (by omega)]
  have hm : ∀ x ∈ kx d T inn E, x = T ∨ x ∈ inn ∨ x = E := fun x hx => by
    rcases List.mem_append.1 hx with g | g
    · exact .inl (List.mem_replicate.1 g).2
    · rcases List.mem_append.1 g with g | g
      · exact .inr (.inl g)
      · exact .inr (.inr (List.mem_replicate.1 g).2)
  refine ⟨h1, h6, by omega, by omega, fun i hi => ?_, by rw [e0, e1]; exact hne, fun t ht he => ?_, fun t ht g0 g1 => ?_, fun x hx => ?_⟩
  · rw [kx_get _ _ _ _ _ (by omega), kx_get _ _ _ _ _ (by omega)]
    by_cases c1 : i + 1 < d + 1
    · rw [if_pos (by omega), if_pos c1]; exact Rat.le_refl
    · rw [if_neg c1]
      by_cases c2 : i < d + 1
      · rw [if_pos c2]
        split
        · exact Rat.le_of_lt (h.btw _ (getD_mem (by omega))).1
        · exact Rat.le_of_lt hTE
      · rw [if_neg c2]
        by_cases c3 : i + 1 < d + 1 + inn.length
        · rw [if_pos (by omega), if_pos c3, show i + 1 - (d + 1) = i - (d + 1) + 1 by omega]
          exact h.srt _ (by omega)
        · rw [if_neg c3]
          split
          · exact Rat.le_of_lt (h.btw _ (getD_mem (by omega))).2
          · exact Rat.le_refl
  · rw [kx_tm]
    rw [e0, e1] at he
    have z : ∀ s, (s = T ∨ s = E) → tmN inn s inn.length = 0 := fun s hs => tm_no (fun x hx e => by
      have := h.btw x hx
      rcases hs with rfl | rfl
      · rw [e] at this; exact absurd this.1 (by grind)
      · rw [e] at this; exact absurd this.2 (by grind)) _ (Nat.le_refl _)
    rw [z t he]
    rcases he with rfl | rfl
    · rw [if_pos rfl, if_neg (fun e => hne e.symm)]
    · rw [if_neg hne, if_pos rfl]; omega
  · rw [e0] at g0; rw [e1] at g1
    rw [kx_tm, if_neg (fun e => g0 e.symm), if_neg (fun e => g1 e.symm)]
    rcases hm t ht with e | e | e
    · exact absurd e g0
    · have := h.tms t e; omega
    · exact absurd e g1
  · rcases hm x hx with rfl | g | rfl
    · exact hT
    · exact h.sz x g
    · exact hE
theorem bxN_at (l : List V3) (k : Nat) : ∀ n, ∃ i j, i ≤ n ∧ j ≤ n ∧ (bxN l k n).1 = (l.getD i default).at k ∧ (bxN l k n).2 = (l.getD j default).at k
  | 0 => ⟨0, 0, Nat.le_refl _, Nat.le_refl _, rfl, rfl⟩
  | n + 1 => by
    obtain ⟨i, j, hi, hj, e1, e2⟩ := bxN_at l k n
    rw [bxN]
    unfold hulP mnR mxR
    simp only
    by_cases c1 : (l.getD (n + 1) default).at k < (bxN l k n).1
    · rw [if_pos c1]
      by_cases c2 : (bxN l k n).2 < (l.getD (n + 1) default).at k
      · rw [if_pos c2]; exact ⟨n + 1, n + 1, Nat.le_refl _, Nat.le_refl _, rfl, rfl⟩
      · rw [if_neg c2]; exact ⟨n + 1, j, Nat.le_refl _, by omega, rfl, e2⟩
    · rw [if_neg c1]
      by_cases c2 : (bxN l k n).2 < (l.getD (n + 1) default).at k
      · rw [if_pos c2]; exact ⟨i, n + 1, by omega, Nat.le_refl _, e1, rfl⟩
      · rw [if_neg c2]; exact ⟨i, j, by omega, by omega, e1, e2⟩
theorem bx_ins {l : List V3} {k n : Nat} {lo hi : Rat} (h : ∀ i, i ≤ n → lo ≤ (l.getD i default).at k ∧ (l.getD i default).at k ≤ hi) : insR (bxN l k n) (lo, hi) = true := by
  obtain ⟨i, j, hi, hj, e1, e2⟩ := bxN_at l k n
  unfold insR hasR
  rw [e1, e2, decide_eq_true (h i hi).1, decide_eq_true (h i hi).2, decide_eq_true (h j hj).1, decide_eq_true (h j hj).2]; rfl
/-- the box of a part lies in the box -/
theorem cut_box {po : List PoR} {d R : Nat} (h : cvR po d R) {x y : Rat} (hx0 : 0 ≤ x) (hx1 : x < 1) (hy0 : 0 ≤ y) (hy1 : y ≤ 1) {k : Nat} (hk : k < 3) :
    insR (bxN ((cutP po x y).map (·.p)) k (((cutP po x y).map (·.p)).length - 1)) (bxN (po.map (·.p)) k ((po.map (·.p)).length - 1)) = true := by
  have hl := h.hl
  have hd := h.hd
  have e : (((cutP po x y).map (·.p)).length - 1) = d := by rw [List.length_map, cutP_len]; omega
  rw [e]
  refine bx_ins fun i hi => ?_
  rw [ps_get, cutP_get (by omega)]
  refine cut_in h hx0 hx1 hy0 hy1 hk (fun q hq => ?_) hi
  obtain ⟨m, hm, rfl⟩ := List.mem_iff_getElem.1 hq
  have := bxN_in (po.map (·.p)) k ((po.map (·.p)).length - 1) m (by rw [List.length_map]; omega)
  rw [ps_get, List.getD_eq_getElem?_getD, List.getElem?_eq_getElem hm] at this
  exact this
theorem own_1 (T u : Rat) : (T + u - T) / (T + 1 - T) = u := by
  rw [show T + u - T = u by grind, show T + 1 - T = 1 by grind, div1]
theorem own_h {T u v : Rat} (h : u < v) : ((T + u + (T + v)) * (1 / 2) - (T + u)) / (T + v - (T + u)) = 1 / 2 := by
  have hne : v - u ≠ 0 := by grind
  have e1 : T + v - (T + u) = v - u := by grind
  have e2 : (T + u + (T + v)) * (1 / 2) - (T + u) = 1 / 2 * (v - u) := by grind
  rw [e1, e2, Rat.div_def, Rat.mul_assoc, Rat.mul_inv_cancel _ hne, Rat.mul_one]
theorem own_e {T u v : Rat} (h : u < v) : (T + v - (T + u)) / (T + v - (T + u)) = 1 := by
  have hne : T + v - (T + u) ≠ 0 := by grind
  rw [Rat.div_def, Rat.mul_inv_cancel _ hne]
theorem own_w {T u v w : Rat} (h : u < v) : (T + u + w * (T + v - (T + u)) - (T + u)) / (T + v - (T + u)) = w := by
  have hne : T + v - (T + u) ≠ 0 := by grind
  have e2 : T + u + w * (T + v - (T + u)) - (T + u) = w * (T + v - (T + u)) := by grind
  rw [e2, Rat.div_def, Rat.mul_assoc, Rat.mul_inv_cancel _ hne, Rat.mul_one]
theorem own_m (T u v : Rat) : ((T + u + (T + v)) * (1 / 2) - T) / (T + 1 - T) = (u + v) * (1 / 2) := by
  rw [show T + 1 - T = 1 by grind, div1]; grind
theorem half_in {u v : Rat} (h : u < v) : u < (u + v) * (1 / 2) ∧ (u + v) * (1 / 2) < v := by constructor <;> grind
namespace H_c_Box2
theorem zSm {p q : Prop} (k : q) (e : p = q := by simp only [e1, e2, e3, e4, p1, p2, p3, q1, q2, q3, l1, t0, t1, r1, r2, r3, r4, Nat.zero_add, Nat.reduceMul, Nat.reduceAdd, b1, b2, b3, b4, b5, b6, i1, i2, i3, i4, i5, i6, Nat.reduceBEq, List.set_cons_zero, List.set_cons_succ, Nat.reduceEqDiff, reduceIte, if_true, if_false, ptL_kill, poL_kill, kills_map ptE, kills_map poE, kills_map ratE, ratL_kill, spL_kill, LV.kill, kills]; exact rfl) : p := e.mpr k
end H_c_Box2
open H_c_Box2 in
theorem c_Box2 (d : Nat) (kn : List Rat) (po : List PoR) (R : Nat) (hR : R ≤ 1000000) (h : cvR po d R) : CallP Tryz.prog 52 [.agg [nI64 d, .list 3 (kn.map ratL), .list 12 (po.map poL)]] (bxL (bxP (po.map (·.p)))) := by
  have hl := h.hl
  have hd := h.hd
  have h6 := h.h6
  have hpb : ∀ i, i < (po.map (·.p)).length → bd3 R ((po.map (·.p)).getD i default) := fun i hi => by
    rw [List.length_map] at hi
    rw [ps_get]
    exact (h.ok _ (getD_memP hi)).1
  have hcp : LV.pure (.agg [nI64 d, .list 3 (kn.map ratL), .list 12 (po.map poL)]) = true := by simp [LV.pure, pures, pures_map ratE, pures_map poE]
  refine fnP Tryz.func52 (ht := (fun r => LV.ren_pure r _ (bxE.pure _))) ?_
  refine zg9 ?_
  refine cp am1 (c_points2 d kn po R hR h) ?_
  refine cp am1 (c_VBoxOf (po.map (·.p)) (by rw [List.length_map]; omega) (by rw [List.length_map]; omega) R hR hpb) ?_
  refine zg15 ?_
  exact retC [] rfl rfl rfl cs (at_all cs rfl) T69 (.pure pu)
namespace H_c_Mid
theorem zSm {p q : Prop} (k : q) (e : p = q := by simp only [e1, e2, e3, e4, p1, p2, p3, q1, q2, q3, l1, t0, t1, r1, r2, r3, r4, Nat.zero_add, Nat.reduceMul, Nat.reduceAdd, b1, b2, b3, b4, b5, b6, i1, i2, i3, i4, i5, i6, Nat.reduceBEq, List.set_cons_zero, List.set_cons_succ, Nat.reduceEqDiff, reduceIte, if_true, if_false, ptL_kill, poL_kill, kills_map ptE, kills_map poE, kills_map ratE, ratL_kill, spL_kill, LV.kill, kills]; exact rfl) : p := e.mpr k
end H_c_Mid
open H_c_Mid in
theorem c_Mid (a b : Rat) (ha : rl a ≤ 1000) (hb : rl b ≤ 1000) : CallP Tryz.prog 63 [ratL a, ratL b] (ratL ((a + b) * (1 / 2))) := by
  have hs := rl_add a b
  have hh : rl (1 / 2 : Rat) = 1 := by decide +kernel
  have hq : CallP Tryz.prog 137 [iL 1, iL 2] (ratL (1 / 2)) := by
    have := c_FFrac 1 2 (by decide) (by decide) (by decide) (by decide) (by decide)
    exact this
  refine fnP Tryz.func63 ?_
  refine zg11 ?_
  refine cp am2 (c_FRAdd a b (by omega)) ?_
  refine cp am2 (hq) ?_
  refine cp am2 (c_FRMul (a + b) (1 / 2) (by omega)) ?_
  refine zg4 ?_
  exact retC [] rfl rfl rfl (ratE.csize _) (ratL_all _) T29 (.pure (ratE.pure _))
namespace H_c_FSameP
theorem zSm {p q : Prop} (k : q) (e : p = q := by simp only [e1, e2, e3, e4, p1, p2, p3, q1, q2, q3, l1, t0, t1, r1, r2, r3, r4, Nat.zero_add, Nat.reduceMul, Nat.reduceAdd, b1, b2, b3, b4, b5, b6, i1, i2, i3, i4, i5, i6, Nat.reduceBEq, dfq, List.length_map, List.set_cons_zero, List.set_cons_succ, Nat.reduceEqDiff, reduceIte, if_true, if_false, ptL_kill, poL_kill, kills_map ptE, kills_map poE, kills_map ratE, ratL_kill, spL_kill, LV.kill, kills]; exact rfl) : p := e.mpr k
end H_c_FSameP
open H_c_FSameP in
theorem c_FSameP (po : List PoR) (hl : po.length ≤ 1000) (hq : ∀ q ∈ po, okP 1000000 q) : CallP Tryz.prog 161 [.list 12 (po.map poL), .list 12 (po.map poL)] (bL true) := by
  refine fnP Tryz.func161 ?_
  refine zg15 ?_
  refine wl_if rfl (fun h10r h10 => ?_) (fun h10r h10 => ?_)
  · first | exact absurd rfl h10 | (exfalso; simp at h10; done) | (exfalso; simp at h10r; done)
  · refine zg9 ?_
    refine lp1 (fun (i : Nat) L => ((((St.mk L.slot (hp [])).put (some 0) (.list 12 (po.map poL))).put (some 1) (.list 12 (po.map poL))).put (some 5) (nI64 i))) (fun i => i ≤ po.length) (fun i => po.length - i) 0 (Nat.zero_le _) ?_
    rintro i L1 hi
    refine zg9 ?_
    refine wl_if rfl (fun h14r h14 => ?_) (fun h14r h14 => ?_)
    · have hi2 : i < po.length := by omega
      obtain ⟨o1, o4, o5⟩ := hq _ (getD_memP hi2)
      have hS : CallP Tryz.prog 19 [ratL (po.getD i default).w, ratL (po.getD i default).w] (bL true) := by
        have := c_FSame (po.getD i default).w (po.getD i default).w (by omega)
        rwa [decide_eq_true rfl] at this
      refine zg5 ?_
      refine wl_regD 26 (by decide +kernel) ?_
      refine zg10 ?_
      refine cp am2 (c_FPtSame (po.getD i default).p (o1.le (by decide))) ?_
      refine zg2 ?_
      refine st_pure (guardX (v := false) rfl rfl ((rfl)) rfl) (.move _) ?_
      refine st_pure (guardX (v := false) rfl rfl ((rfl)) rfl) (.move _) ?_
      refine st_pure (guardX (v := false) rfl rfl ((rfl)) rfl) ixA ?_
      refine st_pure (guardX (v := false) rfl rfl ((rfl)) rfl) faA ?_
      refine st_pure (guardX (v := false) rfl rfl ((rfl)) rfl) ldA ?_
      refine st_pure (guardX (v := false) rfl rfl ((rfl)) rfl) (.move _) ?_
      refine st_pure (guardX (v := false) rfl rfl ((rfl)) rfl) (.move _) ?_
      refine st_pure (guardX (v := false) rfl rfl ((rfl)) rfl) ixA ?_
      refine st_pure (guardX (v := false) rfl rfl ((rfl)) rfl) faA ?_
      refine st_pure (guardX (v := false) rfl rfl ((rfl)) rfl) ldA ?_
      refine st_callP (guardX (v := false) rfl rfl ((rfl)) rfl) (.cons im0 (.cons im0 .nil)) (hS) ?_
      refine st_pure (guardX (v := false) rfl rfl ((rfl)) rfl) (.not rfl) ?_
      refine st_pure rfl (.pickF rfl ((rfl))) ?_
      refine zg2 ?_
      refine wl_condY (b := _) rfl (rfl) ?_
      refine zg5 ?_
      refine st_pure rfl (.bin rfl rfl (add1N (by omega))) ?_
      refine zg3 ?_
      exact nx1 (i + 1) (by omega)
    · refine zg11 ?_
      exact ret1 rfl (.pure rfl)
namespace H_c_FCvSame
theorem zSm {p q : Prop} (k : q) (e : p = q := by simp only [e1, e2, e3, e4, p1, p2, p3, q1, q2, q3, l1, t0, t1, r1, r2, r3, r4, Nat.zero_add, Nat.reduceMul, Nat.reduceAdd, b1, b2, b3, b4, b5, b6, i1, i2, i3, i4, i5, i6, Nat.reduceBEq, List.set_cons_zero, List.set_cons_succ, Nat.reduceEqDiff, reduceIte, if_true, if_false, ptL_kill, poL_kill, kills_map ptE, kills_map poE, kills_map ratE, ratL_kill, spL_kill, LV.kill, kills]; exact rfl) : p := e.mpr k
end H_c_FCvSame
open H_c_FCvSame in
theorem c_FCvSame (d : Nat) (kn : List Rat) (po : List PoR) (hk : kn.length ≤ 1000) (hr : ∀ x ∈ kn, rl x ≤ 1000000) (hl : po.length ≤ 1000) (hq : ∀ q ∈ po, okP 1000000 q) : CallP Tryz.prog 62 [.agg [nI64 d, .list 3 (kn.map ratL), .list 12 (po.map poL)], .agg [nI64 d, .list 3 (kn.map ratL), .list 12 (po.map poL)]] (bL true) := by
  have hcp : LV.pure (.agg [nI64 d, .list 3 (kn.map ratL), .list 12 (po.map poL)]) = true := by simp [LV.pure, pures, pures_map ratE, pures_map poE]
  have hL : CallP Tryz.prog 157 [.list 3 (kn.map ratL), .list 3 (kn.map ratL)] (bL true) := by
    have := c_FSameL kn kn (by omega) (by omega) (fun x hx => Nat.le_trans (hr x hx) (by decide)) (fun x hx => Nat.le_trans (hr x hx) (by decide))
    rwa [decide_eq_true rfl] at this
  refine fnP Tryz.func62 ?_
  refine zg15 ?_
  refine st_pure (guardX (v := true) rfl rfl ((beq_self_eq_true _)) rfl) faA ?_
  refine st_pure (guardX (v := true) rfl rfl ((beq_self_eq_true _)) rfl) ldA ?_
  refine st_pure (guardX (v := true) rfl rfl ((beq_self_eq_true _)) rfl) faA ?_
  refine st_pure (guardX (v := true) rfl rfl ((beq_self_eq_true _)) rfl) ldA ?_
  refine st_callP (guardX (v := true) rfl rfl ((beq_self_eq_true _)) rfl) (.cons im0 (.cons im0 .nil)) (hL) ?_
  refine st_pure rfl (.pickT rfl ((beq_self_eq_true _))) ?_
  refine zg1 ?_
  refine st_pure (guardX (v := true) rfl rfl ((rfl)) rfl) faA ?_
  refine st_pure (guardX (v := true) rfl rfl ((rfl)) rfl) ldA ?_
  refine st_pure (guardX (v := true) rfl rfl ((rfl)) rfl) faA ?_
  refine st_pure (guardX (v := true) rfl rfl ((rfl)) rfl) ldA ?_
  refine st_callP (guardX (v := true) rfl rfl ((rfl)) rfl) (.cons im0 (.cons im0 .nil)) (c_FSameP po hl hq) ?_
  refine st_pure rfl (.pickT rfl ((rfl))) ?_
  refine zg4 ?_
  exact ret1 rfl (.pure rfl)
namespace H_c_CutE
theorem zSm {p q : Prop} (k : q) (e : p = q := by simp only [e1, e2, e3, e4, p1, p2, p3, q1, q2, q3, l1, t0, t1, r1, r2, r3, r4, Nat.zero_add, Nat.reduceMul, Nat.reduceAdd, b1, b2, b3, b4, b5, b6, i1, i2, i3, i4, i5, i6, Nat.reduceBEq, List.set_cons_zero, List.set_cons_succ, Nat.reduceEqDiff, reduceIte, if_true, if_false, ptL_kill, poL_kill, kills_map ptE, kills_map poE, kills_map ratE, ratL_kill, spL_kill, LV.kill, kills]; exact rfl) : p := e.mpr k
end H_c_CutE
open H_c_CutE in
theorem c_CutE (d : Nat) (a b : Rat) (po : List PoR) (ha : rl a ≤ 100) (hb : rl b ≤ 100) (hab : a < b) (h9 : d ≤ 6) (lo hi : Rat) (hlo0 : rl lo ≤ 100) (hhi0 : rl hi ≤ 100) (k1 : a ≤ lo) (k0 : a ≤ hi) (k2 : hi ≤ lo) (k3 : hi ≤ b) (k4 : lo ≤ b) (hp0 : 0 < po.length) : CallP Tryz.prog 55 [.agg [nI64 d, .list 3 ((kn2 d a b).map ratL), .list 12 (po.map poL)], ratL lo, ratL hi] (.tup [.agg [.v (.int .i64 0), .v (.slice none 0 0), .v (.slice none 0 0)], iL 7]) := by
  have hcp : LV.pure (.agg [nI64 d, .list 3 ((kn2 d a b).map ratL), .list 12 (po.map poL)]) = true := by simp [LV.pure, pures, pures_map ratE, pures_map poE]
  have hOx := c_own2 d a b po ha hb hab h9 lo _ hlo0 k1 k4 rfl hp0
  have hOy := c_own2 d a b po ha hb hab h9 hi _ hhi0 k0 k3 rfl hp0
  have hcm : cmpR lo hi ≥ 0 := cmpR_ge.2 k2
  refine fnP Tryz.func55 (ht := (tame2 (by simp [LV.pure, pures]) rfl)) ?_
  refine zg13 ?_
  refine cp am2 (hOx) ?_
  refine zg15 ?_
  refine cp am2 (hOy) ?_
  refine zg17 ?_
  refine st_pure (guardX (v := false) rfl rfl ((rfl)) rfl) (.move _) ?_
  refine st_pure (guardX (v := false) rfl rfl ((rfl)) rfl) (.not rfl) ?_
  refine st_pure rfl (.pickF rfl ((rfl))) ?_
  refine zg1 ?_
  refine st_pure (guardX (v := false) rfl rfl ((rfl)) rfl) ldA ?_
  refine st_pure (guardX (v := false) rfl rfl ((rfl)) rfl) ldA ?_
  refine st_callP (guardX (v := false) rfl rfl ((rfl)) rfl) (.cons im0 (.cons im0 .nil)) (c_RCmp lo hi (by omega)) ?_
  refine st_pure (guardX (v := false) rfl rfl ((rfl)) rfl) (.bin rfl rfl rfl) ?_
  refine st_pure rfl (.pickF rfl ((rfl))) ?_
  refine zg2 ?_
  refine wl_if rfl (fun h46r h46 => ?_) (fun h46r h46 => ?_)
  · refine zg9 ?_
    exact retCT [] rfl rfl rfl cs (at_all cs rfl) T36 (.pure (by simp [LV.pure, pures, buildL])) rfl (.pure rfl)
  · first | exact h46 hcm | omega
namespace H_c_BezierCutsA
theorem zSm {p q : Prop} (k : q) (e : p = q := by simp only [e1, e2, e3, e4, p1, p2, p3, q1, q2, q3, l1, t0, t1, r1, r2, r3, r4, Nat.zero_add, Nat.reduceMul, Nat.reduceAdd, b1, b2, b3, b4, b5, b6, i1, i2, i3, i4, i5, i6, Nat.reduceBEq, fz0, dfq, List.set_cons_zero, List.set_cons_succ, Nat.reduceEqDiff, reduceIte, if_true, if_false, ptL_kill, poL_kill, kills_map ptE, kills_map poE, kills_map ratE, ratL_kill, spL_kill, LV.kill, kills]; exact rfl) : p := e.mpr k
end H_c_BezierCutsA
open H_c_BezierCutsA in
theorem c_BezierCutsA (l : List Int) (i j k : Int) (hl : l.length ≤ 9223372036854775807 ∧ ∀ n ∈ l, -9223372036854775808 ≤ n ∧ n ≤ 9223372036854775807) (hi : -9223372036854775808 ≤ i ∧ i ≤ 9223372036854775807) (hj : -9223372036854775808 ≤ j ∧ j ≤ 9223372036854775807) (hk : -9223372036854775808 ≤ k ∧ k ≤ 9223372036854775807) (hge : ptV j ≤ ptV i) : CallP Tryz.prog 9 [.list 1 (l.map i64L), iL i, iL j, iL k] (bL true) := by
  have hlt := hl.1
  obtain ⟨hd1, hd2, hd3⟩ := cD_in (n := 5) l 0 (by decide)
  obtain ⟨hT, hT1⟩ : rl (cT l 0) ≤ 1 ∧ rl ((cT l 0) + 1) ≤ 1 := dt_rl l (nxK l 0)
  have hcv : cvF (cP l 0 5) (cD l 0 5) := ⟨cP_len l 0 5, hd1, by omega, cP_ok l 0 5⟩
  have hcp : LV.pure (.agg [nI64 (cD l 0 5), .list 3 ((kn0 (cD l 0 5) (cT l 0)).map ratL), .list 12 ((cP l 0 5).map poL)]) = true := by simp [LV.pure, pures, pures_map ratE, pures_map poE]
  have h9 : (cD l 0 5) ≤ 6 := by omega
  have hS3 : bdS 1 ((cT l 0), (cT l 0) + 1) := ⟨hT, hT1⟩
  have hpi : rl ((cT l 0) + ptV i) ≤ 3 := wi_rl hT i
  have hpj : rl ((cT l 0) + ptV j) ≤ 3 := wi_rl hT j
  obtain ⟨wi1, wi2⟩ := wi_in (cT l 0) i
  obtain ⟨wj1, wj2⟩ := wi_in (cT l 0) j
  have hpl := hcv.hl
  have hTT : (cT l 0) < (cT l 0) + 1 := by grind
  have hWi : CallP Tryz.prog 25 [spL ((cT l 0), (cT l 0) + 1), iL i] (ratL ((cT l 0) + ptV i)) := by
    have := c_Within ((cT l 0), (cT l 0) + 1) i 1 (by decide) hS3 hi
    rwa [wi_one] at this
  have hWj : CallP Tryz.prog 25 [spL ((cT l 0), (cT l 0) + 1), iL j] (ratL ((cT l 0) + ptV j)) := by
    have := c_Within ((cT l 0), (cT l 0) + 1) j 1 (by decide) hS3 hj
    rwa [wi_one] at this
  have hle : ((cT l 0) + ptV j) ≤ ((cT l 0) + ptV i) := by grind
  have hcm : cmpR ((cT l 0) + ptV i) ((cT l 0) + ptV j) ≥ 0 := cmpR_ge.2 hle
  have hC : CallP Tryz.prog 55 [.agg [nI64 (cD l 0 5), .list 3 ((kn0 (cD l 0 5) (cT l 0)).map ratL), .list 12 ((cP l 0 5).map poL)], ratL ((cT l 0) + ptV i), ratL ((cT l 0) + ptV j)] (.tup [.agg [.v (.int .i64 0), .v (.slice none 0 0), .v (.slice none 0 0)], iL 7]) := by
    have := c_CutE (cD l 0 5) (cT l 0) ((cT l 0) + 1) (cP l 0 5) (by omega) (by omega) hTT h9 ((cT l 0) + ptV i) ((cT l 0) + ptV j) (by omega) (by omega) wi1 wj1 hle wj2 wi2 (by omega)
    rwa [kn2_0] at this
  refine fnP Tryz.func9 ?_
  refine zg9 ?_
  refine cp am1 (c_Light l hlt) ?_
  refine zg3 ?_
  refine wl_if rfl (fun h30r h30 => ?_) (fun h30r h30 => ?_)
  · refine zg2 ?_
    refine cp am0 (c_awake11) ?_
    refine zg5 ?_
    exact ret1 rfl (.pure rfl)
  · have hl5 : l.length ≤ 500 := by simpa using h30
    refine zg5 ?_
    refine cp am1 (c_made11 l hl5) ?_
    refine zg7 ?_
    refine cp am1 (c_FDom (cD l 0 5) (cT l 0) (cP l 0 5) hT hT1 h9) ?_
    refine zg5 ?_
    refine wl_regD 8 (by decide +kernel) ?_
    refine zg2 ?_
    refine cp am2 (hWi) ?_
    refine zg2 ?_
    refine cp am2 (hWj) ?_
    refine zg11 ?_
    refine cp am3 (hC) ?_
    refine zg13 ?_
    refine cp am2 (c_FRCmp ((cT l 0) + ptV i) ((cT l 0) + ptV j) (by omega)) ?_
    refine zg3 ?_
    refine wl_if rfl (fun h52r h52 => ?_) (fun h52r h52 => ?_)
    · refine zg5 ?_
      refine st_callP (guardX (v := true) rfl rfl ((rfl)) rfl) .nil (c_awake11) ?_
      refine st_pure rfl (.pickT rfl ((rfl))) ?_
      refine zg5 ?_
      exact ret1 rfl (.pure rfl)
    · exact absurd hcm h52
theorem cut_nrl {po : List PoR} {d : Nat} (h : cvF po d) {x y : Rat} (hx0 : 0 ≤ x) (hx1 : x < 1) (hy0 : 0 ≤ y) (hy1 : y ≤ 1) (hx : rl (1 - x) + rl x + 1 ≤ 5) (hy : rl (1 - y) + rl y + 1 ≤ 5) : (∀ n, ∀ z ∈ nmP (cutP po x y) n, rl z ≤ 100000) ∧ ∀ z ∈ wtP (cutP po x y), rl z ≤ 100000 := by
  have hcr := h.r
  have g : ∀ n, n < 3 → ∀ z ∈ nmP (cutP po x y) n, rl z ≤ 100000 := fun n c z hz => by
    rw [cut_nm hcr hx0 hx1 hy0 hy1 n c] at hz
    obtain ⟨m, hm, rfl⟩ := List.mem_iff_getElem.1 hz
    have hm2 : m ≤ d := by rw [partF_len, nmP_len, h.hl] at hm; omega
    have e : (partF (nmP po n) x y)[m] = (partF (nmP po n) x y).getD m 0 := by rw [List.getD_eq_getElem?_getD, List.getElem?_eq_getElem hm]; rfl
    rw [e, cut_n hcr hx1 n hm2]
    exact Nat.le_trans (pc_rl (R := 2) hx hy h.h6 hm2 fun i => getD_rl (by decide) (h.n n).2 i) (by decide)
  refine ⟨fun n z hz => ?_, fun z hz => ?_⟩
  · rcases Nat.lt_or_ge n 3 with c | c
    · exact g n c z hz
    · obtain ⟨m, rfl⟩ : ∃ m, n = m + 2 + 1 := ⟨n - 3, by omega⟩
      exact g 2 (by decide) z hz
  · rw [cut_wt hcr] at hz
    obtain ⟨m, hm, rfl⟩ := List.mem_iff_getElem.1 hz
    have hm2 : m ≤ d := by rw [partF_len, wtP_len, h.hl] at hm; omega
    have e : (partF (wtP po) x y)[m] = (partF (wtP po) x y).getD m 0 := by rw [List.getD_eq_getElem?_getD, List.getElem?_eq_getElem hm]; rfl
    rw [e, cut_w hcr hx1 hm2]
    exact Nat.le_trans (pc_rl (R := 2) hx hy h.h6 hm2 fun i => getD_rl (by decide) h.w.2 i) (by decide)
namespace H_c_BezierCutsB
theorem zSm {p q : Prop} (k : q) (e : p = q := by simp only [e1, e2, e3, e4, p1, p2, p3, q1, q2, q3, l1, t0, t1, r1, r2, r3, r4, Nat.zero_add, Nat.reduceMul, Nat.reduceAdd, b1, b2, b3, b4, b5, b6, i1, i2, i3, i4, i5, i6, Nat.reduceBEq, fz0, dfq, List.set_cons_zero, List.set_cons_succ, Nat.reduceEqDiff, reduceIte, if_true, if_false, ptL_kill, poL_kill, kills_map ptE, kills_map poE, kills_map ratE, ratL_kill, spL_kill, LV.kill, kills]; exact rfl) : p := e.mpr k
end H_c_BezierCutsB
open H_c_BezierCutsB in
theorem c_BezierCutsB (l : List Int) (i j k : Int) (hl : l.length ≤ 9223372036854775807 ∧ ∀ n ∈ l, -9223372036854775808 ≤ n ∧ n ≤ 9223372036854775807) (hi : -9223372036854775808 ≤ i ∧ i ≤ 9223372036854775807) (hj : -9223372036854775808 ≤ j ∧ j ≤ 9223372036854775807) (hk : -9223372036854775808 ≤ k ∧ k ≤ 9223372036854775807) (hlt2 : ptV i < ptV j) : CallP Tryz.prog 9 [.list 1 (l.map i64L), iL i, iL j, iL k] (bL true) := by
  have hlt := hl.1
  obtain ⟨hd1, hd2, hd3⟩ := cD_in (n := 5) l 0 (by decide)
  obtain ⟨hT, hT1⟩ : rl (cT l 0) ≤ 1 ∧ rl ((cT l 0) + 1) ≤ 1 := dt_rl l (nxK l 0)
  have hcv : cvF (cP l 0 5) (cD l 0 5) := ⟨cP_len l 0 5, hd1, by omega, cP_ok l 0 5⟩
  have hcp : LV.pure (.agg [nI64 (cD l 0 5), .list 3 ((kn0 (cD l 0 5) (cT l 0)).map ratL), .list 12 ((cP l 0 5).map poL)]) = true := by simp [LV.pure, pures, pures_map ratE, pures_map poE]
  have h9 : (cD l 0 5) ≤ 6 := by omega
  have hS3 : bdS 1 ((cT l 0), (cT l 0) + 1) := ⟨hT, hT1⟩
  have hpi : rl ((cT l 0) + ptV i) ≤ 3 := wi_rl hT i
  have hpj : rl ((cT l 0) + ptV j) ≤ 3 := wi_rl hT j
  obtain ⟨wi1, wi2⟩ := wi_in (cT l 0) i
  obtain ⟨wj1, wj2⟩ := wi_in (cT l 0) j
  have hpl := hcv.hl
  have hTT : (cT l 0) < (cT l 0) + 1 := by grind
  have hWi : CallP Tryz.prog 25 [spL ((cT l 0), (cT l 0) + 1), iL i] (ratL ((cT l 0) + ptV i)) := by
    have := c_Within ((cT l 0), (cT l 0) + 1) i 1 (by decide) hS3 hi
    rwa [wi_one] at this
  have hWj : CallP Tryz.prog 25 [spL ((cT l 0), (cT l 0) + 1), iL j] (ratL ((cT l 0) + ptV j)) := by
    have := c_Within ((cT l 0), (cT l 0) + 1) j 1 (by decide) hS3 hj
    rwa [wi_one] at this
  have hi0 := ptV_in i
  have hj0 := ptV_in j
  have hk0 := ptV_in k
  have rli := ptV_rl i
  have rlj := ptV_rl j
  have rlk := ptV_rl k
  have hr1 : rl 1 = 1 := rfl
  have hrh : rl (1 / 2 : Rat) = 1 := by decide +kernel
  have s_i := rl_sub 1 (ptV i)
  have s_j := rl_sub 1 (ptV j)
  have s_ij := rl_add (ptV i) (ptV j)
  have s_m := rl_mul (ptV i + ptV j) (1 / 2)
  have s_m1 := rl_sub 1 ((ptV i + ptV j) * (1 / 2))
  have s_ji := rl_sub (ptV j) (ptV i)
  have s_k := rl_mul (ptV k) (ptV j - ptV i)
  have s_kk := rl_add (ptV i) (ptV k * (ptV j - ptV i))
  obtain ⟨hm1, hm2⟩ := half_in hlt2
  have hu1 : ptV i < 1 := by grind
  have hx1 : ((ptV i + ptV j) * (1 / 2)) < 1 := by grind
  have hx0 : 0 ≤ ((ptV i + ptV j) * (1 / 2)) := by grind
  have hlo : ((cT l 0) + ptV i) < ((cT l 0) + ptV j) := by grind
  have ht1 : ((cT l 0) + ptV i) ≤ (((cT l 0) + ptV i) + ptV k * (((cT l 0) + ptV j) - ((cT l 0) + ptV i))) := by
    have := Rat.mul_nonneg hk0.1 (show 0 ≤ ((cT l 0) + ptV j) - ((cT l 0) + ptV i) by grind)
    grind
  have ht2 : (((cT l 0) + ptV i) + ptV k * (((cT l 0) + ptV j) - ((cT l 0) + ptV i))) ≤ ((cT l 0) + ptV j) := by
    have := Rat.mul_nonneg (show 0 ≤ 1 - ptV k by grind) (show 0 ≤ ((cT l 0) + ptV j) - ((cT l 0) + ptV i) by grind)
    grind
  have etx : (((cT l 0) + ptV i) + ptV k * (((cT l 0) + ptV j) - ((cT l 0) + ptV i))) - (cT l 0) = ptV i + ptV k * (ptV j - ptV i) := by grind
  have hrm := rl_add ((cT l 0) + ptV i) ((cT l 0) + ptV j)
  have hrm2 := rl_mul (((cT l 0) + ptV i) + ((cT l 0) + ptV j)) (1 / 2)
  have hrd := rl_sub ((cT l 0) + ptV j) ((cT l 0) + ptV i)
  have hrd2 := rl_mul (ptV k) (((cT l 0) + ptV j) - ((cT l 0) + ptV i))
  have hrt := rl_add ((cT l 0) + ptV i) (ptV k * (((cT l 0) + ptV j) - ((cT l 0) + ptV i)))
  have hcr := hcv.r
  have hcq := cut_ok hcr hi0.1 hu1 hj0.1 hj0.2 (S := 5) (by omega) (by omega) (by decide)
  have hcm' := cut_ok hcr hx0 hx1 hj0.1 hj0.2 (S := 13) (by omega) (by omega) (by decide)
  have hNP : ∀ n, ∀ z ∈ nmP (cP l 0 5) n, rl z ≤ 100000 := fun n z hz => Nat.le_trans ((hcv.n n).2 z hz) (by decide)
  have hWP : ∀ z ∈ wtP (cP l 0 5), rl z ≤ 100000 := fun z hz => Nat.le_trans (hcv.w.2 z hz) (by decide)
  obtain ⟨hNQ2, hWQ2⟩ := cut_nrl hcv hi0.1 hu1 hj0.1 hj0.2 (by omega) (by omega)
  have hC1 : CallP Tryz.prog 55 [.agg [nI64 (cD l 0 5), .list 3 ((kn0 (cD l 0 5) (cT l 0)).map ratL), .list 12 ((cP l 0 5).map poL)], ratL ((cT l 0) + ptV i), ratL ((cT l 0) + ptV j)] (.tup [.agg [nI64 (cD l 0 5), .list 3 ((kn2 (cD l 0 5) ((cT l 0) + ptV i) ((cT l 0) + ptV j)).map ratL), .list 12 ((cutP (cP l 0 5) (ptV i) (ptV j)).map poL)], iL 0]) := by
    have := c_Cut2 (cD l 0 5) (cT l 0) ((cT l 0) + 1) (cP l 0 5) (by omega) (by omega) hTT h9 ((cT l 0) + ptV i) ((cT l 0) + ptV j) (ptV i) (ptV j) (by omega) (by omega) wi1 hlo wj2 (own_1 _ _) (own_1 _ _) hu1 (by omega) (by omega) 1 (by decide) hcr hNP hWP hi0.1 hj0.1 hj0.2
    rwa [kn2_0] at this
  have hC2 : CallP Tryz.prog 55 [.agg [nI64 (cD l 0 5), .list 3 ((kn0 (cD l 0 5) (cT l 0)).map ratL), .list 12 ((cP l 0 5).map poL)], ratL ((((cT l 0) + ptV i) + ((cT l 0) + ptV j)) * (1 / 2)), ratL ((cT l 0) + ptV j)] (.tup [.agg [nI64 (cD l 0 5), .list 3 ((kn2 (cD l 0 5) ((((cT l 0) + ptV i) + ((cT l 0) + ptV j)) * (1 / 2)) ((cT l 0) + ptV j)).map ratL), .list 12 ((cutP (cP l 0 5) ((ptV i + ptV j) * (1 / 2)) (ptV j)).map poL)], iL 0]) := by
    have := c_Cut2 (cD l 0 5) (cT l 0) ((cT l 0) + 1) (cP l 0 5) (by omega) (by omega) hTT h9 ((((cT l 0) + ptV i) + ((cT l 0) + ptV j)) * (1 / 2)) ((cT l 0) + ptV j) ((ptV i + ptV j) * (1 / 2)) (ptV j) (by omega) (by omega) (by grind) (by grind) wj2 (own_m _ _ _) (own_1 _ _) hx1 (by omega) (by omega) 1 (by decide) hcr hNP hWP hx0 hj0.1 hj0.2
    rwa [kn2_0] at this
  have ecc : cutP (cutP (cP l 0 5) (ptV i) (ptV j)) (1 / 2) 1 = (cutP (cP l 0 5) ((ptV i + ptV j) * (1 / 2)) (ptV j)) := by
    have := cut_cut hcr (x := ptV i) (y := ptV j) (u := 1 / 2) (v := 1) hi0.1 hu1 hj0.1 hj0.2 (by decide +kernel) (by grind)
    rw [this]
    congr 1 <;> grind
  have hC3 : CallP Tryz.prog 55 [.agg [nI64 (cD l 0 5), .list 3 ((kn2 (cD l 0 5) ((cT l 0) + ptV i) ((cT l 0) + ptV j)).map ratL), .list 12 ((cutP (cP l 0 5) (ptV i) (ptV j)).map poL)], ratL ((((cT l 0) + ptV i) + ((cT l 0) + ptV j)) * (1 / 2)), ratL ((cT l 0) + ptV j)] (.tup [.agg [nI64 (cD l 0 5), .list 3 ((kn2 (cD l 0 5) ((((cT l 0) + ptV i) + ((cT l 0) + ptV j)) * (1 / 2)) ((cT l 0) + ptV j)).map ratL), .list 12 ((cutP (cP l 0 5) ((ptV i + ptV j) * (1 / 2)) (ptV j)).map poL)], iL 0]) := by
    have := c_Cut2 (cD l 0 5) ((cT l 0) + ptV i) ((cT l 0) + ptV j) (cutP (cP l 0 5) (ptV i) (ptV j)) (by omega) (by omega) hlo h9 ((((cT l 0) + ptV i) + ((cT l 0) + ptV j)) * (1 / 2)) ((cT l 0) + ptV j) (1 / 2) 1 (by omega) (by omega) (by grind) (by grind) Rat.le_refl (own_h hlt2) (own_e hlt2) (by decide +kernel) (by decide +kernel) (by decide +kernel) _ (by decide) hcq hNQ2 hWQ2 (by decide +kernel) (by decide +kernel) (by decide +kernel)
    rwa [ecc] at this
  have hkq : kOK (kn2 (cD l 0 5) ((cT l 0) + ptV i) ((cT l 0) + ptV j)) (cD l 0 5) := by
    have := kx_ok (d := (cD l 0 5)) (T := ((cT l 0) + ptV i)) (E := ((cT l 0) + ptV j)) (inn := []) hd1 h9 (by omega) (by omega) hlo ⟨fun x hx => (by cases hx), fun i hi => (by simp at hi), fun x hx => (by cases hx), by decide, fun x hx => (by cases hx)⟩
    exact this
  have hql : (cutP (cP l 0 5) (ptV i) (ptV j)).length = (cD l 0 5) + 1 := hcq.hl
  obtain ⟨e, he, hCk⟩ : ∃ e : Int, (e = 0 ∨ e = 2) ∧ CallP Tryz.prog 58 [.agg [nI64 (cD l 0 5), .list 3 ((kn2 (cD l 0 5) ((cT l 0) + ptV i) ((cT l 0) + ptV j)).map ratL), .list 12 ((cutP (cP l 0 5) (ptV i) (ptV j)).map poL)]] (iL e) := by
    have := c_FCk11 (cD l 0 5) (kn2 (cD l 0 5) ((cT l 0) + ptV i) ((cT l 0) + ptV j)) (cutP (cP l 0 5) (ptV i) (ptV j)) hkq (by rw [kn2_len]; omega) (fun q hq => by obtain ⟨z1, z2, z3⟩ := hcq.ok q hq; exact ⟨z1.le (by decide), by omega, z3⟩)
    rw [if_pos hql] at this
    refine ⟨_, ?_, this⟩
    split
    · exact .inl rfl
    · exact .inr rfl
  have hDq : CallP Tryz.prog 24 [.agg [nI64 (cD l 0 5), .list 3 ((kn2 (cD l 0 5) ((cT l 0) + ptV i) ((cT l 0) + ptV j)).map ratL), .list 12 ((cutP (cP l 0 5) (ptV i) (ptV j)).map poL)]] (spL (((cT l 0) + ptV i), ((cT l 0) + ptV j))) := c_FDom2 (cD l 0 5) ((cT l 0) + ptV i) ((cT l 0) + ptV j) (cutP (cP l 0 5) (ptV i) (ptV j)) (by omega) (by omega) hlo h9
  have hWk : CallP Tryz.prog 25 [spL (((cT l 0) + ptV i), ((cT l 0) + ptV j)), iL k] (ratL (((cT l 0) + ptV i) + ptV k * (((cT l 0) + ptV j) - ((cT l 0) + ptV i)))) := c_Within (((cT l 0) + ptV i), ((cT l 0) + ptV j)) k 3 (by decide) ⟨hpi, hpj⟩ hk
  have hE1 : CallP Tryz.prog 27 [.agg [nI64 (cD l 0 5), .list 3 ((kn2 (cD l 0 5) ((cT l 0) + ptV i) ((cT l 0) + ptV j)).map ratL), .list 12 ((cutP (cP l 0 5) (ptV i) (ptV j)).map poL)], ratL (((cT l 0) + ptV i) + ptV k * (((cT l 0) + ptV j) - ((cT l 0) + ptV i)))] (.tup [ptL (evV (cP l 0 5) (ptV i + ptV k * (ptV j - ptV i))), iL 0]) := by
    have := c_GEval (cD l 0 5) ((cT l 0) + ptV i) ((cT l 0) + ptV j) (((cT l 0) + ptV i) + ptV k * (((cT l 0) + ptV j) - ((cT l 0) + ptV i))) (ptV k) (cutP (cP l 0 5) (ptV i) (ptV j)) _ (by decide) hcq hNQ2 hWQ2 (by grind) (own_w hlt2) (by omega) (by omega) (by omega) ht1 ht2
    rwa [cut_ev hcr hi0.1 hu1 hj0.1 hj0.2] at this
  have hE2 : CallP Tryz.prog 27 [.agg [nI64 (cD l 0 5), .list 3 ((kn0 (cD l 0 5) (cT l 0)).map ratL), .list 12 ((cP l 0 5).map poL)], ratL (((cT l 0) + ptV i) + ptV k * (((cT l 0) + ptV j) - ((cT l 0) + ptV i)))] (.tup [ptL (evV (cP l 0 5) (ptV i + ptV k * (ptV j - ptV i))), iL 0]) := by
    have := c_FEvalC (cD l 0 5) (cT l 0) (((cT l 0) + ptV i) + ptV k * (((cT l 0) + ptV j) - ((cT l 0) + ptV i))) (cP l 0 5) hcv h9 hT hT1 (by omega) (by grind) (by grind)
    rwa [etx] at this
  have heb := evV_bd2 hcv hd2 (x := ptV i + ptV k * (ptV j - ptV i)) (by omega)
  have hMd := c_Mid ((cT l 0) + ptV i) ((cT l 0) + ptV j) (by omega) (by omega)
  have hB1 := c_Box2 (cD l 0 5) (kn2 (cD l 0 5) ((cT l 0) + ptV i) ((cT l 0) + ptV j)) (cutP (cP l 0 5) (ptV i) (ptV j)) _ (by decide) hcq
  have hB2 := c_Box (cD l 0 5) (kn0 (cD l 0 5) (cT l 0)) (cP l 0 5) hcv
  have hpb : ∀ m : Nat, m < ((cP l 0 5).map (·.p)).length → bd3 1 (((cP l 0 5).map (·.p)).getD m default) := fun m hm => ps_bd hcv.ok (by rw [List.length_map] at hm; exact hm)
  have hqb : ∀ m : Nat, m < ((cutP (cP l 0 5) (ptV i) (ptV j)).map (·.p)).length → bd3 1000000 (((cutP (cP l 0 5) (ptV i) (ptV j)).map (·.p)).getD m default) := fun m hm => by
    rw [List.length_map] at hm
    rw [ps_get]
    exact bd3.le (hcq.ok _ (getD_memP hm)).1 (by decide)
  have hI0 : CallP Tryz.prog 64 [spL (bxN ((cutP (cP l 0 5) (ptV i) (ptV j)).map (·.p)) 0 (((cutP (cP l 0 5) (ptV i) (ptV j)).map (·.p)).length - 1)), spL (bxN ((cP l 0 5).map (·.p)) 0 (((cP l 0 5).map (·.p)).length - 1))] (bL true) := by
    obtain ⟨z1, z2⟩ := bxN_bd hqb 0 (((cutP (cP l 0 5) (ptV i) (ptV j)).map (·.p)).length - 1) (by rw [List.length_map]; omega)
    obtain ⟨z3, z4⟩ := bxN_bd hpb 0 (((cP l 0 5).map (·.p)).length - 1) (by rw [List.length_map]; omega)
    have := c_FInside (bxN ((cutP (cP l 0 5) (ptV i) (ptV j)).map (·.p)) 0 (((cutP (cP l 0 5) (ptV i) (ptV j)).map (·.p)).length - 1)) (bxN ((cP l 0 5).map (·.p)) 0 (((cP l 0 5).map (·.p)).length - 1)) (by omega) (by omega) (by omega) (by omega)
    rwa [cut_box hcr hi0.1 hu1 hj0.1 hj0.2 (by decide)] at this
  have hI1 : CallP Tryz.prog 64 [spL (bxN ((cutP (cP l 0 5) (ptV i) (ptV j)).map (·.p)) 1 (((cutP (cP l 0 5) (ptV i) (ptV j)).map (·.p)).length - 1)), spL (bxN ((cP l 0 5).map (·.p)) 1 (((cP l 0 5).map (·.p)).length - 1))] (bL true) := by
    obtain ⟨z1, z2⟩ := bxN_bd hqb 1 (((cutP (cP l 0 5) (ptV i) (ptV j)).map (·.p)).length - 1) (by rw [List.length_map]; omega)
    obtain ⟨z3, z4⟩ := bxN_bd hpb 1 (((cP l 0 5).map (·.p)).length - 1) (by rw [List.length_map]; omega)
    have := c_FInside (bxN ((cutP (cP l 0 5) (ptV i) (ptV j)).map (·.p)) 1 (((cutP (cP l 0 5) (ptV i) (ptV j)).map (·.p)).length - 1)) (bxN ((cP l 0 5).map (·.p)) 1 (((cP l 0 5).map (·.p)).length - 1)) (by omega) (by omega) (by omega) (by omega)
    rwa [cut_box hcr hi0.1 hu1 hj0.1 hj0.2 (by decide)] at this
  have hI2 : CallP Tryz.prog 64 [spL (bxN ((cutP (cP l 0 5) (ptV i) (ptV j)).map (·.p)) 2 (((cutP (cP l 0 5) (ptV i) (ptV j)).map (·.p)).length - 1)), spL (bxN ((cP l 0 5).map (·.p)) 2 (((cP l 0 5).map (·.p)).length - 1))] (bL true) := by
    obtain ⟨z1, z2⟩ := bxN_bd hqb 2 (((cutP (cP l 0 5) (ptV i) (ptV j)).map (·.p)).length - 1) (by rw [List.length_map]; omega)
    obtain ⟨z3, z4⟩ := bxN_bd hpb 2 (((cP l 0 5).map (·.p)).length - 1) (by rw [List.length_map]; omega)
    have := c_FInside (bxN ((cutP (cP l 0 5) (ptV i) (ptV j)).map (·.p)) 2 (((cutP (cP l 0 5) (ptV i) (ptV j)).map (·.p)).length - 1)) (bxN ((cP l 0 5).map (·.p)) 2 (((cP l 0 5).map (·.p)).length - 1)) (by omega) (by omega) (by omega) (by omega)
    rwa [cut_box hcr hi0.1 hu1 hj0.1 hj0.2 (by decide)] at this
  have hSs := c_FSpSame (((cT l 0) + ptV i), ((cT l 0) + ptV j)) (by show rl ((cT l 0) + ptV i) ≤ _; omega) (by show rl ((cT l 0) + ptV j) ≤ _; omega)
  have hSc := c_FCvSame (cD l 0 5) (kn2 (cD l 0 5) ((((cT l 0) + ptV i) + ((cT l 0) + ptV j)) * (1 / 2)) ((cT l 0) + ptV j)) (cutP (cP l 0 5) ((ptV i + ptV j) * (1 / 2)) (ptV j)) (by rw [kn2_len]; omega) (kn2_rl (by omega) (by omega)) (by have := hcm'.hl; omega) (fun q hq => by obtain ⟨z1, z2, z3⟩ := hcm'.ok q hq; exact ⟨z1.le (by decide), by omega, z3⟩)
  have hcp2 : LV.pure (.agg [nI64 (cD l 0 5), .list 3 ((kn2 (cD l 0 5) ((cT l 0) + ptV i) ((cT l 0) + ptV j)).map ratL), .list 12 ((cutP (cP l 0 5) (ptV i) (ptV j)).map poL)]) = true := by simp [LV.pure, pures, pures_map ratE, pures_map poE]
  have hcp3 : LV.pure (.agg [nI64 (cD l 0 5), .list 3 ((kn2 (cD l 0 5) ((((cT l 0) + ptV i) + ((cT l 0) + ptV j)) * (1 / 2)) ((cT l 0) + ptV j)).map ratL), .list 12 ((cutP (cP l 0 5) ((ptV i + ptV j) * (1 / 2)) (ptV j)).map poL)]) = true := by simp [LV.pure, pures, pures_map ratE, pures_map poE]
  have hcmp : ¬cmpR ((cT l 0) + ptV i) ((cT l 0) + ptV j) ≥ 0 := fun e => by have := cmpR_ge.1 e; grind
  refine fnP Tryz.func9 ?_
  refine zg9 ?_
  refine cp am1 (c_Light l hlt) ?_
  refine zg3 ?_
  refine wl_if rfl (fun h30r h30 => ?_) (fun h30r h30 => ?_)
  · refine zg2 ?_
    refine cp am0 (c_awake11) ?_
    refine zg5 ?_
    exact ret1 rfl (.pure rfl)
  · have hl5 : l.length ≤ 500 := by simpa using h30
    clear wi1 wi2 wj1 wj2 hTT hi0 hj0 hk0 hm1 hm2 hu1 hx1 hx0 hlo ht1 ht2 etx hcr hcq hNP hWP hNQ2 hWQ2 hkq hpb hqb ecc hlt2
    refine zg5 ?_
    refine cp am1 (c_made11 l hl5) ?_
    refine zg7 ?_
    refine cp am1 (c_FDom (cD l 0 5) (cT l 0) (cP l 0 5) hT hT1 h9) ?_
    refine zg5 ?_
    refine wl_regD 8 (by decide +kernel) ?_
    refine zg2 ?_
    refine cp am2 (hWi) ?_
    refine zg2 ?_
    refine cp am2 (hWj) ?_
    refine zg11 ?_
    refine cp am3 (hC1) ?_
    refine zg13 ?_
    refine cp am2 (c_FRCmp ((cT l 0) + ptV i) ((cT l 0) + ptV j) (by omega)) ?_
    refine zg3 ?_
    refine wl_if rfl (fun h52r h52 => ?_) (fun h52r h52 => ?_)
    · exact absurd h52 hcmp
    · refine zg8 ?_
      refine st_pure (guardX (v := false) rfl rfl ((rfl)) rfl) ldA ?_
      refine st_callP (guardX (v := false) rfl rfl ((rfl)) rfl) (.cons im0 .nil) (hCk) ?_
      refine st_pure (guardX (v := false) rfl rfl ((rfl)) rfl) (.bin rfl rfl rfl) ?_
      refine st_pure (guardX (v := false) rfl rfl ((rfl)) rfl) (.move _) ?_
      refine op_if 64 rfl (fun h64r h64 => ?_) (fun h64r h64 => ?_)
      · refine zg1 ?_
        refine cp am1 (hCk) ?_
        refine zg1 ?_
        refine st_pure (guardX (v := false) rfl rfl ((rfl)) rfl) (.pickT rfl (h64r)) ?_
        refine st_pure rfl (.pickF rfl ((rfl))) ?_
        refine zg2 ?_
        refine wl_if rfl (fun h69r h69 => ?_) (fun h69r h69 => ?_)
        · omega
        · refine zg5 ?_
          refine cp am1 (hDq) ?_
          refine zg8 ?_
          refine cp am2 (hWk) ?_
          refine zg8 ?_
          refine cp am2 (hE1) ?_
          refine zg12 ?_
          refine cp am2 (hE2) ?_
          refine zg9 ?_
          refine wl_regF 10 [8] (by decide +kernel) ?_
          refine zg3 ?_
          refine cp am2 (hMd) ?_
          refine zg1 ?_
          refine cp am3 (hC2) ?_
          refine zg9 ?_
          refine wl_regF 10 [8] (by decide +kernel) ?_
          refine zg3 ?_
          refine cp am2 (hMd) ?_
          refine zg1 ?_
          refine cp am3 (hC3) ?_
          refine zg9 ?_
          refine wl_regD 6 (by decide +kernel) ?_
          refine zg1 ?_
          refine cp am1 (hB1) ?_
          refine zg1 ?_
          refine cp am1 (hB2) ?_
          refine zg13 ?_
          refine wl_unroll ?_
          refine zg7 ?_
          refine wl_condX (b := _) rfl (by decide) ?_
          refine zg5 ?_
          refine wl_regD 8 (by decide +kernel) ?_
          refine zg6 ?_
          refine cp am2 (hI0) ?_
          refine zg3 ?_
          refine wl_condY (b := _) rfl (rfl) ?_
          refine zg9 ?_
          refine wl_unroll ?_
          refine zg7 ?_
          refine wl_condX (b := _) rfl (by decide) ?_
          refine zg5 ?_
          refine wl_regD 8 (by decide +kernel) ?_
          refine zg6 ?_
          refine cp am2 (hI1) ?_
          refine zg3 ?_
          refine wl_condY (b := _) rfl (rfl) ?_
          refine zg9 ?_
          refine wl_unroll ?_
          refine zg7 ?_
          refine wl_condX (b := _) rfl (by decide) ?_
          refine zg5 ?_
          refine wl_regD 8 (by decide +kernel) ?_
          refine zg6 ?_
          refine cp am2 (hI2) ?_
          refine zg3 ?_
          refine wl_condY (b := _) rfl (rfl) ?_
          refine zg9 ?_
          refine wl_unroll ?_
          refine zg7 ?_
          refine wl_condY (b := _) rfl (by decide) ?_
          refine zg11 ?_
          refine cp am2 (hSs) ?_
          refine zg3 ?_
          refine cp am2 (c_FPtSame (evV (cP l 0 5) (ptV i + ptV k * (ptV j - ptV i))) (heb.le (by decide))) ?_
          refine zg6 ?_
          refine st_pure (guardX (v := true) rfl rfl ((rfl)) rfl) (.move _) ?_
          refine st_pure (guardX (v := true) rfl rfl ((rfl)) rfl) (.bin rfl rfl rfl) ?_
          refine st_pure rfl (.pickT rfl ((rfl))) ?_
          refine zg1 ?_
          refine st_pure (guardX (v := true) rfl rfl ((rfl)) rfl) ldA ?_
          refine st_pure (guardX (v := true) rfl rfl ((rfl)) rfl) ldA ?_
          refine st_callP (guardX (v := true) rfl rfl ((rfl)) rfl) (.cons im0 (.cons im0 .nil)) (hSc) ?_
          refine st_pure rfl (.pickT rfl ((rfl))) ?_
          refine zg1 ?_
          refine cp am0 (c_awake11) ?_
          refine zg5 ?_
          exact ret1 rfl (.pure rfl)
      · refine zg3 ?_
        refine st_pure (guardX (v := false) rfl rfl ((rfl)) rfl) (.pickF rfl (h64r)) ?_
        refine st_pure rfl (.pickF rfl ((rfl))) ?_
        refine zg8 ?_
        refine cp am1 (hDq) ?_
        refine zg8 ?_
        refine cp am2 (hWk) ?_
        refine zg8 ?_
        refine cp am2 (hE1) ?_
        refine zg12 ?_
        refine cp am2 (hE2) ?_
        refine zg9 ?_
        refine wl_regF 10 [8] (by decide +kernel) ?_
        refine zg3 ?_
        refine cp am2 (hMd) ?_
        refine zg1 ?_
        refine cp am3 (hC2) ?_
        refine zg9 ?_
        refine wl_regF 10 [8] (by decide +kernel) ?_
        refine zg3 ?_
        refine cp am2 (hMd) ?_
        refine zg1 ?_
        refine cp am3 (hC3) ?_
        refine zg9 ?_
        refine wl_regD 6 (by decide +kernel) ?_
        refine zg1 ?_
        refine cp am1 (hB1) ?_
        refine zg1 ?_
        refine cp am1 (hB2) ?_
        refine zg13 ?_
        refine wl_unroll ?_
        refine zg7 ?_
        refine wl_condX (b := _) rfl (by decide) ?_
        refine zg5 ?_
        refine wl_regD 8 (by decide +kernel) ?_
        refine zg6 ?_
        refine cp am2 (hI0) ?_
        refine zg3 ?_
        refine wl_condY (b := _) rfl (rfl) ?_
        refine zg9 ?_
        refine wl_unroll ?_
        refine zg7 ?_
        refine wl_condX (b := _) rfl (by decide) ?_
        refine zg5 ?_
        refine wl_regD 8 (by decide +kernel) ?_
        refine zg6 ?_
        refine cp am2 (hI1) ?_
        refine zg3 ?_
        refine wl_condY (b := _) rfl (rfl) ?_
        refine zg9 ?_
        refine wl_unroll ?_
        refine zg7 ?_
        refine wl_condX (b := _) rfl (by decide) ?_
        refine zg5 ?_
        refine wl_regD 8 (by decide +kernel) ?_
        refine zg6 ?_
        refine cp am2 (hI2) ?_
        refine zg3 ?_
        refine wl_condY (b := _) rfl (rfl) ?_
        refine zg9 ?_
        refine wl_unroll ?_
        refine zg7 ?_
        refine wl_condY (b := _) rfl (by decide) ?_
        refine zg11 ?_
        refine cp am2 (hSs) ?_
        refine zg3 ?_
        refine cp am2 (c_FPtSame (evV (cP l 0 5) (ptV i + ptV k * (ptV j - ptV i))) (heb.le (by decide))) ?_
        refine zg6 ?_
        refine st_pure (guardX (v := true) rfl rfl ((rfl)) rfl) (.move _) ?_
        refine st_pure (guardX (v := true) rfl rfl ((rfl)) rfl) (.bin rfl rfl rfl) ?_
        refine st_pure rfl (.pickT rfl ((rfl))) ?_
        refine zg1 ?_
        refine st_pure (guardX (v := true) rfl rfl ((rfl)) rfl) ldA ?_
        refine st_pure (guardX (v := true) rfl rfl ((rfl)) rfl) ldA ?_
        refine st_callP (guardX (v := true) rfl rfl ((rfl)) rfl) (.cons im0 (.cons im0 .nil)) (hSc) ?_
        refine st_pure rfl (.pickT rfl ((rfl))) ?_
        refine zg1 ?_
        refine cp am0 (c_awake11) ?_
        refine zg5 ?_
        exact ret1 rfl (.pure rfl)
theorem c_BezierCuts (l : List Int) (i j k : Int) (hl : l.length ≤ 9223372036854775807 ∧ ∀ n ∈ l, -9223372036854775808 ≤ n ∧ n ≤ 9223372036854775807) (hi : -9223372036854775808 ≤ i ∧ i ≤ 9223372036854775807) (hj : -9223372036854775808 ≤ j ∧ j ≤ 9223372036854775807) (hk : -9223372036854775808 ≤ k ∧ k ≤ 9223372036854775807) : CallP Tryz.prog 9 [.list 1 (l.map i64L), iL i, iL j, iL k] (bL true) := by
  rcases Rat.le_total (a := ptV j) (b := ptV i) with h | h
  · exact c_BezierCutsA l i j k hl hi hj hk h
  · by_cases h2 : ptV j ≤ ptV i
    · exact c_BezierCutsA l i j k hl hi hj hk h2
    · exact c_BezierCutsB l i j k hl hi hj hk (by grind)
end Go.Proofs.YtgfbghoihhnahaaGreat
end
