/- Rows and columns of nets, values, derivatives, validity; the examples of chapter 7. -/
import Derived.Test.YthhdcfhaldcheaaGreatT2
set_option linter.unusedVariables false
set_option linter.unusedSimpArgs false
set_option maxHeartbeats 8000000
set_option maxRecDepth 100000
attribute [local irreducible] Go.Lg.opsL Go.Lg.wpL Go.Lg.thenL Go.Lg.blockL
namespace Go.Proofs.YthhdcfhaldcheaaGreat
open Go.Lg
end Go.Proofs.YthhdcfhaldcheaaGreat
namespace Go.Lg
theorem clo_kill (b : Nat) (f : FuncId) (caps : List LV) (h : pures caps = true) : (LV.clo f caps).kill b = .clo f caps := LV.kill_pure b _ (by simpa [LV.pure] using h)
end Go.Lg
namespace Go.Proofs.YthhdcfhaldcheaaGreat
open Go.Lg
/-! ### rows of nets -/
def rwL (V : Nat) (c : List Rat) (i : Nat) : List Rat := (c.take ((i + 1) * (V + 1))).drop (i * (V + 1))
theorem rw_le {U V i : Nat} {c : List Rat} (hc : c.length = (U + 1) * (V + 1)) (hi : i ≤ U) : i * (V + 1) + (V + 1) ≤ c.length := by
  rw [hc, ← Nat.succ_mul]; exact Nat.mul_le_mul_right _ (by omega)
theorem rwL_len {U V i : Nat} {c : List Rat} (hc : c.length = (U + 1) * (V + 1)) (hi : i ≤ U) : (rwL V c i).length = V + 1 := by
  have := rw_le hc hi
  unfold rwL
  rw [List.length_drop, List.length_take, Nat.succ_mul]; omega
theorem rwL_mem {V i : Nat} {c : List Rat} {x : Rat} (h : x ∈ rwL V c i) : x ∈ c := List.mem_of_mem_take (List.mem_of_mem_drop h)
theorem rwL_get {U V i j : Nat} {c : List Rat} (hc : c.length = (U + 1) * (V + 1)) (hi : i ≤ U) (hj : j ≤ V) : (rwL V c i).getD j 0 = c.getD (i * (V + 1) + j) 0 := by
  have := rw_le hc hi
  unfold rwL
  rw [getD_dropR, List.getD_eq_getElem?_getD, List.getElem?_take_of_lt (by rw [Nat.succ_mul]; omega), ← List.getD_eq_getElem?_getD]
def rsL (g : List Rat → List Rat) (V : Nat) (c : List Rat) : Nat → List Rat
  | 0 => []
  | i + 1 => rsL g V c i ++ g (rwL V c i)
theorem rsL_len {g : List Rat → List Rat} {V W U : Nat} {c : List Rat} (hg : ∀ i, i ≤ U → (g (rwL V c i)).length = W + 1) : ∀ n, n ≤ U + 1 → (rsL g V c n).length = n * (W + 1)
  | 0, _ => by rw [Nat.zero_mul]; rfl
  | n + 1, h => by rw [rsL, List.length_append, rsL_len hg n (by omega), hg n (by omega), Nat.succ_mul]
theorem swL_len (U V : Nat) (c : List Rat) : (swL U V c).length = (V + 1) * (U + 1) := gL_len _ _
theorem sw_rl {U V R : Nat} {c : List Rat} (hR : 1 ≤ R) (h : ∀ x ∈ c, rl x ≤ R) : ∀ x ∈ swL U V c, rl x ≤ R := by
  intro x hx
  obtain ⟨i, _, rfl⟩ := List.mem_map.1 hx
  exact getD_rl hR h _
def colT (U V : Nat) (c : List Rat) (v : Rat) : List Rat := rsL (fun p => [evP p v]) V c (U + 1)
def rowT (U V : Nat) (c : List Rat) (u : Rat) : List Rat := rsL (fun p => [evP p u]) U (swL U V c) (V + 1)
theorem colT_len (U V : Nat) (c : List Rat) (v : Rat) : (colT U V c v).length = U + 1 := by
  have := rsL_len (g := fun p => [evP p v]) (V := V) (W := 0) (U := U) (c := c) (fun i _ => rfl) (U + 1) (Nat.le_refl _)
  rw [colT, this]; omega
theorem rowT_len (U V : Nat) (c : List Rat) (u : Rat) : (rowT U V c u).length = V + 1 := by
  have := rsL_len (g := fun p => [evP p u]) (V := U) (W := 0) (U := V) (c := swL U V c) (fun i _ => rfl) (V + 1) (Nat.le_refl _)
  rw [rowT, this]; omega
def evT (U V : Nat) (c : List Rat) (u v : Rat) : Rat := evP (rowT U V c u) v
def dfU (U V : Nat) (c : List Rat) : List Rat := swL V (U - 1) (rsL difP U (swL U V c) (V + 1))
def dfV (U V : Nat) (c : List Rat) : List Rat := rsL difP V c (U + 1)
theorem dif_W {p : List Rat} {U : Nat} (h : p.length = U + 1) : (difP p).length = U - 1 + 1 := by rw [difP_len]; split <;> omega
def vaT (u v : Int) (c : List Rat) : Bool := decide (0 ≤ u ∧ 0 ≤ v ∧ u ≤ 40 ∧ v ≤ 40 ∧ (c.length : Int) = (u + 1) * (v + 1))
theorem mulI {a b : Int} (ha : 0 ≤ a) (hb : 0 ≤ b) (ha2 : a ≤ 41) (hb2 : b ≤ 41) : binI .mul .i64 a b = some (.int .i64 (a * b)) := by
  have h1 := Int.mul_nonneg ha hb
  have h2 := Int.mul_le_mul ha2 hb2 hb (by decide)
  exact mul64 (by omega) (by omega)
/-! ### the example -/
theorem a7_ev : evT 1 1 [0, 0, 0, 1] (1 / 2) (1 / 2) = 1 / 4 := by decide +kernel
theorem a7_df : dfU 1 1 [0, 0, 0, 1] = [0, 1] := by decide +kernel
theorem c_tx1 : CallP Tryz.prog 87 [ratL 1] (.v (.string ⟨#[49]⟩)) := by
  have := c_FText 1 (by decide +kernel) (by decide +kernel) (by decide +kernel)
  rw [show (1 : Rat).den = 1 by decide +kernel, show (1 : Rat).num.natAbs = 1 by decide +kernel] at this
  exact this
theorem hs_7 (p : List Rat) (h : ∀ x ∈ p, rl x ≤ 1) (hl : p.length ≤ 4) : HS p (1 / 2) := by
  refine ⟨6, by decide +kernel, by decide, fun x hx => ?_⟩
  have h5 := h x hx
  have h6 : 2 ^ p.length ≤ 2 ^ 4 := Nat.pow_le_pow_right (by decide) hl
  exact Nat.le_trans (Nat.mul_le_mul (show rl x + 6 ≤ 7 by omega) h6) (by decide)
theorem rs_rl {g : List Rat → List Rat} {V U R : Nat} {c : List Rat} (h : ∀ i, i ≤ U → ∀ x ∈ g (rwL V c i), rl x ≤ R) : ∀ {n : Nat}, n ≤ U + 1 → ∀ x ∈ rsL g V c n, rl x ≤ R
  | 0, _, x, hx => by cases hx
  | n + 1, hn, x, hx => by
    rcases List.mem_append.1 (show x ∈ rsL g V c n ++ g (rwL V c n) from hx) with h1 | h1
    · exact rs_rl h (by omega) x h1
    · exact h n (by omega) x h1
open H0 in
theorem c_TMulErr (U1 V1 U2 V2 : Nat) (a b : List Rat) (hu1 : U1 ≤ 1048576) (hv1 : V1 ≤ 1048576) (hu2 : U2 ≤ 1048576) (hv2 : V2 ≤ 1048576) (h : 40 < U1 + U2 ∨ 40 < V1 + V2) : CallP Tryz.prog 49 [.agg [nI64 U1, nI64 V1, .list 3 (a.map ratL)], .agg [nI64 U2, nI64 V2, .list 3 (b.map ratL)]] (.tup [.agg [nI64 0, nI64 0, .list 3 (([] : List Rat).map ratL)], iL 2]) := by
  refine fnP Tryz.func49 (ht := (tame2 (net_pureN _ _ _) rfl)) ?_
  refine zg14 ?_
  refine st_pure rfl (.bin rfl rfl (add64N (by omega))) ?_
  refine zg4 ?_
  refine st_pure rfl (.bin rfl rfl (add64N (by omega))) ?_
  refine zg12 ?_
  refine op_if 33 rfl (fun h33r h33 => ?_) (fun h33r h33 => ?_)
  · refine zg16 ?_
    exact retCT [] rfl rfl rfl rfl rfl T27 (.agg (.cons (.pure rfl) (.cons (.pure rfl) (.cons (.nil 3) .nil)))) rfl (.pure rfl)
  · refine zg6 ?_
    refine wl_if rfl (fun h37r h37 => ?_) (fun h37r h37 => ?_)
    · refine zg9 ?_
      exact retCT [] rfl rfl rfl rfl rfl T27 (.agg (.cons (.pure rfl) (.cons (.pure rfl) (.cons (.nil 3) .nil)))) rfl (.pure rfl)
    · exfalso
      omega
open H0 in
theorem c_row7 (U V : Nat) (c : List Rat) (hc : c.length = (U + 1) * (V + 1)) (hl : c.length ≤ 1048576) (i : Nat) (hi : i ≤ U) : CallP Tryz.prog 145 [.agg [nI64 U, nI64 V, .list 3 (c.map ratL)], nI64 i] (.list 3 ((rwL V c i).map ratL)) := by
  have hU : U + 1 ≤ c.length := by rw [hc]; exact Nat.le_mul_of_pos_right _ (Nat.succ_pos V)
  have hV : V + 1 ≤ c.length := by rw [hc]; exact Nat.le_mul_of_pos_left _ (Nat.succ_pos U)
  have hnp := net_pureN U V c
  have hri := rw_le hc hi
  have hrs : (i + 1) * (V + 1) = i * (V + 1) + (V + 1) := Nat.succ_mul i (V + 1)
  refine fnP Tryz.func145 ?_
  refine zg13 ?_
  refine st_pure rfl (.bin rfl rfl (add1N (by omega))) ?_
  refine st_pure rfl (.bin rfl rfl (mulE rfl (by omega))) ?_
  refine zg1 ?_
  refine st_pure rfl (.bin rfl rfl (add1N (by omega))) ?_
  refine zg2 ?_
  refine st_pure rfl (.bin rfl rfl (add1N (by omega))) ?_
  refine st_pure rfl (.bin rfl rfl (mulE rfl (by omega))) ?_
  refine st_pure rfl (.sliceLb (a := _) (h := _) ratE rfl Tryz.underlying25 T33 rfl rfl (by omega) (by omega)) ?_
  refine zg4 ?_
  exact ret1 rfl (by first | exact .pure rfl | exact .pure (limL_pure _) | exact .pure (magL_pure _) | exact .pure (ratE.pure _) | exact .pure (pure_lst u32E _ _) | exact .pure (pure_lst ratE _ _))
namespace H_c_rows
theorem zSm {p q : Prop} (k : q) (e : p = q := by simp only [e1, e2, e3, e4, p1, p2, p3, q1, q2, q3, l1, t0, t1, r1, r2, r3, r4, Nat.zero_add, Nat.reduceMul, Nat.reduceAdd, b1, b2, b3, b4, b5, b6, i1, i2, i3, i4, i5, i6, Nat.reduceBEq, frz_nil, dfq, clo_kill _ _ _ hcp, ers, etk, elen, Nat.add_sub_cancel, List.length_map, kills_map ratE, ratL_kill, spL_kill, LV.kill, kills]; exact rfl) : p := e.mpr k
theorem zSm1 {p q : Prop} (k : q) (e : p = q := by simp only [e1, e2, e3, e4, p1, p2, p3, q1, q2, q3, l1, t0, t1, r1, r2, r3, r4, Nat.zero_add, Nat.reduceMul, Nat.reduceAdd, b1, b2, b3, b4, b5, b6, i1, i2, i3, i4, i5, i6, Nat.reduceBEq, frz_nil, dfq, clo_kill _ _ _ hcp, ers, etk, elen, Nat.add_sub_cancel, List.length_map, kills_map ratE, ratL_kill, spL_kill, LV.kill, kills, elen]; exact rfl) : p := e.mpr k
theorem nf1 {p : Prop} (h : p := by first | (refine zSm1 ?_; exact rfl) | exact rfl) : p := h
end H_c_rows
open H_c_rows in
theorem c_rows (U V : Nat) (c : List Rat) (hc : c.length = (U + 1) * (V + 1)) (hl : c.length ≤ 1048576) (f : Nat) (caps : List LV) (hcp : pures caps = true) (hcs : ∀ x ∈ caps, x.csize = 1 ∧ x.isAgg = false) (g : List Rat → List Rat) (W : Nat) (hf : ∀ i, i ≤ U → CallP Tryz.prog f ([.list 3 ((rwL V c i).map ratL)] ++ caps) (.list 3 ((g (rwL V c i)).map ratL))) (hg : ∀ i, i ≤ U → (g (rwL V c i)).length = W + 1) (hW : (U + 1) * (W + 1) ≤ 1048576) : CallP Tryz.prog 93 [.agg [nI64 U, nI64 V, .list 3 (c.map ratL)], .clo f caps] (.agg [nI64 U, nI64 W, .list 3 ((rsL g V c (U + 1)).map ratL)]) := by
  have hU : U + 1 ≤ c.length := by rw [hc]; exact Nat.le_mul_of_pos_right _ (Nat.succ_pos V)
  have hV : V + 1 ≤ c.length := by rw [hc]; exact Nat.le_mul_of_pos_left _ (Nat.succ_pos U)
  have hnp := net_pureN U V c
  have hW2 : W + 1 ≤ (U + 1) * (W + 1) := Nat.le_mul_of_pos_left _ (Nat.succ_pos U)
  refine fnP Tryz.func93 (ht := (fun g => LV.ren_pure g _ (net_pureN _ _ _))) ?_
  have ers : True := trivial
  have etk : True := trivial
  have elen : True := trivial
  refine zg19 ?_
  refine cp am1 (c_shaped U V c hc hl) ?_
  refine zg11 ?_
  refine st_pure rfl (.bin rfl rfl (add1N (by omega))) ?_
  refine zg4 ?_
  refine wl_weak ((Weak.cell 5 rfl (fun Z μ w cs h => rep_net 35 3 _ _ Z μ w cs h)).trans (Weak.newB _ 35 3 rfl)) ?_
  refine lp3 (fun (i m v : Nat) L => (((((((St.mk L.slot (hp [(2, ⟨3, [.agg [nI64 U, nI64 V, .list 3 (c.map ratL)]], true⟩), (4, ⟨3, [.agg [.v (.int .i64 0), .v (.int .i64 0), .v (.slice none 0 0)]], true⟩), (5, ⟨3, [.agg [nI64 U, nI64 v, .ref 35 3 0 m]], true⟩), (35, ⟨3, (rsL g V c i).map ratL, true⟩)])).put (some 1) (.clo f caps)).put (some 2) (.eptr 2 3 0 0)).put (some 4) (.eptr 4 3 0 0)).put (some 5) (.eptr 5 3 0 0)).put (some 19) (nI64 (U + 1))).put (some 20) (nI64 i))) (fun i m v => i ≤ U + 1 ∧ i * (W + 1) = m ∧ (i = 0 ∨ v = W)) (fun i m v => U + 1 - i) 0 0 0 ⟨Nat.zero_le _, Nat.zero_mul _, .inl rfl⟩ ?_
  rintro i m v L1 ⟨hi, hm, hv⟩
  refine zg6 ?_
  refine wl_if rfl (fun h21r h21 => ?_) (fun h21r h21 => ?_)
  · have hi2 : i ≤ U := by omega
    have hfi := hf i hi2
    have elen := hg i hi2
    have hrl := rsL_len hg i hi
    rw [hm] at hrl
    have hmu : m + (W + 1) ≤ (U + 1) * (W + 1) := by rw [← hm, ← Nat.succ_mul]; exact Nat.mul_le_mul_right _ (by omega)
    have ers : (rsL g V c i).map ratL ++ (g (rwL V c i)).map ratL = (rsL g V c (i + 1)).map ratL := by rw [rsL, List.map_append]
    have etk : ((rsL g V c i).map ratL).take m = (rsL g V c i).map ratL := List.take_of_length_le (by rw [List.length_map]; omega)
    refine zg15 ?_
    refine cp am2 (c_row7 U V c hc hl i hi2) ?_
    refine st_opc [] rfl rfl (.clo (f := f) (cap := caps) (args := [.list 3 ((rwL V c i).map ratL)]) rfl (.cons im0 .nil) ⟨hcp, hcs⟩ hfi.1 (by decide) (fun _ h => by cases h)) (hfi.2 _) ?_
    refine zg7 ?_
    refine st_pure rfl (.bin rfl rfl (sub1N (by omega) (by omega))) ?_
    refine zg1 ?_
    refine st_store rfl (.store rfl rfl rfl rfl rfl rfl rfl T3 ne0) ?_
    refine st_end nf1 ?_
    refine zg5 ?_
    refine st_store rfl (.app (news := (g (rwL V c i)).map ratL) rfl rfl rfl rfl rfl (by rw [List.length_map]; omega) (.inl rfl) (by decide) Tryz.underlying25 Tryz.underlying38 Z33a T33 rfl B33 (.inr (.inl rfl)) (by rw [List.length_map, elen]; omega) (by rw [List.length_map, elen]; omega) (by decide)) ?_
    refine zg10 ?_
    exact nx3 (i + 1) (m + (W + 1)) W ⟨by omega, by rw [Nat.succ_mul]; omega, .inr rfl⟩
  · obtain rfl : i = U + 1 := by omega
    obtain rfl : v = W := by omega
    have hrl := rsL_len hg (U + 1) (Nat.le_refl _)
    refine zg12 ?_
    exact retC [35] rfl rfl rfl rfl rfl T27 (.agg (.cons (.pure rfl) (.cons (.pure rfl) (.cons (imm_refm ratE rfl rfl (by omega)) .nil))))
open H0 in
theorem c_Col1 (p : List Rat) (v : Rat) (h : HS p v) (hp0 : 0 < p.length) : CallP Tryz.prog 94 [.list 3 (p.map ratL), .boxp (ratL v)] (.list 3 ([evP p v].map ratL)) := by
  refine fnP Tryz.func94 ?_
  refine zg9 ?_
  refine cp am2 (c_BEval p v h hp0) ?_
  refine zg5 ?_
  exact ret1f [7] rfl rfl (imm_refm ratE rfl rfl rfl)
open H0 in
theorem c_Column (U V : Nat) (c : List Rat) (hc : c.length = (U + 1) * (V + 1)) (hl : c.length ≤ 1048576) (v : Rat) (hS : ∀ i, i ≤ U → HS (rwL V c i) v) : CallP Tryz.prog 20 [.agg [nI64 U, nI64 V, .list 3 (c.map ratL)], ratL v] (.list 3 ((colT U V c v).map ratL)) := by
  have hU : U + 1 ≤ c.length := by rw [hc]; exact Nat.le_mul_of_pos_right _ (Nat.succ_pos V)
  have hV : V + 1 ≤ c.length := by rw [hc]; exact Nat.le_mul_of_pos_left _ (Nat.succ_pos U)
  have hnp := net_pureN U V c
  have hbp : pures [LV.boxp (ratL v)] = true := by simp [pures, LV.pure, ratE.pure]
  refine fnP Tryz.func20 ?_
  refine zg10 ?_
  refine st_opc [3] rfl rfl (.mk (caps := [.boxp (ratL v)]) (.cons (.eptr rfl rfl rfl (ratE.csize _) (ratL_all _) (ratE.pure _) rfl) .nil) (fun x hx => by rw [List.mem_singleton.1 hx]; exact ⟨rfl, rfl⟩)) rfl ?_
  refine st_callP rfl (.cons (.pure hnp) (.cons (.pure (show LV.pure (.clo 94 [.boxp (ratL v)]) = true by simpa [LV.pure] using hbp)) .nil)) (c_rows U V c hc hl 94 [.boxp (ratL v)] hbp (fun x hx => by rw [List.mem_singleton.1 hx]; exact ⟨rfl, rfl⟩) (fun p => [evP p v]) 0 (fun i hi => c_Col1 _ v (hS i hi) (by rw [rwL_len hc hi]; exact Nat.succ_pos V)) (fun i hi => rfl) (by omega)) ?_
  refine st_pure rfl (.field rfl SL27 rfl (pure_lst ratE _ _)) ?_
  refine zg4 ?_
  exact ret1 rfl (by first | exact .pure rfl | exact .pure (limL_pure _) | exact .pure (magL_pure _) | exact .pure (ratE.pure _) | exact .pure (pure_lst u32E _ _) | exact .pure (pure_lst ratE _ _))
open H0 in
theorem c_TRow (U V : Nat) (c : List Rat) (hc : c.length = (U + 1) * (V + 1)) (hl : c.length ≤ 1048576) (hcR : ∀ x ∈ c, rl x ≤ 274877906944) (u : Rat) (hS : ∀ j, j ≤ V → HS (rwL U (swL U V c) j) u) : CallP Tryz.prog 18 [.agg [nI64 U, nI64 V, .list 3 (c.map ratL)], ratL u] (.list 3 ((rowT U V c u).map ratL)) := by
  have hU : U + 1 ≤ c.length := by rw [hc]; exact Nat.le_mul_of_pos_right _ (Nat.succ_pos V)
  have hV : V + 1 ≤ c.length := by rw [hc]; exact Nat.le_mul_of_pos_left _ (Nat.succ_pos U)
  have hnp := net_pureN U V c
  have hsl := swL_len U V c
  have hsw : (swL U V c).length ≤ 1048576 := by rw [hsl, Nat.mul_comm, ← hc]; exact hl
  have hnp2 := net_pureN V U (swL U V c)
  refine fnP Tryz.func18 ?_
  refine zg8 ?_
  refine wl_regD 5 (by decide +kernel) ?_
  refine zg1 ?_
  refine cp am1 (c_Swap U V c hc hl hcR) ?_
  refine zg1 ?_
  refine cp am2 (c_Column V U (swL U V c) hsl hsw u hS) ?_
  refine zg4 ?_
  exact ret1 rfl (by first | exact .pure rfl | exact .pure (limL_pure _) | exact .pure (magL_pure _) | exact .pure (ratE.pure _) | exact .pure (pure_lst u32E _ _) | exact .pure (pure_lst ratE _ _))
open H0 in
theorem c_TEval (U V : Nat) (c : List Rat) (hc : c.length = (U + 1) * (V + 1)) (hl : c.length ≤ 1048576) (hcR : ∀ x ∈ c, rl x ≤ 274877906944) (u v : Rat) (hS : ∀ j, j ≤ V → HS (rwL U (swL U V c) j) u) (hS2 : HS (rowT U V c u) v) : CallP Tryz.prog 15 [.agg [nI64 U, nI64 V, .list 3 (c.map ratL)], ratL u, ratL v] (ratL (evT U V c u v)) := by
  have hU : U + 1 ≤ c.length := by rw [hc]; exact Nat.le_mul_of_pos_right _ (Nat.succ_pos V)
  have hV : V + 1 ≤ c.length := by rw [hc]; exact Nat.le_mul_of_pos_left _ (Nat.succ_pos U)
  have hnp := net_pureN U V c
  refine fnP Tryz.func15 ?_
  refine zg9 ?_
  refine wl_regD 5 (by decide +kernel) ?_
  refine zg2 ?_
  refine cp am2 (c_TRow U V c hc hl hcR u hS) ?_
  refine zg1 ?_
  refine cp am2 (c_BEval (rowT U V c u) v hS2 (by rw [rowT_len]; exact Nat.succ_pos V)) ?_
  refine zg4 ?_
  exact retC [] rfl rfl rfl (ratE.csize _) (ratL_all _) T33 (.pure (ratE.pure _))
open H0 in
theorem c_columns (U V : Nat) (c : List Rat) (hc : c.length = (U + 1) * (V + 1)) (hl : c.length ≤ 1048576) (hcR : ∀ x ∈ c, rl x ≤ 274877906944) (f : Nat) (caps : List LV) (hcp : pures caps = true) (hcs : ∀ x ∈ caps, x.csize = 1 ∧ x.isAgg = false) (g : List Rat → List Rat) (W : Nat) (hf : ∀ j, j ≤ V → CallP Tryz.prog f ([.list 3 ((rwL U (swL U V c) j).map ratL)] ++ caps) (.list 3 ((g (rwL U (swL U V c) j)).map ratL))) (hg : ∀ j, j ≤ V → (g (rwL U (swL U V c) j)).length = W + 1) (hW : (V + 1) * (W + 1) ≤ 1048576) (hgR : ∀ x ∈ (rsL g U (swL U V c) (V + 1)), rl x ≤ 274877906944) : CallP Tryz.prog 96 [.agg [nI64 U, nI64 V, .list 3 (c.map ratL)], .clo f caps] (.agg [nI64 W, nI64 V, .list 3 ((swL V W (rsL g U (swL U V c) (V + 1))).map ratL)]) := by
  have hU : U + 1 ≤ c.length := by rw [hc]; exact Nat.le_mul_of_pos_right _ (Nat.succ_pos V)
  have hV : V + 1 ≤ c.length := by rw [hc]; exact Nat.le_mul_of_pos_left _ (Nat.succ_pos U)
  have hnp := net_pureN U V c
  have hsl := swL_len U V c
  have hsw : (swL U V c).length ≤ 1048576 := by rw [hsl, Nat.mul_comm, ← hc]; exact hl
  have hnp2 := net_pureN V U (swL U V c)
  have hrl := rsL_len hg (V + 1) (Nat.le_refl _)
  have hnp3 := net_pureN V W (rsL g U (swL U V c) (V + 1))
  have hcl : LV.pure (.clo f caps) = true := by simpa [LV.pure] using hcp
  refine fnP Tryz.func96 (ht := (fun g => LV.ren_pure g _ (net_pureN _ _ _))) ?_
  refine zg9 ?_
  refine cp am1 (c_Swap U V c hc hl hcR) ?_
  refine zg1 ?_
  refine cp am2 (c_rows V U (swL U V c) hsl hsw f caps hcp hcs g W hf hg hW) ?_
  refine cp am1 (c_Swap V W (rsL g U (swL U V c) (V + 1)) hrl (by omega) hgR) ?_
  refine zg4 ?_
  exact retC [] rfl rfl rfl rfl rfl T27 (.pure (net_pureN _ _ _))
open H0 in
theorem c_DiffU (U V : Nat) (c : List Rat) (hc : c.length = (U + 1) * (V + 1)) (hl : c.length ≤ 1048576) (hcR : ∀ x ∈ c, rl x ≤ 1073741824) (hU1 : U ≤ 900) : CallP Tryz.prog 53 [.agg [nI64 U, nI64 V, .list 3 (c.map ratL)]] (.agg [nI64 (U - 1), nI64 V, .list 3 ((dfU U V c).map ratL)]) := by
  have hU : U + 1 ≤ c.length := by rw [hc]; exact Nat.le_mul_of_pos_right _ (Nat.succ_pos V)
  have hV : V + 1 ≤ c.length := by rw [hc]; exact Nat.le_mul_of_pos_left _ (Nat.succ_pos U)
  have hnp := net_pureN U V c
  have hsl := swL_len U V c
  have hsw : (swL U V c).length ≤ 1048576 := by rw [hsl, Nat.mul_comm, ← hc]; exact hl
  have hnp2 := net_pureN (U - 1) V (dfU U V c)
  have hsR := sw_rl (U := U) (V := V) (R := 1073741824) (by decide) hcR
  refine fnP Tryz.func53 (ht := (fun g => LV.ren_pure g _ (net_pureN _ _ _))) ?_
  refine zg9 ?_
  refine cp am2 (c_columns U V c hc hl (fun x hx => Nat.le_trans (hcR x hx) (by decide)) 40 [] rfl (fun x hx => by cases hx) difP (U - 1) (fun j hj => c_Diff _ (by rw [rwL_len hsl hj]; omega) (fun x hx => hsR x (rwL_mem hx))) (fun j hj => dif_W (rwL_len hsl hj)) (by have := Nat.mul_le_mul_left (V + 1) (show U - 1 + 1 ≤ U + 1 by omega); omega) (rs_rl (U := V) (fun j hj x hx => Nat.le_trans (difP_rl (R := 1073741824) (by decide) (by rw [rwL_len hsl hj]; omega) (fun x hx => hsR x (rwL_mem hx)) x hx) (by decide)) (Nat.le_refl _))) ?_
  refine zg4 ?_
  exact retC [] rfl rfl rfl rfl rfl T27 (.pure (net_pureN _ _ _))
end Go.Proofs.YthhdcfhaldcheaaGreat
