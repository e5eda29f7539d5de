/- The document's rows, columns, values and parts of nets; the law TensorParts. -/
import Derived.Test.YthhdcfhaldcheaaGreatT6
set_option linter.unusedVariables false
set_option linter.unusedSimpArgs false
set_option maxHeartbeats 8000000
set_option maxRecDepth 100000
attribute [local irreducible] Go.Lg.opsL Go.Lg.wpL Go.Lg.thenL Go.Lg.blockL
namespace Go.Proofs.YthhdcfhaldcheaaGreat
open Go.Lg
/-! ### values by rows and by columns -/
theorem fE_swap (a b u v : Rat) (m : Nat) : ∀ (n : Nat) (f : Nat → Nat → Rat), fE a b n (fun i => fE u v m (f i)) = fE u v m (fun j => fE a b n (fun i => f i j))
  | 0, f => rfl
  | n + 1, f => by
    rw [fE_step, fE_swap a b u v m n f, fE_swap a b u v m n (fun i => f (i + 1)), ← fE_lin]
    exact fE_congr _ _ _ _ _ fun j _ => (fE_step a b n fun i => f i j).symm
theorem evT_swap {U V : Nat} {c : List Rat} (hc : c.length = (U + 1) * (V + 1)) (u v : Rat) : evP (colT U V c v) u = evT U V c u v := by
  have h1 : ∀ i, i ≤ U → (colT U V c v).getD i 0 = evP (rwL V c i) v := fun i hi => by
    have := rs_get (g := fun p => [evP p v]) (V := V) (W := 0) (U := U) (c := c) (fun i hi => rfl) (i := i) (j := 0) (Nat.le_refl _) (n := U + 1) (Nat.le_refl _) (by omega)
    rw [show i * (0 + 1) + 0 = i by omega] at this
    rw [colT, this]; rfl
  have h2 : ∀ j, j ≤ V → (rowT U V c u).getD j 0 = evP (rwL U (swL U V c) j) u := fun j hj => by
    have := rs_get (g := fun p => [evP p u]) (V := U) (W := 0) (U := V) (c := swL U V c) (fun i hi => rfl) (i := j) (j := 0) (Nat.le_refl _) (n := V + 1) (Nat.le_refl _) (by omega)
    rw [show j * (0 + 1) + 0 = j by omega] at this
    rw [rowT, this]; rfl
  rw [evT, ev_fE (by rw [colT_len]; omega), ev_fE (by rw [rowT_len]; omega), colT_len, rowT_len, Nat.add_sub_cancel, Nat.add_sub_cancel]
  rw [fE_congr _ _ U _ (fun i => fE (1 - v) v V (fun j => c.getD (i * (V + 1) + j) 0)) fun i hi => ?_, fE_swap]
  · refine fE_congr _ _ _ _ _ fun j hj => ?_
    rw [h2 j hj, ev_fE (by rw [rwL_len (swL_len U V c) hj]; omega), rwL_len (swL_len U V c) hj, Nat.add_sub_cancel]
    refine fE_congr _ _ _ _ _ fun i hi => ?_
    rw [rwL_get (swL_len U V c) hj hi, sw_get hi hj]
  · rw [h1 i hi, ev_fE (by rw [rwL_len hc hi]; omega), rwL_len hc hi, Nat.add_sub_cancel]
    refine fE_congr _ _ _ _ _ fun j hj => ?_
    rw [rwL_get hc hi hj]
theorem evF_hs {U V : Nat} {c : List Rat} {u v : Rat} (hc : c.length = (U + 1) * (V + 1)) (hU : U ≤ 4) (hV : V ≤ 4) (h : ∀ x ∈ c, rl x ≤ 1) (hu : rl u ≤ 1) (hv : rl v ≤ 1) : (∀ i, i ≤ U → HS (rwL V c i) v) ∧ HS (colT U V c v) u := by
  have h1 : ∀ j, j ≤ U → ∀ x ∈ rwL V c j, rl x ≤ 1 := fun j _ x hx => h x (rwL_mem hx)
  have h2 : ∀ j, j ≤ U → (rwL V c j).length = V + 1 := fun j hj => rwL_len hc hj
  refine ⟨fun j hj => hs_gen (R := 1) (n := 5) (h1 j hj) hv (by rw [h2 j hj]; omega) (by decide), hs_gen (R := 352) (n := 5) ?_ (by omega) (by rw [colT_len]; omega) (by decide)⟩
  exact rs_mem (U := U) (fun j hj x hx => by
    rw [List.mem_singleton.1 hx]
    exact getD_rl (S := 352) (by decide) (lo_sz2 (R := 1) (n := 5) (h1 j hj) hv (by rw [h2 j hj]; omega)).1 _) (Nat.le_refl _)
/-! ### lists of polynomials -/
def plL (p : List Rat) : LV := .list 3 (p.map ratL)
theorem plE : EncOK plL 1 false := ⟨fun _ => rfl, fun _ => rfl, fun p => pure_lst ratE 3 p⟩
theorem dfp : (default : List Rat) = [] := rfl
theorem plZ : ZeroOK Tryz.prog 38 (plL []) := ⟨Tryz.t38, _, by kernel_rfl, rfl, rfl, fun _ _ _ => repNil0 3⟩
instance : EC Tryz.prog 38 plL 1 false [] := ⟨plE, plZ, T38⟩
theorem pl_len (p : List Rat) (T d : TypeId) {P : Program} {H : Heap} {ρ : Operand → LV} {x : Operand} (hx : ρ x = plL p) (hT : P.underlying T = some (.slice d)) : OpP P H ρ (.call ⟨.builtin .len, #[x], #[T]⟩) (nI64 p.length) := .lenLm (e := ratL) (l := p) hx rfl hT
def pvL (V : Nat) (c : List Rat) (g : List Rat → List Rat) (n : Nat) : List (List Rat) := (List.range n).map fun i => g (rwL V c i)
theorem pvL_len (V : Nat) (c : List Rat) (g : List Rat → List Rat) (n : Nat) : (pvL V c g n).length = n := by simp [pvL]
theorem pvL_succ (V : Nat) (c : List Rat) (g : List Rat → List Rat) (n : Nat) : pvL V c g (n + 1) = pvL V c g n ++ [g (rwL V c n)] := by simp [pvL, List.range_succ]
theorem pvL_flat (V : Nat) (c : List Rat) (g : List Rat → List Rat) : ∀ n, (pvL V c g n).flatten = rsL g V c n
  | 0 => rfl
  | n + 1 => by rw [pvL_succ, List.flatten_append, pvL_flat V c g n, rsL]; simp
theorem fl_len {W : Nat} : ∀ {ls : List (List Rat)}, (∀ p ∈ ls, p.length = W + 1) → ls.flatten.length = ls.length * (W + 1)
  | [], _ => by simp
  | p :: ls, h => by rw [List.flatten_cons, List.length_append, fl_len (fun q hq => h q (List.mem_cons_of_mem _ hq)), h p (List.mem_cons_self ..), List.length_cons, Nat.succ_mul, Nat.add_comm]
theorem fl_succ {ls : List (List Rat)} {k : Nat} (h : k < ls.length) : (ls.take (k + 1)).flatten = (ls.take k).flatten ++ ls.getD k [] := by
  rw [List.take_add_one, List.flatten_append, List.getD_eq_getElem?_getD, List.getElem?_eq_getElem h]; simp
theorem getD_memL {ls : List (List Rat)} {k : Nat} (h : k < ls.length) : ls.getD k [] ∈ ls := by
  rw [List.getD_eq_getElem?_getD, List.getElem?_eq_getElem h]; exact List.getElem_mem h
theorem rsF_eq (V : Nat) (c : List Rat) (a b : Rat) (n : Nat) : rsL (fun p => partF p a b) V c n = rsL (fun p => partB p a b) V c n := by
  congr 1; funext p; exact (part_eq p a b).symm
namespace H_c_frow7
theorem zSm {p q : Prop} (k : q) (e : p = q := by simp only [e1, e2, e3, e4, p1, p2, p3, q1, q2, q3, l1, t0, t1, r1, r2, r3, r4, Nat.zero_add, Nat.reduceMul, Nat.reduceAdd, b1, b2, b3, b4, b5, b6, i1, i2, i3, i4, i5, i6, Nat.reduceBEq, take_map_len, map_snoc, len_snoc, List.length_cons, List.length_nil, List.nil_append, List.map_nil, List.take_nil, List.append_nil, kills_map ratE, ratL_kill, spL_kill, LV.kill, kills]; exact rfl) : p := e.mpr k
end H_c_frow7
open H_c_frow7 in
theorem c_frow7 (U V : Nat) (c : List Rat) (hc : c.length = (U + 1) * (V + 1)) (hl : c.length ≤ 1048576) (i : Nat) (hi : i ≤ U) : CallP Tryz.prog 95 [.agg [nI64 U, nI64 V, .list 3 (c.map ratL)], nI64 i] (.list 3 ((rwL V c i).map ratL)) := by
  have hU : U + 1 ≤ c.length := by rw [hc]; exact Nat.le_mul_of_pos_right _ (Nat.succ_pos V)
  have hV : V + 1 ≤ c.length := by rw [hc]; exact Nat.le_mul_of_pos_left _ (Nat.succ_pos U)
  have hnp := net_pureN U V c
  have hri := rw_le hc hi
  have hrs : (i + 1) * (V + 1) = i * (V + 1) + (V + 1) := Nat.succ_mul i (V + 1)
  have hrl := rwL_len hc hi
  refine fnP Tryz.func95 ?_
  refine zg14 ?_
  refine st_pure rfl (.bin rfl rfl (add1N (by omega))) ?_
  refine st_pure rfl (.bin rfl rfl (mulE rfl (by omega))) ?_
  refine zg1 ?_
  refine st_pure rfl (.bin rfl rfl (add1N (by omega))) ?_
  refine zg2 ?_
  refine st_pure rfl (.bin rfl rfl (add1N (by omega))) ?_
  refine st_pure rfl (.bin rfl rfl (mulE rfl (by omega))) ?_
  refine st_pure rfl (.sliceLb (a := _) (h := _) ratE rfl Tryz.underlying25 T33 rfl rfl (by omega) (by omega)) ?_
  refine st_store rfl (.app (news := (rwL V c i).map ratL) rfl rfl rfl rfl rfl (Nat.zero_le _) (.inr rfl) (by decide) Tryz.underlying38 Tryz.underlying25 Z33a T33 rfl B33 (.inr (.inl rfl)) (by simp; omega) (by simp; omega) (by decide)) ?_
  refine zg4 ?_
  exact ret1f [20] rfl rfl (imm_refm ratE rfl rfl (by simp))
namespace H_c_fCol7
theorem zSm {p q : Prop} (k : q) (e : p = q := by simp only [e1, e2, e3, e4, p1, p2, p3, q1, q2, q3, l1, t0, t1, r1, r2, r3, r4, Nat.zero_add, Nat.reduceMul, Nat.reduceAdd, b1, b2, b3, b4, b5, b6, i1, i2, i3, i4, i5, i6, Nat.reduceBEq, dfq, etk, ers, take_map_len, map_snoc, len_snoc, List.length_cons, List.length_nil, List.nil_append, List.map_nil, List.take_nil, List.append_nil, kills_map ratE, ratL_kill, spL_kill, LV.kill, kills]; exact rfl) : p := e.mpr k
end H_c_fCol7
open H_c_fCol7 in
theorem c_fCol7 (U V : Nat) (c : List Rat) (hc : c.length = (U + 1) * (V + 1)) (hl : c.length ≤ 1048576) (v : Rat) (hS : ∀ i, i ≤ U → HS (rwL V c i) v) : CallP Tryz.prog 21 [.agg [nI64 U, nI64 V, .list 3 (c.map ratL)], ratL v] (.list 3 ((colT U V c v).map ratL)) := by
  have hU : U + 1 ≤ c.length := by rw [hc]; exact Nat.le_mul_of_pos_right _ (Nat.succ_pos V)
  have hV : V + 1 ≤ c.length := by rw [hc]; exact Nat.le_mul_of_pos_left _ (Nat.succ_pos U)
  have hnp := net_pureN U V c
  refine fnP Tryz.func21 ?_
  have etk : True := trivial
  have ers : True := trivial
  refine zg19 ?_
  refine wl_weak (Weak.own (t := 5) 20 3 rfl rfl) ?_
  refine lp1 (fun (i : Nat) L => (((((St.mk L.slot (hp [(2, ⟨3, [.agg [nI64 U, nI64 V, .list 3 (c.map ratL)]], true⟩), (3, ⟨3, [ratL v], true⟩), (20, ⟨3, (rsL (fun p => [evP p v]) V c i).map ratL, true⟩)])).put (some 2) (.eptr 2 3 0 0)).put (some 3) (.eptr 3 3 0 0)).put (some 5) (.ref 20 3 0 i)).put (some 6) (nI64 i))) (fun i => i ≤ U + 1) (fun i => U + 1 - i) 0 (Nat.zero_le _) ?_
  rintro i L1 hi
  refine zg9 ?_
  refine wl_if rfl (fun h10r h10 => ?_) (fun h10r h10 => ?_)
  · have hi2 : i ≤ U := by omega
    have hrl := rsL_len (g := (fun p => [evP p v])) (V := V) (W := 0) (U := U) (c := c) (fun i _ => rfl) i hi
    rw [Nat.zero_add, Nat.mul_one] at hrl
    have etk : ((rsL (fun p => [evP p v]) V c i).map ratL).take i = (rsL (fun p => [evP p v]) V c i).map ratL := List.take_of_length_le (by rw [List.length_map]; omega)
    have ers : rsL (fun p => [evP p v]) V c i ++ [evP (rwL V c i) v] = rsL (fun p => [evP p v]) V c (i + 1) := rfl
    refine zg4 ?_
    refine wl_regD 7 (by decide +kernel) ?_
    refine zg3 ?_
    refine cp am2 (c_frow7 U V c hc hl i hi2) ?_
    refine zg1 ?_
    refine cp am2 (c_FEval (rwL V c i) v (hS i hi2) (by rw [rwL_len hc hi2]; exact Nat.succ_pos V)) ?_
    refine zg1 ?_
    refine st_store rfl (.app (news := [ratL (evP (rwL V c i) v)]) rfl rfl rfl rfl rfl (by rw [List.length_map]; omega) (.inl rfl) (by decide) Tryz.underlying38 Tryz.underlying38 Z33a T33 rfl B33 (.inl ⟨19, 0, _, rfl, by decide, rfl, rfl, by simp, rfl, by simp [pures, ratE.pure]⟩) (by simp; omega) (by simp; omega) (by decide)) ?_
    refine zg4 ?_
    refine wl_regW (Weak.kill _ 19) ?_
    refine zg1 ?_
    refine st_pure rfl (.bin rfl rfl (add1N (by omega))) ?_
    refine zg3 ?_
    exact nx1 (i + 1) (by omega)
  · obtain rfl : i = U + 1 := by omega
    refine zg12 ?_
    exact ret1f [20] rfl rfl (imm_refm ratE rfl rfl (colT_len U V c v).symm)
namespace H_c_fSwap
theorem zSm {p q : Prop} (k : q) (e : p = q := by simp only [e1, e2, e3, e4, p1, p2, p3, q1, q2, q3, l1, t0, t1, r1, r2, r3, r4, Nat.zero_add, Nat.reduceMul, Nat.reduceAdd, b1, b2, b3, b4, b5, b6, i1, i2, i3, i4, i5, i6, Nat.reduceBEq, dfq, esw, Nat.add_zero, take_gL, take_map_len, map_snoc, len_snoc, List.length_cons, List.length_nil, List.nil_append, List.map_nil, List.take_nil, List.append_nil, kills_map ratE, ratL_kill, spL_kill, LV.kill, kills]; exact rfl) : p := e.mpr k
end H_c_fSwap
open H_c_fSwap in
theorem c_fSwap (U V : Nat) (c : List Rat) (hc : c.length = (U + 1) * (V + 1)) (hl : c.length ≤ 1048576) : CallP Tryz.prog 82 [.agg [nI64 U, nI64 V, .list 3 (c.map ratL)]] (.agg [nI64 V, nI64 U, .list 3 ((swL U V c).map ratL)]) := by
  have hU : U + 1 ≤ c.length := by rw [hc]; exact Nat.le_mul_of_pos_right _ (Nat.succ_pos V)
  have hV : V + 1 ≤ c.length := by rw [hc]; exact Nat.le_mul_of_pos_left _ (Nat.succ_pos U)
  have hnp := net_pureN U V c
  refine fnP Tryz.func82 (ht := (fun g => LV.ren_pure g _ (net_pureN _ _ _))) ?_
  have esw : True := trivial
  refine zg24 ?_
  refine wl_weak ((Weak.cell 3 rfl (fun Z μ w cs h => rep_net 37 3 _ _ Z μ w cs h)).trans (Weak.newB _ 37 3 rfl)) ?_
  refine lp2 (fun (j m : Nat) L => (((((St.mk L.slot (hp [(1, ⟨3, [.agg [nI64 U, nI64 V, .list 3 (c.map ratL)]], true⟩), (2, ⟨3, [.agg [.v (.int .i64 0), .v (.int .i64 0), .v (.slice none 0 0)]], true⟩), (3, ⟨3, [.agg [nI64 V, nI64 U, .ref 37 3 0 m]], true⟩), (37, ⟨3, (gL m (swV U V c)).map ratL, true⟩)])).put (some 1) (.eptr 1 3 0 0)).put (some 2) (.eptr 2 3 0 0)).put (some 3) (.eptr 3 3 0 0)).put (some 4) (nI64 j))) (fun j m => j ≤ V + 1 ∧ j * (U + 1) = m) (fun j m => V + 1 - j) 0 0 ⟨Nat.zero_le _, Nat.zero_mul _⟩ ?_
  rintro j m L1 ⟨hj, hm⟩
  refine zg9 ?_
  refine wl_if rfl (fun h14r h14 => ?_) (fun h14r h14 => ?_)
  · have hj2 : j ≤ V := by omega
    refine zg10 ?_
    refine lp1 (fun (i : Nat) L => ((((((St.mk L.slot (hp [(1, ⟨3, [.agg [nI64 U, nI64 V, .list 3 (c.map ratL)]], true⟩), (2, ⟨3, [.agg [.v (.int .i64 0), .v (.int .i64 0), .v (.slice none 0 0)]], true⟩), (3, ⟨3, [.agg [nI64 V, nI64 U, .ref 37 3 0 (m + i)]], true⟩), (37, ⟨3, (gL (m + i) (swV U V c)).map ratL, true⟩)])).put (some 1) (.eptr 1 3 0 0)).put (some 2) (.eptr 2 3 0 0)).put (some 3) (.eptr 3 3 0 0)).put (some 4) (nI64 j)).put (some 5) (nI64 i))) (fun i => i ≤ U + 1) (fun i => U + 1 - i) 0 (Nat.zero_le _) ?_
    rintro i L2 hi
    refine zg9 ?_
    refine wl_if rfl (fun h20r h20 => ?_) (fun h20r h20 => ?_)
    · have hi2 : i ≤ U := by omega
      have hmi := ix_lt (U := V) (V := U) hj2 hi2
      rw [hm, Nat.mul_comm, ← hc] at hmi
      have hix := ix_lt hi2 hj2
      rw [← hc] at hix
      have hgl := gL_len (m + i) (swV U V c)
      have esw : gL (m + (i + 1)) (swV U V c) = gL (m + i) (swV U V c) ++ [c.getD (i * (V + 1) + j) 0] := by rw [← Nat.add_assoc, gL_succ, swV, ← hm, ix_div hi2, ix_mod hi2]
      refine zg4 ?_
      refine wl_regD 14 (by decide +kernel) ?_
      refine zg7 ?_
      refine st_pure rfl (.bin rfl rfl (add1N (by omega))) ?_
      refine st_pure rfl (.bin rfl rfl (mulE rfl (by omega))) ?_
      refine zg1 ?_
      refine st_pure rfl (.bin rfl rfl (add64N (by omega))) ?_
      refine zg3 ?_
      refine st_store rfl (.app (news := [ratL (c.getD (i * (V + 1) + j) 0)]) rfl rfl rfl rfl rfl (by simp [gL_len]) (.inl rfl) (by decide) Tryz.underlying25 Tryz.underlying25 Z33a T33 rfl B33 (.inl ⟨36, 0, _, rfl, by decide, rfl, rfl, by simp, rfl, by simp [pures, ratE.pure]⟩) (by simp; omega) (by simp; omega) (by decide)) ?_
      refine zg5 ?_
      refine wl_regW (Weak.kill _ 36) ?_
      refine zg1 ?_
      refine st_pure rfl (.bin rfl rfl (add1N (by omega))) ?_
      refine zg3 ?_
      exact nx1 (i + 1) (by omega)
    · obtain rfl : i = U + 1 := by omega
      refine zg8 ?_
      refine st_pure rfl (.bin rfl rfl (add1N (by omega))) ?_
      refine zg3 ?_
      exact nx2 (j + 1) (m + (U + 1)) ⟨by omega, by rw [Nat.succ_mul]; omega⟩
  · obtain rfl : j = V + 1 := by omega
    have hE : gL m (swV U V c) = swL U V c := by rw [← hm]; rfl
    refine zg12 ?_
    rw [← hE]
    exact retC [37] rfl rfl rfl rfl rfl T27 (.agg (.cons (.pure rfl) (.cons (.pure rfl) (.cons (imm_refm ratE rfl rfl (by rw [gL_len])) .nil))))
open H0 in
theorem c_fRow7 (U V : Nat) (c : List Rat) (hc : c.length = (U + 1) * (V + 1)) (hl : c.length ≤ 1048576) (u : Rat) (hS : ∀ j, j ≤ V → HS (rwL U (swL U V c) j) u) : CallP Tryz.prog 19 [.agg [nI64 U, nI64 V, .list 3 (c.map ratL)], ratL u] (.list 3 ((rowT U V c u).map ratL)) := by
  have hU : U + 1 ≤ c.length := by rw [hc]; exact Nat.le_mul_of_pos_right _ (Nat.succ_pos V)
  have hV : V + 1 ≤ c.length := by rw [hc]; exact Nat.le_mul_of_pos_left _ (Nat.succ_pos U)
  have hnp := net_pureN U V c
  have hsl := swL_len U V c
  have hn2 := net_pureN V U (swL U V c)
  refine fnP Tryz.func19 ?_
  refine zg8 ?_
  refine wl_regD 5 (by decide +kernel) ?_
  refine zg1 ?_
  refine cp am1 (c_fSwap U V c hc hl) ?_
  refine zg1 ?_
  refine cp am2 (c_fCol7 V U (swL U V c) hsl (by rw [hsl, Nat.mul_comm, ← hc]; exact hl) u hS) ?_
  refine zg4 ?_
  exact ret1 rfl (by first | exact .pure rfl | exact .pure (limL_pure _) | exact .pure (magL_pure _) | exact .pure (ratE.pure _) | exact .pure (pure_lst u32E _ _) | exact .pure (pure_lst ratE _ _))
open H0 in
theorem c_fEval7 (U V : Nat) (c : List Rat) (hc : c.length = (U + 1) * (V + 1)) (hl : c.length ≤ 1048576) (u v : Rat) (hS : ∀ i, i ≤ U → HS (rwL V c i) v) (hS2 : HS (colT U V c v) u) : CallP Tryz.prog 16 [.agg [nI64 U, nI64 V, .list 3 (c.map ratL)], ratL u, ratL v] (ratL (evP (colT U V c v) u)) := by
  have hU : U + 1 ≤ c.length := by rw [hc]; exact Nat.le_mul_of_pos_right _ (Nat.succ_pos V)
  have hV : V + 1 ≤ c.length := by rw [hc]; exact Nat.le_mul_of_pos_left _ (Nat.succ_pos U)
  have hnp := net_pureN U V c
  refine fnP Tryz.func16 ?_
  refine zg9 ?_
  refine wl_regD 5 (by decide +kernel) ?_
  refine zg2 ?_
  refine cp am2 (c_fCol7 U V c hc hl v hS) ?_
  refine zg1 ?_
  refine cp am2 (c_FEval (colT U V c v) u hS2 (by rw [colT_len]; exact Nat.succ_pos U)) ?_
  refine zg4 ?_
  exact retC [] rfl rfl rfl (ratE.csize _) (ratL_all _) T33 (.pure (ratE.pure _))
open H0 in
theorem c_fSame7 (u v : Nat) (c d : List Rat) (hl : c.length ≤ 1048576) (hl2 : d.length ≤ 1048576) (hcR : ∀ x ∈ c, rl x ≤ 137438953472) (hdR : ∀ x ∈ d, rl x ≤ 137438953472) : CallP Tryz.prog 22 [.agg [nI64 u, nI64 v, .list 3 (c.map ratL)], .agg [nI64 u, nI64 v, .list 3 (d.map ratL)]] (bL (decide (c = d))) := by
  have hn1 := net_pureN u v c
  have hn2 := net_pureN u v d
  refine fnP Tryz.func22 ?_
  refine zg15 ?_
  refine st_pure (guardX (v := true) rfl rfl ((beq_self_eq_true _)) rfl) fa27 ?_
  refine st_pure (guardX (v := true) rfl rfl ((beq_self_eq_true _)) rfl) ld3 ?_
  refine st_pure (guardX (v := true) rfl rfl ((beq_self_eq_true _)) rfl) fa27 ?_
  refine st_pure (guardX (v := true) rfl rfl ((beq_self_eq_true _)) rfl) ld3 ?_
  refine st_pure (guardX (v := true) rfl rfl ((beq_self_eq_true _)) rfl) (.bin rfl rfl rfl) ?_
  refine st_pure rfl (.pickT rfl ((beq_self_eq_true _))) ?_
  refine zg1 ?_
  refine st_pure (guardX (v := true) rfl rfl ((beq_self_eq_true _)) rfl) fa27 ?_
  refine st_pure (guardX (v := true) rfl rfl ((beq_self_eq_true _)) rfl) ld25 ?_
  refine st_pure (guardX (v := true) rfl rfl ((beq_self_eq_true _)) rfl) fa27 ?_
  refine st_pure (guardX (v := true) rfl rfl ((beq_self_eq_true _)) rfl) ld25 ?_
  refine st_callP (guardX (v := true) rfl rfl ((beq_self_eq_true _)) rfl) (.cons im0 (.cons im0 .nil)) (c_FSameL c d hl hl2 hcR hdR) ?_
  refine st_pure rfl (.pickT rfl ((beq_self_eq_true _))) ?_
  refine zg4 ?_
  exact ret1 rfl (by first | exact .pure rfl | exact .pure (limL_pure _) | exact .pure (magL_pure _) | exact .pure (ratE.pure _) | exact .pure (pure_lst u32E _ _) | exact .pure (pure_lst ratE _ _))
namespace H_c_frows7
theorem zSm {p q : Prop} (k : q) (e : p = q := by simp only [e1, e2, e3, e4, p1, p2, p3, q1, q2, q3, l1, t0, t1, r1, r2, r3, r4, Nat.zero_add, Nat.reduceMul, Nat.reduceAdd, b1, b2, b3, b4, b5, b6, i1, i2, i3, i4, i5, i6, Nat.reduceBEq, dfp, hw0, etk, ers, ewk, Nat.add_sub_cancel, List.length_map, take_map_len, map_snoc, len_snoc, List.length_cons, List.length_nil, List.nil_append, List.map_nil, List.take_nil, List.append_nil, kills_map ratE, ratL_kill, spL_kill, LV.kill, kills]; exact rfl) : p := e.mpr k
end H_c_frows7
open H_c_frows7 in
theorem c_frows7 (ls : List (List Rat)) (W : Nat) (h0 : 0 < ls.length) (hl : ls.length * (W + 1) ≤ 1048576) (hW : ∀ p ∈ ls, p.length = W + 1) : CallP Tryz.prog 101 [.list 1 (ls.map plL)] (.agg [nI64 (ls.length - 1), nI64 W, .list 3 (ls.flatten.map ratL)]) := by
  have hw0 : (ls.getD 0 []).length = W + 1 := hW _ (getD_memL h0)
  have hl2 : ls.length ≤ ls.length * (W + 1) := Nat.le_mul_of_pos_right _ (Nat.succ_pos W)
  have hl3 : W + 1 ≤ ls.length * (W + 1) := Nat.le_mul_of_pos_left _ h0
  refine fnP Tryz.func101 (ht := (fun g => LV.ren_pure g _ (net_pureN _ _ _))) ?_
  have etk : True := trivial
  have ers : True := trivial
  have ewk : True := trivial
  refine zg9 ?_
  refine st_pure rfl (.bin rfl rfl (sub1N (by omega) (by omega))) ?_
  refine zg3 ?_
  refine st_pure rfl (pl_len (ls.getD 0 []) _ _ rfl Tryz.underlying38) ?_
  simp only [hw0, dfp, tz0]
  refine st_pure rfl (.bin rfl rfl (sub1N (by omega) (by omega))) ?_
  refine zg12 ?_
  refine wl_weak ((Weak.cell 3 rfl (fun Z μ w cs h => rep_net 26 3 _ _ Z μ w cs h)).trans (Weak.newB _ 26 3 rfl)) ?_
  refine lp2 (fun (k m : Nat) L => (((((St.mk L.slot (hp [(2, ⟨3, [.agg [.v (.int .i64 0), .v (.int .i64 0), .v (.slice none 0 0)]], true⟩), (3, ⟨3, [.agg [nI64 (ls.length - 1), nI64 W, .ref 26 3 0 m]], true⟩), (26, ⟨3, (ls.take k).flatten.map ratL, true⟩)])).put (some 0) (.list 1 (ls.map plL))).put (some 2) (.eptr 2 3 0 0)).put (some 3) (.eptr 3 3 0 0)).put (some 4) (nI64 k))) (fun k m => k ≤ ls.length ∧ k * (W + 1) = m) (fun k m => ls.length - k) 0 0 ⟨Nat.zero_le _, Nat.zero_mul _⟩ ?_
  rintro k m L1 ⟨hk, hm⟩
  refine zg9 ?_
  refine wl_if rfl (fun h17r h17 => ?_) (fun h17r h17 => ?_)
  · have hk2 : k < ls.length := by omega
    have ewk := hW _ (getD_memL hk2)
    have hwk := ewk
    have hfl := fl_len (W := W) (ls := ls.take k) (fun p hp => hW p (List.mem_of_mem_take hp))
    rw [List.length_take, Nat.min_eq_left hk, hm] at hfl
    have hmu : m + (W + 1) ≤ ls.length * (W + 1) := by rw [← hm, ← Nat.succ_mul]; exact Nat.mul_le_mul_right _ hk2
    have etk : ((ls.take k).flatten.map ratL).take m = (ls.take k).flatten.map ratL := List.take_of_length_le (by rw [List.length_map]; omega)
    have ers : (ls.take k).flatten.map ratL ++ (ls.getD k []).map ratL = (ls.take (k + 1)).flatten.map ratL := by rw [fl_succ hk2, List.map_append]
    refine zg4 ?_
    refine wl_regD 6 (by decide +kernel) ?_
    refine zg6 ?_
    refine st_store rfl (.app (news := (ls.getD k []).map ratL) rfl rfl rfl rfl rfl (by rw [List.length_map]; omega) (.inl rfl) (by decide) Tryz.underlying25 Tryz.underlying38 Z33a T33 rfl B33 (.inr (.inl rfl)) (by rw [List.length_map, hwk]; omega) (by rw [List.length_map, hwk]; omega) (by decide)) ?_
    refine zg7 ?_
    refine st_pure rfl (.bin rfl rfl (add1N (by omega))) ?_
    refine zg3 ?_
    exact nx2 (k + 1) (m + (W + 1)) ⟨by omega, by rw [Nat.succ_mul]; omega⟩
  · obtain rfl : k = ls.length := by omega
    have hfl := fl_len hW
    have hE : (ls.take ls.length).flatten = ls.flatten := by rw [List.take_length]
    refine zg12 ?_
    rw [← hE]
    exact retC [26] rfl rfl rfl rfl rfl T27 (.agg (.cons (.pure rfl) (.cons (.pure rfl) (.cons (imm_refm ratE rfl rfl (by rw [hE]; omega)) .nil))))
namespace H_c_fPV
theorem zSm {p q : Prop} (k : q) (e : p = q := by simp only [e1, e2, e3, e4, p1, p2, p3, q1, q2, q3, l1, t0, t1, r1, r2, r3, r4, Nat.zero_add, Nat.reduceMul, Nat.reduceAdd, b1, b2, b3, b4, b5, b6, i1, i2, i3, i4, i5, i6, Nat.reduceBEq, dfp, etk, ers, take_map_len, map_snoc, len_snoc, List.length_cons, List.length_nil, List.nil_append, List.map_nil, List.take_nil, List.append_nil, kills_map plE, kills_map ratE, ratL_kill, spL_kill, LV.kill, kills]; exact rfl) : p := e.mpr k
end H_c_fPV
open H_c_fPV in
theorem c_fPV (U V : Nat) (c : List Rat) (hc : c.length = (U + 1) * (V + 1)) (hl : c.length ≤ 1048576) (a b : Rat) (hab : rl a + rl b ≤ 536870912) (hP : ∀ i, i ≤ U → PartO (rwL V c i) a b) : CallP Tryz.prog 26 [.agg [nI64 U, nI64 V, .list 3 (c.map ratL)], ratL a, ratL b] (.agg [nI64 U, nI64 V, .list 3 ((ptW V U c a b).map ratL)]) := by
  have hU : U + 1 ≤ c.length := by rw [hc]; exact Nat.le_mul_of_pos_right _ (Nat.succ_pos V)
  have hV : V + 1 ≤ c.length := by rw [hc]; exact Nat.le_mul_of_pos_left _ (Nat.succ_pos U)
  have hnp := net_pureN U V c
  have hn2 := net_pureN U V (ptW V U c a b)
  have hR : CallP Tryz.prog 101 [.list 1 ((pvL V c (fun p => partF p a b) (U + 1)).map plL)] (.agg [nI64 U, nI64 V, .list 3 ((ptW V U c a b).map ratL)]) := by
    have := c_frows7 (pvL V c (fun p => partF p a b) (U + 1)) V (by rw [pvL_len]; omega) (by rw [pvL_len, ← hc]; exact hl) (fun p hp => by
      obtain ⟨i, hi, rfl⟩ := List.mem_map.1 hp
      have hi := List.mem_range.1 hi
      show (partF _ _ _).length = _
      rw [← part_eq, partB_len, rwL_len hc (by omega)])
    rwa [pvL_len, pvL_flat, rsF_eq, Nat.add_sub_cancel] at this
  refine fnP Tryz.func26 (ht := (fun g => LV.ren_pure g _ (net_pureN _ _ _))) ?_
  have etk : True := trivial
  have ers : True := trivial
  refine zg20 ?_
  refine wl_weak (Weak.own (t := 7) 23 1 rfl rfl) ?_
  refine lp1 (fun (i : Nat) L => (((((((St.mk L.slot (hp [(3, ⟨3, [.agg [nI64 U, nI64 V, .list 3 (c.map ratL)]], true⟩), (4, ⟨3, [ratL a], true⟩), (5, ⟨3, [ratL b], true⟩), (6, ⟨3, [.agg [.v (.int .i64 0), .v (.int .i64 0), .v (.slice none 0 0)]], true⟩), (23, ⟨1, (pvL V c (fun p => partF p a b) i).map plL, true⟩)])).put (some 3) (.eptr 3 3 0 0)).put (some 4) (.eptr 4 3 0 0)).put (some 5) (.eptr 5 3 0 0)).put (some 6) (.eptr 6 3 0 0)).put (some 7) (.ref 23 1 0 i)).put (some 8) (nI64 i))) (fun i => i ≤ U + 1) (fun i => U + 1 - i) 0 (Nat.zero_le _) ?_
  rintro i L1 hi
  refine zg9 ?_
  refine wl_if rfl (fun h12r h12 => ?_) (fun h12r h12 => ?_)
  · have hi2 : i ≤ U := by omega
    obtain ⟨g1, g2, g3⟩ := hP i hi2
    have hpl := pvL_len V c (fun p => partF p a b) i
    have etk : ((pvL V c (fun p => partF p a b) i).map plL).take i = (pvL V c (fun p => partF p a b) i).map plL := List.take_of_length_le (by rw [List.length_map]; omega)
    have ers : (pvL V c (fun p => partF p a b) i) ++ [partF (rwL V c i) a b] = (pvL V c (fun p => partF p a b) (i + 1)) := (pvL_succ V c (fun p => partF p a b) i).symm
    refine zg4 ?_
    refine wl_regD 8 (by decide +kernel) ?_
    refine zg3 ?_
    refine cp am2 (c_frow7 U V c hc hl i hi2) ?_
    refine zg2 ?_
    refine cp am3 (c_FPart (rwL V c i) a b (by rw [rwL_len hc hi2]; omega) hab (fun h => g1 (fun e => h (by grind))) g3) ?_
    refine zg1 ?_
    refine st_store rfl (.app (news := [plL (partF (rwL V c i) a b)]) rfl rfl rfl rfl rfl (by rw [List.length_map]; omega) (.inl rfl) (by decide) Tryz.underlying86 Tryz.underlying86 plZ T38 rfl B38 (.inl ⟨22, 0, _, rfl, by decide, rfl, rfl, by simp, rfl, by simp [pures, plE.pure]⟩) (by simp; omega) (by simp; omega) (by decide)) ?_
    refine zg4 ?_
    refine wl_regW (Weak.kill _ 22) ?_
    refine zg1 ?_
    refine st_pure rfl (.bin rfl rfl (add1N (by omega))) ?_
    refine zg3 ?_
    exact nx1 (i + 1) (by omega)
  · obtain rfl : i = U + 1 := by omega
    refine zg8 ?_
    refine st_callPf [23] rfl rfl (.cons (imm_refm plE rfl rfl (pvL_len _ _ _ _).symm) .nil) hR ?_
    refine zg4 ?_
    exact retC [] rfl rfl rfl rfl rfl T27 (.pure (net_pureN _ _ _))
open H0 in
theorem c_fPU (U V : Nat) (c : List Rat) (hc : c.length = (U + 1) * (V + 1)) (hl : c.length ≤ 1048576) (a b : Rat) (hab : rl a + rl b ≤ 536870912) (hP : ∀ j, j ≤ V → PartO (rwL U (swL U V c) j) a b) : CallP Tryz.prog 24 [.agg [nI64 U, nI64 V, .list 3 (c.map ratL)], ratL a, ratL b] (.agg [nI64 U, nI64 V, .list 3 ((ptU U V c a b).map ratL)]) := by
  have hU : U + 1 ≤ c.length := by rw [hc]; exact Nat.le_mul_of_pos_right _ (Nat.succ_pos V)
  have hV : V + 1 ≤ c.length := by rw [hc]; exact Nat.le_mul_of_pos_left _ (Nat.succ_pos U)
  have hnp := net_pureN U V c
  have hsl := swL_len U V c
  have hsl2 : (swL U V c).length ≤ 1048576 := by rw [hsl, Nat.mul_comm, ← hc]; exact hl
  have hn2 := net_pureN V U (swL U V c)
  have hpl := ptW_len hsl a b
  have hn3 := net_pureN V U (ptW U V (swL U V c) a b)
  refine fnP Tryz.func24 (ht := (fun g => LV.ren_pure g _ (net_pureN _ _ _))) ?_
  refine zg9 ?_
  refine wl_regD 6 (by decide +kernel) ?_
  refine zg1 ?_
  refine cp am1 (c_fSwap U V c hc hl) ?_
  refine zg2 ?_
  refine cp am3 (c_fPV V U (swL U V c) hsl hsl2 a b hab hP) ?_
  refine cp am1 (c_fSwap V U (ptW U V (swL U V c) a b) hpl (by rw [hpl, ← hsl]; exact hsl2)) ?_
  refine zg4 ?_
  exact retC [] rfl rfl rfl rfl rfl T27 (.pure (net_pureN _ _ _))
namespace H_c_TensorParts
theorem zSm {p q : Prop} (k : q) (e : p = q := by simp only [e1, e2, e3, e4, p1, p2, p3, q1, q2, q3, l1, t0, t1, r1, r2, r3, r4, Nat.zero_add, Nat.reduceMul, Nat.reduceAdd, b1, b2, b3, b4, b5, b6, i1, i2, i3, i4, i5, i6, Nat.reduceBEq, dfq, tz0, kills_map ratE, ratL_kill, spL_kill, LV.kill, kills, dice_kill]; exact rfl) : p := e.mpr k
end H_c_TensorParts
open H_c_TensorParts in
theorem c_TensorParts (l : List Int) (i j k : Int) (hl : l.length ≤ 9223372036854775807 ∧ ∀ n ∈ l, -9223372036854775808 ≤ n ∧ n ≤ 9223372036854775807) (hi : -9223372036854775808 ≤ i ∧ i ≤ 9223372036854775807) (hj : -9223372036854775808 ≤ j ∧ j ≤ 9223372036854775807) (hk : -9223372036854775808 ≤ k ∧ k ≤ 9223372036854775807) : CallP Tryz.prog 3 [.list 1 (l.map i64L), iL i, iL j, iL k] (bL true) := by
  have hU : (nU l 0 4) ≤ 4 := nU_le _ _ _
  have hV : (nU l (nxK l 0) 4) ≤ 4 := nU_le _ _ _
  have hcl := ntC_len l 0 4 4
  have hcR := ntC_rl l 0 4 4
  have hlen : (ntC l 0 4 4).length ≤ 1048576 := by rw [hcl]; exact Nat.le_trans (Nat.mul_le_mul (show (nU l 0 4) + 1 ≤ 5 by omega) (show (nU l (nxK l 0) 4) + 1 ≤ 5 by omega)) (by decide)
  have hc0 : ∀ x ∈ (ntC l 0 4 4), rl x ≤ 274877906944 := fun x hx => Nat.le_trans (hcR x hx) (by decide)
  have ra := rtV_rl i k
  have rb := rtV_rl j k
  have hsR : ∀ x ∈ swL (nU l 0 4) (nU l (nxK l 0) 4) (ntC l 0 4 4), rl x ≤ 1 := fun x hx => hcR x (sw_mem hcl hx)
  have hPU := c_PartU (nU l 0 4) (nU l (nxK l 0) 4) (ntC l 0 4 4) hcl hlen (rtV i k) (rtV j k) 1 5 hcR ra rb (by decide) (by omega) (by decide)
  have hPV := c_PartV (nU l 0 4) (nU l (nxK l 0) 4) (ntC l 0 4 4) hcl hlen (rtV i k) (rtV j k) 1 5 hcR ra rb (by decide) (by omega) (by decide)
  have hFU := c_fPU (nU l 0 4) (nU l (nxK l 0) 4) (ntC l 0 4 4) hcl hlen (rtV i k) (rtV j k) (by omega) (fun j hj => part_o (fun x hx => hsR x (rwL_mem hx)) ra rb (by rw [rwL_len (swL_len _ _ _) hj]; omega))
  have hFV := c_fPV (nU l 0 4) (nU l (nxK l 0) 4) (ntC l 0 4 4) hcl hlen (rtV i k) (rtV j k) (by omega) (fun j hj => part_o (fun x hx => hcR x (rwL_mem hx)) ra rb (by rw [rwL_len hcl hj]; omega))
  have hpul := ptU_len (nU l 0 4) (nU l (nxK l 0) 4) (ntC l 0 4 4) (rtV i k) (rtV j k)
  have hpvl := ptW_len hcl (rtV i k) (rtV j k)
  have hpuR : ∀ x ∈ (ptU (nU l 0 4) (nU l (nxK l 0) 4) (ntC l 0 4 4) (rtV i k) (rtV j k)), rl x ≤ 34048 := fun x hx => rs_mem (U := (nU l (nxK l 0) 4)) (fun j hj => (prt (R := 1) (n := 5) (fun x hx => hsR x (rwL_mem hx)) ra rb (by decide) (by rw [rwL_len (swL_len _ _ _) hj]; omega) (by decide)).2.2) (Nat.le_refl _) x (sw_mem (rsU_len hcl _ _) hx)
  have hpvR : ∀ x ∈ (ptW (nU l (nxK l 0) 4) (nU l 0 4) (ntC l 0 4 4) (rtV i k) (rtV j k)), rl x ≤ 34048 := rs_mem (U := (nU l 0 4)) (fun j hj => (prt (R := 1) (n := 5) (fun x hx => hcR x (rwL_mem hx)) ra rb (by decide) (by rw [rwL_len hcl hj]; omega) (by decide)).2.2) (Nat.le_refl _)
  obtain ⟨hS1, hS2⟩ := evT_hs hcl hU hV hcR ra rb
  obtain ⟨hS3, hS4⟩ := evF_hs hcl hU hV hcR ra rb
  obtain ⟨hS5, hS6⟩ := evF_hs hcl hU hV hcR ra ra
  have hFE := c_fEval7 (nU l 0 4) (nU l (nxK l 0) 4) (ntC l 0 4 4) hcl hlen (rtV i k) (rtV j k) hS3 hS4
  rw [evT_swap hcl] at hFE
  have her := hS2.ev
  have hRl := rowT_len (nU l 0 4) (nU l (nxK l 0) 4) (ntC l 0 4 4) (rtV i k)
  have hCl := colT_len (nU l 0 4) (nU l (nxK l 0) 4) (ntC l 0 4 4) (rtV i k)
  have hRr := hS2.rl.2
  have hCr := hS6.rl.2
  have hn1 := net_pureN (nU l 0 4) (nU l (nxK l 0) 4) (ntC l 0 4 4)
  have hn2 := net_pureN (nU l 0 4) (nU l (nxK l 0) 4) (ptU (nU l 0 4) (nU l (nxK l 0) 4) (ntC l 0 4 4) (rtV i k) (rtV j k))
  have hn3 := net_pureN (nU l 0 4) (nU l (nxK l 0) 4) (ptW (nU l (nxK l 0) 4) (nU l 0 4) (ntC l 0 4 4) (rtV i k) (rtV j k))
  refine fnP Tryz.func3 ?_
  refine zg9 ?_
  refine cp am1 (c_Light l (by omega)) ?_
  refine zg3 ?_
  refine wl_if rfl (fun h14r h14 => ?_) (fun h14r h14 => ?_)
  · refine zg2 ?_
    refine cp am0 (c_awake7) ?_
    refine zg5 ?_
    exact ret1 rfl (by first | exact .pure rfl | exact .pure (limL_pure _) | exact .pure (magL_pure _) | exact .pure (ratE.pure _) | exact .pure (pure_lst u32E _ _) | exact .pure (pure_lst ratE _ _))
  · refine zg5 ?_
    refine st_call1 [] rfl rfl (.cons im0 .nil) (c_Roll l) (dice_pure l 0) rfl ?_
    refine st_callMp 1000273 rfl rfl rfl (dice_pure l _) (.cons .ptr (.cons (.imm (.pure rfl)) (.cons (.imm (.pure rfl)) .nil))) .ptr (c_Net l 0 4 4 (by omega) (by omega) (by decide) (by decide)) rfl (dice_pure l _) (net_pureN _ _ _) ?_
    refine zg8 ?_
    refine cp am2 (c_MRat i k hi hk) ?_
    refine zg2 ?_
    refine cp am2 (c_MRat j k hj hk) ?_
    refine zg7 ?_
    refine wl_regD 53 (by decide +kernel) ?_
    refine zg3 ?_
    refine cp am3 (c_TEval (nU l 0 4) (nU l (nxK l 0) 4) (ntC l 0 4 4) hcl hlen hc0 (rtV i k) (rtV j k) hS1 hS2) ?_
    refine zg3 ?_
    refine cp am3 (hFE) ?_
    refine cp am2 (c_FSame (evT (nU l 0 4) (nU l (nxK l 0) 4) (ntC l 0 4 4) (rtV i k) (rtV j k)) (evT (nU l 0 4) (nU l (nxK l 0) 4) (ntC l 0 4 4) (rtV i k) (rtV j k)) (by unfold evT; omega)) ?_
    refine zg1 ?_
    refine st_pure (guardX (v := true) rfl rfl ((decide_eq_true rfl)) rfl) ld27 ?_
    refine st_pure (guardX (v := true) rfl rfl ((decide_eq_true rfl)) rfl) ld33 ?_
    refine st_callP (guardX (v := true) rfl rfl ((decide_eq_true rfl)) rfl) (.cons im0 (.cons im0 .nil)) (c_TRow (nU l 0 4) (nU l (nxK l 0) 4) (ntC l 0 4 4) hcl hlen hc0 (rtV i k) hS1) ?_
    refine st_pure (guardX (v := true) rfl rfl ((decide_eq_true rfl)) rfl) ld27 ?_
    refine st_pure (guardX (v := true) rfl rfl ((decide_eq_true rfl)) rfl) ld33 ?_
    refine st_callP (guardX (v := true) rfl rfl ((decide_eq_true rfl)) rfl) (.cons im0 (.cons im0 .nil)) (c_fRow7 (nU l 0 4) (nU l (nxK l 0) 4) (ntC l 0 4 4) hcl hlen (rtV i k) hS1) ?_
    refine st_callP (guardX (v := true) rfl rfl ((decide_eq_true rfl)) rfl) (.cons im0 (.cons im0 .nil)) (c_FSameL (rowT (nU l 0 4) (nU l (nxK l 0) 4) (ntC l 0 4 4) (rtV i k)) (rowT (nU l 0 4) (nU l (nxK l 0) 4) (ntC l 0 4 4) (rtV i k)) (by omega) (by omega) (fun x hx => Nat.le_trans (hRr x hx) (by decide)) (fun x hx => Nat.le_trans (hRr x hx) (by decide))) ?_
    refine st_pure rfl (.pickT rfl ((decide_eq_true rfl))) ?_
    refine zg1 ?_
    refine st_pure (guardX (v := true) rfl rfl ((decide_eq_true rfl)) rfl) ld27 ?_
    refine st_pure (guardX (v := true) rfl rfl ((decide_eq_true rfl)) rfl) ld33 ?_
    refine st_callP (guardX (v := true) rfl rfl ((decide_eq_true rfl)) rfl) (.cons im0 (.cons im0 .nil)) (c_Column (nU l 0 4) (nU l (nxK l 0) 4) (ntC l 0 4 4) hcl hlen (rtV i k) hS5) ?_
    refine st_pure (guardX (v := true) rfl rfl ((decide_eq_true rfl)) rfl) ld27 ?_
    refine st_pure (guardX (v := true) rfl rfl ((decide_eq_true rfl)) rfl) ld33 ?_
    refine st_callP (guardX (v := true) rfl rfl ((decide_eq_true rfl)) rfl) (.cons im0 (.cons im0 .nil)) (c_fCol7 (nU l 0 4) (nU l (nxK l 0) 4) (ntC l 0 4 4) hcl hlen (rtV i k) hS5) ?_
    refine st_callP (guardX (v := true) rfl rfl ((decide_eq_true rfl)) rfl) (.cons im0 (.cons im0 .nil)) (c_FSameL (colT (nU l 0 4) (nU l (nxK l 0) 4) (ntC l 0 4 4) (rtV i k)) (colT (nU l 0 4) (nU l (nxK l 0) 4) (ntC l 0 4 4) (rtV i k)) (by omega) (by omega) (fun x hx => Nat.le_trans (hCr x hx) (by decide)) (fun x hx => Nat.le_trans (hCr x hx) (by decide))) ?_
    refine st_pure rfl (.pickT rfl ((decide_eq_true rfl))) ?_
    refine zg1 ?_
    refine st_pure (guardX (v := true) rfl rfl ((decide_eq_true rfl)) rfl) ld27 ?_
    refine st_pure (guardX (v := true) rfl rfl ((decide_eq_true rfl)) rfl) ld33 ?_
    refine st_pure (guardX (v := true) rfl rfl ((decide_eq_true rfl)) rfl) ld33 ?_
    refine st_callP (guardX (v := true) rfl rfl ((decide_eq_true rfl)) rfl) (.cons im0 (.cons im0 (.cons im0 .nil))) (hPU) ?_
    refine st_pure (guardX (v := true) rfl rfl ((decide_eq_true rfl)) rfl) ld27 ?_
    refine st_pure (guardX (v := true) rfl rfl ((decide_eq_true rfl)) rfl) ld33 ?_
    refine st_pure (guardX (v := true) rfl rfl ((decide_eq_true rfl)) rfl) ld33 ?_
    refine st_callP (guardX (v := true) rfl rfl ((decide_eq_true rfl)) rfl) (.cons im0 (.cons im0 (.cons im0 .nil))) (hFU) ?_
    refine st_callP (guardX (v := true) rfl rfl ((decide_eq_true rfl)) rfl) (.cons im0 (.cons im0 .nil)) (c_fSame7 (nU l 0 4) (nU l (nxK l 0) 4) (ptU (nU l 0 4) (nU l (nxK l 0) 4) (ntC l 0 4 4) (rtV i k) (rtV j k)) (ptU (nU l 0 4) (nU l (nxK l 0) 4) (ntC l 0 4 4) (rtV i k) (rtV j k)) (by rw [hpul, ← hcl]; exact hlen) (by rw [hpul, ← hcl]; exact hlen) (fun x hx => Nat.le_trans (hpuR x hx) (by decide)) (fun x hx => Nat.le_trans (hpuR x hx) (by decide))) ?_
    refine st_pure rfl (.pickT rfl ((decide_eq_true rfl))) ?_
    refine zg1 ?_
    refine st_pure (guardX (v := true) rfl rfl ((decide_eq_true rfl)) rfl) ld27 ?_
    refine st_pure (guardX (v := true) rfl rfl ((decide_eq_true rfl)) rfl) ld33 ?_
    refine st_pure (guardX (v := true) rfl rfl ((decide_eq_true rfl)) rfl) ld33 ?_
    refine st_callP (guardX (v := true) rfl rfl ((decide_eq_true rfl)) rfl) (.cons im0 (.cons im0 (.cons im0 .nil))) (hPV) ?_
    refine st_pure (guardX (v := true) rfl rfl ((decide_eq_true rfl)) rfl) ld27 ?_
    refine st_pure (guardX (v := true) rfl rfl ((decide_eq_true rfl)) rfl) ld33 ?_
    refine st_pure (guardX (v := true) rfl rfl ((decide_eq_true rfl)) rfl) ld33 ?_
    refine st_callP (guardX (v := true) rfl rfl ((decide_eq_true rfl)) rfl) (.cons im0 (.cons im0 (.cons im0 .nil))) (hFV) ?_
    refine st_callP (guardX (v := true) rfl rfl ((decide_eq_true rfl)) rfl) (.cons im0 (.cons im0 .nil)) (c_fSame7 (nU l 0 4) (nU l (nxK l 0) 4) (ptW (nU l (nxK l 0) 4) (nU l 0 4) (ntC l 0 4 4) (rtV i k) (rtV j k)) (ptW (nU l (nxK l 0) 4) (nU l 0 4) (ntC l 0 4 4) (rtV i k) (rtV j k)) (by rw [hpvl, ← hcl]; exact hlen) (by rw [hpvl, ← hcl]; exact hlen) (fun x hx => Nat.le_trans (hpvR x hx) (by decide)) (fun x hx => Nat.le_trans (hpvR x hx) (by decide))) ?_
    refine st_pure rfl (.pickT rfl ((decide_eq_true rfl))) ?_
    refine zg1 ?_
    refine st_callP (guardX (v := true) rfl rfl ((decide_eq_true rfl)) rfl) .nil (c_awake7) ?_
    refine st_pure rfl (.pickT rfl ((decide_eq_true rfl))) ?_
    refine zg4 ?_
    exact ret1 rfl (by first | exact .pure rfl | exact .pure (limL_pure _) | exact .pure (magL_pure _) | exact .pure (ratE.pure _) | exact .pure (pure_lst u32E _ _) | exact .pure (pure_lst ratE _ _))
end Go.Proofs.YthhdcfhaldcheaaGreat
