/- Nets out of dice. -/
import Derived.Test.YthhdcfhaldcheaaGreatT4
set_option linter.unusedVariables false
set_option linter.unusedSimpArgs false
set_option maxHeartbeats 8000000
set_option maxRecDepth 100000
attribute [local irreducible] Go.Lg.opsL Go.Lg.wpL Go.Lg.thenL Go.Lg.blockL
namespace Go.Proofs.YthhdcfhaldcheaaGreat
open Go.Lg
end Go.Proofs.YthhdcfhaldcheaaGreat
namespace Go.Lg
theorem retMCf {P : Program} {L : St} {a : Nat} {T : TypeId} {b sz : Nat} {x y : LV} {m : Bool} {n : Nat} {ag : Bool} {blk : Blk} (bs : List Nat) (hbs : bs.contains 0 = false) (h : L.slot a = .eptr b sz 0 0) (hb : L.heap b = some ⟨sz, [x], m⟩)
    (hx : x.csize = sz) (hat : x.at 0 n ag = some x) (hT : TyIs P T n ag) (hi : Imm (L.frz bs).heap x y) (h0 : (L.frz bs).heap 0 = some blk) (hm : blk.mt = true) (hp : pures blk.vals = true) : RetM P [.cell a T] L y blk :=
  ⟨[x], [y], (L.frz bs).heap, .cons ⟨b, sz, 0, 0, _, x, n, ag, h, hb, rfl, rfl, hx, hat, hT⟩ .nil, frz_le bs hbs, .cons (.imm hi) .nil, h0, hm, hp, rfl⟩
end Go.Lg
namespace Go.Proofs.YthhdcfhaldcheaaGreat
open Go.Lg
/-! ### nets out of dice -/
def nU (l : List Int) (k : Nat) (n : Nat) : Nat := (nxV l k ((n : Int) + 1)).toNat
theorem nU_le (l : List Int) (k n : Nat) : nU l k n ≤ n := by
  have := nxV_lt (l := l) (k := k) (n := (n : Int) + 1) (by omega)
  unfold nU; omega
def ntC (l : List Int) (k u v : Nat) : List Rat := plV l (nxK l (nxK l k)) ((nU l k u + 1) * (nU l (nxK l k) v + 1))
def ntK (l : List Int) (k u v : Nat) : Nat := plK l (nxK l (nxK l k)) ((nU l k u + 1) * (nU l (nxK l k) v + 1))
theorem ntC_len (l : List Int) (k u v : Nat) : (ntC l k u v).length = (nU l k u + 1) * (nU l (nxK l k) v + 1) := plV_len l _ _
theorem ntC_rl (l : List Int) (k u v : Nat) : ∀ x ∈ ntC l k u v, rl x ≤ 1 := plV_rl l _ _
theorem ntK_le {l : List Int} (hl : l.length ≤ 500) {k : Nat} (hk : k ≤ 500) (u v : Nat) : ntK l k u v ≤ 500 := plK_le hl _ _ (nxK_le hl (nxK_le hl hk))
namespace H_c_Net
theorem zSm {p q : Prop} (k : q) (e : p = q := by simp only [e1, e2, e3, e4, p1, p2, p3, q1, q2, q3, l1, t0, t1, r1, r2, r3, r4, Nat.zero_add, Nat.reduceMul, Nat.reduceAdd, b1, b2, b3, b4, b5, b6, i1, i2, i3, i4, i5, i6, Nat.reduceBEq, l1, frz_nil, ratL_ren, hU, hV, take_map_len, map_snoc, len_snoc, List.length_cons, List.length_nil, kills_map ratE, LV.kill, kills, dice_kill, ek]; exact rfl) : p := e.mpr k
end H_c_Net
open H_c_Net in
theorem c_Net (l : List Int) (k0 u v : Nat) (hl : l.length ≤ 500) (hk : k0 ≤ 500) (hu : u ≤ 20) (hv : v ≤ 20) : CallOKM Tryz.prog 12 ⟨2, [diceL l k0], true⟩ [.eptr 0 2 0 0, nI64 u, nI64 v] (.agg [nI64 (nU l k0 u), nI64 (nU l (nxK l k0) v), .list 3 ((ntC l k0 u v).map ratL)]) ⟨2, [diceL l (ntK l k0 u v)], true⟩ := by
  have k1 := nxK_le (l := l) hl hk
  have k2 := nxK_le (l := l) hl k1
  have hb1 := nxV_lt (l := l) (k := k0) (n := (u : Int) + 1) (by omega)
  have hb2 := nxV_lt (l := l) (k := nxK l k0) (n := (v : Int) + 1) (by omega)
  have hU : nxV l k0 ((u : Int) + 1) = ((nU l k0 u) : Int) := by unfold nU; omega
  have hV : nxV l (nxK l k0) ((v : Int) + 1) = ((nU l (nxK l k0) v) : Int) := by unfold nU; omega
  have hU2 := nU_le l k0 u
  have hV2 := nU_le l (nxK l k0) v
  have hN : (((nU l k0 u) + 1) * ((nU l (nxK l k0) v) + 1)) ≤ 441 := Nat.le_trans (Nat.mul_le_mul (show (nU l k0 u) + 1 ≤ 21 by omega) (show (nU l (nxK l k0) v) + 1 ≤ 21 by omega)) (by decide)
  refine fnM Tryz.func12 ?_
  have ek : True := trivial
  refine zg9 ?_
  refine st_pure rfl (.bin rfl rfl (add64 (by omega) (by omega))) ?_
  refine st_callMp 0 rfl rfl rfl (dice_pure l _) (.cons .ptr (.cons (.imm (.pure rfl)) .nil)) .ptr (c_Next l k0 ((u : Int) + 1) (by omega) (by omega) (by omega) (by omega)) rfl (dice_pure l _) rfl ?_
  refine zg2 ?_
  refine st_pure rfl (.bin rfl rfl (add64 (by omega) (by omega))) ?_
  refine st_callMp 0 rfl rfl rfl (dice_pure l _) (.cons .ptr (.cons (.imm (.pure rfl)) .nil)) .ptr (c_Next l (nxK l k0) ((v : Int) + 1) (by omega) (by omega) (by omega) (by omega)) rfl (dice_pure l _) rfl ?_
  refine zg12 ?_
  refine wl_weak ((Weak.cell 7 rfl (fun Z μ w cs h => rep_net 34 3 _ _ Z μ w cs h)).trans (Weak.newB _ 34 3 rfl)) ?_
  refine lp3 (fun (c k : Nat) (o : List Rat) L => (((((St.mk L.slot (hp [(0, ⟨2, [diceL l k], true⟩), (6, ⟨3, [.agg [.v (.int .i64 0), .v (.int .i64 0), .v (.slice none 0 0)]], true⟩), (7, ⟨3, [.agg [nI64 (nU l k0 u), nI64 (nU l (nxK l k0) v), .ref 34 3 0 o.length]], true⟩), (34, ⟨3, o.map ratL, true⟩)])).put (some 0) (.eptr 0 2 0 0)).put (some 6) (.eptr 6 3 0 0)).put (some 7) (.eptr 7 3 0 0)).put (some 8) (nI64 o.length))) (fun c k o => k ≤ 500 ∧ o.length + c = (((nU l k0 u) + 1) * ((nU l (nxK l k0) v) + 1)) ∧ o ++ plV l k c = ntC l k0 u v ∧ plK l k c = ntK l k0 u v) (fun c k o => c) (((nU l k0 u) + 1) * ((nU l (nxK l k0) v) + 1)) (nxK l (nxK l k0)) ([]) ⟨k2, by simp, rfl, rfl⟩ ?_
  rintro c k o L1 ⟨hk1, ho, hVl, hK⟩
  refine zg6 ?_
  refine st_pure rfl (.bin rfl rfl (add1N (by omega))) ?_
  refine zg2 ?_
  refine st_pure rfl (.bin rfl rfl (add1N (by omega))) ?_
  refine st_pure rfl (.bin rfl rfl (mulE rfl (by omega))) ?_
  refine zg3 ?_
  refine wl_if rfl (fun h26r h26 => ?_) (fun h26r h26 => ?_)
  · obtain ⟨j, rfl⟩ : ∃ j, c = j + 1 := ⟨c - 1, by omega⟩
    refine zg4 ?_
    refine wl_cut (fun L => ∃  (L1 : St), (True) ∧ L = (((((St.mk L1.slot (hp [(0, ⟨2, [diceL l (nbV l k).2], true⟩), (6, ⟨3, [.agg [.v (.int .i64 0), .v (.int .i64 0), .v (.slice none 0 0)]], true⟩), (7, ⟨3, [.agg [nI64 (nU l k0 u), nI64 (nU l (nxK l k0) v), .ref 34 3 0 (o.length + 1)]], true⟩), (33, ⟨3, [(nbV l k).1].map ratL, true⟩), (34, ⟨3, (o ++ [(nbV l k).1]).map ratL, true⟩)])).put (some 0) (.eptr 0 2 0 0)).put (some 6) (.eptr 6 3 0 0)).put (some 7) (.eptr 7 3 0 0)).put (some 8) (nI64 o.length))) ?_ ?_
    · refine wl_regA ?_
      refine any_2 0 2 _ _ (by decide +kernel) rfl rfl ?_ ?_
      · refine zg1 ?_
        refine st_nil ?_
        refine any_2 1 2 _ _ (by decide +kernel) rfl rfl ?_ ?_
        · refine zg1 ?_
          refine st_nil ?_
          refine any_1 2 _ (by decide +kernel) rfl ?_
          refine zg1 ?_
          refine st_nil ?_
          refine any_1 3 _ (by decide +kernel) rfl ?_
          refine st_callMp 0 rfl rfl rfl (dice_pure l _) (.cons .ptr .nil) .ptr (c_number l k (by omega) (by omega)) rfl (dice_pure l _) (ratE.pure _) ?_
          refine st_nil ?_
          refine any_1 4 _ (by decide +kernel) rfl ?_
          refine zg1 ?_
          refine st_nil ?_
          refine any_1 5 _ (by decide +kernel) rfl ?_
          refine st_store rfl (.app (news := [ratL (nbV l k).1]) rfl rfl rfl rfl rfl (by simp) (.inl rfl) (by decide) Tryz.underlying25 Tryz.underlying25 Z33a T33 rfl B33 (.inl ⟨33, 0, _, rfl, by decide, rfl, rfl, by simp, rfl, by simp [pures, ratE.pure]⟩) (by simp; omega) (by simp; omega) (by decide)) ?_
          refine st_nil ?_
          refine any_1 6 _ (by decide +kernel) rfl ?_
          refine zg1 ?_
          refine st_nil ?_
          refine any_1 7 _ (by decide +kernel) rfl ?_
          refine zg1 ?_
          refine st_nil ?_
          refine any_0 (by decide +kernel) ?_
          refine zg1 ?_
          exact ⟨_, trivial, ((put_id' (put_id' (put_id' (put_id' (mk_id' cl) cl) cl) cl) cl)).symm⟩
        · refine zg1 ?_
          refine st_nil ?_
          refine any_2 1 3 _ _ (by decide +kernel) rfl rfl ?_ ?_
          · refine zg1 ?_
            refine st_nil ?_
            refine any_1 3 _ (by decide +kernel) rfl ?_
            refine st_callMp 0 rfl rfl rfl (dice_pure l _) (.cons .ptr .nil) .ptr (c_number l k (by omega) (by omega)) rfl (dice_pure l _) (ratE.pure _) ?_
            refine st_nil ?_
            refine any_1 4 _ (by decide +kernel) rfl ?_
            refine zg1 ?_
            refine st_nil ?_
            refine any_1 5 _ (by decide +kernel) rfl ?_
            refine st_store rfl (.app (news := [ratL (nbV l k).1]) rfl rfl rfl rfl rfl (by simp) (.inl rfl) (by decide) Tryz.underlying25 Tryz.underlying25 Z33a T33 rfl B33 (.inl ⟨33, 0, _, rfl, by decide, rfl, rfl, by simp, rfl, by simp [pures, ratE.pure]⟩) (by simp; omega) (by simp; omega) (by decide)) ?_
            refine st_nil ?_
            refine any_1 6 _ (by decide +kernel) rfl ?_
            refine zg1 ?_
            refine st_nil ?_
            refine any_1 7 _ (by decide +kernel) rfl ?_
            refine zg1 ?_
            refine st_nil ?_
            refine any_0 (by decide +kernel) ?_
            refine zg1 ?_
            exact ⟨_, trivial, ((put_id' (put_id' (put_id' (put_id' (mk_id' cl) cl) cl) cl) cl)).symm⟩
          · refine st_callMp 0 rfl rfl rfl (dice_pure l _) (.cons .ptr .nil) .ptr (c_number l k (by omega) (by omega)) rfl (dice_pure l _) (ratE.pure _) ?_
            refine st_nil ?_
            refine any_2 1 4 _ _ (by decide +kernel) rfl rfl ?_ ?_
            · refine zg1 ?_
              refine st_nil ?_
              refine any_1 4 _ (by decide +kernel) rfl ?_
              refine zg1 ?_
              refine st_nil ?_
              refine any_1 5 _ (by decide +kernel) rfl ?_
              refine st_store rfl (.app (news := [ratL (nbV l k).1]) rfl rfl rfl rfl rfl (by simp) (.inl rfl) (by decide) Tryz.underlying25 Tryz.underlying25 Z33a T33 rfl B33 (.inl ⟨33, 0, _, rfl, by decide, rfl, rfl, by simp, rfl, by simp [pures, ratE.pure]⟩) (by simp; omega) (by simp; omega) (by decide)) ?_
              refine st_nil ?_
              refine any_1 6 _ (by decide +kernel) rfl ?_
              refine zg1 ?_
              refine st_nil ?_
              refine any_1 7 _ (by decide +kernel) rfl ?_
              refine zg1 ?_
              refine st_nil ?_
              refine any_0 (by decide +kernel) ?_
              refine zg1 ?_
              exact ⟨_, trivial, ((put_id' (put_id' (put_id' (put_id' (mk_id' cl) cl) cl) cl) cl)).symm⟩
            · refine zg1 ?_
              refine st_nil ?_
              refine any_1 1 _ (by decide +kernel) rfl ?_
              refine zg1 ?_
              refine st_nil ?_
              refine any_1 5 _ (by decide +kernel) rfl ?_
              refine st_store rfl (.app (news := [ratL (nbV l k).1]) rfl rfl rfl rfl rfl (by simp) (.inl rfl) (by decide) Tryz.underlying25 Tryz.underlying25 Z33a T33 rfl B33 (.inl ⟨33, 0, _, rfl, by decide, rfl, rfl, by simp, rfl, by simp [pures, ratE.pure]⟩) (by simp; omega) (by simp; omega) (by decide)) ?_
              refine st_nil ?_
              refine any_1 6 _ (by decide +kernel) rfl ?_
              refine zg1 ?_
              refine st_nil ?_
              refine any_1 7 _ (by decide +kernel) rfl ?_
              refine zg1 ?_
              refine st_nil ?_
              refine any_0 (by decide +kernel) ?_
              refine zg1 ?_
              exact ⟨_, trivial, ((put_id' (put_id' (put_id' (put_id' (mk_id' cl) cl) cl) cl) cl)).symm⟩
      · refine zg1 ?_
        refine st_nil ?_
        refine any_2 0 3 _ _ (by decide +kernel) rfl rfl ?_ ?_
        · refine zg1 ?_
          refine st_nil ?_
          refine any_2 1 3 _ _ (by decide +kernel) rfl rfl ?_ ?_
          · refine zg1 ?_
            refine st_nil ?_
            refine any_1 3 _ (by decide +kernel) rfl ?_
            refine st_callMp 0 rfl rfl rfl (dice_pure l _) (.cons .ptr .nil) .ptr (c_number l k (by omega) (by omega)) rfl (dice_pure l _) (ratE.pure _) ?_
            refine st_nil ?_
            refine any_1 4 _ (by decide +kernel) rfl ?_
            refine zg1 ?_
            refine st_nil ?_
            refine any_1 5 _ (by decide +kernel) rfl ?_
            refine st_store rfl (.app (news := [ratL (nbV l k).1]) rfl rfl rfl rfl rfl (by simp) (.inl rfl) (by decide) Tryz.underlying25 Tryz.underlying25 Z33a T33 rfl B33 (.inl ⟨33, 0, _, rfl, by decide, rfl, rfl, by simp, rfl, by simp [pures, ratE.pure]⟩) (by simp; omega) (by simp; omega) (by decide)) ?_
            refine st_nil ?_
            refine any_1 6 _ (by decide +kernel) rfl ?_
            refine zg1 ?_
            refine st_nil ?_
            refine any_1 7 _ (by decide +kernel) rfl ?_
            refine zg1 ?_
            refine st_nil ?_
            refine any_0 (by decide +kernel) ?_
            refine zg1 ?_
            exact ⟨_, trivial, ((put_id' (put_id' (put_id' (put_id' (mk_id' cl) cl) cl) cl) cl)).symm⟩
          · refine st_callMp 0 rfl rfl rfl (dice_pure l _) (.cons .ptr .nil) .ptr (c_number l k (by omega) (by omega)) rfl (dice_pure l _) (ratE.pure _) ?_
            refine st_nil ?_
            refine any_2 1 4 _ _ (by decide +kernel) rfl rfl ?_ ?_
            · refine zg1 ?_
              refine st_nil ?_
              refine any_1 4 _ (by decide +kernel) rfl ?_
              refine zg1 ?_
              refine st_nil ?_
              refine any_1 5 _ (by decide +kernel) rfl ?_
              refine st_store rfl (.app (news := [ratL (nbV l k).1]) rfl rfl rfl rfl rfl (by simp) (.inl rfl) (by decide) Tryz.underlying25 Tryz.underlying25 Z33a T33 rfl B33 (.inl ⟨33, 0, _, rfl, by decide, rfl, rfl, by simp, rfl, by simp [pures, ratE.pure]⟩) (by simp; omega) (by simp; omega) (by decide)) ?_
              refine st_nil ?_
              refine any_1 6 _ (by decide +kernel) rfl ?_
              refine zg1 ?_
              refine st_nil ?_
              refine any_1 7 _ (by decide +kernel) rfl ?_
              refine zg1 ?_
              refine st_nil ?_
              refine any_0 (by decide +kernel) ?_
              refine zg1 ?_
              exact ⟨_, trivial, ((put_id' (put_id' (put_id' (put_id' (mk_id' cl) cl) cl) cl) cl)).symm⟩
            · refine zg1 ?_
              refine st_nil ?_
              refine any_1 1 _ (by decide +kernel) rfl ?_
              refine zg1 ?_
              refine st_nil ?_
              refine any_1 5 _ (by decide +kernel) rfl ?_
              refine st_store rfl (.app (news := [ratL (nbV l k).1]) rfl rfl rfl rfl rfl (by simp) (.inl rfl) (by decide) Tryz.underlying25 Tryz.underlying25 Z33a T33 rfl B33 (.inl ⟨33, 0, _, rfl, by decide, rfl, rfl, by simp, rfl, by simp [pures, ratE.pure]⟩) (by simp; omega) (by simp; omega) (by decide)) ?_
              refine st_nil ?_
              refine any_1 6 _ (by decide +kernel) rfl ?_
              refine zg1 ?_
              refine st_nil ?_
              refine any_1 7 _ (by decide +kernel) rfl ?_
              refine zg1 ?_
              refine st_nil ?_
              refine any_0 (by decide +kernel) ?_
              refine zg1 ?_
              exact ⟨_, trivial, ((put_id' (put_id' (put_id' (put_id' (mk_id' cl) cl) cl) cl) cl)).symm⟩
        · refine st_callMp 0 rfl rfl rfl (dice_pure l _) (.cons .ptr .nil) .ptr (c_number l k (by omega) (by omega)) rfl (dice_pure l _) (ratE.pure _) ?_
          refine st_nil ?_
          refine any_2 0 4 _ _ (by decide +kernel) rfl rfl ?_ ?_
          · refine zg1 ?_
            refine st_nil ?_
            refine any_2 1 4 _ _ (by decide +kernel) rfl rfl ?_ ?_
            · refine zg1 ?_
              refine st_nil ?_
              refine any_1 4 _ (by decide +kernel) rfl ?_
              refine zg1 ?_
              refine st_nil ?_
              refine any_1 5 _ (by decide +kernel) rfl ?_
              refine st_store rfl (.app (news := [ratL (nbV l k).1]) rfl rfl rfl rfl rfl (by simp) (.inl rfl) (by decide) Tryz.underlying25 Tryz.underlying25 Z33a T33 rfl B33 (.inl ⟨33, 0, _, rfl, by decide, rfl, rfl, by simp, rfl, by simp [pures, ratE.pure]⟩) (by simp; omega) (by simp; omega) (by decide)) ?_
              refine st_nil ?_
              refine any_1 6 _ (by decide +kernel) rfl ?_
              refine zg1 ?_
              refine st_nil ?_
              refine any_1 7 _ (by decide +kernel) rfl ?_
              refine zg1 ?_
              refine st_nil ?_
              refine any_0 (by decide +kernel) ?_
              refine zg1 ?_
              exact ⟨_, trivial, ((put_id' (put_id' (put_id' (put_id' (mk_id' cl) cl) cl) cl) cl)).symm⟩
            · refine zg1 ?_
              refine st_nil ?_
              refine any_1 1 _ (by decide +kernel) rfl ?_
              refine zg1 ?_
              refine st_nil ?_
              refine any_1 5 _ (by decide +kernel) rfl ?_
              refine st_store rfl (.app (news := [ratL (nbV l k).1]) rfl rfl rfl rfl rfl (by simp) (.inl rfl) (by decide) Tryz.underlying25 Tryz.underlying25 Z33a T33 rfl B33 (.inl ⟨33, 0, _, rfl, by decide, rfl, rfl, by simp, rfl, by simp [pures, ratE.pure]⟩) (by simp; omega) (by simp; omega) (by decide)) ?_
              refine st_nil ?_
              refine any_1 6 _ (by decide +kernel) rfl ?_
              refine zg1 ?_
              refine st_nil ?_
              refine any_1 7 _ (by decide +kernel) rfl ?_
              refine zg1 ?_
              refine st_nil ?_
              refine any_0 (by decide +kernel) ?_
              refine zg1 ?_
              exact ⟨_, trivial, ((put_id' (put_id' (put_id' (put_id' (mk_id' cl) cl) cl) cl) cl)).symm⟩
          · refine zg1 ?_
            refine st_nil ?_
            refine any_1 0 _ (by decide +kernel) rfl ?_
            refine zg1 ?_
            refine st_nil ?_
            refine any_1 1 _ (by decide +kernel) rfl ?_
            refine zg1 ?_
            refine st_nil ?_
            refine any_1 5 _ (by decide +kernel) rfl ?_
            refine st_store rfl (.app (news := [ratL (nbV l k).1]) rfl rfl rfl rfl rfl (by simp) (.inl rfl) (by decide) Tryz.underlying25 Tryz.underlying25 Z33a T33 rfl B33 (.inl ⟨33, 0, _, rfl, by decide, rfl, rfl, by simp, rfl, by simp [pures, ratE.pure]⟩) (by simp; omega) (by simp; omega) (by decide)) ?_
            refine st_nil ?_
            refine any_1 6 _ (by decide +kernel) rfl ?_
            refine zg1 ?_
            refine st_nil ?_
            refine any_1 7 _ (by decide +kernel) rfl ?_
            refine zg1 ?_
            refine st_nil ?_
            refine any_0 (by decide +kernel) ?_
            refine zg1 ?_
            exact ⟨_, trivial, ((put_id' (put_id' (put_id' (put_id' (mk_id' cl) cl) cl) cl) cl)).symm⟩
    · rintro _ ⟨LR5, -, rfl⟩
      refine zg2 ?_
      refine wl_regW (Weak.kill _ 33) ?_
      refine zg5 ?_
      exact nx3 j ((nbV l k).2) (o ++ [(nbV l k).1]) ⟨nbK_le hl hk1, by simp; omega, by rw [List.append_assoc]; exact hVl, hK⟩
  · obtain rfl : c = 0 := by omega
    rw [plV, List.append_nil] at hVl
    rw [plK] at hK
    refine zg12 ?_
    rw [← hVl, ← hK]
    exact retMCf [34] rfl rfl rfl rfl rfl T27 (.agg (.cons (.pure rfl) (.cons (.pure rfl) (.cons (imm_refm ratE rfl rfl rfl) .nil)))) rfl rfl (dice_pure l _)
end Go.Proofs.YthhdcfhaldcheaaGreat
