/- The reference magnitudes: shifts. -/
import Derived.Test.YthhdcfhaldcheaaGreatR2
set_option linter.unusedVariables false
set_option linter.unusedSimpArgs false
set_option maxHeartbeats 8000000
set_option maxRecDepth 100000
attribute [local irreducible] Go.Lg.opsL Go.Lg.wpL Go.Lg.thenL Go.Lg.blockL
namespace Go.Proofs.YthhdcfhaldcheaaGreat
open Go.Lg
end Go.Proofs.YthhdcfhaldcheaaGreat
namespace Go.Lg
open Go.Proofs.YthhdcfhaldcheaaGreat in
theorem Weak.mv {L : St} {t b sz off len : Nat} {blk : Blk} (d : Nat) (hb0 : b ≠ 0) (hd0 : d ≠ 0) (hbd : b ≠ d) (h : L.slot t = .ref b sz off len) (hb : L.heap b = some blk) (hd : L.heap d = none) :
    Weak L (((L.kill b).setB d (some ⟨blk.sz, kills b blk.vals, blk.mt⟩)).put (some t) (.ref d sz off len)) := by
  rintro n W X Z0 a w ⟨hdf, hsz, μ, Z, hc, hr⟩
  have hμd := mu_none hc hd
  have hk := hc.kill b hb0
  have hkr := kill_rep b hr
  let μ' : Nat → Option Nat := fun c => if c = d then μ b else drop1 μ b c
  have hm : ∀ c id, drop1 μ b c = some id → μ' c = some id := fun c id hh => by
    have : c ≠ d := by
      rintro rfl
      unfold drop1 at hh; split at hh
      · cases hh
      · rw [hμd] at hh; cases hh
    simp only [μ', if_neg this]; exact hh
  have hinv : ∀ c id, μ' c = some id → (c = d ∧ μ b = some id) ∨ (c ≠ d ∧ drop1 μ b c = some id) := fun c id hh => by
    simp only [μ'] at hh; split at hh
    · rename_i e; exact .inl ⟨e, hh⟩
    · rename_i e; exact .inr ⟨e, hh⟩
  have hdr : ∀ c id, drop1 μ b c = some id → c ≠ b ∧ μ c = some id := fun c id h => by
    unfold drop1 at h; split at h
    · cases h
    · exact ⟨by assumption, h⟩
  have hbb : ∀ id, drop1 μ b b = some id → False := fun id hh => (hdr b id hh).1 rfl
  have hmono : ∀ {bk : Blk} {id : Nat}, BlkRep Z (drop1 μ b) w bk id → BlkRep Z μ' w bk id := fun hh => BlkRep.mono (fun _ h => h) hm (Frame.refl _ _ _) rfl hh
  refine ⟨hdf, hsz, μ', Z, ?_, fun s => ?_⟩
  · rw [put_heap]
    refine ⟨hc.keep, hc.zone, hc.zsup, hc.zsub, ?_, ?_, ?_, hc.xlt, ?_, ?_, ?_, ?_⟩
    · intro c c' id h1 h2
      rcases hinv c id h1 with ⟨e1, g1⟩ | ⟨e1, g1⟩ <;> rcases hinv c' id h2 with ⟨e2, g2⟩ | ⟨e2, g2⟩
      · rw [e1, e2]
      · have := hdr c' id g2; exact absurd (hc.inj _ _ id this.2 g1) this.1
      · have := hdr c id g1; exact absurd (hc.inj _ _ id this.2 g2) this.1
      · exact hc.inj c c' id (hdr c id g1).2 (hdr c' id g2).2
    · intro c id h1
      rcases hinv c id h1 with ⟨e1, g1⟩ | ⟨e1, g1⟩
      · exact hc.own b id g1
      · exact hc.own c id (hdr c id g1).2
    · intro c id h1 hx
      rcases hinv c id h1 with ⟨e1, g1⟩ | ⟨e1, g1⟩
      · exact absurd (hc.x0 b id g1 hx) hb0
      · exact hc.x0 c id (hdr c id g1).2 hx
    · intro id hx
      have h0 := hk.x1 id hx
      exact hm 0 id h0
    · intro c id bk h1 hbk hmt
      rcases hinv c id h1 with ⟨e1, g1⟩ | ⟨e1, g1⟩
      · subst e1
        simp only [St.setB, if_true, Option.some.injEq] at hbk
        subst hbk
        exact hc.mutz b id blk g1 hb hmt
      · simp only [St.setB, if_neg e1] at hbk
        exact hk.mutz c id bk g1 hbk hmt
    · intro c id bk h1 hbk hmt
      rcases hinv c id h1 with ⟨e1, g1⟩ | ⟨e1, g1⟩
      · subst e1
        simp only [St.setB, if_true, Option.some.injEq] at hbk
        subst hbk
        exact hc.frz b id blk g1 hb hmt
      · simp only [St.setB, if_neg e1] at hbk
        exact hk.frz c id bk g1 hbk hmt
    · intro c id h1
      rcases hinv c id h1 with ⟨e1, g1⟩ | ⟨e1, g1⟩
      · subst e1
        obtain ⟨bk, q1, cc, T, part, rest, q2, q3, q4⟩ := hc.heap b id g1
        rw [hb] at q1; cases q1
        refine ⟨⟨blk.sz, kills b blk.vals, blk.mt⟩, by simp [St.setB], hmono ⟨cc, T, part, rest, q2, q3, ?_⟩⟩
        exact RepAll.kill (fun _ h => h) (fun k id hk h => by simp [drop1, hk, h]) (Frame.refl _ _ _) _ _ q4
      · obtain ⟨bk, q1, q2⟩ := hk.heap c id g1
        exact ⟨bk, by simp only [St.setB, if_neg e1]; exact q1, hmono q2⟩
  · rw [put_slot]
    split
    · rename_i hst
      subst hst
      have e := hr s
      rw [h] at e
      refine ⟨by simp [LV.isAgg], fun hh => ?_⟩
      have e2 := e.2 rfl
      simp only [Rep] at e2 ⊢
      rcases e2 with e2 | ⟨id, cap, c, T, fz, q1, q2, q3⟩
      · exact .inl e2
      · exact .inr ⟨id, cap, c, T, fz, q1, by simp only [μ', if_true]; exact q2, q3⟩
    · exact RepV.mono (fun _ h => h) hm (Frame.refl _ _ _) (hkr s)
end Go.Lg
namespace Go.Proofs.YthhdcfhaldcheaaGreat
open Go.Lg
theorem quo_s {s : Nat} (h : s < 32) : binI .quo .i64 (s : Nat) 32 = some (.int .i64 0) := by
  have : ((s : Int)).tdiv 32 = 0 := by rw [Int.tdiv_eq_ediv_of_nonneg (by omega)]; omega
  simp [binI, this, IntWalk.i64_in]
theorem rem_s {s : Nat} (h : s < 32) : binI .rem .i64 (s : Nat) 32 = some (.int .i64 (s : Nat)) := by
  have : ((s : Int)).tmod 32 = s := by rw [Int.tmod_eq_emod_of_nonneg (by omega)]; omega
  simp [binI, this]
theorem up_inv {m s c x : Nat} {o : List Nat} (hv : val o + 4294967296 ^ o.length * c = val ((dig m).take o.length) * 2 ^ s) (hx : x = (dig m).getD o.length 0 * 2 ^ s + c) :
    val (o ++ [x % 4294967296]) + 4294967296 ^ (o.length + 1) * (x / 4294967296) = val ((dig m).take (o.length + 1)) * 2 ^ s := by
  rw [val_snoc, val_take_succ', Nat.pow_succ, Nat.add_mul, Nat.mul_assoc (4294967296 ^ o.length) ((dig m).getD o.length 0)]
  have h1 := carry_step (4294967296 ^ o.length) x
  have h2 : 4294967296 ^ o.length * x = 4294967296 ^ o.length * ((dig m).getD o.length 0 * 2 ^ s) + 4294967296 ^ o.length * c := by rw [hx, Nat.mul_add]
  omega
theorem up_end {m s c : Nat} {o : List Nat} (hv : val o + 4294967296 ^ o.length * c = val ((dig m).take o.length) * 2 ^ s) (ho : o.length = (dig m).length) (hc : c < 4294967296) : val (o ++ [c % 4294967296]) = m * 2 ^ s := by
  rw [val_snoc, Nat.mod_eq_of_lt hc, hv, take_all (by omega)]
theorem half2 {s x y : Nat} (hs : s < 32) (hx : x < 4294967296) : (y * 4294967296 + x) / 2 ^ s % 4294967296 = x / 2 ^ s + y % 2 ^ s * 2 ^ (32 - s) := by
  have hd : 4294967296 = 2 ^ (32 - s) * 2 ^ s := by rw [← Nat.pow_add, show 32 - s + s = 32 by omega]
  have hp : 0 < 2 ^ s := Nat.pow_pos (by omega)
  obtain ⟨_, h2⟩ := half_lt (z := y) (show s ≤ 32 by omega) hx
  have e1 : (y * 4294967296 + x) / 2 ^ s = y * 2 ^ (32 - s) + x / 2 ^ s := by
    rw [show y * 4294967296 + x = x + (y * 2 ^ (32 - s)) * 2 ^ s by rw [Nat.mul_assoc, ← hd]; omega, Nat.add_mul_div_right _ _ hp]; omega
  have e2 : y * 2 ^ (32 - s) = y % 2 ^ s * 2 ^ (32 - s) + 4294967296 * (y / 2 ^ s) := by
    have e3 : y * 2 ^ (32 - s) = (2 ^ s * (y / 2 ^ s) + y % 2 ^ s) * 2 ^ (32 - s) := by rw [Nat.div_add_mod]
    rw [e3, Nat.add_mul, hd, Nat.mul_right_comm, Nat.mul_comm (2 ^ s) (2 ^ (32 - s))]; omega
  rw [e1, e2, show y % 2 ^ s * 2 ^ (32 - s) + 4294967296 * (y / 2 ^ s) + x / 2 ^ s = (y % 2 ^ s * 2 ^ (32 - s) + x / 2 ^ s) + 4294967296 * (y / 2 ^ s) by omega, Nat.add_mul_mod_self_left, Nat.mod_eq_of_lt h2]
  omega
theorem dn_inv {i s : Nat} {w o : List Nat} (hi : i < w.length) (hs : s < 32) (hv : 2 ^ s * val (w.take i) = val (o.take i) + 4294967296 ^ i * (o.getD i 0 % 2 ^ s)) :
    2 ^ s * val ((w.set i (o.getD i 0 / 2 ^ s + o.getD (i + 1) 0 % 2 ^ s * 2 ^ (32 - s))).take (i + 1)) = val (o.take (i + 1)) + 4294967296 ^ (i + 1) * (o.getD (i + 1) 0 % 2 ^ s) := by
  have hd : 4294967296 = 2 ^ s * 2 ^ (32 - s) := by rw [← Nat.pow_add, show s + (32 - s) = 32 by omega]
  rw [val_set_take _ _ _ hi, Nat.mul_add, hv, val_take_succ', Nat.pow_succ]
  have h1 := Nat.div_add_mod (o.getD i 0) (2 ^ s)
  generalize o.getD i 0 / 2 ^ s = q at *
  generalize o.getD i 0 % 2 ^ s = t at *
  generalize o.getD (i + 1) 0 % 2 ^ s = u at *
  generalize 4294967296 ^ i = p at *
  rw [← h1]
  have e1 : 2 ^ s * (p * (q + u * 2 ^ (32 - s))) = p * (2 ^ s * q) + p * 4294967296 * u := by
    rw [hd, Nat.mul_add, Nat.mul_add]
    simp only [Nat.mul_assoc, Nat.mul_left_comm, Nat.mul_comm]
  rw [e1, Nat.mul_add]
  omega
theorem dn_end {r s : Nat} {o : List Nat} (hol : o.length = (dig (r * 2 ^ s)).length) (hv : 2 ^ s * val (o.take (dig (r * 2 ^ s)).length) = val ((dig (r * 2 ^ s)).take (dig (r * 2 ^ s)).length) + 4294967296 ^ (dig (r * 2 ^ s)).length * ((dig (r * 2 ^ s)).getD (dig (r * 2 ^ s)).length 0 % 2 ^ s)) : val o = r := by
  rw [getD_ge _ _ (Nat.le_refl _), Nat.zero_mod, Nat.mul_zero, Nat.add_zero, List.take_length, ← hol, List.take_length, val_dig, Nat.mul_comm r] at hv
  exact Nat.eq_of_mul_eq_mul_left (Nat.pow_pos (by omega)) hv
theorem zer_take (k : Nat) : ((List.replicate k 0).map u32L).take k = (List.replicate k 0).map u32L := by rw [List.take_of_length_le (by simp)]
theorem dig_shift {m : Nat} (k : Nat) (h : 0 < (dig m).length) : dig (m * 4294967296 ^ k) = List.replicate k 0 ++ dig m := by
  have hv : val (List.replicate k 0 ++ dig m) = m * 4294967296 ^ k := by rw [val_append, val_zeros, val_dig]; simp [Nat.mul_comm]
  refine (dig_of (lim_append (lim_zeros k) (lim_dig m)) hv (.inr ?_)).symm
  have := len_pow h
  simp only [List.length_append, List.length_replicate]
  rw [show k + (dig m).length - 1 = (dig m).length - 1 + k by omega, Nat.pow_add]
  exact Nat.mul_le_mul_right _ this
namespace H_c_Fup
theorem zSm {p q : Prop} (k : q) (e : p = q := by simp only [e1, e2, e3, e4, p1, p2, p3, q1, q2, q3, l1, t0, t1, r1, r2, r3, r4, Nat.zero_add, Nat.reduceMul, Nat.reduceAdd, b1, b2, b3, b4, b5, b6, i1, i2, i3, i4, i5, i6, Nat.reduceBEq, dflt, List.take_zero, List.take_nil, List.nil_append, kills_map u32E, LV.kill, take_map_len, map_snoc, len_snoc, List.length_cons, List.length_nil]; exact rfl) : p := e.mpr k
end H_c_Fup
open H_c_Fup in
theorem c_Fup (m s : Nat) (hla : (dig m).length ≤ 549755813888) (hs : s < 32) : CallP Tryz.prog 192 [magL m, nI64 s] (magL (m * 2 ^ s)) := by
  obtain ⟨hp1, hp2⟩ := pow_s hs
  refine fnP Tryz.func192 ?_
  refine zg8 ?_
  refine st_pure rfl (.bin rfl rfl (quo_s hs)) ?_
  refine st_alloc rfl rfl (.mkE (n := 0) (m := 0) ml ml om om om) ?_
  refine zg15 ?_
  refine wl_weak (Weak.mv (t := 5) (b := 10) 31 (by decide) (by decide) (by decide) rfl rfl rfl) ?_
  refine lp2 (fun (o : List Nat) (c : Nat) L => ((((((St.mk L.slot (hp [(31, ⟨1, o.map u32L, true⟩)])).put (some 0) (magL m)).put (some 1) (nI64 s)).put (some 5) (.ref 31 1 0 o.length)).put (some 6) (nU64 c)).put (some 7) (nI64 o.length))) (fun o c => o.length ≤ (dig m).length ∧ c < 2 ^ s ∧ Lim o ∧ val o + 4294967296 ^ o.length * c = val ((dig m).take o.length) * 2 ^ s) (fun o c => (dig m).length - o.length) ([]) 0 ⟨Nat.zero_le _, hp2, (by intro x hx; cases hx), by simp [val]⟩ ?_
  rintro o c L1 ⟨hol, hc, hlo, hv⟩
  have hxk := getD_dig_lt m o.length
  have hsx := shl_lt hxk hp1
  refine zg9 ?_
  refine wl_if rfl (fun h14r h14 => ?_) (fun h14r h14 => ?_)
  · refine zg13 ?_
    refine st_pure rfl (.bin rfl rfl (rem_s hs)) ?_
    refine st_pure rfl (.sh rfl rfl (shlV (by omega) (by (try simp only [t1, dflt]); omega))) ?_
    refine st_pure rfl (.bin rfl rfl (orV hc (by (try simp only [t1, dflt]); omega))) ?_
    refine zg9 ?_
    refine st_store rfl (.app (news := [u32L (((dig m).getD o.length 0 * 2 ^ s + c) % 4294967296)]) rfl rfl rfl rfl rfl (by simp) (.inl rfl) (by decide) Tryz.underlying31 Tryz.underlying31 Z114 T114 rfl B114 (.inl ⟨30, 0, _, rfl, by decide, rfl, rfl, by simp, rfl, rfl⟩) (by simp; omega) (by simp; omega) (by decide)) ?_
    refine zg3 ?_
    refine wl_regW (Weak.kill _ 30) ?_
    refine zg12 ?_
    exact nx2 (o ++ [((dig m).getD o.length 0 * 2 ^ s + c) % 4294967296]) (((dig m).getD o.length 0 * 2 ^ s + c) / 4294967296) ⟨by rw [len_snoc]; omega, carry_lt hxk hc, lim_snoc hlo (by omega), by rw [len_snoc]; exact up_inv hv rfl⟩ (hm := by rw [len_snoc]; omega)
  · have hoe : o.length = (dig m).length := by omega
    have hV := up_end hv hoe (show c < 4294967296 by omega)
    refine zg11 ?_
    refine st_store rfl (.app (news := [u32L (c % 4294967296)]) rfl rfl rfl rfl rfl (by simp) (.inr rfl) (by decide) Tryz.underlying31 Tryz.underlying31 Z114 T114 rfl B114 (.inl ⟨37, 0, _, rfl, by decide, rfl, rfl, by simp, rfl, rfl⟩) (by simp; omega) (by simp; omega) (by decide)) ?_
    simp only [kills_map u32E, take_map_len, map_snoc, len_snoc, List.length_cons, List.length_nil]
    refine cpf [38] fm1 (c_FTrim (o ++ [c % 4294967296]) (lim_snoc hlo (by omega)) (by rw [len_snoc]; omega)) ?_
    refine zg4 ?_
    rw [← hV]
    exact ret1 rfl (by first | exact .pure rfl | exact .pure (limL_pure _) | exact .pure (magL_pure _) | exact .pure (ratE.pure _) | exact .pure (pure_lst u32E _ _) | exact .pure (pure_lst ratE _ _))
namespace H_c_Fdown
theorem zSm {p q : Prop} (k : q) (e : p = q := by simp only [e1, e2, e3, e4, p1, p2, p3, q1, q2, q3, l1, t0, t1, r1, r2, r3, r4, Nat.zero_add, Nat.reduceMul, Nat.reduceAdd, b1, b2, b3, b4, b5, b6, i1, i2, i3, i4, i5, i6, Nat.reduceBEq, dflt, List.drop_zero, ei1, eyy]; exact rfl) : p := e.mpr k
end H_c_Fdown
open H_c_Fdown in
theorem c_Fdown (r s : Nat) (hla : (dig (r * 2 ^ s)).length ≤ 549755813888) (hs : s < 32) : CallP Tryz.prog 195 [magL (r * 2 ^ s), nI64 s] (magL r) := by
  obtain ⟨hp1, hp2⟩ := pow_s hs
  have hlow := low_bits (l := dig (r * 2 ^ s)) (r := r) (show s ≤ 32 by omega) (val_dig _)
  refine fnP Tryz.func195 ?_
  have ei1 : True := trivial
  have eyy : True := trivial
  refine zg9 ?_
  refine st_pure rfl (.bin rfl rfl (quo_s hs)) ?_
  refine zg5 ?_
  refine wl_if rfl (fun h12r h12 => ?_) (fun h12r h12 => ?_)
  · have hm : r * 2 ^ s = 0 := dig_eq_nil.1 (List.eq_nil_of_length_eq_zero (by omega))
    have hr0 : r = 0 := by rcases Nat.mul_eq_zero.1 hm with h | h <;> omega
    subst hr0
    refine zg7 ?_
    exact ret1 rfl (.nil 1)
  · refine zg6 ?_
    refine st_pure rfl (.bin rfl rfl (quo_s hs)) ?_
    refine st_pure rfl (.sliceLl (a := 0) u32E rfl Tryz.underlying31 T114 rfl om) ?_
    refine zg7 ?_
    refine st_alloc rfl rfl (.mkE (n := (dig (r * 2 ^ s)).length) (m := (dig (r * 2 ^ s)).length) ml ml om om om) ?_
    refine zg10 ?_
    refine lp2 (fun (i : Nat) (o : List Nat) L => (((((St.mk L.slot (hp [(19, ⟨1, o.map u32L, true⟩)])).put (some 0) (magL (r * 2 ^ s))).put (some 1) (nI64 s)).put (some 5) (.ref 19 1 0 (dig (r * 2 ^ s)).length)).put (some 6) (nI64 i))) (fun i o => i ≤ (dig (r * 2 ^ s)).length ∧ o.length = (dig (r * 2 ^ s)).length ∧ Lim o ∧ 2 ^ s * val (o.take i) = val ((dig (r * 2 ^ s)).take i) + 4294967296 ^ i * ((dig (r * 2 ^ s)).getD i 0 % 2 ^ s)) (fun i o => (dig (r * 2 ^ s)).length - i) 0 (List.replicate (dig (r * 2 ^ s)).length 0) ⟨Nat.zero_le _, by simp, lim_zeros _, by rw [hlow]; simp [val]⟩ ?_
    rintro i o L1 ⟨hi, hol, hlo, hv⟩
    have ei1 : ((i : Int) + 1).toNat = i + 1 := by omega
    have hxi := getD_dig_lt (r * 2 ^ s) i
    have hyi := getD_dig_lt (r * 2 ^ s) (i + 1)
    obtain ⟨hh1, hh2⟩ := half_lt (z := (dig (r * 2 ^ s)).getD (i + 1) 0) (show s ≤ 32 by omega) hxi
    refine zg9 ?_
    refine wl_if rfl (fun h23r h23 => ?_) (fun h23r h23 => ?_)
    · refine zg24 ?_
      refine wl_cut (fun L => ∃ (y : Nat) (L1 : St), (y = (dig (r * 2 ^ s)).getD (i + 1) 0 * 4294967296 + (dig (r * 2 ^ s)).getD i 0) ∧ L = ((((((St.mk L1.slot (hp [(19, ⟨1, o.map u32L, true⟩)])).put (some 0) (magL (r * 2 ^ s))).put (some 1) (nI64 s)).put (some 5) (.ref 19 1 0 (dig (r * 2 ^ s)).length)).put (some 6) (nI64 i)).put (some 7) (nU64 y))) ?_ ?_
      · refine wl_if rfl (fun h35r h35 => ?_) (fun h35r h35 => ?_)
        · refine zg8 ?_
          refine st_pure rfl (.sh rfl rfl (shl32 (by (try simp only [t1, dflt, ei1]); omega))) ?_
          refine st_pure rfl (.bin rfl rfl (orC (by (try simp only [t1, dflt]); omega) (by (try simp only [t1, dflt, ei1]); omega))) ?_
          refine zg3 ?_
          exact ⟨(dig (r * 2 ^ s)).getD (i + 1) 0 * 4294967296 + (dig (r * 2 ^ s)).getD i 0, _, rfl, ((put_id' (put_id' (put_id' (put_id' (put_id' (mk_id' cl) cl) cl) cl) cl) cl)).symm⟩
        · refine zg2 ?_
          exact ⟨(dig (r * 2 ^ s)).getD i 0, _, by rw [getD_ge _ (i + 1) (by omega), Nat.zero_mul, Nat.zero_add], ((put_id' (put_id' (put_id' (put_id' (put_id' (mk_id' cl) cl) cl) cl) cl) cl)).symm⟩
      · rintro _ ⟨y, LC35, hy, rfl⟩
        have eyy : y / 2 ^ s % 4294967296 = ((dig (r * 2 ^ s)).getD i 0 / 2 ^ s + (dig (r * 2 ^ s)).getD (i + 1) 0 % 2 ^ s * 2 ^ (32 - s)) := by rw [hy]; exact half2 hs hxi
        refine zg6 ?_
        refine st_pure rfl (.bin rfl rfl (rem_s hs)) ?_
        refine st_pure rfl (.sh rfl rfl (shrC (m := s) (by show s ≤ 64; omega))) ?_
        refine zg12 ?_
        exact nx2 (i + 1) (o.set i ((dig (r * 2 ^ s)).getD i 0 / 2 ^ s + (dig (r * 2 ^ s)).getD (i + 1) 0 % 2 ^ s * 2 ^ (32 - s))) ⟨by omega, by simp [hol], lim_set hlo _ _ (by omega), dn_inv (by omega) hs hv⟩
    · obtain rfl : i = (dig (r * 2 ^ s)).length := by omega
      refine zg8 ?_
      refine cpf [19] fm1 (c_FTrim _ (by first | assumption | exact lim_dig _) (by first | omega | (simp; done) | (simp; omega))) ?_
      refine zg4 ?_
      have hV := dn_end hol hv
      rw [← hV]
      exact ret1 rfl (by first | exact .pure rfl | exact .pure (limL_pure _) | exact .pure (magL_pure _) | exact .pure (ratE.pure _) | exact .pure (pure_lst u32E _ _) | exact .pure (pure_lst ratE _ _))
namespace H_c_Fshifted
theorem zSm {p q : Prop} (k : q) (e : p = q := by simp only [e1, e2, e3, e4, p1, p2, p3, q1, q2, q3, l1, t0, t1, r1, r2, r3, r4, Nat.zero_add, Nat.reduceMul, Nat.reduceAdd, b1, b2, b3, b4, b5, b6, i1, i2, i3, i4, i5, i6, Nat.reduceBEq, List.take_zero, List.take_nil, List.nil_append, kills_map u32E, LV.kill, take_map_len, map_snoc, len_snoc, List.length_cons, List.length_nil, zer_take, ← List.map_append]; exact rfl) : p := e.mpr k
end H_c_Fshifted
open H_c_Fshifted in
theorem c_Fshifted (m k : Nat) (hla : (dig m).length ≤ 1099511627776) (hk : k ≤ 1099511627776) : CallP Tryz.prog 193 [magL m, nI64 k] (magL (m * 4294967296 ^ k)) := by
  refine fnP Tryz.func193 ?_
  refine zg13 ?_
  refine wl_if rfl (fun h7r h7 => ?_) (fun h7r h7 => ?_)
  · have hm : m = 0 := dig_eq_nil.1 (List.eq_nil_of_length_eq_zero (by omega))
    subst hm
    refine zg7 ?_
    rw [Nat.zero_mul]
    exact ret1 rfl (.nil 1)
  · have hE := dig_shift k (show 0 < (dig m).length by omega)
    refine zg5 ?_
    refine st_alloc rfl rfl (.mkE (n := k) (m := k) ml ml om om om) ?_
    refine zg1 ?_
    refine st_store rfl (.app (news := (dig m).map u32L) rfl rfl rfl rfl rfl (by simp) (.inr rfl) (by decide) Tryz.underlying31 Tryz.underlying31 Z114 T114 rfl B114 (.inr (.inl rfl)) (by simp; omega) (by simp; omega) (by decide)) ?_
    refine zg4 ?_
    rw [show magL (m * 4294967296 ^ k) = .list 1 ((List.replicate k 0 ++ dig m).map u32L) by rw [← hE]; rfl]
    exact ret1f [11] rfl rfl (imm_refm u32E rfl rfl (by simp))
end Go.Proofs.YthhdcfhaldcheaaGreat
