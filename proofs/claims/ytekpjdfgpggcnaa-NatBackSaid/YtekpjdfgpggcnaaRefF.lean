/- The document's quotients and greatest divisors of rows of truths, walked: Div, Gcd. -/
import Derived.Test.YtekpjdfgpggcnaaRefE
namespace Go.Proofs.Ytekpjdfgpggcnaa
set_option linter.unusedSimpArgs false
set_option linter.unusedVariables false
open Go.RowKit
open Nt
attribute [local go_sem] steady steadyUpon Cls same_cell

theorem Own.one {α : Type} (f : α → Value) (w : World) (t : TypeId) (x : α) {B : Nat} (hB : B ≤ w.heap.size) : Own (w.alloc (.cells #[f x] t)) B t (some ⟨w.heap.size, 0, none⟩) 1 ([x].map f) :=
  ⟨rfl, .inr ⟨w.heap.size, 1, #[f x], rfl, hB, heap_alloc_new w _, Nat.le_refl _, by decide, rfl, rfl⟩⟩
theorem RefV.uniq {w : World} {v : Value} {n m : Nat} (h : RefV w v n) (h' : RefV w v m) : n = m := by
  obtain ⟨A, l, c, xs, rfl, hl, _, _, hS, _, hn⟩ := h.open_
  obtain ⟨A', l', c', ys, e, hl', _, _, hS', _, hn'⟩ := h'.open_
  cases e
  rw [← hn, ← hn']
  unfold numOf
  rw [hl, hl']
  refine vf_congr fun i hi => ?_
  obtain ⟨b, o, rfl, h1⟩ := hS i (by omega)
  obtain ⟨b', o', e, h2⟩ := hS' i (by omega)
  cases e
  rw [h1] at h2
  unfold dig
  injection h2 with h2
  injection h2 with h2
  rw [h2]
noncomputable def refOf (w : World) (v : Value) : Nat := by
  classical
  exact if h : ∃ n, RefV w v n then Classical.choose h else 0
theorem refOf_eq {w : World} {v : Value} {n : Nat} (h : RefV w v n) : refOf w v = n := by
  have hex : ∃ n, RefV w v n := ⟨n, h⟩
  unfold refOf
  rw [dif_pos hex]
  exact (Classical.choose_spec hex).uniq h
/-- Two numbers are handed back. -/
def RetQ (w : World) (q r : Nat) (e : Ending) (w' : World) : Prop := ∃ A1 l1 c1 A2 l2 c2, e = .returned (.tuple #[.slice A1 l1 c1, .slice A2 l2 c2]) ∧ RefV w' (.slice A1 l1 c1) q ∧ RefV w' (.slice A2 l2 c2) r ∧ Ext w w'
theorem numOf_cons {x : Bool} {xs : List Bool} : numOf 2 d1 ([x] ++ xs) = d1 x + 2 * numOf 2 d1 xs := by
  unfold numOf
  rw [List.length_append, List.length_singleton, vf_split]
  have h0 : vf 2 (dig d1 ([x] ++ xs)) 1 = d1 x := by
    rw [vf_succ]
    show 0 + d1 x * 2 ^ 0 = _
    omega
  rw [h0, Nat.pow_one, Nat.mul_comm]
  congr 2
  exact vf_congr fun i hi => by rw [dig_append_right (by simp), List.length_singleton, Nat.add_sub_cancel_left]
theorem half {a j x : Nat} (h : a / 2 ^ j % 2 = x) : a / 2 ^ j = 2 * (a / 2 ^ (j + 1)) + x := by
  rw [Nat.pow_succ, ← Nat.div_div_eq_div_mul]
  have := Nat.div_add_mod (a / 2 ^ j) 2
  omega
theorem rdiv_yes {X b x R : Nat} (hb : 0 < b) (hR : R = x + 2 * (X % b)) (hx : x ≤ 1) (h : b ≤ R) : (2 * X + x) / b = 2 * (X / b) + 1 ∧ (2 * X + x) % b = R - b := by
  have h1 := Nat.div_add_mod X b
  have h2 := Nat.mod_lt X hb
  refine divmod_of ?_ (by omega)
  have h3 : (2 * (X / b) + 1) * b = 2 * (b * (X / b)) + b := by rw [Nat.add_mul, Nat.one_mul, Nat.mul_assoc, Nat.mul_comm (X / b)]
  rw [h3]
  omega
theorem rdiv_no {X b x R : Nat} (hb : 0 < b) (hR : R = x + 2 * (X % b)) (h : R < b) : (2 * X + x) / b = 2 * (X / b) ∧ (2 * X + x) % b = R := by
  have h1 := Nat.div_add_mod X b
  refine divmod_of ?_ h
  have h3 : 2 * (X / b) * b = 2 * (b * (X / b)) := by rw [Nat.mul_assoc, Nat.mul_comm (X / b)]
  rw [h3]
  omega
theorem rq_set {qs : List Bool} {l j Y : Nat} (hl : qs.length = l) (hj : j < l) (h : vf 2 (dig d1 qs) l = Y * 2 ^ (j + 1)) (h0 : dig d1 qs j = 0) : vf 2 (dig d1 (qs.set j true)) l = (2 * Y + 1) * 2 ^ j := by
  have h1 := vf_set (β := 2) (f := dig d1 qs) (v := 1) hj
  rw [h0, Nat.zero_mul, Nat.add_zero, Nat.one_mul, h] at h1
  have h2 : vf 2 (dig d1 (qs.set j true)) l = vf 2 (fun i => if i = j then 1 else dig d1 qs i) l := vf_congr fun i hi => by rw [dig_set (by omega)]; rfl
  rw [h2, h1, Nat.add_mul, Nat.one_mul, Nat.pow_succ]
  have : Y * (2 ^ j * 2) = 2 * Y * 2 ^ j := by ac_rfl
  omega
theorem rq_keep {Y V j : Nat} (h : V = Y * 2 ^ (j + 1)) : V = 2 * Y * 2 ^ j := by
  rw [h, Nat.pow_succ]; ac_rfl
set_option maxRecDepth 100000 in
set_option maxHeartbeats 2000000 in
theorem rdiv_any (va vb : Value) (a b k : Nat) (w : World) (hVa : RefV w va a) (hVb : RefV w vb b) (hFa : blen a ≤ k) (hFb : blen b ≤ k) (hk : k ≤ 4000000) (hb0 : 0 < b) :
    Calls Try.prog 34 #[va, vb] w (RetQ w (a / b) (a % b)) := by
  obtain ⟨A, la, ca, xs, rfl, hlx, hca, hma, hSa, hTa, hna⟩ := hVa.open_
  obtain ⟨B, lb, cb, ys, rfl, -⟩ := hVb.open_
  have hbits : la = blen a := by have := bits_len (hlx ▸ hTa); rw [hna, hlx] at this; exact this
  have hla : la ≤ k := by omega
  have HVb := hide hVb
  have HSa := hide hSa
  have Hna := hide hna
  have Hlx := hide hlx
  have Hlt : Hid (a < 2 ^ la) := hide (by rw [hbits]; exact blen_lt a)
  clear hVa hTa hSa hna hlx hVb hbits
  go_enter Try.func34, Try.ntmps34
  go_wp2_with (at_make; go_must (refine wpList_mk _ _ _ Try.n_el1 rfl rfl la rfl rfl rfl rfl (by omega) (by unfold maxLen; omega) Value.bool rfl rfl (B := w.heap.size) (Nat.le_refl _) ?_); intro g w2 hO hg hU; have Hg := hide hg; clear hg)
  have hgw : w.heap.size ≤ g := by rw [Hg.out]; exact Nat.le_refl _
  have hgx : g < w2.heap.size := (hO.in_ (k := g) (by simp [inA])).2
  go_loopw [8, 7] (fun i r wr => ∃ (j : Nat) (cc : Int) (R : Option Addr) (l c : Nat) (qs : List Bool), j ≤ la ∧ cc = (j : Int) - 1 ∧ i = .int .i64 cc ∧ r = .slice R l c ∧ qs.length = la ∧ Own wr w.heap.size 4 (some ⟨g, 0, none⟩) la (qs.map Value.bool) ∧ RefV wr (.slice R l c) (a / 2 ^ j % b) ∧ vf 2 (dig d1 qs) la = a / 2 ^ j / b * 2 ^ j ∧ (∀ i, i < j → dig d1 qs i = 0) ∧ (∀ k, inA R k → k ≠ g) ∧ Ext w wr) (fun i _ _ => (intOf i + 1).toNat)
  case atStart =>
    have h0 : a / 2 ^ la = 0 := Nat.div_eq_of_lt Hlt.out
    refine ⟨la, _, _, _, _, _, Nat.le_refl _, (by omega), rfl, rfl, List.length_replicate, hO.ext ((Upd.refl _ _).alloc _), NumS.cut (xs := []) Sl.nil (Nat.le_refl 0) (Nat.le_refl 0) (Nat.zero_le _) (by rw [h0, Nat.zero_mod]; rfl) (.inl rfl), ?_, fun i hi => by unfold dig; rw [gat_replicate hi]; rfl, fun k hk => by simp [inA] at hk; omega, hU.alloc _⟩
    rw [h0, Nat.zero_div, Nat.zero_mul, vf_zero_tail (Nat.zero_le _) (fun i _ hi => by unfold dig; rw [gat_replicate hi]; rfl)]
    rfl
  case round =>
    clear hO hU hgx
    obtain ⟨j, cc, R, l, c, qs, hj, hcc, rfl, rfl, hql, hO, hV, hv, hz, hR, hE⟩ := hrel
    have Hql := hide hql
    have Hv := hide hv
    have Hz := hide hz
    clear hql hv hz
    have hgr := (hO.in_ (k := g) (by simp [inA])).2
    rcases j with _ | j
    · obtain rfl : cc = -1 := by omega
      clear hcc
      go_wp2_with fail
      refine (rtrim_any (some ⟨g, 0, none⟩) la la qs _ Hql.out (Nat.le_refl _) (by unfold maxLen; omega) hO.sl).mono ?_
      rintro e w4 ⟨A4, l4, c4, rfl, hV4, hU4⟩
      go_wp2
      go_ret2
      exact ⟨_, _, _, _, _, _, rfl, hV4.of_eq (by unfold numOf; rw [Hql.out, Hv.out, Nat.pow_zero, Nat.div_one, Nat.mul_one]), (hV.ext hU4).of_eq (by rw [Nat.pow_zero, Nat.div_one]), hE.trans hU4⟩
    · obtain rfl : cc = (j : Int) := by omega
      clear hcc
      have hj0 : (0 : Int) ≤ (j : Int) := by omega
      obtain ⟨b1, o1, rfl, hbl1, hcells⟩ := (HSa.out.ext hE).open_ (by rw [Hlx.out]; omega)
      have hcell := hcells j (by rw [Hlx.out]; omega)
      obtain ⟨x, hx⟩ : ∃ x, gat xs j = x := ⟨_, rfl⟩
      rw [hx] at hcell
      have hxd : a / 2 ^ j % 2 = d1 x := by
        have := vf_digit (β := 2) (f := dig d1 xs) (by decide) (n := la) (i := j) (fun i _ => d1_lt _) (by omega)
        rw [show vf 2 (dig d1 xs) la = a by have := Hna.out; unfold numOf at this; rw [Hlx.out] at this; exact this] at this
        rw [this]; unfold dig; rw [hx]
      have Hx := hide hxd
      have Hh := hide (half hxd)
      obtain ⟨R1, lr, cr, rs, e1, hrl, hrc, hrm, hSr, hTr, hrn⟩ := hV.open_
      injection e1 with h1 h2 h3
      subst h1 h2 h3
      obtain ⟨N, hN⟩ : ∃ N, N = d1 x + 2 * (a / 2 ^ (j + 1) % b) := ⟨_, rfl⟩
      have hNn : numOf 2 d1 ([x] ++ rs) = N := by rw [numOf_cons, hrn, hN]
      have hlr : l ≤ k := by
        have h5 := bits_len (hrl ▸ hTr)
        rw [hrn, hrl] at h5
        have h7 : a / 2 ^ (j + 1) % b ≤ b := Nat.le_of_lt (Nat.mod_lt _ hb0)
        have := blen_mono h7
        omega
      have hbN : blen N ≤ k + 1 := by
        have h7 : a / 2 ^ (j + 1) % b < b := Nat.mod_lt _ hb0
        have h8 := blen_lt b
        have h9 : 2 ^ blen b ≤ 2 ^ k := Nat.pow_le_pow_right (by omega) hFb
        have h10 := d1_le x
        rw [blen_le_iff, Nat.pow_succ]
        omega
      have HN := hide hN
      have HNn := hide hNn
      have Hrl := hide hrl
      have hz0 := hide (Hz.out j (by omega))
      clear hcells hx hxd hN hNn hrl hrn hTr
      have hgl := hO.cap
      have hgne : g ≠ wr.heap.size := by omega
      by_cases hbn : b ≤ N
      · have hc0 : 0 ≤ cmpI N b := by
          rcases Int.lt_or_le (cmpI N b) 0 with h | h
          · rw [cmpI_neg] at h; omega
          · exact h
        obtain ⟨hq, hr⟩ := rdiv_yes hb0 HN.out (d1_le _) hbn
        have Hq := hide hq
        have Hr := hide hr
        have hbn2 := hide hbn
        clear hq hr hbn
        go_wp2_with (first
          | (at_builtin; go_must (refine wpList_apd Value.bool one1 Try.n_el1 [x] rs ([x] ++ rs) (1 + l) rfl (by rw [List.length_append, Hrl.out]; rfl) (by omega) (by unfold maxLen; omega) rfl rfl rfl rfl (Own.one Value.bool wr 4 x (Nat.le_refl _)) rfl Hrl.out (hSr.ext ((Upd.refl _ _).alloc _)) (by simp) ?_); intro Z2 c2 w3 hO3 hU3 hin3)
          | (go_at_call 63; go_must (refine (rtrim_at Z2 (1 + l) c2 ([x] ++ rs) _ (by rw [List.length_append, Hrl.out]; rfl) (by have := hO3.cap.1; rw [List.length_map, List.length_append, Hrl.out] at this; exact this) hO3.cap.2 hO3.sl).mono ?_); rintro e w4 ⟨l4, rfl, hV4, hU4⟩; rw [HNn.out] at hV4; have hE4 : Ext wr w4 := (Upd.fresh hU3 ((Upd.refl _ _).alloc _) (fun i hi => by unfold inA at hi; simp at hi; omega)).trans hU4)
          | (go_at_call 25; go_must (refine (rcmp_any _ _ N b (k + 1) _ hV4 ((HVb.out.ext hE).ext hE4) hbN (by omega) (by omega)).mono ?_); rintro e w5 ⟨rfl, hU5⟩)
          | (go_at_call 38; go_must (refine (rsub_new _ _ N b (k + 1) _ (hV4.ext hU5) (((HVb.out.ext hE).ext hE4).ext hU5) hbN (by omega) hbn2.out).mono ?_); rintro e w6 ⟨A6, l6, c6, rfl, hV6, hU6, hN6⟩; have hE6 : Ext wr w6 := (hE4.trans hU5).trans hU6; have hO6 := hO.ext hE6)
          | (refine wpList_store_own Value.bool one1 true rfl rfl Try.n_sz1 rfl rfl hO6 (by rw [Hql.out]; omega) ?_; intro w7 hO7 hU7))
        go_roundw
        case rel => exact ⟨j, _, _, _, _, qs.set j true, by omega, rfl, rfl, rfl, by rw [List.length_set]; exact Hql.out, hO7, (RefV.upd hV6 hU7 (fun k hk hk2 => by have := hN6 k hk; have := hE4.size; have := hU5.size; unfold only at hk2; omega)).of_eq (by rw [Hh.out, Hr.out]), by rw [rq_set Hql.out (by omega) Hv.out hz0.out, Hh.out, Hq.out], fun i hi => by rw [dig_set (by rw [Hql.out]; omega), if_neg (by omega)]; exact Hz.out i (by omega), fun k hk => by (have := hN6 k hk; have := hE4.size; have := hU5.size; omega), Upd.fresh hU7 (hE.trans hE6) (fun i hi => by unfold only at hi; omega)⟩
        case measure => simp [intOf]
      · have hc0 : ¬ 0 ≤ cmpI N b := by
          have : cmpI N b < 0 := by rw [cmpI_neg]; omega
          omega
        obtain ⟨hq, hr⟩ := rdiv_no hb0 HN.out (by omega)
        have Hq := hide hq
        have Hr := hide hr
        clear hq hr hbn
        go_wp2_with (first
          | (at_builtin; go_must (refine wpList_apd Value.bool one1 Try.n_el1 [x] rs ([x] ++ rs) (1 + l) rfl (by rw [List.length_append, Hrl.out]; rfl) (by omega) (by unfold maxLen; omega) rfl rfl rfl rfl (Own.one Value.bool wr 4 x (Nat.le_refl _)) rfl Hrl.out (hSr.ext ((Upd.refl _ _).alloc _)) (by simp) ?_); intro Z2 c2 w3 hO3 hU3 hin3)
          | (go_at_call 63; go_must (refine (rtrim_at Z2 (1 + l) c2 ([x] ++ rs) _ (by rw [List.length_append, Hrl.out]; rfl) (by have := hO3.cap.1; rw [List.length_map, List.length_append, Hrl.out] at this; exact this) hO3.cap.2 hO3.sl).mono ?_); rintro e w4 ⟨l4, rfl, hV4, hU4⟩; rw [HNn.out] at hV4; have hE4 : Ext wr w4 := (Upd.fresh hU3 ((Upd.refl _ _).alloc _) (fun i hi => by unfold inA at hi; simp at hi; omega)).trans hU4)
          | (go_at_call 25; go_must (refine (rcmp_any _ _ N b (k + 1) _ hV4 ((HVb.out.ext hE).ext hE4) hbN (by omega) (by omega)).mono ?_); rintro e w5 ⟨rfl, hU5⟩))
        go_roundw
        case rel => exact ⟨j, _, _, _, _, qs, by omega, rfl, rfl, rfl, Hql.out, hO.ext (hE4.trans hU5), (hV4.ext hU5).of_eq (by rw [Hh.out, Hr.out]), by rw [Hh.out, Hq.out]; exact rq_keep Hv.out, fun i hi => Hz.out i (by omega), fun k hk => by (have := (hO3.in_ hk).1; omega), (hE.trans hE4).trans hU5⟩
        case measure => simp [intOf]

theorem blen_mod {a b k : Nat} (h : blen b ≤ k) (hb : 0 < b) : blen (a % b) ≤ k := Nat.le_trans (blen_mono (Nat.le_of_lt (Nat.mod_lt _ hb))) h
set_option maxRecDepth 100000 in
set_option maxHeartbeats 2000000 in
theorem rgcd_any (va vb : Value) (a b k : Nat) (w : World) (hVa : RefV w va a) (hVb : RefV w vb b) (hFa : blen a ≤ k) (hFb : blen b ≤ k) (hk : k ≤ 4000000) :
    Calls Try.prog 27 #[va, vb] w (RetR w (Nat.gcd a b)) := by
  obtain ⟨A, la, ca, xs, rfl, -⟩ := hVa.open_
  obtain ⟨B, lb, cb, ys, rfl, -⟩ := hVb.open_
  go_enter Try.func27, Try.ntmps27
  go_wp2
  go_loopw [0, 1] (fun u v wx => ∃ (x y : Nat) (X : Option Addr) (lx cx : Nat) (Y : Option Addr) (ly cy : Nat), u = .slice X lx cx ∧ v = .slice Y ly cy ∧ RefV wx (.slice X lx cx) x ∧ RefV wx (.slice Y ly cy) y ∧ blen x ≤ k ∧ blen y ≤ k ∧ Nat.gcd x y = Nat.gcd a b ∧ Ext w wx) (fun _ v wx => refOf wx v)
  case atStart => exact ⟨a, b, _, _, _, _, _, _, rfl, rfl, hVa, hVb, hFa, hFb, rfl, Upd.refl _ _⟩
  case round =>
    obtain ⟨x, y, X, lx, cx, Y, ly, cy, rfl, rfl, hVx, hVy, hFx, hFy, hg, hE⟩ := hrel
    have Hg := hide hg
    clear hg
    have hly : ly = blen y := by
      obtain ⟨Y2, l2, c2, zs, e, h1, -, -, -, h2, h3⟩ := hVy.open_
      injection e with e1 e2 e3
      subst e2
      have := bits_len (h1 ▸ h2)
      rw [h3, h1] at this
      exact this
    by_cases hy : y = 0
    · subst hy
      have hl0 : ly = 0 := by rw [hly]; rfl
      subst hl0
      clear hly
      have hgx : x = Nat.gcd a b := by rw [← Hg.out, Nat.gcd_zero_right]
      have Hgx := hide hgx
      clear hgx
      go_wp2_with fail
      go_ret
      exact ⟨_, _, _, rfl, hVx.of_eq Hgx.out, hE⟩
    · have hlp : 0 < ly := by
        rcases Nat.eq_zero_or_pos ly with h | h
        · rw [h] at hly; exact absurd (blen_eq_zero.1 hly.symm) hy
        · exact h
      have hlk : ly ≤ 4000000 := by omega
      clear hly
      go_wp2_with fail
      refine (rdiv_any _ _ x y k _ hVx hVy hFx hFy hk (by omega)).mono ?_
      rintro e w1 ⟨A1, l1, c1, A2, l2, c2, rfl, hV1, hV2, hU1⟩
      go_wp2_with fail
      go_roundw
      case rel => exact ⟨y, x % y, _, _, _, _, _, _, rfl, rfl, hVy.ext hU1, hV2, hFy, blen_mod hFy (by omega), by rw [← Hg.out, Nat.gcd_comm x y, Nat.gcd_rec y x, Nat.gcd_comm], hE.trans hU1⟩
      case measure =>
        have e1 := refOf_eq hV2
        have e2 := refOf_eq hVy
        show refOf _ _ < refOf _ _
        rw [e1, e2]
        exact Nat.mod_lt _ (by omega)
end Go.Proofs.Ytekpjdfgpggcnaa
