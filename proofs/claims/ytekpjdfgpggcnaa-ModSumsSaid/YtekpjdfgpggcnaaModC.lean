/- Powers in rings, walked: Exp with a short exponent. -/
import Derived.Test.YtekpjdfgpggcnaaModB
namespace Go.Proofs.Ytekpjdfgpggcnaa
set_option linter.unusedSimpArgs false
set_option linter.unusedVariables false
open Go.RowKit
open Nt
attribute [local go_sem] steady steadyUpon Cls same_cell
attribute [local irreducible] wpHead wpTree

theorem NatV.only {w w' : World} {g n : Nat} {v : Value} {t : TypeId} {A : Option Addr} {l c : Nat} (h : NatV w v n) (hb : Box w g t (.slice A l c)) (hu : Upd (only g) w w') : NatV w' v n :=
  h.change' hu fun b hb' => by
    have : b = g := hb'
    subst this
    exact ⟨t, _, hb, rfl⟩
theorem div_two (e j : Nat) : e / 2 ^ j = 2 * (e / 2 ^ (j + 1)) + e / 2 ^ j % 2 := by
  rw [Nat.pow_succ, ← Nat.div_div_eq_div_mul]; omega
theorem exp_even {a e n j : Nat} (h : e / 2 ^ j % 2 = 0) : (a ^ (e / 2 ^ (j + 1)) % n) * (a ^ (e / 2 ^ (j + 1)) % n) % n = a ^ (e / 2 ^ j) % n := by
  have h1 := div_two e j
  rw [h] at h1
  rw [h1, ← Nat.mul_mod, ← Nat.pow_add]
  congr 2
  omega
theorem exp_odd {a e n j : Nat} (h : e / 2 ^ j % 2 = 1) : ((a ^ (e / 2 ^ (j + 1)) % n) * (a ^ (e / 2 ^ (j + 1)) % n) % n) * (a % n) % n = a ^ (e / 2 ^ j) % n := by
  have h1 := div_two e j
  rw [h] at h1
  rw [h1, ← Nat.mul_mod (a ^ (e / 2 ^ (j + 1))), ← Nat.mul_mod (a ^ (e / 2 ^ (j + 1)) * a ^ (e / 2 ^ (j + 1))), ← Nat.pow_add, ← Nat.pow_succ]
  congr 2
  omega
theorem exp_top {a e n : Nat} : 1 % n = a ^ (e / 2 ^ blen e) % n := by
  have h : e < 2 ^ blen e := (blen_le_iff).1 (Nat.le_refl _)
  rw [Nat.div_eq_of_lt h, Nat.pow_zero]
set_option maxRecDepth 100000 in
set_option maxHeartbeats 4000000 in
theorem mexp_zero (va vb : Value) (g a b n k m : Nat) (w : World) (hR : RingV w g n) (hVa : NatV w va a) (hVb : NatV w vb b) (hFn : Fit k n) (hk : k ≤ 50000) (hb : b = 0) :
    Calls Try.prog 65 #[.pointer (some ⟨g, 0, none⟩), va, vb] w (RetN w (a ^ b % n)) := by
  have Hb := hide hb
  clear hb
  obtain ⟨A, la, ca, xs, rfl, -⟩ := hVa.open_
  obtain ⟨B, lb, cb, ys, rfl, -⟩ := hVb.open_
  have hn := hR.two
  have hFx : Fit k (a % n) := hFn.le (Nat.le_of_lt (Nat.mod_lt _ (by omega)))
  have hF1 : Fit k 1 := hFn.le (by omega)
  go_enter Try.func65, Try.ntmps65
  go_wp2_with fail
  refine name_c (fun W hW => ?_)
  have b4 : Box W w.heap.size 26 (.slice A la ca) := by rw [hW]; exact ((Box.new _ _ _).alloc _).alloc _
  have b5 : Box W (w.heap.size + 1) 26 (.slice B lb cb) := by rw [hW]; exact (Box.new_at (by simp)).alloc _
  have b6 : Box W (w.heap.size + 1 + 1) 26 (.slice none 0 0) := by rw [hW]; exact Box.new_at (by simp)
  have hE : Ext w W := by rw [hW]; exact (((Upd.refl _ w).alloc _).alloc _).alloc _
  have hWz : W.heap.size = w.heap.size + 1 + 1 + 1 := by rw [hW]; simp
  clear hW
  replace hVa := hVa.ext hE
  replace hVb := hVb.ext hE
  replace hR := hR.ext hE
  have hG : Ext W W := Upd.refl _ _
  refine (new_any 1 _ (by omega)).mono ?_
  rintro e0 w1 ⟨A1, l1, c1, rfl, hV1, hU⟩
  replace hG := hG.trans hU
  go_wp2_with fail
  refine (mof_any _ g 1 n k _ (hR.ext hG) hV1 hF1 hFn (by omega)).mono ?_
  rintro e w2 ⟨A2, l2, c2, rfl, hV2, hU⟩
  replace hG := hG.trans hU
  have k5 := ((b5.ext hG).alloc (.cells #[.slice A2 l2 c2] 26)).cell
  go_wp2_with fail
  clear k5
  refine name_c (fun X hX => ?_)
  have b7 : Box X w2.heap.size 26 (.slice A2 l2 c2) := by rw [hX]; exact Box.new _ _ _
  have hX2 : Ext w2 X := by rw [hX]; exact (Upd.refl _ _).alloc _
  have h7 : W.heap.size ≤ w2.heap.size := hG.size
  clear hX
  replace hE := hE.trans (hG.trans hX2)
  replace b4 := b4.ext (hG.trans hX2)
  replace b5 := b5.ext (hG.trans hX2)
  replace b6 := b6.ext (hG.trans hX2)
  replace hVa := hVa.ext (hG.trans hX2)
  replace hVb := hVb.ext (hG.trans hX2)
  replace hR := hR.ext (hG.trans hX2)
  replace hV2 := hV2.ext hX2
  clear hG hX2 hV1 hU
  have hG : Ext X X := Upd.refl _ _
  refine (zero_any _ b _ hVb).mono ?_
  rintro e0 w3 ⟨rfl, hU⟩
  replace hG := hG.trans hU
  rw [decide_eq_true Hb.out]
  have k6 := (b6.ext hG).cell
  have f6 := (b6.ext hG).frozen
  have k7 := (b7.ext hG).cell
  go_wp2_with fail
  have q := ((b6.ext hG).set (.slice A2 l2 c2)).cell
  exact bodyPost_ret (v := .agg #[.slice A2 l2 c2]) (by simp [results, Try.results65, go_sem, q]) rfl ⟨_, _, _, rfl, (((hV2.ext hG).of_eq (by rw [Hb.out, Nat.pow_zero])).far k6), (hE.trans hG).setCell (p := ⟨w.heap.size + 1 + 1, 0, none⟩) (.inr (by simp; omega)) _⟩
set_option maxRecDepth 100000 in
set_option maxHeartbeats 8000000 in
theorem mexp_short (va vb : Value) (g a b n k m : Nat) (w : World) (hR : RingV w g n) (hVa : NatV w va a) (hVb : NatV w vb b) (hFa : Fit k a) (hFn : Fit k n) (hFb : Fit m b) (hk : k ≤ 50000) (hm : m ≤ 50000) (hb : 0 < b) (hs : blen b ≤ 24) :
    Calls Try.prog 65 #[.pointer (some ⟨g, 0, none⟩), va, vb] w (RetN w (a ^ b % n)) := by
  have hgw : g < w.heap.size := by
    obtain ⟨D, ld, cd, g2, -⟩ := hR
    exact g2.lt
  obtain ⟨A, la, ca, xs, rfl, -⟩ := hVa.open_
  obtain ⟨B, lb, cb, ys, rfl, -⟩ := hVb.open_
  have hn := hR.two
  have hFx : Fit k (a % n) := hFn.le (Nat.le_of_lt (Nat.mod_lt _ (by omega)))
  have hF1 : Fit k 1 := hFn.le (by omega)
  go_enter Try.func65, Try.ntmps65
  go_wp2_with fail
  refine name_c (fun W hW => ?_)
  have b4 : Box W w.heap.size 26 (.slice A la ca) := by rw [hW]; exact ((Box.new _ _ _).alloc _).alloc _
  have b5 : Box W (w.heap.size + 1) 26 (.slice B lb cb) := by rw [hW]; exact (Box.new_at (by simp)).alloc _
  have b6 : Box W (w.heap.size + 1 + 1) 26 (.slice none 0 0) := by rw [hW]; exact Box.new_at (by simp)
  have hE : Ext w W := by rw [hW]; exact (((Upd.refl _ w).alloc _).alloc _).alloc _
  have hWz : W.heap.size = w.heap.size + 1 + 1 + 1 := by rw [hW]; simp
  clear hW
  replace hVa := hVa.ext hE
  replace hVb := hVb.ext hE
  replace hR := hR.ext hE
  have hG : Ext W W := Upd.refl _ _
  refine (new_any 1 _ (by omega)).mono ?_
  rintro e0 w1 ⟨A1, l1, c1, rfl, hV1, hU⟩
  replace hG := hG.trans hU
  go_wp2_with fail
  refine (mof_any _ g 1 n k _ (hR.ext hG) hV1 hF1 hFn (by omega)).mono ?_
  rintro e w2 ⟨A2, l2, c2, rfl, hV2, hU⟩
  replace hG := hG.trans hU
  have k5 := ((b5.ext hG).alloc (.cells #[.slice A2 l2 c2] 26)).cell
  go_wp2_with fail
  clear k5
  refine name_c (fun X hX => ?_)
  have b7 : Box X w2.heap.size 26 (.slice A2 l2 c2) := by rw [hX]; exact Box.new _ _ _
  have hX2 : Ext w2 X := by rw [hX]; exact (Upd.refl _ _).alloc _
  have h7 : W.heap.size ≤ w2.heap.size := hG.size
  clear hX
  replace hE := hE.trans (hG.trans hX2)
  replace b4 := b4.ext (hG.trans hX2)
  replace b5 := b5.ext (hG.trans hX2)
  replace b6 := b6.ext (hG.trans hX2)
  replace hVa := hVa.ext (hG.trans hX2)
  replace hVb := hVb.ext (hG.trans hX2)
  replace hR := hR.ext (hG.trans hX2)
  replace hV2 := hV2.ext hX2
  clear hG hX2 hV1 hU
  have hG : Ext X X := Upd.refl _ _
  refine (zero_any _ b _ hVb).mono ?_
  rintro e0 w3 ⟨rfl, hU⟩
  replace hG := hG.trans hU
  -- behind Zero: a is brought into the ring; how long is the exponent?
  rw [decide_eq_false (by omega)]
  have k4 := (b4.ext hG).cell
  go_wp2_with fail
  refine (mof_any _ g a n k _ (hR.ext hG) (hVa.ext hG) hFa hFn (by omega)).mono ?_
  rintro e w4 ⟨A3, l3, c3, rfl, hV3, hU⟩
  replace hG := hG.trans hU
  have b4' := b4.ext hG
  replace k4 := b4'.cell
  have f4 := b4'.frozen
  have b5' := (b5.ext hG).far (p := ⟨w.heap.size, 0, none⟩) (by simp) (.slice A3 l3 c3)
  have k5 := b5'.cell
  go_wp2_with fail
  refine name_c (fun Y hY => ?_)
  have hY4 : Upd (only w.heap.size) w4 Y := by rw [hY]; exact (Upd.refl (only w.heap.size) _).setCell (p := ⟨w.heap.size, 0, none⟩) (.inl rfl) _
  have hEY : Ext w Y := by rw [hY]; exact (hE.trans hG).setCell (p := ⟨w.heap.size, 0, none⟩) (.inr (Nat.le_refl _)) _
  have d4 : Box Y w.heap.size 26 (.slice A3 l3 c3) := by rw [hY]; exact b4'.set _
  have d5 : Box Y (w.heap.size + 1) 26 (.slice B lb cb) := by rw [hY]; exact b5'
  have d6 : Box Y (w.heap.size + 1 + 1) 26 (.slice none 0 0) := by rw [hY]; exact (b6.ext hG).far (p := ⟨w.heap.size, 0, none⟩) (by simp; omega) _
  have d7 : Box Y w2.heap.size 26 (.slice A2 l2 c2) := by rw [hY]; exact (b7.ext hG).far (p := ⟨w.heap.size, 0, none⟩) (by simp; omega) _
  have hVb' : NatV Y (.agg #[.slice B lb cb]) b := (hVb.ext hG).only b4' hY4
  have hV2' : NatV Y (.agg #[.slice A2 l2 c2]) (1 % n) := (hV2.ext hG).only b4' hY4
  have hV3' : NatV Y (.agg #[.slice A3 l3 c3]) (a % n) := hV3.only b4' hY4
  have hR' : RingV Y g n := by
    obtain ⟨D, ld, cd, g2, hVn, hn2⟩ := hR.ext hG
    exact ⟨D, ld, cd, by rw [hY]; exact g2.far (p := ⟨w.heap.size, 0, none⟩) (fun e => by have := hgw; simp at e; omega) _, hVn.only b4' hY4, hn2⟩
  clear hY hY4 b4 b5 b6 b7 b4' b5' k4 f4 hR hVa hVb hV2 hE hG hU hV3 k5
  have hG : Ext Y Y := Upd.refl _ _
  refine (bits_any _ b m _ hVb' hFb (by omega)).mono ?_
  rintro e0 w5 ⟨rfl, hU⟩
  replace hG := hG.trans hU
  have k7 := (d7.ext hG).cell
  have k5 := ((d5.ext hG).alloc (.cells #[.slice A2 l2 c2] 26)).cell
  obtain ⟨N, hN⟩ : ∃ N, N = blen b := ⟨_, rfl⟩
  rw [← hN] at hs ⊢
  have HN := hide hN
  clear hN
  go_wp2_with fail
  clear k7 k5
  refine name_c (fun Z hZ => ?_)
  have hZ5 : Ext w5 Z := by rw [hZ]; exact (Upd.refl _ _).alloc _
  have d8 : Box Z w5.heap.size 26 (.slice A2 l2 c2) := by rw [hZ]; exact Box.new _ _ _
  have h8 : Y.heap.size ≤ w5.heap.size := hG.size
  have h8w : w.heap.size + 1 + 1 < w5.heap.size := Nat.lt_of_lt_of_le d6.lt h8
  clear hZ
  replace hG := hG.trans hZ5
  clear hU
  refine (bits_any _ b m _ (hVb'.ext hG) hFb (by omega)).mono ?_
  rintro e0 w6 ⟨rfl, hU⟩
  rw [← HN.out]
  replace hG := hG.trans hU
  replace hV2' := hV2'.ext hG
  replace d8 := d8.ext hU
  go_wp2_with fail
  refine name_w (fun V hV => ?_)
  have hVG : Ext Y V := by rw [hV]; exact hG
  replace hV2' : NatV V (.agg #[.slice A2 l2 c2]) (1 % n) := by rw [hV]; exact hV2'
  replace d8 : Box V w5.heap.size 26 (.slice A2 l2 c2) := by rw [hV]; exact d8
  clear hV hG hU hZ5
  replace d4 := d4.ext hVG
  replace d5 := d5.ext hVG
  replace d6 := d6.ext hVG
  replace hR' := hR'.ext hVG
  replace hVb' := hVb'.ext hVG
  replace hV3' := hV3'.ext hVG
  have hEV := hEY.trans hVG
  clear hVG hEY d7 hFx hF1
  have hgw' : g < w5.heap.size := by omega
  go_loopw [9] (fun i wr => ∃ (j : Nat) (X : Option Addr) (lX cX : Nat), j ≤ N ∧ i = .int .i64 ((j : Int) - 1) ∧ Box wr w5.heap.size 26 (.slice X lX cX) ∧ NatV wr (.agg #[.slice X lX cX]) (a ^ (b / 2 ^ j) % n) ∧ Upd (only w5.heap.size) V wr) (fun i _ => (intOf i + 1).toNat)
  case atStart => exact ⟨N, _, _, _, Nat.le_refl _, rfl, d8, hV2'.of_eq (by rw [HN.out]; exact exp_top), Upd.refl _ _⟩
  case round =>
    obtain ⟨j, X', lX, cX, hj, rfl, e8, hVX, hUV⟩ := hrel
    have e4 := d4.upd hUV (fun h => by unfold only at h; omega)
    have e5 := d5.upd hUV (fun h => by unfold only at h; omega)
    have e6 := d6.upd hUV (fun h => by unfold only at h; omega)
    have hRr : RingV wr g n := by
      obtain ⟨D, ld, cd, g2, hVn, hn2⟩ := hR'
      exact ⟨D, ld, cd, g2.upd hUV (fun h => by unfold only at h; omega), hVn.only d8 hUV, hn2⟩
    have hVbr := hVb'.only d8 hUV
    have hV3r := hV3'.only d8 hUV
    have hEr : Ext w wr := Upd.fresh hUV hEV (fun i hi => by unfold only at hi; omega)
    rcases Nat.eq_zero_or_pos j with hj0 | hj0
    · have k8 := e8.cell
      have k6 := e6.cell
      have f6 := e6.frozen
      go_wp2_with fail
      have q := (e6.set (.slice X' lX cX)).cell
      exact bodyPost_ret (v := .agg #[.slice X' lX cX]) (by simp [results, Try.results65, go_sem, q]) rfl ⟨_, _, _, rfl, (hVX.of_eq (by rw [hj0, Nat.pow_zero, Nat.div_one])).far k6, hEr.setCell (p := ⟨w.heap.size + 1 + 1, 0, none⟩) (.inr (by simp; omega)) _⟩
    · obtain ⟨i, rfl⟩ : ∃ i, j = i + 1 := ⟨j - 1, by omega⟩
      have hi : (((i + 1 : Nat) : Int) - 1) = (i : Int) := by omega
      rw [hi]
      clear hi
      obtain ⟨x, hx⟩ : ∃ x, x = a ^ (b / 2 ^ (i + 1)) % n := ⟨_, rfl⟩
      rw [← hx] at hVX
      have Hx := hide hx
      clear hx
      have hFX : Fit k x := hFn.le (by rw [Hx.out]; exact Nat.le_of_lt (Nat.mod_lt _ (by omega)))
      have k8 := e8.cell
      go_wp2_with fail
      have hG : Ext wr wr := Upd.refl _ _
      refine (mmul_any _ _ g x x n k _ hRr hVX hVX hFX hFX hFn (by omega)).mono ?_
      rintro e0 w7 ⟨A7, l7, c7, rfl, hV7, hU⟩
      replace hG := hG.trans hU
      have e8' := e8.ext hG
      replace k8 := e8'.cell
      have f8 := e8'.frozen
      have k5 := ((e5.ext hG).far (p := ⟨w5.heap.size, 0, none⟩) (by simp; omega) (.slice A7 l7 c7)).cell
      go_wp2_with fail
      refine name_c (fun S hS => ?_)
      have u4 : Box S w.heap.size 26 (.slice A3 l3 c3) := by rw [hS]; exact (e4.ext hG).far (p := ⟨w5.heap.size, 0, none⟩) (by simp; omega) _
      have u8 : Box S w5.heap.size 26 (.slice A7 l7 c7) := by rw [hS]; exact e8'.set _
      have hUS : Upd (only w5.heap.size) V S := by rw [hS]; exact (hUV.ext hG).setCell (p := ⟨w5.heap.size, 0, none⟩) (.inl rfl) _
      have hV7S : NatV S (.agg #[.slice A7 l7 c7]) (x * x % n) := by rw [hS]; exact hV7.far e8'.cell
      clear hS k8 f8 k5 hV7 e8 e8' e4 e5 e6 hRr hVbr hV3r hVX hG hU hUV hEr
      have hFX2 : Fit k (x * x % n) := hFn.le (Nat.le_of_lt (Nat.mod_lt _ (by omega)))
      have hG : Ext S S := Upd.refl _ _
      refine (bit_any _ b m (i : Int) _ (hVb'.only d8 hUS) hFb (by omega) (by omega)).mono ?_
      rintro e0 w8 ⟨rfl, hU⟩
      rw [if_pos (by omega), Int.toNat_natCast]
      replace hG := hG.trans hU
      have u8' := u8.ext hG
      by_cases hbit : b / 2 ^ i % 2 = 1
      · rw [show ((b / 2 ^ i % 2 : Nat) : Int) = 1 by omega]
        have k8 := u8'.cell
        have k4 := (u4.ext hG).cell
        have Hbit := hide hbit
        clear hbit
        go_wp2_with fail
        clear k8 k4
        have hRS : RingV S g n := by
          obtain ⟨D, ld, cd, g2, hVn, hn2⟩ := hR'
          exact ⟨D, ld, cd, g2.upd hUS (fun h => by unfold only at h; omega), hVn.only d8 hUS, hn2⟩
        refine (mmul_any _ _ g (x * x % n) (a % n) n k _ (hRS.ext hG) (hV7S.ext hG) ((hV3'.only d8 hUS).ext hG) hFX2 (hFn.le (Nat.le_of_lt (Nat.mod_lt _ (by omega)))) hFn (by omega)).mono ?_
        rintro e0 w9 ⟨A9, l9, c9, rfl, hV9, hU9⟩
        have v8 := u8'.ext hU9
        have k8 := v8.cell
        have f8 := v8.frozen
        go_wp2_with fail
        go_roundw
        case rel => exact ⟨i, _, _, _, by omega, by go_num, v8.set _, (hV9.of_eq (by rw [Hx.out]; exact exp_odd Hbit.out)).far k8, (hUS.ext (hG.trans hU9)).setCell (p := ⟨w5.heap.size, 0, none⟩) (.inl rfl) _⟩
        case measure => simp [intOf]
      · have hbit0 : b / 2 ^ i % 2 = 0 := by omega
        rw [show ((b / 2 ^ i % 2 : Nat) : Int) = 0 by omega]
        have Hbit := hide hbit0
        clear hbit hbit0
        go_wp2_with fail
        go_roundw
        case rel => exact ⟨i, _, _, _, by omega, by go_num, u8', (hV7S.ext hG).of_eq (by rw [Hx.out]; exact exp_even Hbit.out), hUS.ext hG⟩
        case measure => simp [intOf]
end Go.Proofs.Ytekpjdfgpggcnaa
