/- The power with which a prime stands in a number, walked. -/
import Derived.Test.YtoekbomfepedcaaCertB
namespace Go.Proofs.Ytoekbomfepedcaa
set_option linter.unusedSimpArgs false
set_option linter.unusedVariables false
open Go.RowKit
open Nt Pk
attribute [local go_sem] steady steadyUpon Cls same_cell anyW
attribute [local irreducible] wpHead wpTree wpHeadR
/-- the power with which p stands in n; 0: it doesn't divide it -/
def pwN (n p : Nat) : Nat := if n % p = 0 then vpow n p else 0
theorem vpow_one {n p : Nat} (hp : 2 ≤ p) (hn : 0 < n) : vpow n p = 1 ↔ n % p ≠ 0 := by
  refine ⟨fun h h0 => ?_, vpow_no⟩
  rw [vpow_yes hp hn h0] at h
  have := vpow_pos (n / p) p hp (Nat.div_pos (Nat.le_of_dvd hn (Nat.dvd_of_mod_eq_zero h0)) (by omega))
  have h2 := Nat.mul_le_mul hp this
  omega
theorem vpow_le {n p : Nat} (hp : 2 ≤ p) (hn : 0 < n) : vpow n p ≤ n := by
  obtain ⟨e, k, h1, h2, h3⟩ := vpow_spec hp n hn
  have hk : 0 < k := Nat.pos_of_ne_zero fun e => by subst e; simp at h3
  rw [h1]
  conv => rhs; rw [h2]
  exact Nat.le_mul_of_pos_right _ hk
set_option maxRecDepth 100000 in
set_option maxHeartbeats 4000000 in
theorem cpower_any (va vb : Value) (n p k : Nat) (w : World) (hVa : NatV w va n) (hVb : NatV w vb p) (hFa : Fit k n) (hFb : Fit k p) (hk : k ≤ 500000) (hp : 2 ≤ p) (hn : 0 < n) :
    Calls Try.prog 135 #[va, vb] w (RetN w (pwN n p)) := by
  obtain ⟨A, la, ca, xs, rfl, -⟩ := hVa.open_
  obtain ⟨B, lb, cb, ys, rfl, -⟩ := hVb.open_
  have hFn : ∀ x, x ≤ n → Fit k x := fun x hx => hFa.le hx
  go_enter Try.func135, Try.ntmps135
  go_wp2_with fail
  refine name_c (fun W hW => ?_)
  have b2 : Box W w.heap.size 33 (.slice A la ca) := by rw [hW]; exact ((Box.new _ _ _).alloc _).alloc _
  have b3 : Box W (w.heap.size + 1) 33 (.slice B lb cb) := by rw [hW]; exact (Box.new_at (by simp)).alloc _
  have b4 : Box W (w.heap.size + 1 + 1) 33 (.slice none 0 0) := by rw [hW]; exact Box.new_at (by simp)
  have hE : Ext w W := by rw [hW]; exact (((Upd.refl _ w).alloc _).alloc _).alloc _
  clear hW
  refine (new_any 1 _ (by omega)).mono ?_
  rintro e w1 ⟨A1, l1, c1, rfl, hV1, hU⟩
  replace b2 := b2.ext hU
  replace b3 := b3.ext hU
  replace b4 := b4.ext hU
  replace hE := hE.trans hU
  clear hU
  go_wp2_with fail
  refine name_w (fun Z hZ => ?_)
  have hEZ : Ext w1 Z := by rw [hZ]; exact (Upd.refl _ _).alloc _
  have b5 : Box Z w1.heap.size 33 (.slice A1 l1 c1) := by rw [hZ]; exact Box.new _ _ _
  clear hZ
  obtain ⟨G, hG⟩ : ∃ G, G = w1.heap.size := ⟨_, rfl⟩
  have hlt : w.heap.size + 1 + 1 < G := by rw [hG]; exact b4.lt
  rw [← hG] at b5 ⊢
  clear hG
  replace b2 := b2.ext hEZ
  replace b3 := b3.ext hEZ
  replace b4 := b4.ext hEZ
  replace hE := hE.trans hEZ
  replace hV1 := hV1.ext hEZ
  have hVb0 := hVb.ext hE
  have hVa0 := hVa.ext hE
  clear hEZ hVa hVb
  go_loopw [] (fun wr => ∃ (x y : Nat) (X : Option Addr) (lX cX : Nat) (Y : Option Addr) (lY cY : Nat), Box wr w.heap.size 33 (.slice X lX cX) ∧ Box wr (w.heap.size + 1) 33 (.slice B lb cb) ∧ Box wr (w.heap.size + 1 + 1) 33 (.slice none 0 0) ∧ Box wr G 33 (.slice Y lY cY) ∧ NatV wr (.agg #[.slice X lX cX]) x ∧ NatV wr (.agg #[.slice Y lY cY]) y ∧ NatV wr (.agg #[.slice B lb cb]) p ∧ 0 < x ∧ x ≤ n ∧ y * vpow x p = vpow n p ∧ 0 < y ∧ (y = 1 → x = n) ∧ Ext w wr) (fun wr => natAt wr w.heap.size)
  case atStart => exact ⟨n, 1, A, la, ca, A1, l1, c1, b2, b3, b4, b5, hVa0, hV1, hVb0, hn, Nat.le_refl _, Nat.one_mul _, by omega, fun _ => rfl, hE⟩
  case round =>
    clear b2 b3 b4 b5 hE hVb0 hVa0 hV1
    obtain ⟨x, y, X, lX, cX, Y, lY, cY, b2, b3, b4, b5, hVx, hVy, hVb, hx0, hxn, hyx, hy0, hy1, hE⟩ := hrel
    have Hyx := hide hyx
    have Hy1 := hide hy1
    have Hx0 := hide hx0
    have Hxn := hide hxn
    have Hvy := hide hVx
    have B2 := hide b2
    have c2 := b2.cell
    have c3 := b3.cell
    have hFx : Fit k x := hFn x hxn
    have hyn : y ≤ n := by
      have h1 := vpow_pos x p hp hx0
      have h2 := Nat.le_mul_of_pos_right y h1
      rw [hyx] at h2
      exact Nat.le_trans h2 (vpow_le hp hn)
    have hFy : Fit k y := hFn y hyn
    clear hyx hy1 hx0 hxn hyn
    go_wp2_with fail
    refine (div_any _ _ x p k _ hVx hVb hFx hFb (by omega) (by omega)).mono ?_
    rintro e w5 ⟨A5, l5, c5, A6, l6, c6, rfl, hV5, hV6, hU5⟩
    have d2 := b2.ext hU5
    have d3 := b3.ext hU5
    have d4 := b4.ext hU5
    have d5 := b5.ext hU5
    clear c2 c3
    go_wp2_with fail
    refine name_c (fun W hW => ?_)
    have hEW : Ext wr W := by rw [hW]; exact (hU5.alloc _).alloc _
    have e6 : Box W w5.heap.size 33 (.slice A5 l5 c5) := by rw [hW]; exact (Box.new _ _ _).alloc _
    have e7 : Box W (w5.heap.size + 1) 33 (.slice A6 l6 c6) := by rw [hW]; exact Box.new_at (by simp)
    have hV5' : NatV W (.agg #[.slice A5 l5 c5]) (x / p) := by rw [hW]; exact hV5.ext (((Upd.refl _ _).alloc _).alloc _)
    have hV6' : NatV W (.agg #[.slice A6 l6 c6]) (x % p) := by rw [hW]; exact hV6.ext (((Upd.refl _ _).alloc _).alloc _)
    have hw5 : wr.heap.size ≤ w5.heap.size := hU5.size
    clear hW d2 d3 d4 d5 hV5 hV6 hU5
    refine (zero_any _ (x % p) _ hV6').mono ?_
    rintro e w8 ⟨rfl, hU8⟩
    have hE8 := hEW.trans hU8
    have f2 := b2.ext hE8
    have f3 := b3.ext hE8
    have f4 := b4.ext hE8
    have f5 := b5.ext hE8
    have f6 := e6.ext hU8
    have hVy8 := hVy.ext hE8
    have hVb8 := hVb.ext hE8
    have hV58 := hV5'.ext hU8
    have hEw := hE.trans hE8
    have b5lt : G < w5.heap.size := Nat.lt_of_lt_of_le b5.lt hw5
    clear hEW hU8 e6 e7 hV5' hV6' b2 b3 b4 b5 hE hVx hVy hVb
    by_cases hr : x % p = 0
    · rw [decide_eq_true hr]
      have Hr := hide hr
      clear hr
      have k3 := fun z : Wd (Upd (only G) w8.drew) => (z.ok.cell (p := ⟨w.heap.size + 1, 0, none⟩) f3.drew.lt (fun h => by unfold only at h; dsimp only at h; omega)).trans f3.drew.cell
      have hG5 : w5.heap.size ≠ G := by have := b5lt; omega
      have k6 := fun z : Wd (Upd (only G) w8.drew) => (z.ok.cell (p := ⟨w5.heap.size, 0, none⟩) f6.drew.lt (fun h => hG5 h)).trans f6.drew.cell
      have k5 := f5.drew.cell
      go_wp2_with fail
      refine wp_region_plan (Upd (only G) _) 5 [(false,1), (false,3), (true,0), (true,2), (true,4)] (by kernel_rfl) (by kernel_rfl) (Upd.refl _ _) (fun hne => ?_)
      repeat (refine head_q rfl (fun K hK => ?_); have hK2 := hide hK; clear hK; go_simp; refine hK2.out _ ?_; clear hK2 K)
      refine head_l rfl ?_
      go_wp2_with fail
      refine ⟨_, fun _ h => h, ⟨⟨_, Upd.refl _ _⟩, rfl⟩, ?_⟩
      refine head_l rfl ?_
      go_wp2_with fail
      refine (mul_any _ _ y p k _ (hVy8.ext (Upd.refl _ _).drew) (hVb8.ext (Upd.refl _ _).drew) hFy hFb (by omega)).mono ?_
      rintro e w9 ⟨A9, l9, c9, rfl, hV9, hU9⟩
      go_wp2_with fail
      refine ⟨_, fun _ h => h, ⟨⟨_, Upd.ofExt hU9⟩, rfl⟩, ?_⟩
      have hE9 : Ext w8 w9 := hU9.undrew
      have g2 := f2.ext hE9
      have g3 := f3.ext hE9
      have g4 := f4.ext hE9
      have g5 := f5.ext hE9
      have hVb9 := hVb8.ext hE9
      have hV59 := hV58.ext hE9
      have hEw9 := hEw.trans hE9
      have r5 := g5.cell
      have z5 := g5.frozen
      refine head_l rfl ?_
      go_wp2_with fail
      refine ⟨_, fun _ h => h, ⟨⟨_, (Upd.ofExt hU9).setCell (T := only G) (p := ⟨G, 0, none⟩) (.inl rfl) _⟩, rfl⟩, ?_⟩
      have g2' := g2.far (p := ⟨G, 0, none⟩) (by simp; omega) (.slice A9 l9 c9)
      have r2 := g2'.cell
      have z2 := g2'.frozen
      have hN2 : NatV ((w9.setCell ⟨G, 0, none⟩ (.slice A9 l9 c9)).setCell ⟨w.heap.size, 0, none⟩ (.slice A5 l5 c5)) (.agg #[.slice A5 l5 c5]) (x / p) := (hV59.far (v := .slice A9 l9 c9) r5).far r2
      have hN9 : NatV ((w9.setCell ⟨G, 0, none⟩ (.slice A9 l9 c9)).setCell ⟨w.heap.size, 0, none⟩ (.slice A5 l5 c5)) (.agg #[.slice A9 l9 c9]) (y * p) := (hV9.far (v := .slice A9 l9 c9) r5).far r2
      have hNb : NatV ((w9.setCell ⟨G, 0, none⟩ (.slice A9 l9 c9)).setCell ⟨w.heap.size, 0, none⟩ (.slice A5 l5 c5)) (.agg #[.slice B lb cb]) p := (hVb9.far (v := .slice A9 l9 c9) r5).far r2
      have HN2 := hide hN2
      have HN9 := hide hN9
      have HNb := hide hNb
      have q2 : Box ((w9.setCell ⟨G, 0, none⟩ (.slice A9 l9 c9)).setCell ⟨w.heap.size, 0, none⟩ (.slice A5 l5 c5)) w.heap.size 33 (.slice A5 l5 c5) := g2'.set _
      have Q2 := hide q2
      have q5 : Box ((w9.setCell ⟨G, 0, none⟩ (.slice A9 l9 c9)).setCell ⟨w.heap.size, 0, none⟩ (.slice A5 l5 c5)) G 33 (.slice A9 l9 c9) := (g5.set _).far (p := ⟨w.heap.size, 0, none⟩) (by simp; omega) _
      have Q5 := hide q5
      have hlt5 : x / p < x := Nat.div_lt_self Hx0.out (by omega)
      have hpos5 : 0 < x / p := Nat.div_pos (Nat.le_of_dvd Hx0.out (Nat.dvd_of_mod_eq_zero Hr.out)) (by omega)
      clear k5 k3 k6 hU9 hE9 hEw hV58 hVb8 hVy8 f2 f3 f4 f5 f6 hN2 hN9 hNb q2 q5 g2' hV59 hVb9 hV9
      refine head_nil ?_
      try simp only [List.drop_succ_cons, List.drop_zero]
      go_wp2_with fail
      go_roundw
      case rel =>
        refine ⟨x / p, y * p, _, _, _, _, _, _, Q2.out, ((g3.far (p := ⟨G, 0, none⟩) (by simp; omega) _).far (p := ⟨w.heap.size, 0, none⟩) (by simp) _), ((g4.far (p := ⟨G, 0, none⟩) (by simp; omega) _).far (p := ⟨w.heap.size, 0, none⟩) (by simp; omega) _), Q5.out, HN2.out, HN9.out, HNb.out, hpos5, Nat.le_trans (Nat.le_of_lt hlt5) Hxn.out, ?_, Nat.mul_pos hy0 (by omega), fun h => ?_, (hEw9.setCell (p := ⟨G, 0, none⟩) (.inr (by simp; omega)) _).setCell (p := ⟨w.heap.size, 0, none⟩) (.inr (Nat.le_refl _)) _⟩
        · rw [Nat.mul_assoc, ← vpow_yes hp Hx0.out Hr.out]; exact Hyx.out
        · have := Nat.mul_le_mul hy0 hp
          omega
      case measure =>
        rw [natAt_eq Q2.out.cell HN2.out, natAt_eq B2.out.cell Hvy.out]
        exact hlt5
    · rw [decide_eq_false hr]
      have Hr := hide hr
      clear hr
      have k5 := fun z : Wd (Ext w8.drew) => (z.ok.cell (p := ⟨G, 0, none⟩) f5.drew.lt (fun h => h)).trans f5.drew.cell
      go_wp2_with fail
      have Hyv : Hid (y = vpow n p) := hide (by have := Hyx.out; rwa [vpow_no Hr.out, Nat.mul_one] at this)
      refine wp_region_plan (Ext _) 3 [(false,0), (true,1), (true,2)] (by kernel_rfl) (by kernel_rfl) (Upd.refl _ _) (fun hne => ?_)
      repeat (refine head_q rfl (fun K hK => ?_); have hK2 := hide hK; clear hK; go_simp; refine hK2.out _ ?_; clear hK2 K)
      refine head_l rfl ?_
      go_wp2_with (refine (new_any 1 _ (by omega)).mono ?_; rintro e w9 ⟨A9, l9, c9, rfl, hV9, hU9⟩)
      refine ⟨Cls (Ext _), fun _ h => h, ⟨⟨_, hU9⟩, rfl⟩, ?_⟩
      repeat (refine head_q rfl (fun K hK => ?_); have hK2 := hide hK; clear hK; go_simp; refine hK2.out _ ?_; clear hK2 K)
      refine head_l rfl ?_
      go_wp2_with (refine (cmp_any _ _ y 1 k _ ((hVy8.ext (Upd.refl _ _).drew).ext hU9) hV9 hFy (hFn 1 hn) (by omega)).mono ?_; rintro e w10 ⟨rfl, hU10⟩)
      refine ⟨Cls (Ext _), fun _ h => h, ⟨⟨_, (hU9.trans hU10)⟩, rfl⟩, ?_⟩
      repeat (refine head_q rfl (fun K hK => ?_); have hK2 := hide hK; clear hK; go_simp; refine hK2.out _ ?_; clear hK2 K)
      have hE10 := (hU9.trans hU10).undrew
      have g4 := f4.ext hE10
      have g5 := f5.ext hE10
      have hVy10 := hVy8.ext hE10
      have hEw10 := hEw.trans hE10
      have c4 := g4.cell
      have z4 := g4.frozen
      have c5 := g5.cell
      clear k5 hU9 hU10 hV9 hE10 hVy8 hVb8 hV58 hEw f2 f3 f4 f5 f6
      refine head_nil ?_
      try simp only [List.drop_succ_cons, List.drop_zero]
      by_cases hy1 : y = 1
      · rw [cmpI_zero.2 hy1]
        have hz : pwN n p = 0 := by
          unfold pwN
          rw [if_neg ((vpow_one hp hn).1 (by rw [← Hyv.out]; exact hy1))]
        go_wp2_with fail
        have q := (g4.set (.slice none 0 0)).cell
        exact bodyPost_ret (v := .agg #[.slice none 0 0]) (by simp [results, Try.results135, go_sem, q]) rfl ⟨_, _, _, rfl, (NatV.nil _).of_eq hz.symm, hEw10.setCell (p := ⟨w.heap.size + 1 + 1, 0, none⟩) (.inr (by simp; omega)) _⟩
      · have hz : ¬ cmpI y 1 = 0 := fun h => hy1 (cmpI_zero.1 h)
        generalize cmpI y 1 = z at hz ⊢
        have hz2 : (z == 0) = false := beq_eq_false_iff_ne.2 hz
        have hpw : pwN n p = y := by
          unfold pwN
          rw [if_pos (Classical.byContradiction fun h => hy1 (by rw [Hyv.out]; exact vpow_no h)), Hyv.out]
        have Hpw := hide hpw
        clear hpw
        go_wp2_with fail
        have q := (g4.set (.slice Y lY cY)).cell
        exact bodyPost_ret (v := .agg #[.slice Y lY cY]) (by simp [results, Try.results135, go_sem, q]) rfl ⟨_, _, _, rfl, (hVy10.far c4).of_eq Hpw.out.symm, hEw10.setCell (p := ⟨w.heap.size + 1 + 1, 0, none⟩) (.inr (by simp; omega)) _⟩
end Go.Proofs.Ytoekbomfepedcaa
