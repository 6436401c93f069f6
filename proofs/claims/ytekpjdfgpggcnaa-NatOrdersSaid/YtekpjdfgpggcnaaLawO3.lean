/- The law on the order of numbers, walked: they rise. -/
import Derived.Test.YtekpjdfgpggcnaaLawB
namespace Go.Proofs.Ytekpjdfgpggcnaa
set_option linter.unusedSimpArgs false
set_option linter.unusedVariables false
open Go.RowKit
open Nt
attribute [local go_sem] steady steadyUpon Cls same_cell by8 str_eq


set_option maxRecDepth 100000 in
set_option maxHeartbeats 8000000 in
theorem norders_zn (A B D : Option Addr) (n c m d q r x y z : Nat) (s s2 s3 : Int) (w : World) (hFx12 : Fit 12 x) (hFy12 : Fit 12 y) (hFz12 : Fit 12 z) (N1 : Hid (∀ w', Ext w w' → Calls Try.prog 19 #[.slice A n c] w' (RetN w' x)))
    (N2 : Hid (∀ w', Ext w w' → Calls Try.prog 19 #[.slice B m d] w' (RetN w' y))) (N3 : Hid (∀ w', Ext w w' → Calls Try.prog 19 #[.slice D q r] w' (RetN w' z)))
    (C12 : Hid (cmpI x y = s)) (C21 : Hid (cmpI y x = -s)) (hs1 : -1 ≤ s) (hs2 : s ≤ 1) (Hse : Hid (decide (toB x (bytelen x) = toB y (bytelen y)) = (s == 0))) (Hz : Hid (decide (z = 0) = false)) (Hzp : Hid (0 < z)) (hs : ¬ 0 < s) (C23 : Hid (cmpI y z = s2)) (hs3 : ¬ 0 < s2) (C13 : Hid (cmpI x z = s3)) (hs4 : s3 ≤ 0) :
    Calls Try.prog 9 #[.slice A n c, .slice B m d, .slice D q r] w fun e w' => e = .returned (.bool true) ∧ Ext w w' := by
  have hFx : Fit 40 x := hFx12.mono (by omega)
  have hFy : Fit 40 y := hFy12.mono (by omega)
  have hFz : Fit 40 z := hFz12.mono (by omega)
  have hFxz : Fit 40 (x + z) := (Fit.add hFx12 hFz12).mono (by omega)
  have hFyz : Fit 40 (y + z) := (Fit.add hFy12 hFz12).mono (by omega)
  have hFmxz : Fit 40 (x * z) := (Fit.mul hFx12 hFz12).mono (by omega)
  have hFmyz : Fit 40 (y * z) := (Fit.mul hFy12 hFz12).mono (by omega)
  have hF1 : Fit 40 1 := by unfold Fit; decide
  have hFx1 : Fit 40 (x + 1) := (Fit.add hFx12 (show Fit 12 1 by unfold Fit; decide)).mono (by omega)
  have hw1 : IntKind.i64.wrap s = s := IntWalk.i64_in _ (by omega)
  have hw2 : IntKind.i64.wrap (- -s) = s := by rw [Int.neg_neg]; exact hw1
  go_enter Try.func9, Try.ntmps9
  go_wp2_with fail
  refine (nlives_any _).mono ?_
  rintro e w1 ⟨rfl, hE⟩
  go_wp2_with fail
  refine (N1.out _ hE).mono ?_
  rintro e w2 ⟨A1, l1, c1, rfl, hVx, hU⟩
  replace hE := hE.trans hU
  go_wp2_with fail
  refine (N2.out _ hE).mono ?_
  rintro e w3 ⟨A2, l2, c2, rfl, hVy, hU⟩
  replace hE := hE.trans hU
  replace hVx := hVx.ext hU
  go_wp2_with fail
  refine (N3.out _ hE).mono ?_
  rintro e w4 ⟨A3, l3, c3, rfl, hVz, hU⟩
  replace hE := hE.trans hU
  replace hVx := hVx.ext hU
  replace hVy := hVy.ext hU
  clear hU
  go_wp2_with fail
  refine name_w (fun W hW => ?_)
  have b7 : Box W w4.heap.size 26 (.slice A1 l1 c1) := by rw [hW]; exact Box.alloc (Box.alloc (Box.new _ _ _) _) _
  have b8 : Box W (w4.heap.size + 1) 26 (.slice A2 l2 c2) := by rw [hW]; exact Box.alloc (Box.new_at (by simp)) _
  have b9 : Box W (w4.heap.size + 1 + 1) 26 (.slice A3 l3 c3) := by rw [hW]; exact Box.new_at (by simp)
  have hEW : Ext w W := by rw [hW]; exact ((hE.alloc _).alloc _).alloc _
  replace hVx : NatV W (.agg #[.slice A1 l1 c1]) x := by rw [hW]; exact hVx.ext ((((Upd.refl _ _).alloc _).alloc _).alloc _)
  replace hVy : NatV W (.agg #[.slice A2 l2 c2]) y := by rw [hW]; exact hVy.ext ((((Upd.refl _ _).alloc _).alloc _).alloc _)
  replace hVz : NatV W (.agg #[.slice A3 l3 c3]) z := by rw [hW]; exact hVz.ext ((((Upd.refl _ _).alloc _).alloc _).alloc _)
  clear hW hE
  -- a region begins in the world W
  have hG : Ext W.drew W.drew := Upd.refl _ _
  -- the loads of box b7 (at block w4.heap.size) in a region that begins in the world W; its fact k7
  have k7 := fun x : Wd (Ext W.drew) => (x.ok.cell (p := ⟨w4.heap.size, 0, none⟩) b7.drew.lt (fun h => h)).trans b7.drew.cell
  -- the loads of box b8 (at block w4.heap.size + 1) in a region that begins in the world W; its fact k8
  have k8 := fun x : Wd (Ext W.drew) => (x.ok.cell (p := ⟨w4.heap.size + 1, 0, none⟩) b8.drew.lt (fun h => h)).trans b8.drew.cell
  -- the loads of box b9 (at block w4.heap.size + 1 + 1) in a region that begins in the world W; its fact k9
  have k9 := fun x : Wd (Ext W.drew) => (x.ok.cell (p := ⟨w4.heap.size + 1 + 1, 0, none⟩) b9.drew.lt (fun h => h)).trans b9.drew.cell
  refine wp_region_plan (Ext _) 21 [(false,0), (false,1), (false,3), (false,4), (true,2), (true,5), (false,6), (false,7), (false,8), (false,9), (false,10), (false,13), (false,16), (true,11), (false,12), (true,14), (false,15), (true,17), (false,18), (false,19), (false,20)] (by kernel_rfl) (by kernel_rfl) (Upd.refl _ _) (fun hne => ?_)
  repeat (refine head_q rfl (fun K hK => ?_); have hK2 := hide hK; clear hK; go_simp; refine hK2.out _ ?_; clear hK2 K)
  -- x y numbers, hVx.ext hG.undrew hVy.ext hG.undrew their lying, hFx hFy their Fit, C12.out the value, w5 world,  more
  refine head_l rfl ?_
  go_wp2_with (go_at_call 24; go_must (refine (cmp_any _ _ x y 40 _ (hVx.ext hG.undrew) (hVy.ext hG.undrew) (hFx) (hFy) (by omega)).mono ?_); rintro e w5 ⟨rfl, hU⟩; rw [C12.out]; replace hG := hG.trans hU)
  refine ⟨Cls (Ext _), fun _ h => h, ⟨⟨_, hG⟩, rfl⟩, ?_⟩
  repeat (refine head_q rfl (fun K hK => ?_); have hK2 := hide hK; clear hK; go_simp; refine hK2.out _ ?_; clear hK2 K)
  -- y x numbers, hVy.ext hG.undrew hVx.ext hG.undrew their lying, hFy hFx their Fit, C21.out the value, w6 world,  more
  refine head_l rfl ?_
  go_wp2_with (go_at_call 24; go_must (refine (cmp_any _ _ y x 40 _ (hVy.ext hG.undrew) (hVx.ext hG.undrew) (hFy) (hFx) (by omega)).mono ?_); rintro e w6 ⟨rfl, hU⟩; rw [C21.out]; replace hG := hG.trans hU)
  refine ⟨Cls (Ext _), fun _ h => h, ⟨⟨_, hG⟩, rfl⟩, ?_⟩
  repeat (refine head_q rfl (fun K hK => ?_); have hK2 := hide hK; clear hK; go_simp; refine hK2.out _ ?_; clear hK2 K)
  -- x y numbers, hVx.ext hG.undrew hVy.ext hG.undrew their lying, hFx hFy their Fit, C12.out the value, w7 world,  more
  refine head_l rfl ?_
  go_wp2_with (go_at_call 24; go_must (refine (cmp_any _ _ x y 40 _ (hVx.ext hG.undrew) (hVy.ext hG.undrew) (hFx) (hFy) (by omega)).mono ?_); rintro e w7 ⟨rfl, hU⟩; rw [C12.out]; replace hG := hG.trans hU)
  refine ⟨Cls (Ext _), fun _ h => h, ⟨⟨_, hG⟩, rfl⟩, ?_⟩
  repeat (refine head_q rfl (fun K hK => ?_); have hK2 := hide hK; clear hK; go_simp; refine hK2.out _ ?_; clear hK2 K)
  refine head_l rfl ?_
  go_wp2_with (go_at_call 36; go_must (refine (least_any _ x 40 _ (hVx.ext hG.undrew) hFx (by omega)).mono ?_); rintro e w8 ⟨A4, c4, rfl, hl4, hO4, hU⟩; have hG' := hG.trans hU)
  refine ⟨Cls (Ext _), cls_narrow hG', ⟨⟨_, Upd.refl _ _⟩, rfl⟩, ?_⟩
  have hcx := nstr_cls (c := c4) hO4.sl hl4
  repeat (refine head_q rfl (fun K hK => ?_); have hK2 := hide hK; clear hK; go_simp; refine hK2.out _ ?_; clear hK2 K)
  refine head_l rfl ?_
  go_wp2_with (go_at_call 36; go_must (refine (least_any _ y 40 _ (hVy.ext hG'.undrew) hFy (by omega)).mono ?_); rintro e w9 ⟨A5, c5, rfl, hl5, hO5, hU'⟩)
  refine ⟨Cls (Ext _), cls_narrow hU', ⟨⟨_, Upd.refl _ _⟩, rfl⟩, ?_⟩
  have hcy := nstr_cls (c := c5) hO5.sl hl5
  have hse := Hse.out
  repeat (refine head_q rfl (fun K hK => ?_); have hK2 := hide hK; clear hK; go_simp; refine hK2.out _ ?_; clear hK2 K)
  refine head_nil ?_
  try simp only [List.drop_succ_cons, List.drop_zero]
  clear hcx hcy hse
  replace hG := hG'.trans hU'
  clear hG' hU'
  -- a region has ended: all is told of the present world
  replace b7 := b7.ext hG.undrew
  replace b8 := b8.ext hG.undrew
  replace b9 := b9.ext hG.undrew
  replace hVx := hVx.ext hG.undrew
  replace hVy := hVy.ext hG.undrew
  replace hVz := hVz.ext hG.undrew
  replace hEW := hEW.trans hG.undrew
  clear hG k7 k8 k9 hU
  go_wp2_with fail
  -- a region begins in the world w9
  have hG : Ext w9.drew w9.drew := Upd.refl _ _
  -- the loads of box b7 (at block w4.heap.size) in a region that begins in the world w9; its fact k7
  have k7 := fun x : Wd (Ext w9.drew) => (x.ok.cell (p := ⟨w4.heap.size, 0, none⟩) b7.drew.lt (fun h => h)).trans b7.drew.cell
  -- the loads of box b8 (at block w4.heap.size + 1) in a region that begins in the world w9; its fact k8
  have k8 := fun x : Wd (Ext w9.drew) => (x.ok.cell (p := ⟨w4.heap.size + 1, 0, none⟩) b8.drew.lt (fun h => h)).trans b8.drew.cell
  -- the loads of box b9 (at block w4.heap.size + 1 + 1) in a region that begins in the world w9; its fact k9
  have k9 := fun x : Wd (Ext w9.drew) => (x.ok.cell (p := ⟨w4.heap.size + 1 + 1, 0, none⟩) b9.drew.lt (fun h => h)).trans b9.drew.cell
  refine wp_region_plan (Ext _) 28 [(false,0), (false,1), (false,3), (false,4), (false,7), (false,8), (true,2), (true,5), (true,6), (true,9), (false,10), (false,11), (false,12), (true,13), (false,14), (false,15), (false,16), (false,17), (false,19), (false,20), (false,23), (false,24), (true,18), (true,21), (true,22), (true,25), (false,26), (false,27)] (by kernel_rfl) (by kernel_rfl) (Upd.refl _ _) (fun hne => ?_)
  repeat (refine head_q rfl (fun K hK => ?_); have hK2 := hide hK; clear hK; go_simp; refine hK2.out _ ?_; clear hK2 K)
  -- x z numbers, hVx.ext hG.undrew hVz.ext hG.undrew their lying, hFx hFz their Fit, hVs name of what is known of the sum, w10 world,  more
  refine head_l rfl ?_
  go_wp2_with (go_at_call 35; go_must (refine (add_any _ _ x z 40 _ (hVx.ext hG.undrew) (hVz.ext hG.undrew) (hFx) (hFz) (by omega)).mono ?_); rintro e w10 ⟨_, _, _, rfl, hVs, hU⟩; replace hG := hG.trans hU)
  refine ⟨Cls (Ext _), fun _ h => h, ⟨⟨_, hG⟩, rfl⟩, ?_⟩
  repeat (refine head_q rfl (fun K hK => ?_); have hK2 := hide hK; clear hK; go_simp; refine hK2.out _ ?_; clear hK2 K)
  -- y z numbers, hVy.ext hG.undrew hVz.ext hG.undrew their lying, hFy hFz their Fit, hVt name of what is known of the sum, w11 world, ; replace hVs := hVs.ext hU more
  refine head_l rfl ?_
  go_wp2_with (go_at_call 35; go_must (refine (add_any _ _ y z 40 _ (hVy.ext hG.undrew) (hVz.ext hG.undrew) (hFy) (hFz) (by omega)).mono ?_); rintro e w11 ⟨_, _, _, rfl, hVt, hU⟩; replace hG := hG.trans hU; replace hVs := hVs.ext hU)
  refine ⟨Cls (Ext _), fun _ h => h, ⟨⟨_, hG⟩, rfl⟩, ?_⟩
  repeat (refine head_q rfl (fun K hK => ?_); have hK2 := hide hK; clear hK; go_simp; refine hK2.out _ ?_; clear hK2 K)
  -- (x + z) (y + z) numbers, hVs hVt their lying, hFxz hFyz their Fit, cmp_shift, C12.out the value, w12 world,  more
  refine head_l rfl ?_
  go_wp2_with (go_at_call 24; go_must (refine (cmp_any _ _ (x + z) (y + z) 40 _ (hVs) (hVt) (hFxz) (hFyz) (by omega)).mono ?_); rintro e w12 ⟨rfl, hU⟩; rw [cmp_shift, C12.out]; replace hG := hG.trans hU)
  refine ⟨Cls (Ext _), fun _ h => h, ⟨⟨_, hG⟩, rfl⟩, ?_⟩
  repeat (refine head_q rfl (fun K hK => ?_); have hK2 := hide hK; clear hK; go_simp; refine hK2.out _ ?_; clear hK2 K)
  -- x y numbers, hVx.ext hG.undrew hVy.ext hG.undrew their lying, hFx hFy their Fit, C12.out the value, w13 world,  more
  refine head_l rfl ?_
  go_wp2_with (go_at_call 24; go_must (refine (cmp_any _ _ x y 40 _ (hVx.ext hG.undrew) (hVy.ext hG.undrew) (hFx) (hFy) (by omega)).mono ?_); rintro e w13 ⟨rfl, hU⟩; rw [C12.out]; replace hG := hG.trans hU)
  refine ⟨Cls (Ext _), fun _ h => h, ⟨⟨_, hG⟩, rfl⟩, ?_⟩
  repeat (refine head_q rfl (fun K hK => ?_); have hK2 := hide hK; clear hK; go_simp; refine hK2.out _ ?_; clear hK2 K)
  refine head_l rfl ?_
  go_wp2_with (go_at_call 23; go_must (refine (zero_any _ z _ (hVz.ext hG.undrew)).mono ?_); rintro e w14 ⟨rfl, hU⟩; rw [Hz.out]; replace hG := hG.trans hU)
  refine ⟨Cls (Ext _), fun _ h => h, ⟨⟨_, hG⟩, rfl⟩, ?_⟩
  repeat (refine head_q rfl (fun K hK => ?_); have hK2 := hide hK; clear hK; go_simp; refine hK2.out _ ?_; clear hK2 K)
  refine head_l rfl ?_
  go_wp2_with (go_at_call 32; go_must (refine (mul_any _ _ x z 40 _ (hVx.ext hG.undrew) (hVz.ext hG.undrew) (hFx) (hFz) (by omega)).mono ?_); rintro e w15 ⟨_, _, _, rfl, hVs, hU⟩; replace hG := hG.trans hU)
  refine ⟨Cls (Ext _), fun _ h => h, ⟨⟨_, hG⟩, rfl⟩, ?_⟩
  repeat (refine head_q rfl (fun K hK => ?_); have hK2 := hide hK; clear hK; go_simp; refine hK2.out _ ?_; clear hK2 K)
  refine head_l rfl ?_
  go_wp2_with (go_at_call 32; go_must (refine (mul_any _ _ y z 40 _ (hVy.ext hG.undrew) (hVz.ext hG.undrew) (hFy) (hFz) (by omega)).mono ?_); rintro e w16 ⟨_, _, _, rfl, hVt, hU⟩; replace hG := hG.trans hU; replace hVs := hVs.ext hU)
  refine ⟨Cls (Ext _), fun _ h => h, ⟨⟨_, hG⟩, rfl⟩, ?_⟩
  repeat (refine head_q rfl (fun K hK => ?_); have hK2 := hide hK; clear hK; go_simp; refine hK2.out _ ?_; clear hK2 K)
  -- (x * z) (y * z) numbers, hVs hVt their lying, hFmxz hFmyz their Fit, cmp_scale Hzp.out, C12.out the value, w17 world,  more
  refine head_l rfl ?_
  go_wp2_with (go_at_call 24; go_must (refine (cmp_any _ _ (x * z) (y * z) 40 _ (hVs) (hVt) (hFmxz) (hFmyz) (by omega)).mono ?_); rintro e w17 ⟨rfl, hU⟩; rw [cmp_scale Hzp.out, C12.out]; replace hG := hG.trans hU)
  refine ⟨Cls (Ext _), fun _ h => h, ⟨⟨_, hG⟩, rfl⟩, ?_⟩
  repeat (refine head_q rfl (fun K hK => ?_); have hK2 := hide hK; clear hK; go_simp; refine hK2.out _ ?_; clear hK2 K)
  -- x y numbers, hVx.ext hG.undrew hVy.ext hG.undrew their lying, hFx hFy their Fit, C12.out the value, w18 world,  more
  refine head_l rfl ?_
  go_wp2_with (go_at_call 24; go_must (refine (cmp_any _ _ x y 40 _ (hVx.ext hG.undrew) (hVy.ext hG.undrew) (hFx) (hFy) (by omega)).mono ?_); rintro e w18 ⟨rfl, hU⟩; rw [C12.out]; replace hG := hG.trans hU)
  refine ⟨Cls (Ext _), fun _ h => h, ⟨⟨_, hG⟩, rfl⟩, ?_⟩
  repeat (refine head_q rfl (fun K hK => ?_); have hK2 := hide hK; clear hK; go_simp; refine hK2.out _ ?_; clear hK2 K)
  refine head_nil ?_
  try simp only [List.drop_succ_cons, List.drop_zero]
  -- a region has ended: all is told of the present world
  replace b7 := b7.ext hG.undrew
  replace b8 := b8.ext hG.undrew
  replace b9 := b9.ext hG.undrew
  replace hVx := hVx.ext hG.undrew
  replace hVy := hVy.ext hG.undrew
  replace hVz := hVz.ext hG.undrew
  replace hEW := hEW.trans hG.undrew
  clear hG k7 k8 k9 hU
  go_wp2_with fail
  -- w18 the world
  -- a region begins in the world w18
  have hG : Ext w18.drew w18.drew := Upd.refl _ _
  -- the loads of box b7 (at block w4.heap.size) in a region that begins in the world w18; its fact k7
  have k7 := fun x : Wd (Ext w18.drew) => (x.ok.cell (p := ⟨w4.heap.size, 0, none⟩) b7.drew.lt (fun h => h)).trans b7.drew.cell
  -- the loads of box b8 (at block w4.heap.size + 1) in a region that begins in the world w18; its fact k8
  have k8 := fun x : Wd (Ext w18.drew) => (x.ok.cell (p := ⟨w4.heap.size + 1, 0, none⟩) b8.drew.lt (fun h => h)).trans b8.drew.cell
  -- the loads of box b9 (at block w4.heap.size + 1 + 1) in a region that begins in the world w18; its fact k9
  have k9 := fun x : Wd (Ext w18.drew) => (x.ok.cell (p := ⟨w4.heap.size + 1 + 1, 0, none⟩) b9.drew.lt (fun h => h)).trans b9.drew.cell
  refine wp_region_plan (Ext _) 24 [(false,0), (false,3), (true,1), (true,2), (true,4), (false,5), (false,6), (false,7), (false,8), (true,9), (false,10), (false,11), (false,12), (false,13), (true,14), (false,15), (false,16), (false,17), (false,18), (false,19), (true,20), (false,21), (false,22), (false,23)] (by kernel_rfl) (by kernel_rfl) (Upd.refl _ _) (fun hne => ?_)
  repeat (refine head_q rfl (fun K hK => ?_); have hK2 := hide hK; clear hK; go_simp; refine hK2.out _ ?_; clear hK2 K)
  refine head_l rfl ?_
  go_wp2_with (go_at_call 29; go_must (refine (new_any 1 _ (by omega)).mono ?_); rintro e w20 ⟨_, _, _, rfl, hVs, hU⟩; replace hG := hG.trans hU)
  refine ⟨Cls (Ext _), fun _ h => h, ⟨⟨_, hG⟩, rfl⟩, ?_⟩
  repeat (refine head_q rfl (fun K hK => ?_); have hK2 := hide hK; clear hK; go_simp; refine hK2.out _ ?_; clear hK2 K)
  -- x 1 numbers, hVx.ext hG.undrew hVs their lying, hFx hF1 their Fit, hVt name of what is known of the sum, w21 world,  more
  refine head_l rfl ?_
  go_wp2_with (go_at_call 35; go_must (refine (add_any _ _ x 1 40 _ (hVx.ext hG.undrew) (hVs) (hFx) (hF1) (by omega)).mono ?_); rintro e w21 ⟨_, _, _, rfl, hVt, hU⟩; replace hG := hG.trans hU)
  refine ⟨Cls (Ext _), fun _ h => h, ⟨⟨_, hG⟩, rfl⟩, ?_⟩
  repeat (refine head_q rfl (fun K hK => ?_); have hK2 := hide hK; clear hK; go_simp; refine hK2.out _ ?_; clear hK2 K)
  -- (x + 1) x numbers, hVt hVx.ext hG.undrew their lying, hFx1 hFx their Fit, cmpI_gt (Nat.lt_succ_self x) the value, w22 world,  more
  refine head_l rfl ?_
  go_wp2_with (go_at_call 24; go_must (refine (cmp_any _ _ (x + 1) x 40 _ (hVt) (hVx.ext hG.undrew) (hFx1) (hFx) (by omega)).mono ?_); rintro e w22 ⟨rfl, hU⟩; rw [cmpI_gt (Nat.lt_succ_self x)]; replace hG := hG.trans hU)
  refine ⟨Cls (Ext _), fun _ h => h, ⟨⟨_, hG⟩, rfl⟩, ?_⟩
  repeat (refine head_q rfl (fun K hK => ?_); have hK2 := hide hK; clear hK; go_simp; refine hK2.out _ ?_; clear hK2 K)
  -- x y numbers, hVx.ext hG.undrew hVy.ext hG.undrew their lying, hFx hFy their Fit, C12.out the value, w23 world,  more
  refine head_l rfl ?_
  go_wp2_with (go_at_call 24; go_must (refine (cmp_any _ _ x y 40 _ (hVx.ext hG.undrew) (hVy.ext hG.undrew) (hFx) (hFy) (by omega)).mono ?_); rintro e w23 ⟨rfl, hU⟩; rw [C12.out]; replace hG := hG.trans hU)
  refine ⟨Cls (Ext _), fun _ h => h, ⟨⟨_, hG⟩, rfl⟩, ?_⟩
  repeat (refine head_q rfl (fun K hK => ?_); have hK2 := hide hK; clear hK; go_simp; refine hK2.out _ ?_; clear hK2 K)
  -- y z numbers, hVy.ext hG.undrew hVz.ext hG.undrew their lying, hFy hFz their Fit, C23.out the value, w24 world,  more
  refine head_l rfl ?_
  go_wp2_with (go_at_call 24; go_must (refine (cmp_any _ _ y z 40 _ (hVy.ext hG.undrew) (hVz.ext hG.undrew) (hFy) (hFz) (by omega)).mono ?_); rintro e w24 ⟨rfl, hU⟩; rw [C23.out]; replace hG := hG.trans hU)
  refine ⟨Cls (Ext _), fun _ h => h, ⟨⟨_, hG⟩, rfl⟩, ?_⟩
  repeat (refine head_q rfl (fun K hK => ?_); have hK2 := hide hK; clear hK; go_simp; refine hK2.out _ ?_; clear hK2 K)
  -- x z numbers, hVx.ext hG.undrew hVz.ext hG.undrew their lying, hFx hFz their Fit, C13.out the value, w25 world,  more
  refine head_l rfl ?_
  go_wp2_with (go_at_call 24; go_must (refine (cmp_any _ _ x z 40 _ (hVx.ext hG.undrew) (hVz.ext hG.undrew) (hFx) (hFz) (by omega)).mono ?_); rintro e w25 ⟨rfl, hU⟩; rw [C13.out]; replace hG := hG.trans hU)
  refine ⟨Cls (Ext _), fun _ h => h, ⟨⟨_, hG⟩, rfl⟩, ?_⟩
  repeat (refine head_q rfl (fun K hK => ?_); have hK2 := hide hK; clear hK; go_simp; refine hK2.out _ ?_; clear hK2 K)
  refine head_nil ?_
  try simp only [List.drop_succ_cons, List.drop_zero]
  go_wp2_with fail
  go_ret
  exact ⟨rfl, hEW.trans hG.undrew⟩
set_option maxRecDepth 100000 in
set_option maxHeartbeats 8000000 in
theorem norders_zz (A B D : Option Addr) (n c m d q r x y z : Nat) (s s2 s3 : Int) (w : World) (hFx12 : Fit 12 x) (hFy12 : Fit 12 y) (hFz12 : Fit 12 z) (N1 : Hid (∀ w', Ext w w' → Calls Try.prog 19 #[.slice A n c] w' (RetN w' x)))
    (N2 : Hid (∀ w', Ext w w' → Calls Try.prog 19 #[.slice B m d] w' (RetN w' y))) (N3 : Hid (∀ w', Ext w w' → Calls Try.prog 19 #[.slice D q r] w' (RetN w' z)))
    (C12 : Hid (cmpI x y = s)) (C21 : Hid (cmpI y x = -s)) (hs1 : -1 ≤ s) (hs2 : s ≤ 1) (Hse : Hid (decide (toB x (bytelen x) = toB y (bytelen y)) = (s == 0))) (Hz : Hid (decide (z = 0) = true)) (hs : ¬ 0 < s) (C23 : Hid (cmpI y z = s2)) (hs3 : ¬ 0 < s2) (C13 : Hid (cmpI x z = s3)) (hs4 : s3 ≤ 0) :
    Calls Try.prog 9 #[.slice A n c, .slice B m d, .slice D q r] w fun e w' => e = .returned (.bool true) ∧ Ext w w' := by
  have hFx : Fit 40 x := hFx12.mono (by omega)
  have hFy : Fit 40 y := hFy12.mono (by omega)
  have hFz : Fit 40 z := hFz12.mono (by omega)
  have hFxz : Fit 40 (x + z) := (Fit.add hFx12 hFz12).mono (by omega)
  have hFyz : Fit 40 (y + z) := (Fit.add hFy12 hFz12).mono (by omega)
  have hFmxz : Fit 40 (x * z) := (Fit.mul hFx12 hFz12).mono (by omega)
  have hFmyz : Fit 40 (y * z) := (Fit.mul hFy12 hFz12).mono (by omega)
  have hF1 : Fit 40 1 := by unfold Fit; decide
  have hFx1 : Fit 40 (x + 1) := (Fit.add hFx12 (show Fit 12 1 by unfold Fit; decide)).mono (by omega)
  have hw1 : IntKind.i64.wrap s = s := IntWalk.i64_in _ (by omega)
  have hw2 : IntKind.i64.wrap (- -s) = s := by rw [Int.neg_neg]; exact hw1
  go_enter Try.func9, Try.ntmps9
  go_wp2_with fail
  refine (nlives_any _).mono ?_
  rintro e w1 ⟨rfl, hE⟩
  go_wp2_with fail
  refine (N1.out _ hE).mono ?_
  rintro e w2 ⟨A1, l1, c1, rfl, hVx, hU⟩
  replace hE := hE.trans hU
  go_wp2_with fail
  refine (N2.out _ hE).mono ?_
  rintro e w3 ⟨A2, l2, c2, rfl, hVy, hU⟩
  replace hE := hE.trans hU
  replace hVx := hVx.ext hU
  go_wp2_with fail
  refine (N3.out _ hE).mono ?_
  rintro e w4 ⟨A3, l3, c3, rfl, hVz, hU⟩
  replace hE := hE.trans hU
  replace hVx := hVx.ext hU
  replace hVy := hVy.ext hU
  clear hU
  go_wp2_with fail
  refine name_w (fun W hW => ?_)
  have b7 : Box W w4.heap.size 26 (.slice A1 l1 c1) := by rw [hW]; exact Box.alloc (Box.alloc (Box.new _ _ _) _) _
  have b8 : Box W (w4.heap.size + 1) 26 (.slice A2 l2 c2) := by rw [hW]; exact Box.alloc (Box.new_at (by simp)) _
  have b9 : Box W (w4.heap.size + 1 + 1) 26 (.slice A3 l3 c3) := by rw [hW]; exact Box.new_at (by simp)
  have hEW : Ext w W := by rw [hW]; exact ((hE.alloc _).alloc _).alloc _
  replace hVx : NatV W (.agg #[.slice A1 l1 c1]) x := by rw [hW]; exact hVx.ext ((((Upd.refl _ _).alloc _).alloc _).alloc _)
  replace hVy : NatV W (.agg #[.slice A2 l2 c2]) y := by rw [hW]; exact hVy.ext ((((Upd.refl _ _).alloc _).alloc _).alloc _)
  replace hVz : NatV W (.agg #[.slice A3 l3 c3]) z := by rw [hW]; exact hVz.ext ((((Upd.refl _ _).alloc _).alloc _).alloc _)
  clear hW hE
  -- a region begins in the world W
  have hG : Ext W.drew W.drew := Upd.refl _ _
  -- the loads of box b7 (at block w4.heap.size) in a region that begins in the world W; its fact k7
  have k7 := fun x : Wd (Ext W.drew) => (x.ok.cell (p := ⟨w4.heap.size, 0, none⟩) b7.drew.lt (fun h => h)).trans b7.drew.cell
  -- the loads of box b8 (at block w4.heap.size + 1) in a region that begins in the world W; its fact k8
  have k8 := fun x : Wd (Ext W.drew) => (x.ok.cell (p := ⟨w4.heap.size + 1, 0, none⟩) b8.drew.lt (fun h => h)).trans b8.drew.cell
  -- the loads of box b9 (at block w4.heap.size + 1 + 1) in a region that begins in the world W; its fact k9
  have k9 := fun x : Wd (Ext W.drew) => (x.ok.cell (p := ⟨w4.heap.size + 1 + 1, 0, none⟩) b9.drew.lt (fun h => h)).trans b9.drew.cell
  refine wp_region_plan (Ext _) 21 [(false,0), (false,1), (false,3), (false,4), (true,2), (true,5), (false,6), (false,7), (false,8), (false,9), (false,10), (false,13), (false,16), (true,11), (false,12), (true,14), (false,15), (true,17), (false,18), (false,19), (false,20)] (by kernel_rfl) (by kernel_rfl) (Upd.refl _ _) (fun hne => ?_)
  repeat (refine head_q rfl (fun K hK => ?_); have hK2 := hide hK; clear hK; go_simp; refine hK2.out _ ?_; clear hK2 K)
  -- x y numbers, hVx.ext hG.undrew hVy.ext hG.undrew their lying, hFx hFy their Fit, C12.out the value, w5 world,  more
  refine head_l rfl ?_
  go_wp2_with (go_at_call 24; go_must (refine (cmp_any _ _ x y 40 _ (hVx.ext hG.undrew) (hVy.ext hG.undrew) (hFx) (hFy) (by omega)).mono ?_); rintro e w5 ⟨rfl, hU⟩; rw [C12.out]; replace hG := hG.trans hU)
  refine ⟨Cls (Ext _), fun _ h => h, ⟨⟨_, hG⟩, rfl⟩, ?_⟩
  repeat (refine head_q rfl (fun K hK => ?_); have hK2 := hide hK; clear hK; go_simp; refine hK2.out _ ?_; clear hK2 K)
  -- y x numbers, hVy.ext hG.undrew hVx.ext hG.undrew their lying, hFy hFx their Fit, C21.out the value, w6 world,  more
  refine head_l rfl ?_
  go_wp2_with (go_at_call 24; go_must (refine (cmp_any _ _ y x 40 _ (hVy.ext hG.undrew) (hVx.ext hG.undrew) (hFy) (hFx) (by omega)).mono ?_); rintro e w6 ⟨rfl, hU⟩; rw [C21.out]; replace hG := hG.trans hU)
  refine ⟨Cls (Ext _), fun _ h => h, ⟨⟨_, hG⟩, rfl⟩, ?_⟩
  repeat (refine head_q rfl (fun K hK => ?_); have hK2 := hide hK; clear hK; go_simp; refine hK2.out _ ?_; clear hK2 K)
  -- x y numbers, hVx.ext hG.undrew hVy.ext hG.undrew their lying, hFx hFy their Fit, C12.out the value, w7 world,  more
  refine head_l rfl ?_
  go_wp2_with (go_at_call 24; go_must (refine (cmp_any _ _ x y 40 _ (hVx.ext hG.undrew) (hVy.ext hG.undrew) (hFx) (hFy) (by omega)).mono ?_); rintro e w7 ⟨rfl, hU⟩; rw [C12.out]; replace hG := hG.trans hU)
  refine ⟨Cls (Ext _), fun _ h => h, ⟨⟨_, hG⟩, rfl⟩, ?_⟩
  repeat (refine head_q rfl (fun K hK => ?_); have hK2 := hide hK; clear hK; go_simp; refine hK2.out _ ?_; clear hK2 K)
  refine head_l rfl ?_
  go_wp2_with (go_at_call 36; go_must (refine (least_any _ x 40 _ (hVx.ext hG.undrew) hFx (by omega)).mono ?_); rintro e w8 ⟨A4, c4, rfl, hl4, hO4, hU⟩; have hG' := hG.trans hU)
  refine ⟨Cls (Ext _), cls_narrow hG', ⟨⟨_, Upd.refl _ _⟩, rfl⟩, ?_⟩
  have hcx := nstr_cls (c := c4) hO4.sl hl4
  repeat (refine head_q rfl (fun K hK => ?_); have hK2 := hide hK; clear hK; go_simp; refine hK2.out _ ?_; clear hK2 K)
  refine head_l rfl ?_
  go_wp2_with (go_at_call 36; go_must (refine (least_any _ y 40 _ (hVy.ext hG'.undrew) hFy (by omega)).mono ?_); rintro e w9 ⟨A5, c5, rfl, hl5, hO5, hU'⟩)
  refine ⟨Cls (Ext _), cls_narrow hU', ⟨⟨_, Upd.refl _ _⟩, rfl⟩, ?_⟩
  have hcy := nstr_cls (c := c5) hO5.sl hl5
  have hse := Hse.out
  repeat (refine head_q rfl (fun K hK => ?_); have hK2 := hide hK; clear hK; go_simp; refine hK2.out _ ?_; clear hK2 K)
  refine head_nil ?_
  try simp only [List.drop_succ_cons, List.drop_zero]
  clear hcx hcy hse
  replace hG := hG'.trans hU'
  clear hG' hU'
  -- a region has ended: all is told of the present world
  replace b7 := b7.ext hG.undrew
  replace b8 := b8.ext hG.undrew
  replace b9 := b9.ext hG.undrew
  replace hVx := hVx.ext hG.undrew
  replace hVy := hVy.ext hG.undrew
  replace hVz := hVz.ext hG.undrew
  replace hEW := hEW.trans hG.undrew
  clear hG k7 k8 k9 hU
  go_wp2_with fail
  -- a region begins in the world w9
  have hG : Ext w9.drew w9.drew := Upd.refl _ _
  -- the loads of box b7 (at block w4.heap.size) in a region that begins in the world w9; its fact k7
  have k7 := fun x : Wd (Ext w9.drew) => (x.ok.cell (p := ⟨w4.heap.size, 0, none⟩) b7.drew.lt (fun h => h)).trans b7.drew.cell
  -- the loads of box b8 (at block w4.heap.size + 1) in a region that begins in the world w9; its fact k8
  have k8 := fun x : Wd (Ext w9.drew) => (x.ok.cell (p := ⟨w4.heap.size + 1, 0, none⟩) b8.drew.lt (fun h => h)).trans b8.drew.cell
  -- the loads of box b9 (at block w4.heap.size + 1 + 1) in a region that begins in the world w9; its fact k9
  have k9 := fun x : Wd (Ext w9.drew) => (x.ok.cell (p := ⟨w4.heap.size + 1 + 1, 0, none⟩) b9.drew.lt (fun h => h)).trans b9.drew.cell
  refine wp_region_plan (Ext _) 28 [(false,0), (false,1), (false,3), (false,4), (false,7), (false,8), (true,2), (true,5), (true,6), (true,9), (false,10), (false,11), (false,12), (true,13), (false,14), (false,15), (false,16), (false,17), (false,19), (false,20), (false,23), (false,24), (true,18), (true,21), (true,22), (true,25), (false,26), (false,27)] (by kernel_rfl) (by kernel_rfl) (Upd.refl _ _) (fun hne => ?_)
  repeat (refine head_q rfl (fun K hK => ?_); have hK2 := hide hK; clear hK; go_simp; refine hK2.out _ ?_; clear hK2 K)
  -- x z numbers, hVx.ext hG.undrew hVz.ext hG.undrew their lying, hFx hFz their Fit, hVs name of what is known of the sum, w10 world,  more
  refine head_l rfl ?_
  go_wp2_with (go_at_call 35; go_must (refine (add_any _ _ x z 40 _ (hVx.ext hG.undrew) (hVz.ext hG.undrew) (hFx) (hFz) (by omega)).mono ?_); rintro e w10 ⟨_, _, _, rfl, hVs, hU⟩; replace hG := hG.trans hU)
  refine ⟨Cls (Ext _), fun _ h => h, ⟨⟨_, hG⟩, rfl⟩, ?_⟩
  repeat (refine head_q rfl (fun K hK => ?_); have hK2 := hide hK; clear hK; go_simp; refine hK2.out _ ?_; clear hK2 K)
  -- y z numbers, hVy.ext hG.undrew hVz.ext hG.undrew their lying, hFy hFz their Fit, hVt name of what is known of the sum, w11 world, ; replace hVs := hVs.ext hU more
  refine head_l rfl ?_
  go_wp2_with (go_at_call 35; go_must (refine (add_any _ _ y z 40 _ (hVy.ext hG.undrew) (hVz.ext hG.undrew) (hFy) (hFz) (by omega)).mono ?_); rintro e w11 ⟨_, _, _, rfl, hVt, hU⟩; replace hG := hG.trans hU; replace hVs := hVs.ext hU)
  refine ⟨Cls (Ext _), fun _ h => h, ⟨⟨_, hG⟩, rfl⟩, ?_⟩
  repeat (refine head_q rfl (fun K hK => ?_); have hK2 := hide hK; clear hK; go_simp; refine hK2.out _ ?_; clear hK2 K)
  -- (x + z) (y + z) numbers, hVs hVt their lying, hFxz hFyz their Fit, cmp_shift, C12.out the value, w12 world,  more
  refine head_l rfl ?_
  go_wp2_with (go_at_call 24; go_must (refine (cmp_any _ _ (x + z) (y + z) 40 _ (hVs) (hVt) (hFxz) (hFyz) (by omega)).mono ?_); rintro e w12 ⟨rfl, hU⟩; rw [cmp_shift, C12.out]; replace hG := hG.trans hU)
  refine ⟨Cls (Ext _), fun _ h => h, ⟨⟨_, hG⟩, rfl⟩, ?_⟩
  repeat (refine head_q rfl (fun K hK => ?_); have hK2 := hide hK; clear hK; go_simp; refine hK2.out _ ?_; clear hK2 K)
  -- x y numbers, hVx.ext hG.undrew hVy.ext hG.undrew their lying, hFx hFy their Fit, C12.out the value, w13 world,  more
  refine head_l rfl ?_
  go_wp2_with (go_at_call 24; go_must (refine (cmp_any _ _ x y 40 _ (hVx.ext hG.undrew) (hVy.ext hG.undrew) (hFx) (hFy) (by omega)).mono ?_); rintro e w13 ⟨rfl, hU⟩; rw [C12.out]; replace hG := hG.trans hU)
  refine ⟨Cls (Ext _), fun _ h => h, ⟨⟨_, hG⟩, rfl⟩, ?_⟩
  repeat (refine head_q rfl (fun K hK => ?_); have hK2 := hide hK; clear hK; go_simp; refine hK2.out _ ?_; clear hK2 K)
  refine head_l rfl ?_
  go_wp2_with (go_at_call 23; go_must (refine (zero_any _ z _ (hVz.ext hG.undrew)).mono ?_); rintro e w14 ⟨rfl, hU⟩; rw [Hz.out]; replace hG := hG.trans hU)
  refine ⟨Cls (Ext _), fun _ h => h, ⟨⟨_, hG⟩, rfl⟩, ?_⟩
  repeat (refine head_q rfl (fun K hK => ?_); have hK2 := hide hK; clear hK; go_simp; refine hK2.out _ ?_; clear hK2 K)
  refine head_l rfl ?_
  go_wp2_with fail
  refine ⟨Cls (Ext _), fun _ h => h, ⟨⟨_, hG⟩, rfl⟩, ?_⟩
  repeat (refine head_q rfl (fun K hK => ?_); have hK2 := hide hK; clear hK; go_simp; refine hK2.out _ ?_; clear hK2 K)
  refine head_l rfl ?_
  go_wp2_with fail
  refine ⟨Cls (Ext _), fun _ h => h, ⟨⟨_, hG⟩, rfl⟩, ?_⟩
  repeat (refine head_q rfl (fun K hK => ?_); have hK2 := hide hK; clear hK; go_simp; refine hK2.out _ ?_; clear hK2 K)
  refine head_l rfl ?_
  go_wp2_with fail
  refine ⟨Cls (Ext _), fun _ h => h, ⟨⟨_, hG⟩, rfl⟩, ?_⟩
  repeat (refine head_q rfl (fun K hK => ?_); have hK2 := hide hK; clear hK; go_simp; refine hK2.out _ ?_; clear hK2 K)
  refine head_l rfl ?_
  go_wp2_with fail
  refine ⟨Cls (Ext _), fun _ h => h, ⟨⟨_, hG⟩, rfl⟩, ?_⟩
  repeat (refine head_q rfl (fun K hK => ?_); have hK2 := hide hK; clear hK; go_simp; refine hK2.out _ ?_; clear hK2 K)
  refine head_nil ?_
  try simp only [List.drop_succ_cons, List.drop_zero]
  -- a region has ended: all is told of the present world
  replace b7 := b7.ext hG.undrew
  replace b8 := b8.ext hG.undrew
  replace b9 := b9.ext hG.undrew
  replace hVx := hVx.ext hG.undrew
  replace hVy := hVy.ext hG.undrew
  replace hVz := hVz.ext hG.undrew
  replace hEW := hEW.trans hG.undrew
  clear hG k7 k8 k9 hU
  go_wp2_with fail
  -- w14 the world
  -- a region begins in the world w14
  have hG : Ext w14.drew w14.drew := Upd.refl _ _
  -- the loads of box b7 (at block w4.heap.size) in a region that begins in the world w14; its fact k7
  have k7 := fun x : Wd (Ext w14.drew) => (x.ok.cell (p := ⟨w4.heap.size, 0, none⟩) b7.drew.lt (fun h => h)).trans b7.drew.cell
  -- the loads of box b8 (at block w4.heap.size + 1) in a region that begins in the world w14; its fact k8
  have k8 := fun x : Wd (Ext w14.drew) => (x.ok.cell (p := ⟨w4.heap.size + 1, 0, none⟩) b8.drew.lt (fun h => h)).trans b8.drew.cell
  -- the loads of box b9 (at block w4.heap.size + 1 + 1) in a region that begins in the world w14; its fact k9
  have k9 := fun x : Wd (Ext w14.drew) => (x.ok.cell (p := ⟨w4.heap.size + 1 + 1, 0, none⟩) b9.drew.lt (fun h => h)).trans b9.drew.cell
  refine wp_region_plan (Ext _) 24 [(false,0), (false,3), (true,1), (true,2), (true,4), (false,5), (false,6), (false,7), (false,8), (true,9), (false,10), (false,11), (false,12), (false,13), (true,14), (false,15), (false,16), (false,17), (false,18), (false,19), (true,20), (false,21), (false,22), (false,23)] (by kernel_rfl) (by kernel_rfl) (Upd.refl _ _) (fun hne => ?_)
  repeat (refine head_q rfl (fun K hK => ?_); have hK2 := hide hK; clear hK; go_simp; refine hK2.out _ ?_; clear hK2 K)
  refine head_l rfl ?_
  go_wp2_with (go_at_call 29; go_must (refine (new_any 1 _ (by omega)).mono ?_); rintro e w20 ⟨_, _, _, rfl, hVs, hU⟩; replace hG := hG.trans hU)
  refine ⟨Cls (Ext _), fun _ h => h, ⟨⟨_, hG⟩, rfl⟩, ?_⟩
  repeat (refine head_q rfl (fun K hK => ?_); have hK2 := hide hK; clear hK; go_simp; refine hK2.out _ ?_; clear hK2 K)
  -- x 1 numbers, hVx.ext hG.undrew hVs their lying, hFx hF1 their Fit, hVt name of what is known of the sum, w21 world,  more
  refine head_l rfl ?_
  go_wp2_with (go_at_call 35; go_must (refine (add_any _ _ x 1 40 _ (hVx.ext hG.undrew) (hVs) (hFx) (hF1) (by omega)).mono ?_); rintro e w21 ⟨_, _, _, rfl, hVt, hU⟩; replace hG := hG.trans hU)
  refine ⟨Cls (Ext _), fun _ h => h, ⟨⟨_, hG⟩, rfl⟩, ?_⟩
  repeat (refine head_q rfl (fun K hK => ?_); have hK2 := hide hK; clear hK; go_simp; refine hK2.out _ ?_; clear hK2 K)
  -- (x + 1) x numbers, hVt hVx.ext hG.undrew their lying, hFx1 hFx their Fit, cmpI_gt (Nat.lt_succ_self x) the value, w22 world,  more
  refine head_l rfl ?_
  go_wp2_with (go_at_call 24; go_must (refine (cmp_any _ _ (x + 1) x 40 _ (hVt) (hVx.ext hG.undrew) (hFx1) (hFx) (by omega)).mono ?_); rintro e w22 ⟨rfl, hU⟩; rw [cmpI_gt (Nat.lt_succ_self x)]; replace hG := hG.trans hU)
  refine ⟨Cls (Ext _), fun _ h => h, ⟨⟨_, hG⟩, rfl⟩, ?_⟩
  repeat (refine head_q rfl (fun K hK => ?_); have hK2 := hide hK; clear hK; go_simp; refine hK2.out _ ?_; clear hK2 K)
  -- x y numbers, hVx.ext hG.undrew hVy.ext hG.undrew their lying, hFx hFy their Fit, C12.out the value, w23 world,  more
  refine head_l rfl ?_
  go_wp2_with (go_at_call 24; go_must (refine (cmp_any _ _ x y 40 _ (hVx.ext hG.undrew) (hVy.ext hG.undrew) (hFx) (hFy) (by omega)).mono ?_); rintro e w23 ⟨rfl, hU⟩; rw [C12.out]; replace hG := hG.trans hU)
  refine ⟨Cls (Ext _), fun _ h => h, ⟨⟨_, hG⟩, rfl⟩, ?_⟩
  repeat (refine head_q rfl (fun K hK => ?_); have hK2 := hide hK; clear hK; go_simp; refine hK2.out _ ?_; clear hK2 K)
  -- y z numbers, hVy.ext hG.undrew hVz.ext hG.undrew their lying, hFy hFz their Fit, C23.out the value, w24 world,  more
  refine head_l rfl ?_
  go_wp2_with (go_at_call 24; go_must (refine (cmp_any _ _ y z 40 _ (hVy.ext hG.undrew) (hVz.ext hG.undrew) (hFy) (hFz) (by omega)).mono ?_); rintro e w24 ⟨rfl, hU⟩; rw [C23.out]; replace hG := hG.trans hU)
  refine ⟨Cls (Ext _), fun _ h => h, ⟨⟨_, hG⟩, rfl⟩, ?_⟩
  repeat (refine head_q rfl (fun K hK => ?_); have hK2 := hide hK; clear hK; go_simp; refine hK2.out _ ?_; clear hK2 K)
  -- x z numbers, hVx.ext hG.undrew hVz.ext hG.undrew their lying, hFx hFz their Fit, C13.out the value, w25 world,  more
  refine head_l rfl ?_
  go_wp2_with (go_at_call 24; go_must (refine (cmp_any _ _ x z 40 _ (hVx.ext hG.undrew) (hVz.ext hG.undrew) (hFx) (hFz) (by omega)).mono ?_); rintro e w25 ⟨rfl, hU⟩; rw [C13.out]; replace hG := hG.trans hU)
  refine ⟨Cls (Ext _), fun _ h => h, ⟨⟨_, hG⟩, rfl⟩, ?_⟩
  repeat (refine head_q rfl (fun K hK => ?_); have hK2 := hide hK; clear hK; go_simp; refine hK2.out _ ?_; clear hK2 K)
  refine head_nil ?_
  try simp only [List.drop_succ_cons, List.drop_zero]
  go_wp2_with fail
  go_ret
  exact ⟨rfl, hEW.trans hG.undrew⟩
end Go.Proofs.Ytekpjdfgpggcnaa
