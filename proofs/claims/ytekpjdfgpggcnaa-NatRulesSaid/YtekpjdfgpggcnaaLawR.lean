/- The law on the rules of sums and products, walked. -/
import Derived.Test.YtekpjdfgpggcnaaLawB
import Derived.Test.YtekpjdfgpggcnaaFreeS
namespace Go.Proofs.Ytekpjdfgpggcnaa
set_option linter.unusedSimpArgs false
set_option linter.unusedVariables false
open Go.RowKit
open Nt
attribute [local go_sem] steady steadyUpon Cls same_cell by8 str_eq


set_option maxRecDepth 100000 in
set_option maxHeartbeats 8000000 in
theorem nrules_all (A B D : Option Addr) (n c m d q r x y z : Nat) (w : World) (hFx12 : Fit 12 x) (hFy12 : Fit 12 y) (hFz12 : Fit 12 z) (N1 : Hid (∀ w', Ext w w' → Calls Try.prog 19 #[.slice A n c] w' (RetN w' x)))
    (N2 : Hid (∀ w', Ext w w' → Calls Try.prog 19 #[.slice B m d] w' (RetN w' y))) (N3 : Hid (∀ w', Ext w w' → Calls Try.prog 19 #[.slice D q r] w' (RetN w' z))) :
    Calls Try.prog 11 #[.slice A n c, .slice B m d, .slice D q r] w fun e w' => e = .returned (.bool true) ∧ Ext w w' := by
  have hFx : Fit 40 x := hFx12.mono (by omega)
  have hFy : Fit 40 y := hFy12.mono (by omega)
  have hFz : Fit 40 z := hFz12.mono (by omega)
  have hFxy : Fit 40 (x + y) := (Fit.add hFx12 hFy12).mono (by omega)
  have hFyx : Fit 40 (y + x) := (Fit.add hFy12 hFx12).mono (by omega)
  have hFyz : Fit 40 (y + z) := (Fit.add hFy12 hFz12).mono (by omega)
  have hFs1 : Fit 40 (x + y + z) := (Fit.add (Fit.add hFx12 hFy12) (hFz12.mono (by omega))).mono (by omega)
  have hFs2 : Fit 40 (x + (y + z)) := (Fit.add (hFx12.mono (by omega)) (Fit.add hFy12 hFz12)).mono (by omega)
  have hFm1 : Fit 40 (x * y) := (Fit.mul hFx12 hFy12).mono (by omega)
  have hFm2 : Fit 40 (y * x) := (Fit.mul hFy12 hFx12).mono (by omega)
  have hFm3 : Fit 40 (y * z) := (Fit.mul hFy12 hFz12).mono (by omega)
  have hFm4 : Fit 40 (x * z) := (Fit.mul hFx12 hFz12).mono (by omega)
  have hFp1 : Fit 40 (x * y * z) := (Fit.mul (Fit.mul hFx12 hFy12) hFz12).mono (by omega)
  have hFp2 : Fit 40 (x * (y * z)) := (Fit.mul hFx12 (Fit.mul hFy12 hFz12)).mono (by omega)
  have hFd1 : Fit 40 (x * (y + z)) := (Fit.mul hFx12 (Fit.add hFy12 hFz12)).mono (by omega)
  have hFd2 : Fit 40 (x * y + x * z) := (Fit.add (Fit.mul hFx12 hFy12) (Fit.mul hFx12 hFz12)).mono (by omega)
  have E1 : Hid (y + x = x + y) := hide (Nat.add_comm _ _)
  have E2 : Hid (y * x = x * y) := hide (Nat.mul_comm _ _)
  have E3 : Hid (x + (y + z) = x + y + z) := hide (Nat.add_assoc _ _ _).symm
  have E4 : Hid (x * (y * z) = x * y * z) := hide (Nat.mul_assoc _ _ _).symm
  have E5 : Hid (x * (y + z) = x * y + x * z) := hide (Nat.mul_add _ _ _)
  have E6 : Hid (x + y - y = x) := hide (Nat.add_sub_cancel _ _)
  go_enter Try.func11, Try.ntmps11
  go_wp2_with fail
  refine (nlives_any _).mono ?_
  rintro e w1 ⟨rfl, hE⟩
  go_wp2_with fail
  refine (N1.out _ hE).mono ?_
  rintro e w2 ⟨A1, l1, c1, rfl, hVx, hU⟩
  replace hE := hE.trans hU
  go_wp2_with fail
  refine (N2.out _ hE).mono ?_
  rintro e w3 ⟨A2, l2, c2, rfl, hVy, hU⟩
  replace hE := hE.trans hU
  replace hVx := hVx.ext hU
  go_wp2_with fail
  refine (N3.out _ hE).mono ?_
  rintro e w4 ⟨A3, l3, c3, rfl, hVz, hU⟩
  replace hE := hE.trans hU
  replace hVx := hVx.ext hU
  replace hVy := hVy.ext hU
  clear hU
  go_wp2_with fail
  refine name_w (fun W hW => ?_)
  have b7 : Box W w4.heap.size 26 (.slice A1 l1 c1) := by rw [hW]; exact Box.alloc (Box.alloc (Box.new _ _ _) _) _
  have b8 : Box W (w4.heap.size + 1) 26 (.slice A2 l2 c2) := by rw [hW]; exact Box.alloc (Box.new_at (by simp)) _
  have b9 : Box W (w4.heap.size + 1 + 1) 26 (.slice A3 l3 c3) := by rw [hW]; exact Box.new_at (by simp)
  have hEW : Ext w W := by rw [hW]; exact ((hE.alloc _).alloc _).alloc _
  replace hVx : NatV W (.agg #[.slice A1 l1 c1]) x := by rw [hW]; exact hVx.ext ((((Upd.refl _ _).alloc _).alloc _).alloc _)
  replace hVy : NatV W (.agg #[.slice A2 l2 c2]) y := by rw [hW]; exact hVy.ext ((((Upd.refl _ _).alloc _).alloc _).alloc _)
  replace hVz : NatV W (.agg #[.slice A3 l3 c3]) z := by rw [hW]; exact hVz.ext ((((Upd.refl _ _).alloc _).alloc _).alloc _)
  clear hW hE
  refine wp_region_fs 10 [.val (.eq (.agg #[.slice A1 l1 c1])), .val (.eq (.agg #[.slice A2 l2 c2])), .val (.nat (x + y)), .val (.eq (.agg #[.slice A2 l2 c2])), .tup2 (.nat (x)) (.eq (.bool true)), .tup2 (.nat (x)) (.eq (.bool true)), .val (.nat (x)), .val (.eq (.bool true)), .new 26 (.slice none 0 0), .set 8 26 (x)] [(9, 8)] (by kernel_rfl) rfl (by kernel_rfl) (by kernel_rfl) (by kernel_rfl) ?_ ?_
  · intro i hi
    match i, hi with
    | 0, _ =>
      intro u wx S o ho hE hr hd hw
      injection (ho : some _ = some o) with ho
      subst ho
      have hEx : Ext W wx := hE.undrew
      have cx := (b7.ext hEx).cell
      simp only [fr, dstOf]
      go_simp
      go_wp2
      first | exact ⟨Upd.refl _ _, rfl⟩ | exact ⟨_, rfl, Upd.refl _ _, rfl⟩
    | 1, _ =>
      intro u wx S o ho hE hr hd hw
      injection (ho : some _ = some o) with ho
      subst ho
      have hEx : Ext W wx := hE.undrew
      have cx := (b8.ext hEx).cell
      simp only [fr, dstOf]
      go_simp
      go_wp2
      first | exact ⟨Upd.refl _ _, rfl⟩ | exact ⟨_, rfl, Upd.refl _ _, rfl⟩
    | 2, _ =>
      intro u wx S o ho hE hr hd hw
      injection (ho : some _ = some o) with ho
      subst ho
      have hEx : Ext W wx := hE.undrew
      have f0 : u 0 = .agg #[.slice A1 l1 c1] := hw 0 (by omega) (by kernel_rfl) (by simp)
      have f1 : u 1 = .agg #[.slice A2 l2 c2] := hw 1 (by omega) (by kernel_rfl) (by simp)
      simp only [fr, dstOf]
      go_simp
      go_wp2_with fail
      refine (add_any _ _ x y 40 _ (hVx.ext hEx) (hVy.ext hEx) hFx hFy (by omega)).mono ?_
      rintro e wn ⟨A9, l9, c9, rfl, hVn, hU⟩
      go_wp2_with fail
      exact ⟨_, rfl, hU.mono (fun _ _ h => h.elim), _, _, _, rfl, hVn⟩
    | 3, _ =>
      intro u wx S o ho hE hr hd hw
      injection (ho : some _ = some o) with ho
      subst ho
      have hEx : Ext W wx := hE.undrew
      have cx := (b8.ext hEx).cell
      simp only [fr, dstOf]
      go_simp
      go_wp2
      first | exact ⟨Upd.refl _ _, rfl⟩ | exact ⟨_, rfl, Upd.refl _ _, rfl⟩
    | 4, _ =>
      intro u wx S o ho hE hr hd hw
      injection (ho : some _ = some o) with ho
      subst ho
      have hEx : Ext W wx := hE.undrew
      obtain ⟨aA2, aL2, aC2, f2, hV2⟩ : Fsh.J 2 (.val (.nat (x + y))) u wx (S 2) := hw 2 (by omega) (by kernel_rfl) (by simp)
      have f3 : u 3 = .agg #[.slice A2 l2 c2] := hw 3 (by omega) (by kernel_rfl) (by simp)
      simp only [fr, dstOf]
      go_simp
      go_wp2_with fail
      refine (sub_yes _ _ (x + y) y 40 _ hV2 (hVy.ext hEx) hFxy hFy (by omega) (Nat.le_add_left _ _)).mono ?_
      rintro e wn ⟨A9, l9, c9, rfl, hVm, hU⟩
      rw [E6.out] at hVm
      go_wp2_with fail
      exact ⟨_, rfl, hU.mono (fun _ _ h => h.elim), _, _, rfl, ⟨_, _, _, rfl, hVm⟩, rfl⟩
    | 5, _ =>
      intro u wx S o ho hE hr hd hw
      injection (ho : some _ = some o) with ho
      subst ho
      have hEx : Ext W wx := hE.undrew
      obtain ⟨_, _, f4, ⟨aA4_0, aL4_0, aC4_0, rfl, hV4_0⟩, rfl⟩ : Fsh.J 4 (.tup2 (.nat (x)) (.eq (.bool true))) u wx (S 4) := hw 4 (by omega) (by kernel_rfl) (by simp)
      simp only [fr, dstOf]
      go_simp
      go_wp2
      first | exact ⟨Upd.refl _ _, _, _, rfl, ⟨_, _, _, rfl, hV4_0⟩, rfl⟩ | exact ⟨_, rfl, Upd.refl _ _, _, _, rfl, ⟨_, _, _, rfl, hV4_0⟩, rfl⟩
    | 6, _ =>
      intro u wx S o ho hE hr hd hw
      injection (ho : some _ = some o) with ho
      subst ho
      have hEx : Ext W wx := hE.undrew
      obtain ⟨_, _, f5, ⟨aA5_0, aL5_0, aC5_0, rfl, hV5_0⟩, rfl⟩ : Fsh.J 5 (.tup2 (.nat (x)) (.eq (.bool true))) u wx (S 5) := hw 5 (by omega) (by kernel_rfl) (by simp)
      simp only [fr, dstOf]
      go_simp
      go_wp2
      first | exact ⟨Upd.refl _ _, aA5_0, aL5_0, aC5_0, rfl, hV5_0⟩ | exact ⟨_, rfl, Upd.refl _ _, aA5_0, aL5_0, aC5_0, rfl, hV5_0⟩
    | 7, _ =>
      intro u wx S o ho hE hr hd hw
      injection (ho : some _ = some o) with ho
      subst ho
      have hEx : Ext W wx := hE.undrew
      obtain ⟨_, _, f5, ⟨aA5_0, aL5_0, aC5_0, rfl, hV5_0⟩, rfl⟩ : Fsh.J 5 (.tup2 (.nat (x)) (.eq (.bool true))) u wx (S 5) := hw 5 (by omega) (by kernel_rfl) (by simp)
      simp only [fr, dstOf]
      go_simp
      go_wp2
      first | exact ⟨Upd.refl _ _, rfl⟩ | exact ⟨_, rfl, Upd.refl _ _, rfl⟩
    | 8, _ =>
      intro u wx S o ho hE hr hd hw
      injection (ho : some _ = some o) with ho
      subst ho
      have hEx : Ext W wx := hE.undrew
      simp only [fr, dstOf]
      go_simp
      go_wp2
      first | exact ⟨(Upd.refl _ _).alloc _, wx.heap.size, rfl, Box.new _ _ _, ⟨Nat.le_refl _, by first | exact Nat.lt_succ_self _ | simp⟩, fun b hb => by first | omega | (simp at hb; omega)⟩ | exact ⟨_, rfl, (Upd.refl _ _).alloc _, wx.heap.size, rfl, Box.new _ _ _, ⟨Nat.le_refl _, by first | exact Nat.lt_succ_self _ | simp⟩, fun b hb => by first | omega | (simp at hb; omega)⟩
    | 9, _ =>
      intro u wx S o ho hE hr hd hw
      injection (ho : some _ = some o) with ho
      subst ho
      have hEx : Ext W wx := hE.undrew
      obtain ⟨aA6, aL6, aC6, f6, hV6⟩ : Fsh.J 6 (.val (.nat (x))) u wx (S 6) := hw 6 (by omega) (by kernel_rfl) (by simp)
      obtain ⟨g8, f8, hb8, hs8, hall8⟩ : Fsh.J 8 (.new 26 (.slice none 0 0)) u wx (S 8) := hw 8 (by omega) (by kernel_rfl) (by simp)
      have cg8 := hb8.cell
      have fg8 := hb8.frozen
      simp only [fr, dstOf]
      go_simp
      go_wp2
      first | exact ⟨(Upd.refl _ _).setCell (p := ⟨g8, 0, none⟩) (.inl hs8) _, undef, g8, aA6, aL6, aC6, (updf_ne u _ (by decide)).trans f8, hb8.set _, .inr hs8, hV6.far cg8⟩ | exact ⟨undef, (Upd.refl _ _).setCell (p := ⟨g8, 0, none⟩) (.inl hs8) _, g8, aA6, aL6, aC6, (updf_ne u _ (by decide)).trans f8, hb8.set _, .inr hs8, hV6.far cg8⟩ | exact ⟨trivial, (Upd.refl _ _).setCell (p := ⟨g8, 0, none⟩) (.inl hs8) _, undef, g8, aA6, aL6, aC6, (updf_ne u _ (by decide)).trans f8, hb8.set _, .inr hs8, hV6.far cg8⟩
    | k + 10, h => exact absurd h (by omega)
  · intro u wx S hE hw hrg hdj
    have hEx : Ext W wx := hE.undrew
    have f0 : u 0 = .agg #[.slice A1 l1 c1] := hw 0 (by omega) (by simp)
    have f1 : u 1 = .agg #[.slice A2 l2 c2] := hw 1 (by omega) (by simp)
    obtain ⟨aA2, aL2, aC2, f2, hV2⟩ : Fsh.J 2 (.val (.nat (x + y))) u wx (S 2) := hw 2 (by omega) (by simp)
    have f3 : u 3 = .agg #[.slice A2 l2 c2] := hw 3 (by omega) (by simp)
    obtain ⟨_, _, f4, ⟨aA4_0, aL4_0, aC4_0, rfl, hV4_0⟩, rfl⟩ : Fsh.J 4 (.tup2 (.nat (x)) (.eq (.bool true))) u wx (S 4) := hw 4 (by omega) (by simp)
    obtain ⟨_, _, f5, ⟨aA5_0, aL5_0, aC5_0, rfl, hV5_0⟩, rfl⟩ : Fsh.J 5 (.tup2 (.nat (x)) (.eq (.bool true))) u wx (S 5) := hw 5 (by omega) (by simp)
    obtain ⟨aA6, aL6, aC6, f6, hV6⟩ : Fsh.J 6 (.val (.nat (x))) u wx (S 6) := hw 6 (by omega) (by simp)
    have f7 : u 7 = .bool true := hw 7 (by omega) (by simp)
    obtain ⟨g9, aA9, aL9, aC9, f8, hb9, hs9, hV9⟩ : Fsh.J 9 (.set 8 26 (x)) u wx (S 9) := hw 9 (by omega) (by simp)
    simp only [fr, dstOf]
    go_simp
    clear hw hrg hdj f0 f1 f2 f3 f4 f5 f6 f7 hV2 hV4_0 hV5_0 hV6 hs9
    go_wp2_with fail
    have b7 := b7.ext hEx
    have b8 := b8.ext hEx
    have b9 := b9.ext hEx
    have hVx := hVx.ext hEx
    have hVy := hVy.ext hEx
    have hVz := hVz.ext hEx
    have hEW := hEW.trans hEx
    clear hEx hE
    have hG : Ext wx.drew wx.drew := Upd.refl _ _
    -- the loads of box b7 (at block w4.heap.size) in a region that begins in the world wx; its fact k7
    have k7 := fun x : Wd (Ext wx.drew) => (x.ok.cell (p := ⟨w4.heap.size, 0, none⟩) b7.drew.lt (fun h => h)).trans b7.drew.cell
    -- the loads of box b8 (at block w4.heap.size + 1) in a region that begins in the world wx; its fact k8
    have k8 := fun x : Wd (Ext wx.drew) => (x.ok.cell (p := ⟨w4.heap.size + 1, 0, none⟩) b8.drew.lt (fun h => h)).trans b8.drew.cell
    -- the loads of box b9 (at block w4.heap.size + 1 + 1) in a region that begins in the world wx; its fact k9
    have k9 := fun x : Wd (Ext wx.drew) => (x.ok.cell (p := ⟨w4.heap.size + 1 + 1, 0, none⟩) b9.drew.lt (fun h => h)).trans b9.drew.cell
    -- the loads of box hb9 (at block g9) in a region that begins in the world wx; its fact k10
    have k10 := fun x : Wd (Ext wx.drew) => (x.ok.cell (p := ⟨g9, 0, none⟩) hb9.drew.lt (fun h => h)).trans hb9.drew.cell
    refine wp_region_plan (Ext _) 41 [(false,0), (false,1), (false,2), (false,3), (false,4), (true,5), (false,6), (false,7), (false,8), (false,9), (false,10), (false,12), (false,13), (true,11), (true,14), (true,15), (false,16), (false,17), (false,18), (false,19), (false,20), (false,22), (false,23), (true,21), (true,24), (true,25), (false,26), (false,27), (false,28), (false,29), (false,30), (false,32), (false,34), (false,35), (false,36), (true,31), (true,33), (true,37), (true,38), (true,39), (false,40)] (by kernel_rfl) (by kernel_rfl) (Upd.refl _ _) (fun hne => ?_)
    repeat (refine head_q rfl (fun K hK => ?_); have hK2 := hide hK; clear hK; go_simp; refine hK2.out _ ?_; clear hK2 K)
    -- x x numbers, hV9.ext hG.undrew hVx.ext hG.undrew their lying, hFx hFx their Fit, cmpI_eq the value, w10 world,  more
    refine head_l rfl ?_
    go_wp2_with (go_at_call 24; go_must (refine (cmp_any _ _ x x 40 _ (hV9.ext hG.undrew) (hVx.ext hG.undrew) (hFx) (hFx) (by omega)).mono ?_); rintro e w10 ⟨rfl, hU⟩; rw [cmpI_eq]; replace hG := hG.trans hU)
    refine ⟨Cls (Ext _), fun _ h => h, ⟨⟨_, hG⟩, rfl⟩, ?_⟩
    repeat (refine head_q rfl (fun K hK => ?_); have hK2 := hide hK; clear hK; go_simp; refine hK2.out _ ?_; clear hK2 K)
    -- x y numbers, hVx.ext hG.undrew hVy.ext hG.undrew their lying, hFx hFy their Fit, hVs name of what is known of the sum, w11 world,  more
    refine head_l rfl ?_
    go_wp2_with (go_at_call 35; go_must (refine (add_any _ _ x y 40 _ (hVx.ext hG.undrew) (hVy.ext hG.undrew) (hFx) (hFy) (by omega)).mono ?_); rintro e w11 ⟨_, _, _, rfl, hVs, hU⟩; replace hG := hG.trans hU)
    refine ⟨Cls (Ext _), fun _ h => h, ⟨⟨_, hG⟩, rfl⟩, ?_⟩
    repeat (refine head_q rfl (fun K hK => ?_); have hK2 := hide hK; clear hK; go_simp; refine hK2.out _ ?_; clear hK2 K)
    -- y x numbers, hVy.ext hG.undrew hVx.ext hG.undrew their lying, hFy hFx their Fit, hVt name of what is known of the sum, w12 world, ; replace hVs := hVs.ext hU more
    refine head_l rfl ?_
    go_wp2_with (go_at_call 35; go_must (refine (add_any _ _ y x 40 _ (hVy.ext hG.undrew) (hVx.ext hG.undrew) (hFy) (hFx) (by omega)).mono ?_); rintro e w12 ⟨_, _, _, rfl, hVt, hU⟩; replace hG := hG.trans hU; replace hVs := hVs.ext hU)
    refine ⟨Cls (Ext _), fun _ h => h, ⟨⟨_, hG⟩, rfl⟩, ?_⟩
    repeat (refine head_q rfl (fun K hK => ?_); have hK2 := hide hK; clear hK; go_simp; refine hK2.out _ ?_; clear hK2 K)
    -- (x + y) (y + x) numbers, hVs hVt their lying, hFxy hFyx their Fit, E1.out, cmpI_eq the value, w13 world,  more
    refine head_l rfl ?_
    go_wp2_with (go_at_call 24; go_must (refine (cmp_any _ _ (x + y) (y + x) 40 _ (hVs) (hVt) (hFxy) (hFyx) (by omega)).mono ?_); rintro e w13 ⟨rfl, hU⟩; rw [E1.out, cmpI_eq]; replace hG := hG.trans hU)
    refine ⟨Cls (Ext _), fun _ h => h, ⟨⟨_, hG⟩, rfl⟩, ?_⟩
    repeat (refine head_q rfl (fun K hK => ?_); have hK2 := hide hK; clear hK; go_simp; refine hK2.out _ ?_; clear hK2 K)
    refine head_l rfl ?_
    go_wp2_with (go_at_call 32; go_must (refine (mul_any _ _ x y 40 _ (hVx.ext hG.undrew) (hVy.ext hG.undrew) (hFx) (hFy) (by omega)).mono ?_); rintro e w14 ⟨_, _, _, rfl, hVs, hU⟩; replace hG := hG.trans hU)
    refine ⟨Cls (Ext _), fun _ h => h, ⟨⟨_, hG⟩, rfl⟩, ?_⟩
    repeat (refine head_q rfl (fun K hK => ?_); have hK2 := hide hK; clear hK; go_simp; refine hK2.out _ ?_; clear hK2 K)
    refine head_l rfl ?_
    go_wp2_with (go_at_call 32; go_must (refine (mul_any _ _ y x 40 _ (hVy.ext hG.undrew) (hVx.ext hG.undrew) (hFy) (hFx) (by omega)).mono ?_); rintro e w15 ⟨_, _, _, rfl, hVt, hU⟩; replace hG := hG.trans hU; replace hVs := hVs.ext hU)
    refine ⟨Cls (Ext _), fun _ h => h, ⟨⟨_, hG⟩, rfl⟩, ?_⟩
    repeat (refine head_q rfl (fun K hK => ?_); have hK2 := hide hK; clear hK; go_simp; refine hK2.out _ ?_; clear hK2 K)
    -- (x * y) (y * x) numbers, hVs hVt their lying, hFm1 hFm2 their Fit, E2.out, cmpI_eq the value, w16 world,  more
    refine head_l rfl ?_
    go_wp2_with (go_at_call 24; go_must (refine (cmp_any _ _ (x * y) (y * x) 40 _ (hVs) (hVt) (hFm1) (hFm2) (by omega)).mono ?_); rintro e w16 ⟨rfl, hU⟩; rw [E2.out, cmpI_eq]; replace hG := hG.trans hU)
    refine ⟨Cls (Ext _), fun _ h => h, ⟨⟨_, hG⟩, rfl⟩, ?_⟩
    repeat (refine head_q rfl (fun K hK => ?_); have hK2 := hide hK; clear hK; go_simp; refine hK2.out _ ?_; clear hK2 K)
    -- x y numbers, hVx.ext hG.undrew hVy.ext hG.undrew their lying, hFx hFy their Fit, hVs name of what is known of the sum, w17 world,  more
    refine head_l rfl ?_
    go_wp2_with (go_at_call 35; go_must (refine (add_any _ _ x y 40 _ (hVx.ext hG.undrew) (hVy.ext hG.undrew) (hFx) (hFy) (by omega)).mono ?_); rintro e w17 ⟨_, _, _, rfl, hVs, hU⟩; replace hG := hG.trans hU)
    refine ⟨Cls (Ext _), fun _ h => h, ⟨⟨_, hG⟩, rfl⟩, ?_⟩
    repeat (refine head_q rfl (fun K hK => ?_); have hK2 := hide hK; clear hK; go_simp; refine hK2.out _ ?_; clear hK2 K)
    -- (x + y) z numbers, hVs hVz.ext hG.undrew their lying, hFxy hFz their Fit, hVt name of what is known of the sum, w18 world,  more
    refine head_l rfl ?_
    go_wp2_with (go_at_call 35; go_must (refine (add_any _ _ (x + y) z 40 _ (hVs) (hVz.ext hG.undrew) (hFxy) (hFz) (by omega)).mono ?_); rintro e w18 ⟨_, _, _, rfl, hVt, hU⟩; replace hG := hG.trans hU)
    refine ⟨Cls (Ext _), fun _ h => h, ⟨⟨_, hG⟩, rfl⟩, ?_⟩
    repeat (refine head_q rfl (fun K hK => ?_); have hK2 := hide hK; clear hK; go_simp; refine hK2.out _ ?_; clear hK2 K)
    -- y z numbers, hVy.ext hG.undrew hVz.ext hG.undrew their lying, hFy hFz their Fit, hVs name of what is known of the sum, w19 world, ; replace hVt := hVt.ext hU more
    refine head_l rfl ?_
    go_wp2_with (go_at_call 35; go_must (refine (add_any _ _ y z 40 _ (hVy.ext hG.undrew) (hVz.ext hG.undrew) (hFy) (hFz) (by omega)).mono ?_); rintro e w19 ⟨_, _, _, rfl, hVs, hU⟩; replace hG := hG.trans hU; replace hVt := hVt.ext hU)
    refine ⟨Cls (Ext _), fun _ h => h, ⟨⟨_, hG⟩, rfl⟩, ?_⟩
    repeat (refine head_q rfl (fun K hK => ?_); have hK2 := hide hK; clear hK; go_simp; refine hK2.out _ ?_; clear hK2 K)
    -- x (y + z) numbers, hVx.ext hG.undrew hVs their lying, hFx hFyz their Fit, hVu name of what is known of the sum, w20 world, ; replace hVt := hVt.ext hU more
    refine head_l rfl ?_
    go_wp2_with (go_at_call 35; go_must (refine (add_any _ _ x (y + z) 40 _ (hVx.ext hG.undrew) (hVs) (hFx) (hFyz) (by omega)).mono ?_); rintro e w20 ⟨_, _, _, rfl, hVu, hU⟩; replace hG := hG.trans hU; replace hVt := hVt.ext hU)
    refine ⟨Cls (Ext _), fun _ h => h, ⟨⟨_, hG⟩, rfl⟩, ?_⟩
    repeat (refine head_q rfl (fun K hK => ?_); have hK2 := hide hK; clear hK; go_simp; refine hK2.out _ ?_; clear hK2 K)
    -- (x + y + z) (x + (y + z)) numbers, hVt hVu their lying, hFs1 hFs2 their Fit, E3.out, cmpI_eq the value, w21 world,  more
    refine head_l rfl ?_
    go_wp2_with (go_at_call 24; go_must (refine (cmp_any _ _ (x + y + z) (x + (y + z)) 40 _ (hVt) (hVu) (hFs1) (hFs2) (by omega)).mono ?_); rintro e w21 ⟨rfl, hU⟩; rw [E3.out, cmpI_eq]; replace hG := hG.trans hU)
    refine ⟨Cls (Ext _), fun _ h => h, ⟨⟨_, hG⟩, rfl⟩, ?_⟩
    repeat (refine head_q rfl (fun K hK => ?_); have hK2 := hide hK; clear hK; go_simp; refine hK2.out _ ?_; clear hK2 K)
    refine head_nil ?_
    try simp only [List.drop_succ_cons, List.drop_zero]
    go_wp2_with fail
    have b7 := b7.ext hG.undrew
    have b8 := b8.ext hG.undrew
    have b9 := b9.ext hG.undrew
    have hVx := hVx.ext hG.undrew
    have hVy := hVy.ext hG.undrew
    have hVz := hVz.ext hG.undrew
    have hEW := hEW.trans hG.undrew
    clear hG k7 k8 k9 k10 hU hVs hVt hVu
    have hG : Ext w21.drew w21.drew := Upd.refl _ _
    -- the loads of box b7 (at block w4.heap.size) in a region that begins in the world w21; its fact k7
    have k7 := fun x : Wd (Ext w21.drew) => (x.ok.cell (p := ⟨w4.heap.size, 0, none⟩) b7.drew.lt (fun h => h)).trans b7.drew.cell
    -- the loads of box b8 (at block w4.heap.size + 1) in a region that begins in the world w21; its fact k8
    have k8 := fun x : Wd (Ext w21.drew) => (x.ok.cell (p := ⟨w4.heap.size + 1, 0, none⟩) b8.drew.lt (fun h => h)).trans b8.drew.cell
    -- the loads of box b9 (at block w4.heap.size + 1 + 1) in a region that begins in the world w21; its fact k9
    have k9 := fun x : Wd (Ext w21.drew) => (x.ok.cell (p := ⟨w4.heap.size + 1 + 1, 0, none⟩) b9.drew.lt (fun h => h)).trans b9.drew.cell
    refine wp_region_plan (Ext _) 28 [(false,0), (false,1), (false,3), (false,5), (false,6), (false,7), (true,2), (true,4), (true,8), (true,9), (true,10), (false,11), (false,12), (false,13), (false,14), (false,15), (false,18), (false,19), (false,21), (false,22), (true,16), (true,17), (true,20), (true,23), (true,24), (true,25), (false,26), (false,27)] (by kernel_rfl) (by kernel_rfl) (Upd.refl _ _) (fun hne => ?_)
    repeat (refine head_q rfl (fun K hK => ?_); have hK2 := hide hK; clear hK; go_simp; refine hK2.out _ ?_; clear hK2 K)
    refine head_l rfl ?_
    go_wp2_with (go_at_call 32; go_must (refine (mul_any _ _ x y 40 _ (hVx.ext hG.undrew) (hVy.ext hG.undrew) (hFx) (hFy) (by omega)).mono ?_); rintro e w22 ⟨_, _, _, rfl, hVs, hU⟩; replace hG := hG.trans hU)
    refine ⟨Cls (Ext _), fun _ h => h, ⟨⟨_, hG⟩, rfl⟩, ?_⟩
    repeat (refine head_q rfl (fun K hK => ?_); have hK2 := hide hK; clear hK; go_simp; refine hK2.out _ ?_; clear hK2 K)
    refine head_l rfl ?_
    go_wp2_with (go_at_call 32; go_must (refine (mul_any _ _ (x * y) z 40 _ (hVs) (hVz.ext hG.undrew) (hFm1) (hFz) (by omega)).mono ?_); rintro e w23 ⟨_, _, _, rfl, hVt, hU⟩; replace hG := hG.trans hU)
    refine ⟨Cls (Ext _), fun _ h => h, ⟨⟨_, hG⟩, rfl⟩, ?_⟩
    repeat (refine head_q rfl (fun K hK => ?_); have hK2 := hide hK; clear hK; go_simp; refine hK2.out _ ?_; clear hK2 K)
    refine head_l rfl ?_
    go_wp2_with (go_at_call 32; go_must (refine (mul_any _ _ y z 40 _ (hVy.ext hG.undrew) (hVz.ext hG.undrew) (hFy) (hFz) (by omega)).mono ?_); rintro e w24 ⟨_, _, _, rfl, hVs, hU⟩; replace hG := hG.trans hU; replace hVt := hVt.ext hU)
    refine ⟨Cls (Ext _), fun _ h => h, ⟨⟨_, hG⟩, rfl⟩, ?_⟩
    repeat (refine head_q rfl (fun K hK => ?_); have hK2 := hide hK; clear hK; go_simp; refine hK2.out _ ?_; clear hK2 K)
    refine head_l rfl ?_
    go_wp2_with (go_at_call 32; go_must (refine (mul_any _ _ x (y * z) 40 _ (hVx.ext hG.undrew) (hVs) (hFx) (hFm3) (by omega)).mono ?_); rintro e w25 ⟨_, _, _, rfl, hVu, hU⟩; replace hG := hG.trans hU; replace hVt := hVt.ext hU)
    refine ⟨Cls (Ext _), fun _ h => h, ⟨⟨_, hG⟩, rfl⟩, ?_⟩
    repeat (refine head_q rfl (fun K hK => ?_); have hK2 := hide hK; clear hK; go_simp; refine hK2.out _ ?_; clear hK2 K)
    -- (x * y * z) (x * (y * z)) numbers, hVt hVu their lying, hFp1 hFp2 their Fit, E4.out, cmpI_eq the value, w26 world,  more
    refine head_l rfl ?_
    go_wp2_with (go_at_call 24; go_must (refine (cmp_any _ _ (x * y * z) (x * (y * z)) 40 _ (hVt) (hVu) (hFp1) (hFp2) (by omega)).mono ?_); rintro e w26 ⟨rfl, hU⟩; rw [E4.out, cmpI_eq]; replace hG := hG.trans hU)
    refine ⟨Cls (Ext _), fun _ h => h, ⟨⟨_, hG⟩, rfl⟩, ?_⟩
    repeat (refine head_q rfl (fun K hK => ?_); have hK2 := hide hK; clear hK; go_simp; refine hK2.out _ ?_; clear hK2 K)
    -- y z numbers, hVy.ext hG.undrew hVz.ext hG.undrew their lying, hFy hFz their Fit, hVs name of what is known of the sum, w27 world,  more
    refine head_l rfl ?_
    go_wp2_with (go_at_call 35; go_must (refine (add_any _ _ y z 40 _ (hVy.ext hG.undrew) (hVz.ext hG.undrew) (hFy) (hFz) (by omega)).mono ?_); rintro e w27 ⟨_, _, _, rfl, hVs, hU⟩; replace hG := hG.trans hU)
    refine ⟨Cls (Ext _), fun _ h => h, ⟨⟨_, hG⟩, rfl⟩, ?_⟩
    repeat (refine head_q rfl (fun K hK => ?_); have hK2 := hide hK; clear hK; go_simp; refine hK2.out _ ?_; clear hK2 K)
    refine head_l rfl ?_
    go_wp2_with (go_at_call 32; go_must (refine (mul_any _ _ x (y + z) 40 _ (hVx.ext hG.undrew) (hVs) (hFx) (hFyz) (by omega)).mono ?_); rintro e w28 ⟨_, _, _, rfl, hVt, hU⟩; replace hG := hG.trans hU)
    refine ⟨Cls (Ext _), fun _ h => h, ⟨⟨_, hG⟩, rfl⟩, ?_⟩
    repeat (refine head_q rfl (fun K hK => ?_); have hK2 := hide hK; clear hK; go_simp; refine hK2.out _ ?_; clear hK2 K)
    refine head_l rfl ?_
    go_wp2_with (go_at_call 32; go_must (refine (mul_any _ _ x y 40 _ (hVx.ext hG.undrew) (hVy.ext hG.undrew) (hFx) (hFy) (by omega)).mono ?_); rintro e w29 ⟨_, _, _, rfl, hVs, hU⟩; replace hG := hG.trans hU; replace hVt := hVt.ext hU)
    refine ⟨Cls (Ext _), fun _ h => h, ⟨⟨_, hG⟩, rfl⟩, ?_⟩
    repeat (refine head_q rfl (fun K hK => ?_); have hK2 := hide hK; clear hK; go_simp; refine hK2.out _ ?_; clear hK2 K)
    refine head_l rfl ?_
    go_wp2_with (go_at_call 32; go_must (refine (mul_any _ _ x z 40 _ (hVx.ext hG.undrew) (hVz.ext hG.undrew) (hFx) (hFz) (by omega)).mono ?_); rintro e w30 ⟨_, _, _, rfl, hVu, hU⟩; replace hG := hG.trans hU; replace hVt := hVt.ext hU; replace hVs := hVs.ext hU)
    refine ⟨Cls (Ext _), fun _ h => h, ⟨⟨_, hG⟩, rfl⟩, ?_⟩
    repeat (refine head_q rfl (fun K hK => ?_); have hK2 := hide hK; clear hK; go_simp; refine hK2.out _ ?_; clear hK2 K)
    -- (x * y) (x * z) numbers, hVs hVu their lying, hFm1 hFm4 their Fit, hVv name of what is known of the sum, w31 world, ; replace hVt := hVt.ext hU more
    refine head_l rfl ?_
    go_wp2_with (go_at_call 35; go_must (refine (add_any _ _ (x * y) (x * z) 40 _ (hVs) (hVu) (hFm1) (hFm4) (by omega)).mono ?_); rintro e w31 ⟨_, _, _, rfl, hVv, hU⟩; replace hG := hG.trans hU; replace hVt := hVt.ext hU)
    refine ⟨Cls (Ext _), fun _ h => h, ⟨⟨_, hG⟩, rfl⟩, ?_⟩
    repeat (refine head_q rfl (fun K hK => ?_); have hK2 := hide hK; clear hK; go_simp; refine hK2.out _ ?_; clear hK2 K)
    -- (x * (y + z)) (x * y + x * z) numbers, hVt hVv their lying, hFd1 hFd2 their Fit, E5.out, cmpI_eq the value, w32 world,  more
    refine head_l rfl ?_
    go_wp2_with (go_at_call 24; go_must (refine (cmp_any _ _ (x * (y + z)) (x * y + x * z) 40 _ (hVt) (hVv) (hFd1) (hFd2) (by omega)).mono ?_); rintro e w32 ⟨rfl, hU⟩; rw [E5.out, cmpI_eq]; replace hG := hG.trans hU)
    refine ⟨Cls (Ext _), fun _ h => h, ⟨⟨_, hG⟩, rfl⟩, ?_⟩
    repeat (refine head_q rfl (fun K hK => ?_); have hK2 := hide hK; clear hK; go_simp; refine hK2.out _ ?_; clear hK2 K)
    refine head_nil ?_
    try simp only [List.drop_succ_cons, List.drop_zero]
    go_wp2_with fail
    go_ret
    exact ⟨rfl, hEW.trans hG.undrew⟩
theorem nrules_any (A B D : Option Addr) (n c m d q r : Nat) (bs cs ds : List (BitVec 8)) (w : World) (h1 : In8 w A n c bs) (h2 : In8 w B m d cs) (h3 : In8 w D q r ds) :
    Calls Try.prog 11 #[.slice A n c, .slice B m d, .slice D q r] w fun e w' => e = .returned (.bool true) ∧ Ext w w' := by
  obtain ⟨x, hFx, N1, -⟩ := in_num h1
  obtain ⟨y, hFy, N2, -⟩ := in_num h2
  obtain ⟨z, hFz, N3, -⟩ := in_num h3
  exact nrules_all A B D n c m d q r x y z w hFx hFy hFz N1 N2 N3
end Go.Proofs.Ytekpjdfgpggcnaa
