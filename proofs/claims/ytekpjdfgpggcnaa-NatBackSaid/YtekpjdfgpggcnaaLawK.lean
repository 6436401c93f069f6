/- The law on quotients and rests put together again, walked. -/
import Derived.Test.YtekpjdfgpggcnaaLawB
import Derived.Test.YtekpjdfgpggcnaaFreeS
namespace Go.Proofs.Ytekpjdfgpggcnaa
set_option linter.unusedSimpArgs false
set_option linter.unusedVariables false
open Go.RowKit
open Nt
attribute [local go_sem] steady steadyUpon Cls same_cell by8 str_eq


set_option maxRecDepth 100000 in
set_option maxHeartbeats 8000000 in
theorem nback_zero (A B : Option Addr) (n c m d x y : Nat) (w : World) (hFx : Fit 12 x) (hFy : Fit 12 y) (N1 : Hid (∀ w', Ext w w' → Calls Try.prog 19 #[.slice A n c] w' (RetN w' x)))
    (N2 : Hid (∀ w', Ext w w' → Calls Try.prog 19 #[.slice B m d] w' (RetN w' y))) (hy : Hid (y = 0)) :
    Calls Try.prog 8 #[.slice A n c, .slice B m d] w fun e w' => e = .returned (.bool true) ∧ Ext w w' := by
  go_enter Try.func8, Try.ntmps8
  go_wp2_with fail
  refine (nlives_any _).mono ?_
  rintro e w1 ⟨rfl, hE⟩
  go_wp2_with fail
  refine (N1.out _ hE).mono ?_
  rintro e w2 ⟨A1, l1, c1, rfl, hVx, hU⟩
  replace hE := hE.trans hU
  go_wp2_with fail
  refine (N2.out _ hE).mono ?_
  rintro e w3 ⟨A2, l2, c2, rfl, hVy, hU⟩
  replace hE := hE.trans hU
  replace hVx := hVx.ext hU
  go_wp2_with fail
  refine name_c (fun W hW => ?_)
  have b5 : Box W w3.heap.size 26 (.slice A1 l1 c1) := by rw [hW]; exact Box.alloc (Box.new _ _ _) _
  have b6 : Box W (w3.heap.size + 1) 26 (.slice A2 l2 c2) := by rw [hW]; exact Box.new_at (by simp)
  have hEW : Ext w W := by rw [hW]; exact (hE.alloc _).alloc _
  have hXW : Ext w3 W := by rw [hW]; exact ((Upd.refl _ _).alloc _).alloc _
  replace hVx := hVx.ext hXW
  replace hVy := hVy.ext hXW
  clear hW hE hXW hU
  refine (div_zero _ _ x _ hVx (hy.out ▸ hVy)).mono ?_
  rintro e w4 ⟨A3, l3, c3, A4, l4, c4, rfl, hVq, hVr, hU⟩
  have k6 := (((b6.ext hU).alloc (.cells #[.slice A3 l3 c3] 26)).alloc (.cells #[.slice A4 l4 c4] 26)).cell
  go_wp2_with fail
  refine name_c (fun X hX => ?_)
  have b7 : Box X w4.heap.size 26 (.slice A3 l3 c3) := by rw [hX]; exact Box.alloc (Box.new _ _ _) _
  have b8 : Box X (w4.heap.size + 1) 26 (.slice A4 l4 c4) := by rw [hX]; exact Box.new_at (by simp)
  have hX4 : Ext w4 X := by rw [hX]; exact ((Upd.refl _ _).alloc _).alloc _
  replace b5 := b5.ext (hU.trans hX4)
  replace b6 := b6.ext (hU.trans hX4)
  replace hVx := hVx.ext (hU.trans hX4)
  replace hVy := hVy.ext (hU.trans hX4)
  replace hVq := hVq.ext hX4
  replace hVr := hVr.ext hX4
  replace hEW := hEW.trans (hU.trans hX4)
  clear hX hX4 hU k6
  refine (zero_any _ y _ hVy).mono ?_
  rintro e w5 ⟨rfl, hU⟩
  rw [decide_eq_true hy.out]
  go_wp2_with fail
  go_ret
  exact ⟨rfl, hEW.trans hU⟩
set_option maxRecDepth 100000 in
set_option maxHeartbeats 8000000 in
theorem nback_more (A B : Option Addr) (n c m d x y : Nat) (w : World) (hFx : Fit 12 x) (hFy : Fit 12 y) (N1 : Hid (∀ w', Ext w w' → Calls Try.prog 19 #[.slice A n c] w' (RetN w' x)))
    (N2 : Hid (∀ w', Ext w w' → Calls Try.prog 19 #[.slice B m d] w' (RetN w' y))) (hy : Hid (0 < y)) :
    Calls Try.prog 8 #[.slice A n c, .slice B m d] w fun e w' => e = .returned (.bool true) ∧ Ext w w' := by
  go_enter Try.func8, Try.ntmps8
  go_wp2_with fail
  refine (nlives_any _).mono ?_
  rintro e w1 ⟨rfl, hE⟩
  go_wp2_with fail
  refine (N1.out _ hE).mono ?_
  rintro e w2 ⟨A1, l1, c1, rfl, hVx, hU⟩
  replace hE := hE.trans hU
  go_wp2_with fail
  refine (N2.out _ hE).mono ?_
  rintro e w3 ⟨A2, l2, c2, rfl, hVy, hU⟩
  replace hE := hE.trans hU
  replace hVx := hVx.ext hU
  go_wp2_with fail
  refine name_c (fun W hW => ?_)
  have b5 : Box W w3.heap.size 26 (.slice A1 l1 c1) := by rw [hW]; exact Box.alloc (Box.new _ _ _) _
  have b6 : Box W (w3.heap.size + 1) 26 (.slice A2 l2 c2) := by rw [hW]; exact Box.new_at (by simp)
  have hEW : Ext w W := by rw [hW]; exact (hE.alloc _).alloc _
  have hXW : Ext w3 W := by rw [hW]; exact ((Upd.refl _ _).alloc _).alloc _
  replace hVx := hVx.ext hXW
  replace hVy := hVy.ext hXW
  clear hW hE hXW hU
  refine (div_any _ _ x y 12 _ hVx hVy hFx hFy (by omega) hy.out).mono ?_
  rintro e w4 ⟨A3, l3, c3, A4, l4, c4, rfl, hVq, hVr, hU⟩
  have k6 := (((b6.ext hU).alloc (.cells #[.slice A3 l3 c3] 26)).alloc (.cells #[.slice A4 l4 c4] 26)).cell
  go_wp2_with fail
  refine name_c (fun X hX => ?_)
  have b7 : Box X w4.heap.size 26 (.slice A3 l3 c3) := by rw [hX]; exact Box.alloc (Box.new _ _ _) _
  have b8 : Box X (w4.heap.size + 1) 26 (.slice A4 l4 c4) := by rw [hX]; exact Box.new_at (by simp)
  have hX4 : Ext w4 X := by rw [hX]; exact ((Upd.refl _ _).alloc _).alloc _
  replace b5 := b5.ext (hU.trans hX4)
  replace b6 := b6.ext (hU.trans hX4)
  replace hVx := hVx.ext (hU.trans hX4)
  replace hVy := hVy.ext (hU.trans hX4)
  replace hVq := hVq.ext hX4
  replace hVr := hVr.ext hX4
  replace hEW := hEW.trans (hU.trans hX4)
  clear hX hX4 hU k6
  refine (zero_any _ y _ hVy).mono ?_
  rintro e w5 ⟨rfl, hU⟩
  rw [decide_eq_false (by have := hy.out; omega)]
  go_wp2_with fail
  replace b5 := b5.ext hU
  replace b6 := b6.ext hU
  replace b7 := b7.ext hU
  replace b8 := b8.ext hU
  replace hVx := hVx.ext hU
  replace hVy := hVy.ext hU
  replace hVq := hVq.ext hU
  replace hVr := hVr.ext hU
  replace hEW := hEW.trans hU
  clear hU
  have hFp : Fit 40 (x * y) := (Fit.mul hFx hFy).mono (by omega)
  have hFy4 : Fit 40 y := hFy.mono (by omega)
  have hFx4 : Fit 40 x := hFx.mono (by omega)
  have hpq : x * y / y = x := Nat.mul_div_cancel _ hy.out
  have hpr : x * y % y = 0 := Nat.mul_mod_left _ _
  have Hpq := hide hpq
  have Hpr := hide hpr
  clear hpq hpr
  refine wp_region_fs 13 [.val (.eq (.agg #[.slice A1 l1 c1])), .val (.eq (.agg #[.slice A2 l2 c2])), .val (.nat (x * y)), .val (.eq (.agg #[.slice A2 l2 c2])), .tup3 (.nat (x)) (.nat (0)) (.eq (.int .i64 0)), .tup3 (.nat (x)) (.nat (0)) (.eq (.int .i64 0)), .val (.nat (x)), .val (.nat (0)), .val (.eq (.int .i64 0)), .new 26 (.slice none 0 0), .new 26 (.slice none 0 0), .set 9 26 (x), .set 10 26 (0)] [(11, 9), (12, 10)] (by kernel_rfl) rfl (by kernel_rfl) (by kernel_rfl) (by kernel_rfl) ?_ ?_
  · intro i hi
    match i, hi with
    | 0, _ =>
      intro u wx S o ho hE hr hd hw
      injection (ho : some _ = some o) with ho
      subst ho
      have hEx : Ext w5 wx := hE.undrew
      have cx := (b5.ext hEx).cell
      simp only [fr, dstOf]
      go_simp
      go_wp2
      first | exact ⟨Upd.refl _ _, rfl⟩ | exact ⟨_, rfl, Upd.refl _ _, rfl⟩
    | 1, _ =>
      intro u wx S o ho hE hr hd hw
      injection (ho : some _ = some o) with ho
      subst ho
      have hEx : Ext w5 wx := hE.undrew
      have cx := (b6.ext hEx).cell
      simp only [fr, dstOf]
      go_simp
      go_wp2
      first | exact ⟨Upd.refl _ _, rfl⟩ | exact ⟨_, rfl, Upd.refl _ _, rfl⟩
    | 2, _ =>
      intro u wx S o ho hE hr hd hw
      injection (ho : some _ = some o) with ho
      subst ho
      have hEx : Ext w5 wx := hE.undrew
      have f0 : u 0 = .agg #[.slice A1 l1 c1] := hw 0 (by omega) (by kernel_rfl) (by simp)
      have f1 : u 1 = .agg #[.slice A2 l2 c2] := hw 1 (by omega) (by kernel_rfl) (by simp)
      simp only [fr, dstOf]
      go_simp
      go_wp2_with fail
      refine (mul_any _ _ x y 40 _ (hVx.ext hEx) (hVy.ext hEx) hFx4 hFy4 (by omega)).mono ?_
      rintro e wn ⟨A9, l9, c9, rfl, hVn, hU⟩
      go_wp2_with fail
      exact ⟨_, rfl, hU.mono (fun _ _ h => h.elim), _, _, _, rfl, hVn⟩
    | 3, _ =>
      intro u wx S o ho hE hr hd hw
      injection (ho : some _ = some o) with ho
      subst ho
      have hEx : Ext w5 wx := hE.undrew
      have cx := (b6.ext hEx).cell
      simp only [fr, dstOf]
      go_simp
      go_wp2
      first | exact ⟨Upd.refl _ _, rfl⟩ | exact ⟨_, rfl, Upd.refl _ _, rfl⟩
    | 4, _ =>
      intro u wx S o ho hE hr hd hw
      injection (ho : some _ = some o) with ho
      subst ho
      have hEx : Ext w5 wx := hE.undrew
      obtain ⟨aA2, aL2, aC2, f2, hV2⟩ : Fsh.J 2 (.val (.nat (x * y))) u wx (S 2) := hw 2 (by omega) (by kernel_rfl) (by simp)
      have f3 : u 3 = .agg #[.slice A2 l2 c2] := hw 3 (by omega) (by kernel_rfl) (by simp)
      simp only [fr, dstOf]
      go_simp
      go_wp2_with fail
      refine (div_any _ _ (x * y) y 40 _ hV2 (hVy.ext hEx) hFp hFy4 (by omega) hy.out).mono ?_
      rintro e wn ⟨A9, l9, c9, A10, l10, c10, rfl, hVm, hVn, hU⟩
      rw [Hpq.out] at hVm; rw [Hpr.out] at hVn
      go_wp2_with fail
      exact ⟨_, rfl, hU.mono (fun _ _ h => h.elim), _, _, _, rfl, ⟨_, _, _, rfl, hVm⟩, ⟨_, _, _, rfl, hVn⟩, rfl⟩
    | 5, _ =>
      intro u wx S o ho hE hr hd hw
      injection (ho : some _ = some o) with ho
      subst ho
      have hEx : Ext w5 wx := hE.undrew
      obtain ⟨_, _, _, f4, ⟨aA4_0, aL4_0, aC4_0, rfl, hV4_0⟩, ⟨aA4_1, aL4_1, aC4_1, rfl, hV4_1⟩, rfl⟩ : Fsh.J 4 (.tup3 (.nat (x)) (.nat (0)) (.eq (.int .i64 0))) u wx (S 4) := hw 4 (by omega) (by kernel_rfl) (by simp)
      simp only [fr, dstOf]
      go_simp
      go_wp2
      first | exact ⟨Upd.refl _ _, _, _, _, rfl, ⟨_, _, _, rfl, hV4_0⟩, ⟨_, _, _, rfl, hV4_1⟩, rfl⟩ | exact ⟨_, rfl, Upd.refl _ _, _, _, _, rfl, ⟨_, _, _, rfl, hV4_0⟩, ⟨_, _, _, rfl, hV4_1⟩, rfl⟩
    | 6, _ =>
      intro u wx S o ho hE hr hd hw
      injection (ho : some _ = some o) with ho
      subst ho
      have hEx : Ext w5 wx := hE.undrew
      obtain ⟨_, _, _, f5, ⟨aA5_0, aL5_0, aC5_0, rfl, hV5_0⟩, ⟨aA5_1, aL5_1, aC5_1, rfl, hV5_1⟩, rfl⟩ : Fsh.J 5 (.tup3 (.nat (x)) (.nat (0)) (.eq (.int .i64 0))) u wx (S 5) := hw 5 (by omega) (by kernel_rfl) (by simp)
      simp only [fr, dstOf]
      go_simp
      go_wp2
      first | exact ⟨Upd.refl _ _, aA5_0, aL5_0, aC5_0, rfl, hV5_0⟩ | exact ⟨_, rfl, Upd.refl _ _, aA5_0, aL5_0, aC5_0, rfl, hV5_0⟩
    | 7, _ =>
      intro u wx S o ho hE hr hd hw
      injection (ho : some _ = some o) with ho
      subst ho
      have hEx : Ext w5 wx := hE.undrew
      obtain ⟨_, _, _, f5, ⟨aA5_0, aL5_0, aC5_0, rfl, hV5_0⟩, ⟨aA5_1, aL5_1, aC5_1, rfl, hV5_1⟩, rfl⟩ : Fsh.J 5 (.tup3 (.nat (x)) (.nat (0)) (.eq (.int .i64 0))) u wx (S 5) := hw 5 (by omega) (by kernel_rfl) (by simp)
      simp only [fr, dstOf]
      go_simp
      go_wp2
      first | exact ⟨Upd.refl _ _, aA5_1, aL5_1, aC5_1, rfl, hV5_1⟩ | exact ⟨_, rfl, Upd.refl _ _, aA5_1, aL5_1, aC5_1, rfl, hV5_1⟩
    | 8, _ =>
      intro u wx S o ho hE hr hd hw
      injection (ho : some _ = some o) with ho
      subst ho
      have hEx : Ext w5 wx := hE.undrew
      obtain ⟨_, _, _, f5, ⟨aA5_0, aL5_0, aC5_0, rfl, hV5_0⟩, ⟨aA5_1, aL5_1, aC5_1, rfl, hV5_1⟩, rfl⟩ : Fsh.J 5 (.tup3 (.nat (x)) (.nat (0)) (.eq (.int .i64 0))) u wx (S 5) := hw 5 (by omega) (by kernel_rfl) (by simp)
      simp only [fr, dstOf]
      go_simp
      go_wp2
      first | exact ⟨Upd.refl _ _, rfl⟩ | exact ⟨_, rfl, Upd.refl _ _, rfl⟩
    | 9, _ =>
      intro u wx S o ho hE hr hd hw
      injection (ho : some _ = some o) with ho
      subst ho
      have hEx : Ext w5 wx := hE.undrew
      simp only [fr, dstOf]
      go_simp
      go_wp2
      first | exact ⟨(Upd.refl _ _).alloc _, wx.heap.size, rfl, Box.new _ _ _, ⟨Nat.le_refl _, by first | exact Nat.lt_succ_self _ | simp⟩, fun b hb => by first | omega | (simp at hb; omega)⟩ | exact ⟨_, rfl, (Upd.refl _ _).alloc _, wx.heap.size, rfl, Box.new _ _ _, ⟨Nat.le_refl _, by first | exact Nat.lt_succ_self _ | simp⟩, fun b hb => by first | omega | (simp at hb; omega)⟩
    | 10, _ =>
      intro u wx S o ho hE hr hd hw
      injection (ho : some _ = some o) with ho
      subst ho
      have hEx : Ext w5 wx := hE.undrew
      simp only [fr, dstOf]
      go_simp
      go_wp2
      first | exact ⟨(Upd.refl _ _).alloc _, wx.heap.size, rfl, Box.new _ _ _, ⟨Nat.le_refl _, by first | exact Nat.lt_succ_self _ | simp⟩, fun b hb => by first | omega | (simp at hb; omega)⟩ | exact ⟨_, rfl, (Upd.refl _ _).alloc _, wx.heap.size, rfl, Box.new _ _ _, ⟨Nat.le_refl _, by first | exact Nat.lt_succ_self _ | simp⟩, fun b hb => by first | omega | (simp at hb; omega)⟩
    | 11, _ =>
      intro u wx S o ho hE hr hd hw
      injection (ho : some _ = some o) with ho
      subst ho
      have hEx : Ext w5 wx := hE.undrew
      obtain ⟨aA6, aL6, aC6, f6, hV6⟩ : Fsh.J 6 (.val (.nat (x))) u wx (S 6) := hw 6 (by omega) (by kernel_rfl) (by simp)
      obtain ⟨g9, f9, hb9, hs9, hall9⟩ : Fsh.J 9 (.new 26 (.slice none 0 0)) u wx (S 9) := hw 9 (by omega) (by kernel_rfl) (by simp)
      have cg9 := hb9.cell
      have fg9 := hb9.frozen
      simp only [fr, dstOf]
      go_simp
      go_wp2
      first | exact ⟨(Upd.refl _ _).setCell (p := ⟨g9, 0, none⟩) (.inl hs9) _, undef, g9, aA6, aL6, aC6, (updf_ne u _ (by decide)).trans f9, hb9.set _, .inr hs9, hV6.far cg9⟩ | exact ⟨undef, (Upd.refl _ _).setCell (p := ⟨g9, 0, none⟩) (.inl hs9) _, g9, aA6, aL6, aC6, (updf_ne u _ (by decide)).trans f9, hb9.set _, .inr hs9, hV6.far cg9⟩ | exact ⟨trivial, (Upd.refl _ _).setCell (p := ⟨g9, 0, none⟩) (.inl hs9) _, undef, g9, aA6, aL6, aC6, (updf_ne u _ (by decide)).trans f9, hb9.set _, .inr hs9, hV6.far cg9⟩
    | 12, _ =>
      intro u wx S o ho hE hr hd hw
      injection (ho : some _ = some o) with ho
      subst ho
      have hEx : Ext w5 wx := hE.undrew
      obtain ⟨aA7, aL7, aC7, f7, hV7⟩ : Fsh.J 7 (.val (.nat (0))) u wx (S 7) := hw 7 (by omega) (by kernel_rfl) (by simp)
      obtain ⟨g10, f10, hb10, hs10, hall10⟩ : Fsh.J 10 (.new 26 (.slice none 0 0)) u wx (S 10) := hw 10 (by omega) (by kernel_rfl) (by simp)
      have cg10 := hb10.cell
      have fg10 := hb10.frozen
      simp only [fr, dstOf]
      go_simp
      go_wp2
      first | exact ⟨(Upd.refl _ _).setCell (p := ⟨g10, 0, none⟩) (.inl hs10) _, undef, g10, aA7, aL7, aC7, (updf_ne u _ (by decide)).trans f10, hb10.set _, .inr hs10, hV7.far cg10⟩ | exact ⟨undef, (Upd.refl _ _).setCell (p := ⟨g10, 0, none⟩) (.inl hs10) _, g10, aA7, aL7, aC7, (updf_ne u _ (by decide)).trans f10, hb10.set _, .inr hs10, hV7.far cg10⟩ | exact ⟨trivial, (Upd.refl _ _).setCell (p := ⟨g10, 0, none⟩) (.inl hs10) _, undef, g10, aA7, aL7, aC7, (updf_ne u _ (by decide)).trans f10, hb10.set _, .inr hs10, hV7.far cg10⟩
    | k + 13, h => exact absurd h (by omega)
  · intro u wx S hE hw hrg hdj
    have hEx : Ext w5 wx := hE.undrew
    have f0 : u 0 = .agg #[.slice A1 l1 c1] := hw 0 (by omega) (by simp)
    have f1 : u 1 = .agg #[.slice A2 l2 c2] := hw 1 (by omega) (by simp)
    obtain ⟨aA2, aL2, aC2, f2, hV2⟩ : Fsh.J 2 (.val (.nat (x * y))) u wx (S 2) := hw 2 (by omega) (by simp)
    have f3 : u 3 = .agg #[.slice A2 l2 c2] := hw 3 (by omega) (by simp)
    obtain ⟨_, _, _, f4, ⟨aA4_0, aL4_0, aC4_0, rfl, hV4_0⟩, ⟨aA4_1, aL4_1, aC4_1, rfl, hV4_1⟩, rfl⟩ : Fsh.J 4 (.tup3 (.nat (x)) (.nat (0)) (.eq (.int .i64 0))) u wx (S 4) := hw 4 (by omega) (by simp)
    obtain ⟨_, _, _, f5, ⟨aA5_0, aL5_0, aC5_0, rfl, hV5_0⟩, ⟨aA5_1, aL5_1, aC5_1, rfl, hV5_1⟩, rfl⟩ : Fsh.J 5 (.tup3 (.nat (x)) (.nat (0)) (.eq (.int .i64 0))) u wx (S 5) := hw 5 (by omega) (by simp)
    obtain ⟨aA6, aL6, aC6, f6, hV6⟩ : Fsh.J 6 (.val (.nat (x))) u wx (S 6) := hw 6 (by omega) (by simp)
    obtain ⟨aA7, aL7, aC7, f7, hV7⟩ : Fsh.J 7 (.val (.nat (0))) u wx (S 7) := hw 7 (by omega) (by simp)
    have f8 : u 8 = .int .i64 0 := hw 8 (by omega) (by simp)
    obtain ⟨g11, aA11, aL11, aC11, f9, hb11, hs11, hV11⟩ : Fsh.J 11 (.set 9 26 (x)) u wx (S 11) := hw 11 (by omega) (by simp)
    obtain ⟨g12, aA12, aL12, aC12, f10, hb12, hs12, hV12⟩ : Fsh.J 12 (.set 10 26 (0)) u wx (S 12) := hw 12 (by omega) (by simp)
    simp only [fr, dstOf]
    go_simp
    have hgg : g11 ≠ g12 := fun e => by
      subst e
      have := hdj 11 12 g11 hs11 hs12
      omega
    clear hw hrg hdj f0 f1 f2 f3 f4 f5 f6 f7 f8 f9 f10 hV2 hV4_0 hV4_1 hV5_0 hV5_1 hV6 hV7 hs11 hs12
    go_wp2_with fail
    have b5 := b5.ext hEx
    have b6 := b6.ext hEx
    have b7 := b7.ext hEx
    have b8 := b8.ext hEx
    have hVx := hVx.ext hEx
    have hVy := hVy.ext hEx
    have hVq := hVq.ext hEx
    have hVr := hVr.ext hEx
    have hEW := hEW.trans hEx
    have hG : Ext wx.drew wx.drew := Upd.refl _ _
    -- the loads of box b5 (at block w3.heap.size) in a region that begins in the world wx; its fact k5
    have k5 := fun x : Wd (Ext wx.drew) => (x.ok.cell (p := ⟨w3.heap.size, 0, none⟩) b5.drew.lt (fun h => h)).trans b5.drew.cell
    -- the loads of box b6 (at block w3.heap.size + 1) in a region that begins in the world wx; its fact k6
    have k6 := fun x : Wd (Ext wx.drew) => (x.ok.cell (p := ⟨w3.heap.size + 1, 0, none⟩) b6.drew.lt (fun h => h)).trans b6.drew.cell
    -- the loads of box b7 (at block w4.heap.size) in a region that begins in the world wx; its fact k7
    have k7 := fun x : Wd (Ext wx.drew) => (x.ok.cell (p := ⟨w4.heap.size, 0, none⟩) b7.drew.lt (fun h => h)).trans b7.drew.cell
    -- the loads of box b8 (at block w4.heap.size + 1) in a region that begins in the world wx; its fact k8
    have k8 := fun x : Wd (Ext wx.drew) => (x.ok.cell (p := ⟨w4.heap.size + 1, 0, none⟩) b8.drew.lt (fun h => h)).trans b8.drew.cell
    -- the loads of box hb11 (at block g11) in a region that begins in the world wx; its fact k11
    have k11 := fun x : Wd (Ext wx.drew) => (x.ok.cell (p := ⟨g11, 0, none⟩) hb11.drew.lt (fun h => h)).trans hb11.drew.cell
    -- the loads of box hb12 (at block g12) in a region that begins in the world wx; its fact k12
    have k12 := fun x : Wd (Ext wx.drew) => (x.ok.cell (p := ⟨g12, 0, none⟩) hb12.drew.lt (fun h => h)).trans hb12.drew.cell
    have hFq : Fit 40 (x / y) := hFx4.le (Nat.div_le_self _ _)
    have hFr : Fit 40 (x % y) := hFy4.le (Nat.le_of_lt (Nat.mod_lt _ hy.out))
    have hFqy : Fit 40 (x / y * y) := hFx4.le (Nat.div_mul_le_self _ _)
    have hsum : x / y * y + x % y = x := by rw [Nat.mul_comm]; exact Nat.div_add_mod _ _
    have Hsum := hide hsum
    have hF0 : Fit 40 0 := by unfold Fit; decide
    clear hsum
    refine wp_region_plan (Ext _) 32 [(false,0), (false,1), (false,2), (false,3), (false,4), (false,5), (false,6), (false,7), (false,8), (false,10), (false,12), (true,9), (true,11), (true,13), (false,14), (false,15), (false,16), (false,17), (false,18), (true,19), (false,20), (false,21), (false,22), (false,23), (false,24), (true,25), (false,26), (false,27), (false,28), (false,29), (true,30), (false,31)] (by kernel_rfl) (by kernel_rfl) (Upd.refl _ _) (fun hne => ?_)
    repeat (refine head_q rfl (fun K hK => ?_); have hK2 := hide hK; clear hK; go_simp; refine hK2.out _ ?_; clear hK2 K)
    refine head_l rfl ?_
    go_wp2_with (go_at_call 32; go_must (refine (mul_any _ _ (x / y) y 40 _ (hVq.ext hG.undrew) (hVy.ext hG.undrew) (hFq) (hFy4) (by omega)).mono ?_); rintro e w10 ⟨_, _, _, rfl, hVm, hU⟩; replace hG := hG.trans hU)
    refine ⟨Cls (Ext _), fun _ h => h, ⟨⟨_, hG⟩, rfl⟩, ?_⟩
    repeat (refine head_q rfl (fun K hK => ?_); have hK2 := hide hK; clear hK; go_simp; refine hK2.out _ ?_; clear hK2 K)
    -- (x / y * y) (x % y) numbers, hVm hVr.ext hG.undrew their lying, hFqy hFr their Fit, hVs name of what is known of the sum, w11 world,  more
    refine head_l rfl ?_
    go_wp2_with (go_at_call 35; go_must (refine (add_any _ _ (x / y * y) (x % y) 40 _ (hVm) (hVr.ext hG.undrew) (hFqy) (hFr) (by omega)).mono ?_); rintro e w11 ⟨_, _, _, rfl, hVs, hU⟩; replace hG := hG.trans hU)
    refine ⟨Cls (Ext _), fun _ h => h, ⟨⟨_, hG⟩, rfl⟩, ?_⟩
    repeat (refine head_q rfl (fun K hK => ?_); have hK2 := hide hK; clear hK; go_simp; refine hK2.out _ ?_; clear hK2 K)
    -- (x / y * y + x % y) x numbers, hVs hVx.ext hG.undrew their lying, Hsum.out.symm ▸ hFx4 hFx4 their Fit, Hsum.out, cmpI_eq the value, w12 world,  more
    refine head_l rfl ?_
    go_wp2_with (go_at_call 24; go_must (refine (cmp_any _ _ (x / y * y + x % y) x 40 _ (hVs) (hVx.ext hG.undrew) (Hsum.out.symm ▸ hFx4) (hFx4) (by omega)).mono ?_); rintro e w12 ⟨rfl, hU⟩; rw [Hsum.out, cmpI_eq]; replace hG := hG.trans hU)
    refine ⟨Cls (Ext _), fun _ h => h, ⟨⟨_, hG⟩, rfl⟩, ?_⟩
    repeat (refine head_q rfl (fun K hK => ?_); have hK2 := hide hK; clear hK; go_simp; refine hK2.out _ ?_; clear hK2 K)
    -- (x % y) y numbers, hVr.ext hG.undrew hVy.ext hG.undrew their lying, hFr hFy4 their Fit, cmpI_lt (Nat.mod_lt _ hy.out) the value, w13 world,  more
    refine head_l rfl ?_
    go_wp2_with (go_at_call 24; go_must (refine (cmp_any _ _ (x % y) y 40 _ (hVr.ext hG.undrew) (hVy.ext hG.undrew) (hFr) (hFy4) (by omega)).mono ?_); rintro e w13 ⟨rfl, hU⟩; rw [cmpI_lt (Nat.mod_lt _ hy.out)]; replace hG := hG.trans hU)
    refine ⟨Cls (Ext _), fun _ h => h, ⟨⟨_, hG⟩, rfl⟩, ?_⟩
    repeat (refine head_q rfl (fun K hK => ?_); have hK2 := hide hK; clear hK; go_simp; refine hK2.out _ ?_; clear hK2 K)
    -- x x numbers, hV11.ext hG.undrew hVx.ext hG.undrew their lying, hFx4 hFx4 their Fit, cmpI_eq the value, w14 world,  more
    refine head_l rfl ?_
    go_wp2_with (go_at_call 24; go_must (refine (cmp_any _ _ x x 40 _ (hV11.ext hG.undrew) (hVx.ext hG.undrew) (hFx4) (hFx4) (by omega)).mono ?_); rintro e w14 ⟨rfl, hU⟩; rw [cmpI_eq]; replace hG := hG.trans hU)
    refine ⟨Cls (Ext _), fun _ h => h, ⟨⟨_, hG⟩, rfl⟩, ?_⟩
    repeat (refine head_q rfl (fun K hK => ?_); have hK2 := hide hK; clear hK; go_simp; refine hK2.out _ ?_; clear hK2 K)
    refine head_l rfl ?_
    go_wp2_with (go_at_call 23; go_must (refine (zero_any _ 0 _ (hV12.ext hG.undrew)).mono ?_); rintro e w15 ⟨rfl, hU⟩; rw [decide_eq_true rfl]; replace hG := hG.trans hU)
    refine ⟨Cls (Ext _), fun _ h => h, ⟨⟨_, hG⟩, rfl⟩, ?_⟩
    repeat (refine head_q rfl (fun K hK => ?_); have hK2 := hide hK; clear hK; go_simp; refine hK2.out _ ?_; clear hK2 K)
    refine head_nil ?_
    try simp only [List.drop_succ_cons, List.drop_zero]
    go_wp2_with fail
    go_ret
    exact ⟨rfl, hEW.trans hG.undrew⟩
theorem nback_any (A B : Option Addr) (n c m d : Nat) (bs cs : List (BitVec 8)) (w : World) (h1 : In8 w A n c bs) (h2 : In8 w B m d cs) :
    Calls Try.prog 8 #[.slice A n c, .slice B m d] w fun e w' => e = .returned (.bool true) ∧ Ext w w' := by
  obtain ⟨x, hFx, N1, R1⟩ := in_num h1
  obtain ⟨y, hFy, N2, R2⟩ := in_num h2
  rcases Nat.eq_zero_or_pos y with hy | hy
  · exact nback_zero A B n c m d x y w hFx hFy N1 N2 (hide hy)
  · exact nback_more A B n c m d x y w hFx hFy N1 N2 (hide hy)
end Go.Proofs.Ytekpjdfgpggcnaa
