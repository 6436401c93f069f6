/- The law on the greatest number that divides two, walked. -/
import Derived.Test.YtekpjdfgpggcnaaLawM
namespace Go.Proofs.Ytekpjdfgpggcnaa
open Go.RowKit
open Nt
attribute [local go_sem] steady steadyUpon Cls same_cell by8 str_eq


set_option maxRecDepth 100000 in
set_option maxHeartbeats 4000000 in
theorem ngcds_zero (A B : Option Addr) (n c m d n1 m1 x y g : Nat) (w : World) (hmin1 : min (n : Int) 24 = (n1 : Int)) (hmin2 : min (m : Int) 24 = (m1 : Int)) (hn : n ≤ c) (hm : m ≤ d) (hn1 : n1 ≤ c) (hm1 : m1 ≤ d) (hc : c ≤ 9223372036854775807) (hd : d ≤ 9223372036854775807) (hFx : Fit 12 x) (hFy : Fit 12 y) (hFg : Fit 12 g) (Hg : Hid (Nat.gcd x y = g)) (N1 : Hid (∀ w', Ext w w' → Calls Try.prog 19 #[.slice A n1 c] w' (RetN w' x))) (R1 : Hid (∀ w', Ext w w' → Calls Try.prog 20 #[.slice A n1 c] w' (RetR w' x)))
    (N2 : Hid (∀ w', Ext w w' → Calls Try.prog 19 #[.slice B m1 d] w' (RetN w' y))) (R2 : Hid (∀ w', Ext w w' → Calls Try.prog 20 #[.slice B m1 d] w' (RetR w' y))) (h0 : Hid (g = 0)) (hx0 : Hid (x = 0)) (hy0 : Hid (y = 0)) :
    Calls Try.prog 5 #[.slice A n c, .slice B m d] w fun e w' => e = .returned (.bool true) ∧ Ext w w' := by
  have hs1 : ∀ w, (Instr.sliceAt 22 (.slice A n c) none (some (.int .i64 (n1 : Int))) none).run Try.prog w = .ok (.slice A n1 c) w := fun w => run_cut_h Try.n_el8.under Try.n_sz8 A n c n1 .i64 (by omega) w
  have hs2 : ∀ w, (Instr.sliceAt 22 (.slice B m d) none (some (.int .i64 (m1 : Int))) none).run Try.prog w = .ok (.slice B m1 d) w := fun w => run_cut_h Try.n_el8.under Try.n_sz8 B m d m1 .i64 (by omega) w
  go_enter Try.func5, Try.ntmps5
  go_wp2_with fail
  refine (nlives_any _).mono ?_
  rintro e w1 ⟨rfl, hE⟩
  go_wp2_with fail
  refine wp_region_plan (Same _) 11 [(false,0), (false,1), (false,2), (false,3), (false,4), (false,5), (false,6), (false,7), (false,8), (false,9), (false,10)] (by kernel_rfl) (by kernel_rfl) rfl (fun hne => ?_)
  repeat (refine head_q rfl (fun K hK => ?_); have hK2 := hide hK; clear hK; go_simp; refine hK2.out _ ?_; clear hK2 K)
  clear hmin1 hmin2 hs1 hs2
  refine head_nil ?_
  try simp only [List.drop_succ_cons, List.drop_zero]
  replace hE : Ext w w1.drew := hE.drew
  go_wp2_with fail
  refine (N1.out _ hE).mono ?_
  rintro e w2 ⟨A1, l1, c1, rfl, hVx, hU⟩
  replace hE := hE.trans hU
  go_wp2_with fail
  refine (N2.out _ hE).mono ?_
  rintro e w3 ⟨A2, l2, c2, rfl, hVy, hU⟩
  replace hE := hE.trans hU
  replace hVx := hVx.ext hU
  go_wp2_with fail
  refine name_c (fun W hW => ?_)
  have b5 : Box W w3.heap.size 26 (.slice A1 l1 c1) := by rw [hW]; exact Box.alloc (Box.new _ _ _) _
  have b6 : Box W (w3.heap.size + 1) 26 (.slice A2 l2 c2) := by rw [hW]; exact Box.new_at (by simp)
  have hEW : Ext w W := by rw [hW]; exact (hE.alloc _).alloc _
  have hXW : Ext w3 W := by rw [hW]; exact ((Upd.refl _ _).alloc _).alloc _
  replace hVx := hVx.ext hXW
  replace hVy := hVy.ext hXW
  clear hW hE hXW hU
  refine (gcd_any _ _ x y 12 _ hVx hVy hFx hFy (by omega)).mono ?_
  rintro e w4 ⟨A3, l3, c3, rfl, hVg, hU⟩
  rw [Hg.out] at hVg
  go_wp2_with fail
  refine name_w (fun X hX => ?_)
  have b7 : Box X w4.heap.size 26 (.slice A3 l3 c3) := by rw [hX]; exact Box.new _ _ _
  have hXX : Ext W X := by rw [hX]; exact hU.alloc _
  have hX4 : Ext w4 X := by rw [hX]; exact (Upd.refl _ _).alloc _
  replace hVg := hVg.ext hX4
  replace b5 := b5.ext hXX
  replace b6 := b6.ext hXX
  replace hVx := hVx.ext hXX
  replace hVy := hVy.ext hXX
  replace hEW := hEW.trans hXX
  clear hX hXX hX4 hU
  have hG : Ext X.drew X.drew := Upd.refl _ _
  -- the loads of box b7 (at block w4.heap.size) in a region that begins in the world X; its fact k7
  have k7 := fun x : Wd (Ext X.drew) => (x.ok.cell (p := ⟨w4.heap.size, 0, none⟩) b7.drew.lt (fun h => h)).trans b7.drew.cell
  refine wp_region_plan (Ext _) 7 [(false,0), (false,1), (false,3), (true,2), (true,4), (true,5), (true,6)] (by kernel_rfl) (by kernel_rfl) (Upd.refl _ _) (fun hne => ?_)
  repeat (refine head_q rfl (fun K hK => ?_); have hK2 := hide hK; clear hK; go_simp; refine hK2.out _ ?_; clear hK2 K)
  refine head_l rfl ?_
  go_wp2_with (go_at_call 20; go_must (refine (R1.out _ (hEW.trans hG.undrew)).mono ?_); rintro e w5 ⟨A4, l4, c4, rfl, hRx, hU⟩; replace hG := hG.trans hU)
  refine ⟨Cls (Ext _), fun _ h => h, ⟨⟨_, hG⟩, rfl⟩, ?_⟩
  repeat (refine head_q rfl (fun K hK => ?_); have hK2 := hide hK; clear hK; go_simp; refine hK2.out _ ?_; clear hK2 K)
  refine head_l rfl ?_
  go_wp2_with (go_at_call 20; go_must (refine (R2.out _ (hEW.trans hG.undrew)).mono ?_); rintro e w6 ⟨A5, l5, c5, rfl, hRy, hU⟩; replace hG := hG.trans hU; replace hRx := hRx.ext hU)
  refine ⟨Cls (Ext _), fun _ h => h, ⟨⟨_, hG⟩, rfl⟩, ?_⟩
  repeat (refine head_q rfl (fun K hK => ?_); have hK2 := hide hK; clear hK; go_simp; refine hK2.out _ ?_; clear hK2 K)
  refine head_l rfl ?_
  go_wp2_with (go_at_call 27; go_must (refine (rgcd_any _ _ x y 400 _ hRx hRy (by have := Fit.blen hFx; omega) (by have := Fit.blen hFy; omega) (by omega)).mono ?_); rintro e w7 ⟨A6, l6, c6, rfl, hRg, hU⟩; rw [Hg.out] at hRg; replace hG := hG.trans hU)
  refine ⟨Cls (Ext _), fun _ h => h, ⟨⟨_, hG⟩, rfl⟩, ?_⟩
  repeat (refine head_q rfl (fun K hK => ?_); have hK2 := hide hK; clear hK; go_simp; refine hK2.out _ ?_; clear hK2 K)
  refine head_l rfl ?_
  go_wp2_with (go_at_call 16; go_must (refine (lsame_any _ _ g g 12 _ (hVg.ext hG.undrew) hRg hFg hFg (by omega)).mono ?_); rintro e w8 ⟨rfl, hU⟩; rw [decide_eq_true rfl]; replace hG := hG.trans hU)
  refine ⟨Cls (Ext _), fun _ h => h, ⟨⟨_, hG⟩, rfl⟩, ?_⟩
  repeat (refine head_q rfl (fun K hK => ?_); have hK2 := hide hK; clear hK; go_simp; refine hK2.out _ ?_; clear hK2 K)
  refine head_nil ?_
  try simp only [List.drop_succ_cons, List.drop_zero]
  replace b5 := b5.ext hG.undrew
  replace b6 := b6.ext hG.undrew
  replace b7 := b7.ext hG.undrew
  replace hVx := hVx.ext hG.undrew
  replace hVy := hVy.ext hG.undrew
  replace hVg := hVg.ext hG.undrew
  replace hEW := hEW.trans hG.undrew
  clear hG k7 hU hRx hRy hRg
  have k7 := b7.cell
  have hG : Ext w8 w8 := Upd.refl _ _
  -- a call: zero_any _ g _ hVg its contract, w9 the world behind it, rfl what is known (Ext last)
  go_wp2_with fail
  refine (zero_any _ g _ hVg).mono ?_
  rintro e w9 ⟨rfl, hU⟩
  replace hG := hG.trans hU
  rw [decide_eq_true h0.out]
  have k5 := (b5.ext hG).cell
  -- a call: zero_any _ x _ (hVx.ext hG) its contract, w10 the world behind it, rfl what is known (Ext last)
  go_wp2_with fail
  refine (zero_any _ x _ (hVx.ext hG)).mono ?_
  rintro e w10 ⟨rfl, hU⟩
  replace hG := hG.trans hU
  rw [decide_eq_true hx0.out]
  have k6 := (b6.ext hG).cell
  -- a call: zero_any _ y _ (hVy.ext hG) its contract, w11 the world behind it, rfl what is known (Ext last)
  go_wp2_with fail
  refine (zero_any _ y _ (hVy.ext hG)).mono ?_
  rintro e w11 ⟨rfl, hU⟩
  replace hG := hG.trans hU
  rw [decide_eq_true hy0.out]
  go_wp2_with fail
  go_ret
  exact ⟨rfl, hEW.trans hG⟩
set_option maxRecDepth 100000 in
set_option maxHeartbeats 4000000 in
theorem ngcds_more (A B : Option Addr) (n c m d n1 m1 x y g : Nat) (w : World) (hmin1 : min (n : Int) 24 = (n1 : Int)) (hmin2 : min (m : Int) 24 = (m1 : Int)) (hn : n ≤ c) (hm : m ≤ d) (hn1 : n1 ≤ c) (hm1 : m1 ≤ d) (hc : c ≤ 9223372036854775807) (hd : d ≤ 9223372036854775807) (hFx : Fit 12 x) (hFy : Fit 12 y) (hFg : Fit 12 g) (Hg : Hid (Nat.gcd x y = g)) (N1 : Hid (∀ w', Ext w w' → Calls Try.prog 19 #[.slice A n1 c] w' (RetN w' x))) (R1 : Hid (∀ w', Ext w w' → Calls Try.prog 20 #[.slice A n1 c] w' (RetR w' x)))
    (N2 : Hid (∀ w', Ext w w' → Calls Try.prog 19 #[.slice B m1 d] w' (RetN w' y))) (R2 : Hid (∀ w', Ext w w' → Calls Try.prog 20 #[.slice B m1 d] w' (RetR w' y))) (h0 : Hid (0 < g)) (hx0 : Hid (x % g = 0)) (hy0 : Hid (y % g = 0)) :
    Calls Try.prog 5 #[.slice A n c, .slice B m d] w fun e w' => e = .returned (.bool true) ∧ Ext w w' := by
  have hs1 : ∀ w, (Instr.sliceAt 22 (.slice A n c) none (some (.int .i64 (n1 : Int))) none).run Try.prog w = .ok (.slice A n1 c) w := fun w => run_cut_h Try.n_el8.under Try.n_sz8 A n c n1 .i64 (by omega) w
  have hs2 : ∀ w, (Instr.sliceAt 22 (.slice B m d) none (some (.int .i64 (m1 : Int))) none).run Try.prog w = .ok (.slice B m1 d) w := fun w => run_cut_h Try.n_el8.under Try.n_sz8 B m d m1 .i64 (by omega) w
  go_enter Try.func5, Try.ntmps5
  go_wp2_with fail
  refine (nlives_any _).mono ?_
  rintro e w1 ⟨rfl, hE⟩
  go_wp2_with fail
  refine wp_region_plan (Same _) 11 [(false,0), (false,1), (false,2), (false,3), (false,4), (false,5), (false,6), (false,7), (false,8), (false,9), (false,10)] (by kernel_rfl) (by kernel_rfl) rfl (fun hne => ?_)
  repeat (refine head_q rfl (fun K hK => ?_); have hK2 := hide hK; clear hK; go_simp; refine hK2.out _ ?_; clear hK2 K)
  clear hmin1 hmin2 hs1 hs2
  refine head_nil ?_
  try simp only [List.drop_succ_cons, List.drop_zero]
  replace hE : Ext w w1.drew := hE.drew
  go_wp2_with fail
  refine (N1.out _ hE).mono ?_
  rintro e w2 ⟨A1, l1, c1, rfl, hVx, hU⟩
  replace hE := hE.trans hU
  go_wp2_with fail
  refine (N2.out _ hE).mono ?_
  rintro e w3 ⟨A2, l2, c2, rfl, hVy, hU⟩
  replace hE := hE.trans hU
  replace hVx := hVx.ext hU
  go_wp2_with fail
  refine name_c (fun W hW => ?_)
  have b5 : Box W w3.heap.size 26 (.slice A1 l1 c1) := by rw [hW]; exact Box.alloc (Box.new _ _ _) _
  have b6 : Box W (w3.heap.size + 1) 26 (.slice A2 l2 c2) := by rw [hW]; exact Box.new_at (by simp)
  have hEW : Ext w W := by rw [hW]; exact (hE.alloc _).alloc _
  have hXW : Ext w3 W := by rw [hW]; exact ((Upd.refl _ _).alloc _).alloc _
  replace hVx := hVx.ext hXW
  replace hVy := hVy.ext hXW
  clear hW hE hXW hU
  refine (gcd_any _ _ x y 12 _ hVx hVy hFx hFy (by omega)).mono ?_
  rintro e w4 ⟨A3, l3, c3, rfl, hVg, hU⟩
  rw [Hg.out] at hVg
  go_wp2_with fail
  refine name_w (fun X hX => ?_)
  have b7 : Box X w4.heap.size 26 (.slice A3 l3 c3) := by rw [hX]; exact Box.new _ _ _
  have hXX : Ext W X := by rw [hX]; exact hU.alloc _
  have hX4 : Ext w4 X := by rw [hX]; exact (Upd.refl _ _).alloc _
  replace hVg := hVg.ext hX4
  replace b5 := b5.ext hXX
  replace b6 := b6.ext hXX
  replace hVx := hVx.ext hXX
  replace hVy := hVy.ext hXX
  replace hEW := hEW.trans hXX
  clear hX hXX hX4 hU
  have hG : Ext X.drew X.drew := Upd.refl _ _
  -- the loads of box b7 (at block w4.heap.size) in a region that begins in the world X; its fact k7
  have k7 := fun x : Wd (Ext X.drew) => (x.ok.cell (p := ⟨w4.heap.size, 0, none⟩) b7.drew.lt (fun h => h)).trans b7.drew.cell
  refine wp_region_plan (Ext _) 7 [(false,0), (false,1), (false,3), (true,2), (true,4), (true,5), (true,6)] (by kernel_rfl) (by kernel_rfl) (Upd.refl _ _) (fun hne => ?_)
  repeat (refine head_q rfl (fun K hK => ?_); have hK2 := hide hK; clear hK; go_simp; refine hK2.out _ ?_; clear hK2 K)
  refine head_l rfl ?_
  go_wp2_with (go_at_call 20; go_must (refine (R1.out _ (hEW.trans hG.undrew)).mono ?_); rintro e w5 ⟨A4, l4, c4, rfl, hRx, hU⟩; replace hG := hG.trans hU)
  refine ⟨Cls (Ext _), fun _ h => h, ⟨⟨_, hG⟩, rfl⟩, ?_⟩
  repeat (refine head_q rfl (fun K hK => ?_); have hK2 := hide hK; clear hK; go_simp; refine hK2.out _ ?_; clear hK2 K)
  refine head_l rfl ?_
  go_wp2_with (go_at_call 20; go_must (refine (R2.out _ (hEW.trans hG.undrew)).mono ?_); rintro e w6 ⟨A5, l5, c5, rfl, hRy, hU⟩; replace hG := hG.trans hU; replace hRx := hRx.ext hU)
  refine ⟨Cls (Ext _), fun _ h => h, ⟨⟨_, hG⟩, rfl⟩, ?_⟩
  repeat (refine head_q rfl (fun K hK => ?_); have hK2 := hide hK; clear hK; go_simp; refine hK2.out _ ?_; clear hK2 K)
  refine head_l rfl ?_
  go_wp2_with (go_at_call 27; go_must (refine (rgcd_any _ _ x y 400 _ hRx hRy (by have := Fit.blen hFx; omega) (by have := Fit.blen hFy; omega) (by omega)).mono ?_); rintro e w7 ⟨A6, l6, c6, rfl, hRg, hU⟩; rw [Hg.out] at hRg; replace hG := hG.trans hU)
  refine ⟨Cls (Ext _), fun _ h => h, ⟨⟨_, hG⟩, rfl⟩, ?_⟩
  repeat (refine head_q rfl (fun K hK => ?_); have hK2 := hide hK; clear hK; go_simp; refine hK2.out _ ?_; clear hK2 K)
  refine head_l rfl ?_
  go_wp2_with (go_at_call 16; go_must (refine (lsame_any _ _ g g 12 _ (hVg.ext hG.undrew) hRg hFg hFg (by omega)).mono ?_); rintro e w8 ⟨rfl, hU⟩; rw [decide_eq_true rfl]; replace hG := hG.trans hU)
  refine ⟨Cls (Ext _), fun _ h => h, ⟨⟨_, hG⟩, rfl⟩, ?_⟩
  repeat (refine head_q rfl (fun K hK => ?_); have hK2 := hide hK; clear hK; go_simp; refine hK2.out _ ?_; clear hK2 K)
  refine head_nil ?_
  try simp only [List.drop_succ_cons, List.drop_zero]
  replace b5 := b5.ext hG.undrew
  replace b6 := b6.ext hG.undrew
  replace b7 := b7.ext hG.undrew
  replace hVx := hVx.ext hG.undrew
  replace hVy := hVy.ext hG.undrew
  replace hVg := hVg.ext hG.undrew
  replace hEW := hEW.trans hG.undrew
  clear hG k7 hU hRx hRy hRg
  have k7 := b7.cell
  have hG : Ext w8 w8 := Upd.refl _ _
  -- a call: zero_any _ g _ hVg its contract, w9 the world behind it, rfl what is known (Ext last)
  go_wp2_with fail
  refine (zero_any _ g _ hVg).mono ?_
  rintro e w9 ⟨rfl, hU⟩
  replace hG := hG.trans hU
  rw [decide_eq_false (by have := h0.out; omega)]
  have k5 := (b5.ext hG).cell
  replace k7 := (b7.ext hG).cell
  -- a call: div_any _ _ x g 12 _ (hVx.ext hG) (hVg.ext hG) hFx hFg (by omega) h0.out its contract, w10 the world behind it, A7, l7, c7, A8, l8, c8, rfl, hV7, hV8 what is known (Ext last)
  go_wp2_with fail
  refine (div_any _ _ x g 12 _ (hVx.ext hG) (hVg.ext hG) hFx hFg (by omega) h0.out).mono ?_
  rintro e w10 ⟨A7, l7, c7, A8, l8, c8, rfl, hV7, hV8, hU⟩
  replace hG := hG.trans hU
  clear k5 k7
  have k6 := (((b6.ext hG).alloc (.cells #[.slice A7 l7 c7] 26)).alloc (.cells #[.slice A8 l8 c8] 26)).cell
  have k7 := (((b7.ext hG).alloc (.cells #[.slice A7 l7 c7] 26)).alloc (.cells #[.slice A8 l8 c8] 26)).cell
  go_wp2_with fail
  refine name_c (fun Y hY => ?_)
  have b9 : Box Y (w10.heap.size + 1) 26 (.slice A8 l8 c8) := by rw [hY]; exact Box.new_at (by simp)
  have hYG : Ext w10 Y := by rw [hY]; exact ((Upd.refl _ _).alloc _).alloc _
  replace hG := hG.trans hYG
  replace hV8 := hV8.ext hYG
  clear hY hYG k6 k7 hV7 hU
  have hY : Ext Y Y := Upd.refl _ _
  refine (div_any _ _ y g 12 _ (hVy.ext hG) (hVg.ext hG) hFy hFg (by omega) h0.out).mono ?_
  rintro e w11 ⟨A9, l9, c9, A10, l10, c10, rfl, hV9, hV10, hU⟩
  have k9 := (((b9.ext hU).alloc (.cells #[.slice A9 l9 c9] 26)).alloc (.cells #[.slice A10 l10 c10] 26)).cell
  go_wp2_with fail
  refine name_c (fun Z hZ => ?_)
  have b12 : Box Z (w11.heap.size + 1) 26 (.slice A10 l10 c10) := by rw [hZ]; exact Box.new_at (by simp)
  have hYZ : Ext w11 Z := by rw [hZ]; exact ((Upd.refl _ _).alloc _).alloc _
  replace hG := (hG.trans hU).trans hYZ
  replace hV8 := (hV8.ext hU).ext hYZ
  replace hV10 := hV10.ext hYZ
  clear hZ hYZ k9 hV9 hU
  refine (zero_any _ _ _ hV8).mono ?_
  rintro e w12 ⟨rfl, hU⟩
  rw [decide_eq_true hx0.out]
  have k12 := (b12.ext hU).cell
  replace hG := hG.trans hU
  -- a call: zero_any _ _ _ (hV10.ext hU) its contract, w13 the world behind it, rfl what is known (Ext last)
  go_wp2_with fail
  refine (zero_any _ _ _ (hV10.ext hU)).mono ?_
  rintro e w13 ⟨rfl, hU⟩
  replace hG := hG.trans hU
  rw [decide_eq_true hy0.out]
  go_wp2_with fail
  go_ret
  exact ⟨rfl, hEW.trans hG⟩
theorem cut24 {w : World} {A : Option Addr} {n c : Nat} {bs : List (BitVec 8)} (h : In8 w A n c bs) : min (n : Int) 24 = ((min n 24 : Nat) : Int) ∧ min n 24 ≤ c ∧ In8 w A (min n 24) c (bs.take 24) :=
  ⟨by omega, by have := h.2.1; omega, by rw [List.length_take, h.1]; omega, by have := h.2.1; omega, h.2.2.1, h.2.2.2.take 24⟩
theorem ngcds_any (A B : Option Addr) (n c m d : Nat) (bs cs : List (BitVec 8)) (w : World) (h1 : In8 w A n c bs) (h2 : In8 w B m d cs) :
    Calls Try.prog 5 #[.slice A n c, .slice B m d] w fun e w' => e = .returned (.bool true) ∧ Ext w w' := by
  obtain ⟨a1, a2, a3⟩ := cut24 h1
  obtain ⟨b1, b2, b3⟩ := cut24 h2
  obtain ⟨x, hFx, N1, R1⟩ := in_num a3
  obtain ⟨y, hFy, N2, R2⟩ := in_num b3
  have hc := h1.2.2.1
  have hd := h2.2.2.1
  unfold maxLen at hc hd
  have hFg : Fit 12 (Nat.gcd x y) := by
    rcases Nat.eq_zero_or_pos x with h | h
    · rw [h, Nat.gcd_zero_left]; exact hFy
    · exact hFx.le (Nat.gcd_le_left _ h)
  rcases Nat.eq_zero_or_pos (Nat.gcd x y) with h | h
  · have hxy := Nat.gcd_eq_zero_iff.1 h
    exact ngcds_zero A B n c m d _ _ x y _ w a1 b1 h1.2.1 h2.2.1 a2 b2 (by omega) (by omega) hFx hFy hFg (hide rfl) N1 R1 N2 R2 (hide h) (hide hxy.1) (hide hxy.2)
  · exact ngcds_more A B n c m d _ _ x y _ w a1 b1 h1.2.1 h2.2.1 a2 b2 (by omega) (by omega) hFx hFy hFg (hide rfl) N1 R1 N2 R2 (hide h) (hide (Nat.mod_eq_zero_of_dvd (Nat.gcd_dvd_left x y))) (hide (Nat.mod_eq_zero_of_dvd (Nat.gcd_dvd_right x y)))
end Go.Proofs.Ytekpjdfgpggcnaa
