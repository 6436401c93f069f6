/- The law on sums and differences, walked. -/
import Derived.Test.YtekpjdfgpggcnaaLawA
namespace Go.Proofs.Ytekpjdfgpggcnaa
open Go.RowKit
open Nt
attribute [local go_sem] steady steadyUpon Cls same_cell by8 str_eq

theorem name_c {P : Program} {K : Nat} {args : Array Value} {Q : Ending → World → Prop} {W : World} (h : ∀ W', W' = W → Calls P K args W' Q) : Calls P K args W Q := h W rfl
/-- what the helpers make of bytes that came in -/
theorem in_num {A : Option Addr} {n c : Nat} {bs : List (BitVec 8)} {w : World} (h : In8 w A n c bs) : ∃ x, Fit 12 x ∧ Hid (∀ w', Ext w w' → Calls Try.prog 19 #[.slice A n c] w' (RetN w' x)) ∧ Hid (∀ w', Ext w w' → Calls Try.prog 20 #[.slice A n c] w' (RetR w' x)) :=
  ⟨_, fit_48 bs, hide fun w' hu => num_any A n c bs w' (h.ext hu), hide fun w' hu => ref_any A n c bs w' (h.ext hu)⟩
theorem sub_yes (va vb : Value) (a b k : Nat) (w : World) (hVa : NatV w va a) (hVb : NatV w vb b) (hFa : Fit k a) (hFb : Fit k b) (hk : k ≤ 1000000) (h : b ≤ a) :
    Calls Try.prog 37 #[va, vb] w (RetO w (a - b) true) := by
  have := sub_any va vb a b k w hVa hVb hFa hFb hk
  rwa [if_neg (by omega)] at this
theorem sub_no (va vb : Value) (a b k : Nat) (w : World) (hVa : NatV w va a) (hVb : NatV w vb b) (hFa : Fit k a) (hFb : Fit k b) (hk : k ≤ 1000000) (h : a < b) :
    Calls Try.prog 37 #[va, vb] w (RetO w 0 false) := by
  have := sub_any va vb a b k w hVa hVb hFa hFb hk
  rwa [if_pos h] at this
theorem cmpI_ge {a b : Nat} (h : b ≤ a) : 0 ≤ cmpI a b := by
  rcases Int.lt_or_le (cmpI a b) 0 with h1 | h1
  · rw [cmpI_neg] at h1; omega
  · exact h1
theorem cmpI_lt {a b : Nat} (h : a < b) : cmpI a b = -1 := by unfold cmpI; rw [if_pos h]
theorem cmpI_eq {a : Nat} : cmpI a a = 0 := by unfold cmpI; rw [if_neg (Nat.lt_irrefl a), if_pos rfl]
theorem cmpI_gt {a b : Nat} (h : b < a) : cmpI a b = 1 := by unfold cmpI; rw [if_neg (by omega), if_neg (by omega)]


set_option maxRecDepth 100000 in
set_option maxHeartbeats 4000000 in
theorem nsums_yes (A B : Option Addr) (n c m d x y : Nat) (w : World) (hFx : Fit 12 x) (hFy : Fit 12 y) (N1 : Hid (∀ w', Ext w w' → Calls Try.prog 19 #[.slice A n c] w' (RetN w' x))) (R1 : Hid (∀ w', Ext w w' → Calls Try.prog 20 #[.slice A n c] w' (RetR w' x)))
    (N2 : Hid (∀ w', Ext w w' → Calls Try.prog 19 #[.slice B m d] w' (RetN w' y))) (R2 : Hid (∀ w', Ext w w' → Calls Try.prog 20 #[.slice B m d] w' (RetR w' y))) (hxy : y ≤ x) :
    Calls Try.prog 10 #[.slice A n c, .slice B m d] w fun e w' => e = .returned (.bool true) ∧ Ext w w' := by
  have hc0 := cmpI_ge hxy
  go_enter Try.func10, Try.ntmps10
  -- sub_yes _ _ x y 12 _ hVx hVy hFx hFy (by omega) hxy: the call of Sub with its world, (x - y): the value of the bool
  go_wp2_with fail
  refine (nlives_any _).mono ?_
  rintro e w1 ⟨rfl, hE⟩
  go_wp2_with fail
  refine (N1.out _ hE).mono ?_
  rintro e w2 ⟨A1, l1, c1, rfl, hVx, hU⟩
  replace hE := hE.trans hU
  go_wp2_with fail
  refine (N2.out _ hE).mono ?_
  rintro e w3 ⟨A2, l2, c2, rfl, hVy, hU⟩
  replace hE := hE.trans hU
  replace hVx := hVx.ext hU
  go_wp2_with fail
  refine (R1.out _ hE).mono ?_
  rintro e w4 ⟨A7, l7, c7, rfl, hRx, hU⟩
  replace hE := hE.trans hU
  replace hVx := hVx.ext hU
  replace hVy := hVy.ext hU
  go_wp2_with fail
  refine (R2.out _ hE).mono ?_
  rintro e w5 ⟨A8, l8, c8, rfl, hRy, hU⟩
  replace hE := hE.trans hU
  replace hVx := hVx.ext hU
  replace hVy := hVy.ext hU
  replace hRx := hRx.ext hU
  clear hU
  go_wp2_with fail
  refine name_c (fun W hW => ?_)
  -- W = the world with the two numbers in blocks
  have b5 : Box W w5.heap.size 26 (.slice A1 l1 c1) := by rw [hW]; exact Box.alloc (Box.new _ _ _) _
  have b6 : Box W (w5.heap.size + 1) 26 (.slice A2 l2 c2) := by rw [hW]; exact Box.new_at (by simp)
  have hEW : Ext w W := by rw [hW]; exact (hE.alloc _).alloc _
  replace hVx : NatV W (.agg #[.slice A1 l1 c1]) x := by rw [hW]; exact hVx.ext (((Upd.refl _ _).alloc _).alloc _)
  replace hVy : NatV W (.agg #[.slice A2 l2 c2]) y := by rw [hW]; exact hVy.ext (((Upd.refl _ _).alloc _).alloc _)
  replace hRx : RefV W (.slice A7 l7 c7) x := by rw [hW]; exact hRx.ext (((Upd.refl _ _).alloc _).alloc _)
  replace hRy : RefV W (.slice A8 l8 c8) y := by rw [hW]; exact hRy.ext (((Upd.refl _ _).alloc _).alloc _)
  clear hW hE
  go_wp2_with fail
  refine (sub_yes _ _ x y 12 _ hVx hVy hFx hFy (by omega) hxy).mono ?_
  rintro e w6 ⟨A3, l3, c3, rfl, hV3, hU⟩
  have hE6 := hEW.trans hU
  have b5' := b5.ext hU
  have b6' := b6.ext hU
  go_wp2_with fail
  refine name_w (fun X hX => ?_)
  have hEX : Ext W X := by rw [hX]; exact hU.alloc _
  have b9 : Box X w6.heap.size 26 (.slice A3 l3 c3) := by rw [hX]; exact Box.new _ _ _
  have hV3' : NatV X (.agg #[.slice A3 l3 c3]) (x - y) := by rw [hX]; exact hV3.ext ((Upd.refl _ _).alloc _)
  have hEwX := hEW.trans hEX
  clear hX hU hE6 b5' b6' hV3
  have k9 := fun x : Wd (Ext X.drew) => (x.ok.cell (p := ⟨w6.heap.size, 0, none⟩) b9.drew.lt (fun h => h)).trans b9.drew.cell
  refine wp_region_plan (Ext _) 25 [(false,0), (false,1), (false,2), (true,3), (false,4), (false,5), (false,6), (false,7), (false,8), (false,9), (false,10), (true,11), (false,12), (false,13), (false,14), (false,15), (false,16), (false,17), (false,18), (false,19), (false,20), (true,21), (true,22), (false,23), (false,24)] (by kernel_rfl) (by kernel_rfl) (Upd.refl _ _) (fun hne => ?_)
  repeat (refine head_q rfl (fun K hK => ?_); have hK2 := hide hK; clear hK; go_simp; refine hK2.out _ ?_; clear hK2 K)
  refine head_l rfl ?_
  go_wp2_with (go_at_call 25; go_must (refine (rcmp_any _ _ x y 400 _ (hRx.ext hEX.drew) (hRy.ext hEX.drew) (by have := Fit.blen hFx; omega) (by have := Fit.blen hFy; omega) (by omega)).mono ?_); rintro e w7 ⟨rfl, hG⟩)
  refine ⟨Cls (Ext _), fun _ h => h, ⟨⟨_, hG⟩, rfl⟩, ?_⟩
  repeat (refine head_q rfl (fun K hK => ?_); have hK2 := hide hK; clear hK; go_simp; refine hK2.out _ ?_; clear hK2 K)
  refine head_l rfl ?_
  go_wp2_with fail
  refine ⟨Cls (Ext _), fun _ h => h, ⟨⟨_, hG⟩, rfl⟩, ?_⟩
  repeat (refine head_q rfl (fun K hK => ?_); have hK2 := hide hK; clear hK; go_simp; refine hK2.out _ ?_; clear hK2 K)
  refine head_l rfl ?_
  go_wp2_with (go_at_call 38; go_must (refine (rsub_any _ _ x y 400 _ (hRx.ext (hEX.drew.trans hG)) (hRy.ext (hEX.drew.trans hG)) (by have := Fit.blen hFx; omega) (by omega) hxy).mono ?_); rintro e w8 ⟨A9, l9, c9, rfl, hV9, hU⟩; replace hG := hG.trans hU)
  refine ⟨Cls (Ext _), fun _ h => h, ⟨⟨_, hG⟩, rfl⟩, ?_⟩
  repeat (refine head_q rfl (fun K hK => ?_); have hK2 := hide hK; clear hK; go_simp; refine hK2.out _ ?_; clear hK2 K)
  refine head_l rfl ?_
  go_wp2_with (go_at_call 16; go_must (refine (lsame_any _ _ (x - y) (x - y) 13 _ (hV3'.ext hG.undrew) hV9 ((hFx.mono (by omega)).le (Nat.sub_le _ _)) ((hFx.mono (by omega)).le (Nat.sub_le _ _)) (by omega)).mono ?_); rintro e w9 ⟨rfl, hU⟩; rw [decide_eq_true rfl]; replace hG := hG.trans hU)
  refine ⟨Cls (Ext _), fun _ h => h, ⟨⟨_, hG⟩, rfl⟩, ?_⟩
  repeat (refine head_q rfl (fun K hK => ?_); have hK2 := hide hK; clear hK; go_simp; refine hK2.out _ ?_; clear hK2 K)
  refine head_nil ?_
  try simp only [List.drop_succ_cons, List.drop_zero]
  replace hG : Ext W w9 := hEX.drew.trans hG
  clear k9 hEX hEwX hV3' hV9 b9
  -- behind the test: hG : Ext W w9
  have k5 := (b5.ext hG).cell
  have k6 := (b6.ext hG).cell
  go_wp2_with fail
  refine (add_any _ _ x y 12 _ (hVx.ext hG) (hVy.ext hG) hFx hFy (by omega)).mono ?_
  rintro e w10 ⟨A4, l4, c4, rfl, hV4, hU⟩
  replace hG := hG.trans hU
  go_wp2_with fail
  refine (radd_any _ _ x y 400 _ (hRx.ext hG) (hRy.ext hG) (by have := Fit.blen hFx; omega) (by have := Fit.blen hFy; omega) (by omega)).mono ?_
  rintro e w11 ⟨A5, l5, c5, rfl, hV5, hU⟩
  replace hG := hG.trans hU
  replace hV4 := hV4.ext hU
  go_wp2_with fail
  refine (lsame_any _ _ (x + y) (x + y) 13 _ hV4 hV5 (Fit.add hFx hFy) (Fit.add hFx hFy) (by omega)).mono ?_
  rintro e w12 ⟨rfl, hU⟩
  rw [decide_eq_true rfl]
  replace hG := hG.trans hU
  replace k5 := (b5.ext hG).cell
  go_wp2_with fail
  refine (lsame_any _ _ x x 13 _ (hVx.ext hG) (hRx.ext hG) (hFx.mono (by omega)) (hFx.mono (by omega)) (by omega)).mono ?_
  rintro e w13 ⟨rfl, hU⟩
  rw [decide_eq_true rfl]
  replace hG := hG.trans hU
  replace k6 := (b6.ext hG).cell
  go_wp2_with fail
  refine (lsame_any _ _ y y 13 _ (hVy.ext hG) (hRy.ext hG) (hFy.mono (by omega)) (hFy.mono (by omega)) (by omega)).mono ?_
  rintro e w14 ⟨rfl, hU⟩
  rw [decide_eq_true rfl]
  replace hG := hG.trans hU
  go_wp2_with fail
  go_ret
  exact ⟨rfl, hEW.trans hG⟩
set_option maxRecDepth 100000 in
set_option maxHeartbeats 4000000 in
theorem nsums_no (A B : Option Addr) (n c m d x y : Nat) (w : World) (hFx : Fit 12 x) (hFy : Fit 12 y) (N1 : Hid (∀ w', Ext w w' → Calls Try.prog 19 #[.slice A n c] w' (RetN w' x))) (R1 : Hid (∀ w', Ext w w' → Calls Try.prog 20 #[.slice A n c] w' (RetR w' x)))
    (N2 : Hid (∀ w', Ext w w' → Calls Try.prog 19 #[.slice B m d] w' (RetN w' y))) (R2 : Hid (∀ w', Ext w w' → Calls Try.prog 20 #[.slice B m d] w' (RetR w' y))) (hxy : x < y) :
    Calls Try.prog 10 #[.slice A n c, .slice B m d] w fun e w' => e = .returned (.bool true) ∧ Ext w w' := by
  have hc0 := cmpI_lt hxy
  have Hc0 := hide hc0
  clear hc0
  go_enter Try.func10, Try.ntmps10
  -- sub_no _ _ x y 12 _ hVx hVy hFx hFy (by omega) hxy: the call of Sub with its world, 0: the value of the bool
  go_wp2_with fail
  refine (nlives_any _).mono ?_
  rintro e w1 ⟨rfl, hE⟩
  go_wp2_with fail
  refine (N1.out _ hE).mono ?_
  rintro e w2 ⟨A1, l1, c1, rfl, hVx, hU⟩
  replace hE := hE.trans hU
  go_wp2_with fail
  refine (N2.out _ hE).mono ?_
  rintro e w3 ⟨A2, l2, c2, rfl, hVy, hU⟩
  replace hE := hE.trans hU
  replace hVx := hVx.ext hU
  go_wp2_with fail
  refine (R1.out _ hE).mono ?_
  rintro e w4 ⟨A7, l7, c7, rfl, hRx, hU⟩
  replace hE := hE.trans hU
  replace hVx := hVx.ext hU
  replace hVy := hVy.ext hU
  go_wp2_with fail
  refine (R2.out _ hE).mono ?_
  rintro e w5 ⟨A8, l8, c8, rfl, hRy, hU⟩
  replace hE := hE.trans hU
  replace hVx := hVx.ext hU
  replace hVy := hVy.ext hU
  replace hRx := hRx.ext hU
  clear hU
  go_wp2_with fail
  refine name_c (fun W hW => ?_)
  -- W = the world with the two numbers in blocks
  have b5 : Box W w5.heap.size 26 (.slice A1 l1 c1) := by rw [hW]; exact Box.alloc (Box.new _ _ _) _
  have b6 : Box W (w5.heap.size + 1) 26 (.slice A2 l2 c2) := by rw [hW]; exact Box.new_at (by simp)
  have hEW : Ext w W := by rw [hW]; exact (hE.alloc _).alloc _
  replace hVx : NatV W (.agg #[.slice A1 l1 c1]) x := by rw [hW]; exact hVx.ext (((Upd.refl _ _).alloc _).alloc _)
  replace hVy : NatV W (.agg #[.slice A2 l2 c2]) y := by rw [hW]; exact hVy.ext (((Upd.refl _ _).alloc _).alloc _)
  replace hRx : RefV W (.slice A7 l7 c7) x := by rw [hW]; exact hRx.ext (((Upd.refl _ _).alloc _).alloc _)
  replace hRy : RefV W (.slice A8 l8 c8) y := by rw [hW]; exact hRy.ext (((Upd.refl _ _).alloc _).alloc _)
  clear hW hE
  go_wp2_with fail
  refine (sub_no _ _ x y 12 _ hVx hVy hFx hFy (by omega) hxy).mono ?_
  rintro e w6 ⟨A3, l3, c3, rfl, hV3, hU⟩
  have hE6 := hEW.trans hU
  have b5' := b5.ext hU
  have b6' := b6.ext hU
  go_wp2_with fail
  refine name_w (fun X hX => ?_)
  have hEX : Ext W X := by rw [hX]; exact hU.alloc _
  have b9 : Box X w6.heap.size 26 (.slice A3 l3 c3) := by rw [hX]; exact Box.new _ _ _
  have hV3' : NatV X (.agg #[.slice A3 l3 c3]) 0 := by rw [hX]; exact hV3.ext ((Upd.refl _ _).alloc _)
  have hEwX := hEW.trans hEX
  clear hX hU hE6 b5' b6' hV3
  have k9 := fun x : Wd (Ext X.drew) => (x.ok.cell (p := ⟨w6.heap.size, 0, none⟩) b9.drew.lt (fun h => h)).trans b9.drew.cell
  refine wp_region_plan (Ext _) 25 [(false,0), (false,1), (false,2), (true,3), (false,4), (false,5), (false,6), (false,7), (false,8), (false,9), (false,10), (true,11), (false,12), (false,13), (false,14), (false,15), (false,16), (false,17), (false,18), (false,19), (false,20), (true,21), (true,22), (false,23), (false,24)] (by kernel_rfl) (by kernel_rfl) (Upd.refl _ _) (fun hne => ?_)
  repeat (refine head_q rfl (fun K hK => ?_); have hK2 := hide hK; clear hK; go_simp; refine hK2.out _ ?_; clear hK2 K)
  refine head_l rfl ?_
  go_wp2_with (go_at_call 25; go_must (refine (rcmp_any _ _ x y 400 _ (hRx.ext hEX.drew) (hRy.ext hEX.drew) (by have := Fit.blen hFx; omega) (by have := Fit.blen hFy; omega) (by omega)).mono ?_); rintro e w7 ⟨rfl, hG⟩; rw [Hc0.out])
  refine ⟨Cls (Ext _), fun _ h => h, ⟨⟨_, hG⟩, rfl⟩, ?_⟩
  repeat (refine head_q rfl (fun K hK => ?_); have hK2 := hide hK; clear hK; go_simp; refine hK2.out _ ?_; clear hK2 K)
  refine head_l rfl ?_
  go_wp2_with (go_at_call 23; go_must (refine (zero_any _ 0 _ (hV3'.ext hG.undrew)).mono ?_); rintro e w8 ⟨rfl, hU⟩; rw [decide_eq_true rfl]; replace hG := hG.trans hU)
  refine ⟨Cls (Ext _), fun _ h => h, ⟨⟨_, hG⟩, rfl⟩, ?_⟩
  repeat (refine head_q rfl (fun K hK => ?_); have hK2 := hide hK; clear hK; go_simp; refine hK2.out _ ?_; clear hK2 K)
  refine head_l rfl ?_
  go_wp2_with fail
  refine ⟨Cls (Ext _), fun _ h => h, ⟨⟨_, hG⟩, rfl⟩, ?_⟩
  repeat (refine head_q rfl (fun K hK => ?_); have hK2 := hide hK; clear hK; go_simp; refine hK2.out _ ?_; clear hK2 K)
  refine head_l rfl ?_
  go_wp2_with fail
  refine ⟨Cls (Ext _), fun _ h => h, ⟨⟨_, hG⟩, rfl⟩, ?_⟩
  repeat (refine head_q rfl (fun K hK => ?_); have hK2 := hide hK; clear hK; go_simp; refine hK2.out _ ?_; clear hK2 K)
  refine head_nil ?_
  try simp only [List.drop_succ_cons, List.drop_zero]
  replace hG : Ext W w8 := hEX.drew.trans hG
  clear k9 hEX hEwX hV3' b9
  -- behind the test: hG : Ext W w9
  have k5 := (b5.ext hG).cell
  have k6 := (b6.ext hG).cell
  go_wp2_with fail
  refine (add_any _ _ x y 12 _ (hVx.ext hG) (hVy.ext hG) hFx hFy (by omega)).mono ?_
  rintro e w10 ⟨A4, l4, c4, rfl, hV4, hU⟩
  replace hG := hG.trans hU
  go_wp2_with fail
  refine (radd_any _ _ x y 400 _ (hRx.ext hG) (hRy.ext hG) (by have := Fit.blen hFx; omega) (by have := Fit.blen hFy; omega) (by omega)).mono ?_
  rintro e w11 ⟨A5, l5, c5, rfl, hV5, hU⟩
  replace hG := hG.trans hU
  replace hV4 := hV4.ext hU
  go_wp2_with fail
  refine (lsame_any _ _ (x + y) (x + y) 13 _ hV4 hV5 (Fit.add hFx hFy) (Fit.add hFx hFy) (by omega)).mono ?_
  rintro e w12 ⟨rfl, hU⟩
  rw [decide_eq_true rfl]
  replace hG := hG.trans hU
  replace k5 := (b5.ext hG).cell
  go_wp2_with fail
  refine (lsame_any _ _ x x 13 _ (hVx.ext hG) (hRx.ext hG) (hFx.mono (by omega)) (hFx.mono (by omega)) (by omega)).mono ?_
  rintro e w13 ⟨rfl, hU⟩
  rw [decide_eq_true rfl]
  replace hG := hG.trans hU
  replace k6 := (b6.ext hG).cell
  go_wp2_with fail
  refine (lsame_any _ _ y y 13 _ (hVy.ext hG) (hRy.ext hG) (hFy.mono (by omega)) (hFy.mono (by omega)) (by omega)).mono ?_
  rintro e w14 ⟨rfl, hU⟩
  rw [decide_eq_true rfl]
  replace hG := hG.trans hU
  go_wp2_with fail
  go_ret
  exact ⟨rfl, hEW.trans hG⟩
theorem nsums_any (A B : Option Addr) (n c m d : Nat) (bs cs : List (BitVec 8)) (w : World) (h1 : In8 w A n c bs) (h2 : In8 w B m d cs) :
    Calls Try.prog 10 #[.slice A n c, .slice B m d] w fun e w' => e = .returned (.bool true) ∧ Ext w w' := by
  obtain ⟨x, hFx, N1, R1⟩ := in_num h1
  obtain ⟨y, hFy, N2, R2⟩ := in_num h2
  rcases Nat.lt_or_ge x y with hxy | hxy
  · exact nsums_no A B n c m d x y w hFx hFy N1 R1 N2 R2 hxy
  · exact nsums_yes A B n c m d x y w hFx hFy N1 R1 N2 R2 hxy
end Go.Proofs.Ytekpjdfgpggcnaa
