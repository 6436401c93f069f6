/- A group, walked: what is asked of it. -/
import Derived.Test.YtoekbomfepedcaaGrpM
import Derived.Test.YtoekbomfepedcaaExpL
import Derived.Test.YtoekbomfepedcaaBlk
namespace Go.Proofs.Ytoekbomfepedcaa
set_option linter.unusedSimpArgs false
set_option linter.unusedVariables false
open Go.RowKit
open Nt
attribute [local go_sem] steady steadyUpon Cls same_cell
attribute [local irreducible] wpHead wpTree wpHeadR
def grCs (gp gq : Nat) (A1 : Option Addr) (l1 c1 : Nat) (A2 : Option Addr) (l2 c2 sz : Nat) : Array Value := #[.pointer (some ⟨gp, 0, none⟩), .pointer (some ⟨gq, 0, none⟩), .slice A1 l1 c1, .slice A2 l2 c2, .int .i64 (sz : Int)]
/-- Block gr is a group: P, Q, the bases G and H. -/
def GrpV (w : World) (gr P Q G H : Nat) : Prop := ∃ gp gq A1 l1 c1 A2 l2 c2, Blk w gr 112 (grCs gp gq A1 l1 c1 A2 l2 c2 (byteSz P)) ∧ RingV w gp P ∧ RingV w gq Q ∧ NatV w (.agg #[.slice A1 l1 c1]) G ∧ NatV w (.agg #[.slice A2 l2 c2]) H
section
variable {w w' : World} {gr P Q G H : Nat}
theorem GrpV.ext (h : GrpV w gr P Q G H) (hu : Ext w w') : GrpV w' gr P Q G H := by
  obtain ⟨gp, gq, A1, l1, c1, A2, l2, c2, h1, h2, h3, h4, h5⟩ := h
  exact ⟨gp, gq, A1, l1, c1, A2, l2, c2, h1.ext hu, h2.ext hu, h3.ext hu, h4.ext hu, h5.ext hu⟩
end
section
variable (gr P Q G H k : Nat) (w : World)
set_option maxRecDepth 100000 in
set_option maxHeartbeats 1000000 in
theorem gP_any (h : GrpV w gr P Q G H) : Calls Try.prog 84 #[.pointer (some ⟨gr, 0, none⟩)] w (RetN w P) := by
  obtain ⟨gp, gq, A1, l1, c1, A2, l2, c2, h1, h2, h3, h4, h5⟩ := h
  go_enter Try.func84, Try.ntmps84
  have b1 : Box (w.alloc (.cells #[.slice none 0 0] 33)) w.heap.size 33 (.slice none 0 0) := Box.new _ _ _
  have hE : Ext w (w.alloc (.cells #[.slice none 0 0] 33)) := (by repeat (first | (with_reducible exact Upd.refl _ _) | (with_reducible assumption) | (refine Upd.setCell ?_ (.inr (by first | exact Nat.le_refl _ | (dsimp only; omega) | (simp; done) | (simp; omega))) _) | (with_reducible refine Upd.alloc ?_ _) | (with_reducible refine Upd.drew ?_) | (with_reducible refine Upd.trans ?_ (by with_reducible assumption))))
  have c0 : (w.alloc (.cells #[.slice none 0 0] 33)).cell? ⟨gr, 0, none⟩ = some (.pointer (some ⟨gp, 0, none⟩)) := (h1.ext hE).at 0 rfl
  go_wp2_with fail
  refine (mmod_any gp P _ (h2.ext hE)).mono ?_
  rintro e w1 ⟨A, l, c, rfl, hV, hU⟩
  have b1' := b1.ext hU
  have q2 := b1'.cell
  have q3 := b1'.frozen
  go_wp2_with fail
  have q := (b1'.set (.slice A l c)).cell
  exact bodyPost_ret (v := .agg #[.slice A l c]) (by simp [results, Try.results84, go_sem, q]) rfl ⟨_, _, _, rfl, hV.far q2, (hE.trans hU).setCell (p := ⟨w.heap.size, 0, none⟩) (.inr (Nat.le_refl _)) _⟩
set_option maxRecDepth 100000 in
theorem gField_any (h : GrpV w gr P Q G H) : Calls Try.prog 33 #[.pointer (some ⟨gr, 0, none⟩)] w fun e w' => ∃ gq, e = .returned (.pointer (some ⟨gq, 0, none⟩)) ∧ RingV w' gq Q ∧ w' = w := by
  obtain ⟨gp, gq, A1, l1, c1, A2, l2, c2, h1, h2, h3, h4, h5⟩ := h
  have c0 : w.cell? ⟨gr, 1, none⟩ = some (.pointer (some ⟨gq, 0, none⟩)) := h1.at 1 rfl
  go_enter Try.func33, Try.ntmps33
  go_wp2_with fail
  go_ret
  exact ⟨gq, rfl, h3, rfl⟩
set_option maxRecDepth 100000 in
set_option maxHeartbeats 1000000 in
theorem gExp_any (va vb : Value) (a b m : Nat) (h : GrpV w gr P Q G H) (hVa : NatV w va a) (hVb : NatV w vb b) (hFa : Fit k a) (hFn : Fit k P) (hFb : Fit m b) (hk : k ≤ 50000) (hm : m ≤ 50000) :
    Calls Try.prog 26 #[.pointer (some ⟨gr, 0, none⟩), va, vb] w (RetN w (a ^ b % P)) := by
  -- Exp the function's name; mexp_any _ _ gp a b P k m _ (h2.ext hED) (hVa.ext hED) (hVb.ext hED) hFa hFn hFb hk hm the call; numbers a, b
  obtain ⟨A, la, ca, xs, rfl, -⟩ := hVa.open_
  obtain ⟨B, lb, cb, ys, rfl, -⟩ := hVb.open_
  obtain ⟨gp, gq, A1, l1, c1, A2, l2, c2, h1, h2, h3, h4, h5⟩ := h
  go_enter Try.func26, Try.ntmps26
  go_wp2_with fail
  refine name_w (fun W hW => ?_)
  have b4 : Box W w.heap.size 33 (.slice A la ca) := by rw [hW]; exact ((Box.new _ _ _).alloc _).alloc _
  have b5 : Box W (w.heap.size + 1) 33 (.slice B lb cb) := by rw [hW]; exact (Box.new_at (by simp)).alloc _
  have b6 : Box W (w.heap.size + 1 + 1) 33 (.slice none 0 0) := by rw [hW]; exact Box.new_at (by simp)
  have hE : Ext w W := by rw [hW]; exact (((Upd.refl _ w).alloc _).alloc _).alloc _
  clear hW
  have hED : Ext w W.drew := hE.drew
  have q0 := fun y : Wd (Ext W.drew) => y.ok.cellv (show W.drew.cell? ⟨gr, 0, none⟩ = some (.pointer (some ⟨gp, 0, none⟩)) from (h1.ext hED).at 0 rfl)
  have q1 := fun y : Wd (Ext W.drew) => y.ok.cellv b4.drew.cell
  have q2 := fun y : Wd (Ext W.drew) => y.ok.cellv b5.drew.cell
  refine wp_region_plan (Ext _) 7 [(false,0), (false,1), (false,2), (false,3), (false,4), (false,5), (true,6)] (by kernel_rfl) (by kernel_rfl) (Upd.refl _ _) (fun hne => ?_)
  repeat (refine head_q rfl (fun K hK => ?_); have hK2 := hide hK; clear hK; go_simp; refine hK2.out _ ?_; clear hK2 K)
  refine head_l rfl ?_
  go_wp2_with (go_at_call 66; go_must (refine (mexp_any _ _ gp a b P k m _ (h2.ext hED) (hVa.ext hED) (hVb.ext hED) hFa hFn hFb hk hm).mono ?_); rintro e w1 ⟨A9, l9, c9, rfl, hV9, hU9⟩)
  refine ⟨Cls (Ext _), fun _ h => h, ⟨⟨_, hU9⟩, rfl⟩, ?_⟩
  repeat (refine head_q rfl (fun K hK => ?_); have hK2 := hide hK; clear hK; go_simp; refine hK2.out _ ?_; clear hK2 K)
  have b6' := b6.ext hU9.undrew
  have hG := hE.trans hU9.undrew
  have z2 := b6'.cell
  have z3 := b6'.frozen
  clear q0 q1 q2
  refine head_nil ?_
  try simp only [List.drop_succ_cons, List.drop_zero]
  go_wp2_with fail
  have q := (b6'.set (.slice A9 l9 c9)).cell
  exact bodyPost_ret (v := .agg #[.slice A9 l9 c9]) (by simp [results, Try.results26, go_sem, q]) rfl ⟨_, _, _, rfl, hV9.far z2, hG.setCell (p := ⟨w.heap.size + 1 + 1, 0, none⟩) (.inr (by simp; omega)) _⟩
set_option maxRecDepth 100000 in
set_option maxHeartbeats 1000000 in
theorem gMul_any (va vb : Value) (a b : Nat) (h : GrpV w gr P Q G H) (hVa : NatV w va a) (hVb : NatV w vb b) (hFa : Fit k a) (hFb : Fit k b) (hFn : Fit k P) (hk : k ≤ 50000) :
    Calls Try.prog 25 #[.pointer (some ⟨gr, 0, none⟩), va, vb] w (RetN w (a * b % P)) := by
  -- Mul the function's name; mmul_any _ _ gp a b P k _ (h2.ext hED) (hVa.ext hED) (hVb.ext hED) hFa hFb hFn (by omega) the call; numbers a, b
  obtain ⟨A, la, ca, xs, rfl, -⟩ := hVa.open_
  obtain ⟨B, lb, cb, ys, rfl, -⟩ := hVb.open_
  obtain ⟨gp, gq, A1, l1, c1, A2, l2, c2, h1, h2, h3, h4, h5⟩ := h
  go_enter Try.func25, Try.ntmps25
  go_wp2_with fail
  refine name_w (fun W hW => ?_)
  have b4 : Box W w.heap.size 33 (.slice A la ca) := by rw [hW]; exact ((Box.new _ _ _).alloc _).alloc _
  have b5 : Box W (w.heap.size + 1) 33 (.slice B lb cb) := by rw [hW]; exact (Box.new_at (by simp)).alloc _
  have b6 : Box W (w.heap.size + 1 + 1) 33 (.slice none 0 0) := by rw [hW]; exact Box.new_at (by simp)
  have hE : Ext w W := by rw [hW]; exact (((Upd.refl _ w).alloc _).alloc _).alloc _
  clear hW
  have hED : Ext w W.drew := hE.drew
  have q0 := fun y : Wd (Ext W.drew) => y.ok.cellv (show W.drew.cell? ⟨gr, 0, none⟩ = some (.pointer (some ⟨gp, 0, none⟩)) from (h1.ext hED).at 0 rfl)
  have q1 := fun y : Wd (Ext W.drew) => y.ok.cellv b4.drew.cell
  have q2 := fun y : Wd (Ext W.drew) => y.ok.cellv b5.drew.cell
  refine wp_region_plan (Ext _) 7 [(false,0), (false,1), (false,2), (false,3), (false,4), (false,5), (true,6)] (by kernel_rfl) (by kernel_rfl) (Upd.refl _ _) (fun hne => ?_)
  repeat (refine head_q rfl (fun K hK => ?_); have hK2 := hide hK; clear hK; go_simp; refine hK2.out _ ?_; clear hK2 K)
  refine head_l rfl ?_
  go_wp2_with (go_at_call 42; go_must (refine (mmul_any _ _ gp a b P k _ (h2.ext hED) (hVa.ext hED) (hVb.ext hED) hFa hFb hFn (by omega)).mono ?_); rintro e w1 ⟨A9, l9, c9, rfl, hV9, hU9⟩)
  refine ⟨Cls (Ext _), fun _ h => h, ⟨⟨_, hU9⟩, rfl⟩, ?_⟩
  repeat (refine head_q rfl (fun K hK => ?_); have hK2 := hide hK; clear hK; go_simp; refine hK2.out _ ?_; clear hK2 K)
  have b6' := b6.ext hU9.undrew
  have hG := hE.trans hU9.undrew
  have z2 := b6'.cell
  have z3 := b6'.frozen
  clear q0 q1 q2
  refine head_nil ?_
  try simp only [List.drop_succ_cons, List.drop_zero]
  go_wp2_with fail
  have q := (b6'.set (.slice A9 l9 c9)).cell
  exact bodyPost_ret (v := .agg #[.slice A9 l9 c9]) (by simp [results, Try.results25, go_sem, q]) rfl ⟨_, _, _, rfl, hV9.far z2, hG.setCell (p := ⟨w.heap.size + 1 + 1, 0, none⟩) (.inr (by simp; omega)) _⟩
theorem cmpI_one (x : Nat) : (cmpI x 1 == 0) = decide (x = 1) := by
  unfold cmpI
  by_cases h : x < 1
  · rw [if_pos h, decide_eq_false (by omega)]; rfl
  · rw [if_neg h]
    by_cases h2 : x = 1
    · rw [decide_eq_true h2, h2]; rfl
    · rw [decide_eq_false h2]
      split
      · omega
      · rfl
/-! ### is it a member? -/
set_option maxRecDepth 100000 in
set_option maxHeartbeats 4000000 in
theorem gMember_any (va : Value) (a : Nat) (h : GrpV w gr P Q G H) (hVa : NatV w va a) (hFa : Fit k a) (hFP : Fit k P) (hFQ : Fit k Q) (hk : k ≤ 50000) (hk1 : 1 ≤ k) :
    Calls Try.prog 35 #[.pointer (some ⟨gr, 0, none⟩), va] w fun e w' => e = .returned (.bool (memB P Q a)) ∧ Ext w w' := by
  obtain ⟨A, la, ca, xs, rfl, -⟩ := hVa.open_
  have hG := h
  obtain ⟨gp, gq, A1, l1, c1, A2, l2, c2, h1, h2, h3, h4, h5⟩ := h
  obtain ⟨t, ht⟩ : ∃ t, t = memB P Q a := ⟨_, rfl⟩
  rw [← ht]
  have Ht := hide ht
  clear ht
  go_enter Try.func35, Try.ntmps35
  go_wp2_with fail
  refine name_w (fun W hW => ?_)
  have b4 : Box W w.heap.size 33 (.slice A la ca) := by rw [hW]; exact Box.new _ _ _
  have hE : Ext w W := by rw [hW]; exact (Upd.refl _ w).alloc _
  clear hW
  have hED : Ext w W.drew := hE.drew
  have q0 := fun y : Wd (Ext W.drew) => y.ok.cellv (show W.drew.cell? ⟨gr, 0, none⟩ = some (.pointer (some ⟨gp, 0, none⟩)) from (h1.ext hED).at 0 rfl)
  have q9 := fun y : Wd (Ext W.drew) => y.ok.cellv (show W.drew.cell? ⟨gr, 1, none⟩ = some (.pointer (some ⟨gq, 0, none⟩)) from (h1.ext hED).at 1 rfl)
  have q1 := fun y : Wd (Ext W.drew) => y.ok.cellv b4.drew.cell
  refine wp_region_plan (Ext _) 30 [(false,0), (false,1), (false,2), (false,3), (true,4), (false,5), (false,6), (false,7), (false,8), (false,9), (true,10), (true,11), (false,12), (false,13), (false,14), (false,15), (false,16), (false,17), (false,18), (false,19), (false,20), (false,21), (false,22), (false,23), (true,24), (true,25), (true,26), (true,27), (false,28), (false,29)] (by kernel_rfl) (by kernel_rfl) (Upd.refl _ _) (fun hne => ?_)
  repeat (refine head_q rfl (fun K hK => ?_); have hK2 := hide hK; clear hK; go_simp; refine hK2.out _ ?_; clear hK2 K)
  by_cases h0 : a = 0
  · obtain rfl : t = false := Ht.out.trans (by unfold memB; rw [decide_eq_false (by omega)]; rfl)
    refine head_l rfl ?_
    go_wp2_with (go_at_call 24; go_must (refine (zero_any _ a _ (hVa.ext hED)).mono ?_); rintro e w1 ⟨rfl, hU1⟩; rw [decide_eq_true h0])
    refine ⟨Cls (Ext _), fun _ h => h, ⟨⟨_, hU1⟩, rfl⟩, ?_⟩
    repeat (refine head_q rfl (fun K hK => ?_); have hK2 := hide hK; clear hK; go_simp; refine hK2.out _ ?_; clear hK2 K)
    refine head_l rfl ?_
    go_wp2_with fail
    refine ⟨Cls (Ext _), fun _ h => h, ⟨⟨_, hU1⟩, rfl⟩, ?_⟩
    repeat (refine head_q rfl (fun K hK => ?_); have hK2 := hide hK; clear hK; go_simp; refine hK2.out _ ?_; clear hK2 K)
    refine head_l rfl ?_
    go_wp2_with fail
    refine ⟨Cls (Ext _), fun _ h => h, ⟨⟨_, hU1⟩, rfl⟩, ?_⟩
    repeat (refine head_q rfl (fun K hK => ?_); have hK2 := hide hK; clear hK; go_simp; refine hK2.out _ ?_; clear hK2 K)
    refine head_l rfl ?_
    go_wp2_with fail
    refine ⟨Cls (Ext _), fun _ h => h, ⟨⟨_, hU1⟩, rfl⟩, ?_⟩
    repeat (refine head_q rfl (fun K hK => ?_); have hK2 := hide hK; clear hK; go_simp; refine hK2.out _ ?_; clear hK2 K)
    refine head_l rfl ?_
    go_wp2_with fail
    refine ⟨Cls (Ext _), fun _ h => h, ⟨⟨_, hU1⟩, rfl⟩, ?_⟩
    repeat (refine head_q rfl (fun K hK => ?_); have hK2 := hide hK; clear hK; go_simp; refine hK2.out _ ?_; clear hK2 K)
    refine head_l rfl ?_
    go_wp2_with fail
    refine ⟨Cls (Ext _), fun _ h => h, ⟨⟨_, hU1⟩, rfl⟩, ?_⟩
    repeat (refine head_q rfl (fun K hK => ?_); have hK2 := hide hK; clear hK; go_simp; refine hK2.out _ ?_; clear hK2 K)
    refine head_l rfl ?_
    go_wp2_with fail
    refine ⟨Cls (Ext _), fun _ h => h, ⟨⟨_, hU1⟩, rfl⟩, ?_⟩
    repeat (refine head_q rfl (fun K hK => ?_); have hK2 := hide hK; clear hK; go_simp; refine hK2.out _ ?_; clear hK2 K)
    have hG := hED.trans hU1
    refine head_nil ?_
    try simp only [List.drop_succ_cons, List.drop_zero]
    go_wp2_with fail
    go_ret
    exact ⟨rfl, hG⟩
  refine head_l rfl ?_
  go_wp2_with (go_at_call 24; go_must (refine (zero_any _ a _ (hVa.ext hED)).mono ?_); rintro e w1 ⟨rfl, hU1⟩; rw [decide_eq_false h0])
  refine ⟨Cls (Ext _), fun _ h => h, ⟨⟨_, hU1⟩, rfl⟩, ?_⟩
  repeat (refine head_q rfl (fun K hK => ?_); have hK2 := hide hK; clear hK; go_simp; refine hK2.out _ ?_; clear hK2 K)
  refine head_l rfl ?_
  go_wp2_with (go_at_call 84; go_must (refine (gP_any gr P Q G H _ (hG.ext (hED.trans hU1))).mono ?_); rintro e w2 ⟨A8, l8, c8, rfl, hV2, hU2⟩; replace hU2 := hU1.trans hU2)
  refine ⟨Cls (Ext _), fun _ h => h, ⟨⟨_, hU2⟩, rfl⟩, ?_⟩
  repeat (refine head_q rfl (fun K hK => ?_); have hK2 := hide hK; clear hK; go_simp; refine hK2.out _ ?_; clear hK2 K)
  by_cases hlt : a < P
  case neg =>
    obtain rfl : t = false := Ht.out.trans (by unfold memB; rw [decide_eq_false hlt]; simp)
    obtain ⟨z, hz, hz0⟩ : ∃ z, cmpI a P = z ∧ ¬ z < 0 := ⟨_, rfl, by unfold cmpI; rw [if_neg hlt]; split <;> omega⟩
    have hzd : decide (z < 0) = false := decide_eq_false hz0
    refine head_l rfl ?_
    go_wp2_with (go_at_call 27; go_must (refine (cmp_any _ _ a P k _ (hVa.ext (hED.trans hU2)) hV2 hFa hFP (by omega)).mono ?_); rintro e w3 ⟨rfl, hU3⟩; replace hU3 := hU2.trans hU3; rw [hz])
    refine ⟨Cls (Ext _), fun _ h => h, ⟨⟨_, hU3⟩, rfl⟩, ?_⟩
    repeat (refine head_q rfl (fun K hK => ?_); have hK2 := hide hK; clear hK; go_simp; refine hK2.out _ ?_; clear hK2 K)
    refine head_l rfl ?_
    go_wp2_with fail
    refine ⟨Cls (Ext _), fun _ h => h, ⟨⟨_, hU3⟩, rfl⟩, ?_⟩
    repeat (refine head_q rfl (fun K hK => ?_); have hK2 := hide hK; clear hK; go_simp; refine hK2.out _ ?_; clear hK2 K)
    refine head_l rfl ?_
    go_wp2_with fail
    refine ⟨Cls (Ext _), fun _ h => h, ⟨⟨_, hU3⟩, rfl⟩, ?_⟩
    repeat (refine head_q rfl (fun K hK => ?_); have hK2 := hide hK; clear hK; go_simp; refine hK2.out _ ?_; clear hK2 K)
    refine head_l rfl ?_
    go_wp2_with fail
    refine ⟨Cls (Ext _), fun _ h => h, ⟨⟨_, hU3⟩, rfl⟩, ?_⟩
    repeat (refine head_q rfl (fun K hK => ?_); have hK2 := hide hK; clear hK; go_simp; refine hK2.out _ ?_; clear hK2 K)
    refine head_l rfl ?_
    go_wp2_with fail
    refine ⟨Cls (Ext _), fun _ h => h, ⟨⟨_, hU3⟩, rfl⟩, ?_⟩
    repeat (refine head_q rfl (fun K hK => ?_); have hK2 := hide hK; clear hK; go_simp; refine hK2.out _ ?_; clear hK2 K)
    have hG := hED.trans hU3
    refine head_nil ?_
    try simp only [List.drop_succ_cons, List.drop_zero]
    go_wp2_with fail
    go_ret
    exact ⟨rfl, hG⟩
  have hz : cmpI a P = -1 := cmpI_lt hlt
  refine head_l rfl ?_
  go_wp2_with (go_at_call 27; go_must (refine (cmp_any _ _ a P k _ (hVa.ext (hED.trans hU2)) hV2 hFa hFP (by omega)).mono ?_); rintro e w3 ⟨rfl, hU3⟩; replace hU3 := hU2.trans hU3; rw [hz])
  refine ⟨Cls (Ext _), fun _ h => h, ⟨⟨_, hU3⟩, rfl⟩, ?_⟩
  repeat (refine head_q rfl (fun K hK => ?_); have hK2 := hide hK; clear hK; go_simp; refine hK2.out _ ?_; clear hK2 K)
  refine head_l rfl ?_
  go_wp2_with (go_at_call 34; go_must (refine (mmod_any gq Q _ (h3.ext (hED.trans hU3))).mono ?_); rintro e w4 ⟨A7, l7, c7, rfl, hV4, hU4⟩; replace hU4 := hU3.trans hU4)
  refine ⟨Cls (Ext _), fun _ h => h, ⟨⟨_, hU4⟩, rfl⟩, ?_⟩
  repeat (refine head_q rfl (fun K hK => ?_); have hK2 := hide hK; clear hK; go_simp; refine hK2.out _ ?_; clear hK2 K)
  refine head_l rfl ?_
  go_wp2_with (go_at_call 66; go_must (refine (mexp_any _ _ gp a Q P k k _ (h2.ext (hED.trans hU4)) (hVa.ext (hED.trans hU4)) hV4 hFa hFP hFQ hk hk).mono ?_); rintro e w5 ⟨A6, l6, c6, rfl, hV5, hU5⟩; have hU5g := hU4.trans hU5)
  refine ⟨Cls (Ext _), fun _ h => h, ⟨⟨_, hU5g⟩, rfl⟩, ?_⟩
  repeat (refine head_q rfl (fun K hK => ?_); have hK2 := hide hK; clear hK; go_simp; refine hK2.out _ ?_; clear hK2 K)
  refine head_l rfl ?_
  go_wp2_with (go_at_call 12; go_must (refine (new_any 1 _ (by decide)).mono ?_); rintro e w6 ⟨A5, l5, c5, rfl, hV6, hU6⟩; have hU6g := hU5g.trans hU6)
  refine ⟨Cls (Ext _), fun _ h => h, ⟨⟨_, hU6g⟩, rfl⟩, ?_⟩
  repeat (refine head_q rfl (fun K hK => ?_); have hK2 := hide hK; clear hK; go_simp; refine hK2.out _ ?_; clear hK2 K)
  have hFx : Fit k (a ^ Q % P) := hFP.le (Nat.le_of_lt (Nat.mod_lt _ (by omega)))
  have hF1 : Fit k 1 := Fit.mono (by unfold Fit; decide) hk1
  obtain ⟨z, hz, hz0⟩ : ∃ z, cmpI (a ^ Q % P) 1 = z ∧ (z == 0) = t := ⟨_, rfl, (cmpI_one (a ^ Q % P)).trans (by rw [Ht.out]; unfold memB; rw [decide_eq_true (show 0 < a by omega), decide_eq_true hlt]; rfl)⟩
  refine head_l rfl ?_
  go_wp2_with (go_at_call 27; go_must (refine (cmp_any _ _ (a ^ Q % P) 1 k _ (hV5.ext hU6) hV6 hFx hF1 (by omega)).mono ?_); rintro e w7 ⟨rfl, hU7⟩; have hU7g := hU6g.trans hU7; rw [hz])
  refine ⟨Cls (Ext _), fun _ h => h, ⟨⟨_, hU7g⟩, rfl⟩, ?_⟩
  repeat (refine head_q rfl (fun K hK => ?_); have hK2 := hide hK; clear hK; go_simp; refine hK2.out _ ?_; clear hK2 K)
  have hG := hED.trans hU7g
  refine head_nil ?_
  try simp only [List.drop_succ_cons, List.drop_zero]
  go_wp2_with fail
  go_ret
  exact ⟨rfl, hG⟩
end
end Go.Proofs.Ytoekbomfepedcaa
