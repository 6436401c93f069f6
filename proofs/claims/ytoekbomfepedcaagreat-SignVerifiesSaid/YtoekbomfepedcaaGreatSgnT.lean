/- SignSigns, walked. -/
import Derived.Test.YtoekbomfepedcaaGreatSgnS
import Derived.Test.YtoekbomfepedcaaGreatSgnL
namespace Go.Proofs.YtoekbomfepedcaaGreat
set_option linter.unusedSimpArgs false
set_option linter.unusedVariables false
open Go.RowKit
open Nt Sha
attribute [local go_sem] steady steadyUpon Cls same_cell anyW
attribute [local irreducible] wpHead wpTree wpHeadR sum chalOf str
section
variable (w : World) (v : Value) (P Q G H : Nat)
set_option maxRecDepth 100000 in
set_option maxHeartbeats 1000000 in
theorem rright_any (vx : Value) (x : Nat) (h : RGrpV w v P Q G H) (hVx : RefV w vx x) (hFx : blen x ≤ 1024) (hFQ : blen Q ≤ 1024) :
    Calls Tryz.prog 13 #[v, vx] w fun e w' => e = .returned (.bool (decide (0 < x ∧ x < Q))) ∧ Ext w w' := by
  obtain ⟨A1, l1, c1, A2, l2, c2, A3, l3, c3, A4, l4, c4, rfl, h1, h2, h3, h4⟩ := h
  obtain ⟨A5, l5, c5, xs, rfl, -⟩ := hVx.open_
  have hl5 := hVx.len
  obtain ⟨t, ht⟩ : ∃ t, t = decide (0 < x ∧ x < Q) := ⟨_, rfl⟩
  rw [← ht]
  have Ht := hide ht
  clear ht
  by_cases hx0 : x = 0
  · obtain rfl : l5 = 0 := by rw [hl5, hx0]; rfl
    obtain rfl : t = false := Ht.out.trans (decide_eq_false (by omega))
    clear hl5
    go_enter Tryz.func13, Tryz.ntmps13
    go_wp2_with fail
    go_ret
    exact ⟨rfl, (Upd.refl _ _).alloc _⟩
  · have hlp : 0 < l5 := by
      rw [hl5]
      rcases Nat.eq_zero_or_pos (blen x) with h0 | h0
      · exact absurd (blen_eq_zero.1 h0) hx0
      · exact h0
    have hlpI : (0 : Int) < (l5 : Int) := by omega
    obtain ⟨z, hz, hz0⟩ : ∃ z, cmpI x Q = z ∧ (decide (z < 0)) = t := ⟨_, rfl, by
      rw [Ht.out]
      unfold cmpI
      by_cases hlt : x < Q
      · rw [if_pos hlt, decide_eq_true (by omega), decide_eq_true (by omega)]
      · rw [if_neg hlt, decide_eq_false (by split <;> omega), decide_eq_false (by omega)]⟩
    clear hl5
    go_enter Tryz.func13, Tryz.ntmps13
    have b1 : Blk (w.alloc (.cells #[.slice A1 l1 c1, .slice A2 l2 c2, .slice A3 l3 c3, .slice A4 l4 c4] 30)) w.heap.size 30 #[.slice A1 l1 c1, .slice A2 l2 c2, .slice A3 l3 c3, .slice A4 l4 c4] := Blk.new _ _ _
    have q1 := b1.at 1 rfl
    have hE : Ext w (w.alloc (.cells #[.slice A1 l1 c1, .slice A2 l2 c2, .slice A3 l3 c3, .slice A4 l4 c4] 30)) := (Upd.refl _ w).alloc _
    go_wp2_with fail
    refine (rcmp_any _ _ x Q 1024 _ (hVx.ext hE) (h2.ext hE) hFx hFQ (by omega)).mono ?_
    rw [hz]
    rintro e w1 ⟨rfl, hU⟩
    have hEE := hE.trans hU
    go_wp2_with fail
    go_ret
    exact ⟨by first | rfl | exact congrArg (fun b => Ending.returned (.bool b)) hz0, hEE⟩
end
set_option maxRecDepth 100000 in
set_option maxHeartbeats 1000000 in
theorem ssigns_few (z x : Int) (A : Option Addr) (n c : Nat) (w : World) (h : 300 < n) :
    Calls Tryz.prog 3 #[.int .i64 z, .int .u64 x, .slice A n c] w fun e w' => e = .returned (.bool true) ∧ Ext w w' := by
  have n1I : (300 : Int) < (n : Int) := by omega
  go_enter Tryz.func3, Tryz.ntmps3
  go_wp2_with fail
  refine (slives_any w).mono ?_
  rintro e w1 ⟨rfl, hU1⟩
  go_wp2_with fail
  refine (slives_any w1).mono ?_
  rintro e w2 ⟨rfl, hU2⟩
  have hE := hU1.trans hU2
  go_wp2_with fail
  go_ret
  exact ⟨rfl, hE⟩
set_option maxRecDepth 100000 in
set_option maxHeartbeats 8000000 in
theorem ssigns_good (z : Int) (r : Nat) (hr : r < 3) (x : Nat) (A : Option Addr) (n c : Nat) (msg : List (BitVec 8)) (w : World) (hnum : ∀ w', Calls Tryz.prog 36 #[.int .i64 z, .slice none 0 0] w' (RetNums w' r none 0 0))
    (hx64 : x < 18446744073709551616) (hM : Pt.ok w ⟨A, n, c, msg⟩) (hn : n ≤ 300) :
    Calls Tryz.prog 3 #[.int .i64 z, .int .u64 (x : Nat), .slice A n c] w fun e w' => e = .returned (.bool true) ∧ Ext w w' := by
  -- the numbers of group r, by name
  have Hnum := hide hnum
  have hP : Fit 32 (grP r) := (fit_grP r).mono (by omega)
  have hQ : Fit 32 (grQ r) := (fit_grQ r).mono (by omega)
  have hGf : Fit 32 (grG r) := (fit_grG r).mono (by omega)
  have hHf : Fit 32 (grH r) := (fit_grH r).mono (by omega)
  obtain ⟨P, hPe⟩ : ∃ P, P = grP r := ⟨_, rfl⟩
  obtain ⟨Q, hQe⟩ : ∃ Q, Q = grQ r := ⟨_, rfl⟩
  obtain ⟨G, hGe⟩ : ∃ G, G = grG r := ⟨_, rfl⟩
  have hgok : GOk P Q G := by rw [hPe, hQe, hGe]; exact gok r hr
  have hz128 : byteSz Q ≤ 128 := by rw [hQe]; exact szQ r
  rw [← hPe] at hP
  rw [← hQe] at hQ
  rw [← hGe] at hGf
  have HPe := hide hPe
  have HQe := hide hQe
  have HGe := hide hGe
  have hP2 := hgok.two
  have hQ64 := hgok.sml
  have hPb : blen P ≤ 1024 := Nat.le_trans hP.blen (by omega)
  have hQb : blen Q ≤ 1024 := Nat.le_trans hQ.blen (by omega)
  have hGb : blen G ≤ 1024 := Nat.le_trans hGf.blen (by omega)
  clear hnum hPe hQe hGe
  have HM := hide hM
  have n1I : ¬ (300 : Int) < (n : Int) := by omega
  have hFx : Fit 32 x := (fit2 hx64).mono (by omega)
  have hxb : blen x ≤ 1024 := Nat.le_trans hFx.blen (by omega)
  have hml : msg.length = n := hM.2.1
  have hml' : ([] ++ msg : List (BitVec 8)).length = n := hml
  have Hml := hide hml
  have Hml' := hide hml'
  clear hM hml hml'
  go_enter Tryz.func3, Tryz.ntmps3
  go_wp2_with fail
  refine (slives_any w).mono ?_
  rintro e w1 ⟨rfl, hU1⟩
  go_wp2_with fail
  refine (ggroup_any z r hr w1 Hnum.out).mono ?_
  rintro e w2 ⟨gr, rfl, hG, hU2⟩
  rw [← HPe.out, ← HQe.out, ← HGe.out] at hG
  have hE2 := hU1.trans hU2
  clear hU1 hU2
  go_wp2_with fail
  refine (gref_any gr P Q G _ 32 _ hG hP hQ hGf hHf (by omega)).mono ?_
  rintro e w3 ⟨vg, rfl, hR, hU3⟩
  have hR0 := hR
  obtain ⟨B1, m1, d1, B2, m2, d2, B3, m3, d3, B4, m4, d4, rfl, -⟩ := hR0
  have hE3 := hE2.trans hU3
  have hG3 := hG.ext hU3
  clear hE2 hU3 hG
  go_wp2_with (at_builtin; go_must (refine name_l2 (fun W hW => ?_)); go_must (have b8 : Blk W w3.heap.size 30 #[.slice B1 m1 d1, .slice B2 m2 d2, .slice B3 m3 d3, .slice B4 m4 d4] := (by rw [hW]; exact (Blk.new _ _ _).ext ((Upd.refl _ _).alloc _))); go_must (have hU3W : Ext w3 W := (by rw [hW]; exact ((Upd.refl _ _).alloc _).alloc _)); go_must (have hO0 : Own W w3.heap.size 5 (some ⟨w3.heap.size + 1, 0, none⟩) 0 (([] : List (BitVec 8)).map by8) := (by rw [hW]; exact rep_nil' _ (by simp) (by simp))); clear hW; go_must (refine wpList_apd by8 one8 Tryz.el8 [] msg ([] ++ msg) n rfl Hml'.out (by omega) (by unfold maxLen; omega) rfl rfl rfl rfl hO0 rfl Hml.out ((HM.out.ext (hE3.trans hU3W)).1) hU3W.size ?_); intro A9 c9 w9 hO9 hU9 hin9; have hX9 : Ext w3 w9 := upd_new hU9 hU3W (fun q hq => (hO0.in_ hq).1); have b8n : Blk w9 w3.heap.size 30 #[.slice B1 m1 d1, .slice B2 m2 d2, .slice B3 m3 d3, .slice B4 m4 d4] := b8.upd hU9 (by simp [inA]); have hp9 : Pt.ok w9 ⟨A9, n, c9, msg⟩ := (fun h => ⟨h.2.2.2, h.1, h.2.1, h.2.2.1⟩) (Own.pt hO9 Hml'.out))
  have hE9 := hE3.trans hX9
  have hG9 := hG3.ext hX9
  have hR9 := hR.ext hX9
  have Hp9 := hide hp9
  clear hO0 hO9 hU9 hin9 hX9 b8 hU3W hE3 hG3 hR hp9
  refine (new_any x _ hx64).mono ?_
  rintro e w10 ⟨A10, l10, c10, rfl, hV10, hU10⟩
  by_cases hxr : 0 < x ∧ x < Q
  case neg =>
    have hx' : x = 0 ∨ Q ≤ x := by omega
    go_wp2_with fail
    refine (ssign_no gr P Q G _ 32 _ _ x A9 n c9 (hG9.ext hU10) hV10 hFx hQ (by omega) hx').mono ?_
    rintro e w11 ⟨rfl, hU11⟩
    have hU1011 := hU10.trans hU11
    go_wp2_with fail
    refine (new_any x _ hx64).mono ?_
    rintro e w12 ⟨A12, l12, c12, rfl, hV12, hU12⟩
    go_wp2_with fail
    refine (spub_no gr P Q G _ 32 _ _ x (hG9.ext (hU1011.trans hU12)) hV12 hFx hQ (by omega) hx').mono ?_
    rintro e w13 ⟨A13, l13, c13, rfl, hV13, hU13⟩
    have hU913 := (hU1011.trans hU12).trans hU13
    go_wp2_with fail
    refine name_w (fun V hV => ?_)
    have hU9V : Ext w9 V := by rw [hV]; exact hU913.alloc _
    have b12 : Box V w13.heap.size 37 (.slice A13 l13 c13) := by rw [hV]; exact Box.new _ _ _
    have hVy : NatV V (.agg #[.slice A13 l13 c13]) 0 := by rw [hV]; exact hV13.ext ((Upd.refl _ _).alloc _)
    have b8 := b8n.ext hU9V
    have hRV := hR9.ext hU9V
    have hEV := hE9.trans hU9V
    clear hV hU10 hU11 hU12 hU13 hU913 hU1011 hU9V b8n hR9 hE9 hV10 hV12 hV13 hG9
    have hVd : Ext V V.drew := (Upd.refl _ _).drew
    have hED := hEV.trans hVd
    have y0 := fun y : Wd (Ext V.drew) => y.ok.cellv ((b8.ext hVd).at 0 rfl)
    have y1 := fun y : Wd (Ext V.drew) => y.ok.cellv ((b8.ext hVd).at 1 rfl)
    have y2 := fun y : Wd (Ext V.drew) => y.ok.cellv ((b8.ext hVd).at 2 rfl)
    have y3 := fun y : Wd (Ext V.drew) => y.ok.cellv ((b8.ext hVd).at 3 rfl)
    refine wp_region_plan (Ext _) 3 [(false,0), (false,1), (true,2)] (by kernel_rfl) (by kernel_rfl) (Upd.refl _ _) (fun hne => ?_)
    repeat (refine head_q rfl (fun K hK => ?_); have hK2 := hide hK; clear hK; go_simp; refine hK2.out _ ?_; clear hK2 K)
    refine head_l rfl ?_
    go_wp2_with (go_at_call 14; go_must (refine (rsmall_any x _ hx64).mono ?_); rintro e u1 ⟨A20, l20, c20, rfl, hR20, hu1⟩)
    refine ⟨Cls (Ext _), fun _ h => h, ⟨⟨_, hu1⟩, rfl⟩, ?_⟩
    repeat (refine head_q rfl (fun K hK => ?_); have hK2 := hide hK; clear hK; go_simp; refine hK2.out _ ?_; clear hK2 K)
    clear y0 y1 y2 y3
    refine head_nil ?_
    try simp only [List.drop_succ_cons, List.drop_zero]
    go_wp2_with fail
    refine (rright_any _ _ P Q G _ _ x (hRV.ext (hVd.trans hu1)) hR20 hxb hQb).mono ?_
    rw [decide_eq_false hxr]
    rintro e u2 ⟨rfl, hu2⟩
    have hu12 := hVd.trans (hu1.trans hu2)
    have q12 := (b12.ext hu12).cell
    go_wp2_with fail
    refine (zero_any _ 0 _ (hVy.ext hu12)).mono ?_
    rw [decide_eq_true (rfl : 0 = 0)]
    rintro e u3 ⟨rfl, hu3⟩
    have hEf := (hEV.trans hu12).trans hu3
    go_wp2_with fail
    go_ret
    exact ⟨rfl, hEf⟩
  case pos =>
    obtain ⟨hx0, hxQ⟩ := hxr
    obtain ⟨N2, hN2⟩ : ∃ N2, N2 = 2 * byteSz Q := ⟨_, rfl⟩
    obtain ⟨sg, hsg⟩ : ∃ sg, sg = signB P Q G x msg := ⟨_, rfl⟩
    obtain ⟨y, hy⟩ : ∃ y, y = G ^ x % P := ⟨_, rfl⟩
    have hFy : Fit 32 y := by rw [hy]; exact hP.le (Nat.le_of_lt (Nat.mod_lt _ (by omega)))
    have hN2m : N2 ≤ 256 := by omega
    have HN2 := hide hN2
    have Hsg := hide hsg
    have Hy := hide hy
    clear hN2 hsg hy
    go_wp2_with fail
    refine (ssign_any gr P Q G _ 32 _ _ x A9 n c9 msg (hG9.ext hU10) hV10 (Hp9.out.ext hU10) hFx hQ hP hGf (by omega) (by omega) (by omega) hx0 hxQ (by omega)).mono ?_
    rw [← HN2.out, ← Hsg.out]
    rintro e w11 ⟨A11, c11, rfl, hl11, hO11, hU11⟩
    have hp11 := hide (Own.pt hO11 hl11)
    have hU1011 := hU10.trans hU11
    clear hO11
    go_wp2_with fail
    refine (new_any x _ hx64).mono ?_
    rintro e w12 ⟨A12, l12, c12, rfl, hV12, hU12⟩
    go_wp2_with fail
    refine (spub_any gr P Q G _ 32 _ _ x (hG9.ext (hU1011.trans hU12)) hV12 hFx hQ hP hGf (by omega) hx0 hxQ).mono ?_
    rw [← Hy.out]
    rintro e w13 ⟨A13, l13, c13, rfl, hV13, hU13⟩
    have hU913 := (hU1011.trans hU12).trans hU13
    go_wp2_with fail
    refine name_w (fun V hV => ?_)
    have hU9V : Ext w9 V := by rw [hV]; exact hU913.alloc _
    have hS11 : Sl by8 V A11 sg := by rw [hV]; exact hp11.out.2.2.2.ext ((hU12.trans hU13).alloc _)
    have b12 : Box V w13.heap.size 37 (.slice A13 l13 c13) := by rw [hV]; exact Box.new _ _ _
    have hVy : NatV V (.agg #[.slice A13 l13 c13]) y := by rw [hV]; exact hV13.ext ((Upd.refl _ _).alloc _)
    have b8 := b8n.ext hU9V
    have hRV := hR9.ext hU9V
    have hGV := hG9.ext hU9V
    have hEV := hE9.trans hU9V
    have hS9 := Hp9.out.1.ext hU9V
    clear hV hU10 hU11 hU12 hU13 hU913 hU1011 hU9V b8n hR9 hE9 hV10 hV12 hV13 hG9 hp11
    have hVd : Ext V V.drew := (Upd.refl _ _).drew
    have y0 := fun y : Wd (Ext V.drew) => y.ok.cellv ((b8.ext hVd).at 0 rfl)
    have y1 := fun y : Wd (Ext V.drew) => y.ok.cellv ((b8.ext hVd).at 1 rfl)
    have y2 := fun y : Wd (Ext V.drew) => y.ok.cellv ((b8.ext hVd).at 2 rfl)
    have y3 := fun y : Wd (Ext V.drew) => y.ok.cellv ((b8.ext hVd).at 3 rfl)
    refine wp_region_plan (Ext _) 3 [(false,0), (false,1), (true,2)] (by kernel_rfl) (by kernel_rfl) (Upd.refl _ _) (fun hne => ?_)
    repeat (refine head_q rfl (fun K hK => ?_); have hK2 := hide hK; clear hK; go_simp; refine hK2.out _ ?_; clear hK2 K)
    refine head_l rfl ?_
    go_wp2_with (go_at_call 14; go_must (refine (rsmall_any x _ hx64).mono ?_); rintro e u1 ⟨A20, l20, c20, rfl, hR20, hu1⟩)
    refine ⟨Cls (Ext _), fun _ h => h, ⟨⟨_, hu1⟩, rfl⟩, ?_⟩
    repeat (refine head_q rfl (fun K hK => ?_); have hK2 := hide hK; clear hK; go_simp; refine hK2.out _ ?_; clear hK2 K)
    clear y0 y1 y2 y3
    refine head_nil ?_
    try simp only [List.drop_succ_cons, List.drop_zero]
    go_wp2_with fail
    refine (rright_any _ _ P Q G _ _ x (hRV.ext (hVd.trans hu1)) hR20 hxb hQb).mono ?_
    rw [decide_eq_true (show 0 < x ∧ x < Q from ⟨hx0, hxQ⟩)]
    rintro e u2 ⟨rfl, hu2⟩
    have hVu := hVd.trans (hu1.trans hu2)
    go_wp2_with fail
    refine name_w (fun T hT => ?_)
    subst hT
    have hTd : Ext T T.drew := (Upd.refl _ _).drew
    have hVT := hVu.trans hTd
    have hET := hEV.trans hVT
    obtain ⟨ST, hST⟩ : ∃ ST, ST = str sg := ⟨_, rfl⟩
    obtain ⟨SM, hSM⟩ : ∃ SM, SM = str msg := ⟨_, rfl⟩
    have k1 := str_cls (c := c11) (hS11.ext hVT) hl11
    have y0 := fun y : Wd (Ext T.drew) => y.ok.cellv ((b8.ext hVT).at 0 rfl)
    have y1 := fun y : Wd (Ext T.drew) => y.ok.cellv ((b8.ext hVT).at 1 rfl)
    have y2 := fun y : Wd (Ext T.drew) => y.ok.cellv ((b8.ext hVT).at 2 rfl)
    have y3 := fun y : Wd (Ext T.drew) => y.ok.cellv ((b8.ext hVT).at 3 rfl)
    have y4 := fun y : Wd (Ext T.drew) => y.ok.cellv ((b12.ext hVT).drew.cell)
    rw [← hST] at k1
    refine wp_region_plan (Ext _) 39 [(false,0), (false,1), (false,2), (false,3), (false,4), (false,5), (false,6), (false,7), (false,8), (false,9), (false,10), (false,12), (true,11), (true,13), (false,14), (false,15), (false,16), (false,17), (false,18), (false,19), (false,20), (true,21), (false,22), (false,23), (false,24), (false,25), (false,26), (false,27), (false,28), (false,29), (false,30), (false,31), (false,32), (false,33), (false,34), (false,36), (true,35), (true,37), (true,38)] (by kernel_rfl) (by kernel_rfl) (Upd.refl _ _) (fun hne => ?_)
    repeat (refine head_q rfl (fun K hK => ?_); have hK2 := hide hK; clear hK; go_simp; refine hK2.out _ ?_; clear hK2 K)
    refine head_l rfl ?_
    go_wp2_with (go_at_call 14; go_must (refine (rsmall_any x _ hx64).mono ?_); rintro e v1 ⟨A21, l21, c21, rfl, hR21, hv1⟩)
    refine ⟨Cls (Ext _), fun _ h => h, ⟨⟨_, hv1⟩, rfl⟩, ?_⟩
    repeat (refine head_q rfl (fun K hK => ?_); have hK2 := hide hK; clear hK; go_simp; refine hK2.out _ ?_; clear hK2 K)
    refine head_l rfl ?_
    go_wp2_with (go_at_call 16; go_must (refine (rsign_any _ _ P Q G _ _ x A n c msg (hRV.ext (hVT.trans hv1)) hgok hR21 (HM.out.ext (hET.trans hv1)) hPb hQb hGb (by omega) hxQ).mono ?_); rw [← HN2.out, ← Hsg.out]; rintro e v2 ⟨A22, c22, rfl, hO22, hv2⟩; replace hv2 := hv1.trans hv2)
    refine ⟨Cls (Ext _), cls_narrow hv2, ⟨⟨_, Upd.refl _ _⟩, rfl⟩, ?_⟩
    clear k1 y0 y1 y2 y3 y4
    have hV2 := hVT.trans hv2
    have k2 := str_cls (c := c22) hO22.sl hl11
    have k3 := str_cls (c := c9) (hS9.ext hV2) Hml.out
    have k4 := str_cls (c := c) ((HM.out.ext (hET.trans hv2)).1) Hml.out
    have y4 := fun y : Wd (Ext v2) => y.ok.cellv ((b12.ext hV2).cell)
    rw [← hST] at k2
    rw [← hSM] at k3 k4
    repeat (refine head_q rfl (fun K hK => ?_); have hK2 := hide hK; clear hK; go_simp; refine hK2.out _ ?_; clear hK2 K)
    refine head_l rfl ?_
    go_wp2_with (go_at_call 17; go_must (refine (ssize_any gr P Q G _ 32 _ (hGV.ext hV2) hQ (by omega)).mono ?_); rw [← HN2.out]; rintro e v3 ⟨rfl, hv3⟩)
    refine ⟨Cls (Ext _), fun _ h => h, ⟨⟨_, hv3⟩, rfl⟩, ?_⟩
    repeat (refine head_q rfl (fun K hK => ?_); have hK2 := hide hK; clear hK; go_simp; refine hK2.out _ ?_; clear hK2 K)
    refine head_l rfl ?_
    go_wp2_with (go_at_call 20; go_must (refine (gG_any gr P Q G _ _ (hGV.ext (hV2.trans hv3))).mono ?_); rintro e v4 ⟨A23, l23, c23, rfl, hV23, hv4⟩; have hv4g := hv3.trans hv4)
    refine ⟨Cls (Ext _), fun _ h => h, ⟨⟨_, hv4g⟩, rfl⟩, ?_⟩
    repeat (refine head_q rfl (fun K hK => ?_); have hK2 := hide hK; clear hK; go_simp; refine hK2.out _ ?_; clear hK2 K)
    refine head_l rfl ?_
    go_wp2_with (go_at_call 11; go_must (refine (new_any x _ hx64).mono ?_); rintro e v5 ⟨A24, l24, c24, rfl, hV24, hv5⟩; have hv5g := hv4g.trans hv5)
    refine ⟨Cls (Ext _), fun _ h => h, ⟨⟨_, hv5g⟩, rfl⟩, ?_⟩
    repeat (refine head_q rfl (fun K hK => ?_); have hK2 := hide hK; clear hK; go_simp; refine hK2.out _ ?_; clear hK2 K)
    refine head_l rfl ?_
    go_wp2_with (go_at_call 19; go_must (refine (gExp_any gr P Q G _ 32 _ _ _ G x 32 (hGV.ext (hV2.trans hv5g)) (hV23.ext hv5) hV24 hGf hP hFx (by omega) (by omega)).mono ?_); rw [← Hy.out]; rintro e v6 ⟨A25, l25, c25, rfl, hV25, hv6⟩; have hv6g := hv5g.trans hv6)
    refine ⟨Cls (Ext _), fun _ h => h, ⟨⟨_, hv6g⟩, rfl⟩, ?_⟩
    repeat (refine head_q rfl (fun K hK => ?_); have hK2 := hide hK; clear hK; go_simp; refine hK2.out _ ?_; clear hK2 K)
    clear k2 k3 k4 y4
    refine head_nil ?_
    try simp only [List.drop_succ_cons, List.drop_zero]
    go_wp2_with fail
    refine (cmp_any _ _ y y 32 _ (hVy.ext (hV2.trans hv6g)) hV25 hFy hFy (by omega)).mono ?_
    rw [cmpI_eq]
    rintro e v7 ⟨rfl, hv7⟩
    have hEf := ((hET.trans hv2).trans hv6g).trans hv7
    go_wp2_with fail
    go_ret
    exact ⟨rfl, hEf⟩
theorem ssigns_any (z : Int) (x : Nat) (A : Option Addr) (n c : Nat) (msg : List (BitVec 8)) (w : World) (hx64 : x < 18446744073709551616) (hM : Pt.ok w ⟨A, n, c, msg⟩) :
    Calls Tryz.prog 3 #[.int .i64 z, .int .u64 (x : Nat), .slice A n c] w fun e w' => e = .returned (.bool true) ∧ Ext w w' := by
  by_cases hn : n ≤ 300
  · obtain ⟨r, hr, hnum⟩ := gnums_any z
    exact ssigns_good z r hr x A n c msg w (fun w' => hnum none 0 0 w') hx64 hM hn
  · exact ssigns_few z x A n c w (by omega)
end Go.Proofs.YtoekbomfepedcaaGreat
