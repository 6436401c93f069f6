/- DleqVerifies, walked. -/
import Derived.Test.YtnhpkpopfdfohaaGreatDvDlqW
import Derived.Test.YtnhpkpopfdfohaaGreatDvDlqN
import Derived.Test.YtnhpkpopfdfohaaGreatDvDlqL
namespace Go.Proofs.YtnhpkpopfdfohaaGreat
set_option linter.unusedSimpArgs false
set_option linter.unusedVariables false
open Go.RowKit
open Nt Sha
attribute [local go_sem] steady steadyUpon Cls same_cell anyW
attribute [local irreducible] wpHead wpTree wpHeadR sum chalOf ansN
set_option maxRecDepth 100000 in
set_option maxHeartbeats 1000000 in
theorem dvers_few (z a b x y : Int) (raw : Bool) (A D : Option Addr) (n c m d : Nat) (w : World) (h : 300 < n ∨ 300 < m) :
    Calls Tryz.prog 4 #[.int .i64 z, .int .u64 a, .int .u64 b, .int .u64 x, .int .u64 y, .bool raw, .slice A n c, .slice D m d] w fun e w' => e = .returned (.bool true) ∧ Ext w w' := by
  by_cases hn : 300 < n
  · have n1I : (300 : Int) < (n : Int) := by omega
    go_enter Tryz.func4, Tryz.ntmps4
    go_wp2_with fail
    refine (dlives_any w).mono ?_
    rintro e w1 ⟨rfl, hU1⟩
    go_wp2_with fail
    refine (dlives_any w1).mono ?_
    rintro e w2 ⟨rfl, hU2⟩
    have hE := hU1.trans hU2
    go_wp2_with fail
    go_ret
    exact ⟨rfl, hE⟩
  · have n1I : ¬ (300 : Int) < (n : Int) := by omega
    have m1I : (300 : Int) < (m : Int) := by omega
    go_enter Tryz.func4, Tryz.ntmps4
    go_wp2_with fail
    refine (dlives_any w).mono ?_
    rintro e w1 ⟨rfl, hU1⟩
    go_wp2_with fail
    refine (dlives_any w1).mono ?_
    rintro e w2 ⟨rfl, hU2⟩
    have hE := hU1.trans hU2
    go_wp2_with fail
    go_ret
    exact ⟨rfl, hE⟩
set_option maxRecDepth 100000 in
set_option maxHeartbeats 8000000 in
theorem dvers_good (z0 : Int) (r : Nat) (hr : r < 3) (a b y z : Nat) (raw : Bool) (A D : Option Addr) (n c m d : Nat) (side prf : List (BitVec 8)) (w : World) (hnum : ∀ w', Calls Tryz.prog 55 #[.int .i64 z0, .slice none 0 0] w' (RetNums w' r none 0 0))
    (ha64 : a < 18446744073709551616) (hb64 : b < 18446744073709551616) (hy64 : y < 18446744073709551616) (hz64 : z < 18446744073709551616) (hM : Pt.ok w ⟨A, n, c, side⟩) (hS : Pt.ok w ⟨D, m, d, prf⟩) (hn : n ≤ 300) (hm : m ≤ 300) :
    Calls Tryz.prog 4 #[.int .i64 z0, .int .u64 (a : Nat), .int .u64 (b : Nat), .int .u64 (y : Nat), .int .u64 (z : Nat), .bool raw, .slice A n c, .slice D m d] w fun e w' => e = .returned (.bool true) ∧ Ext w w' := by
  have Hnum := hide hnum
  have hP : Fit 32 (grP r) := (fit_grP r).mono (by omega)
  have hQ : Fit 32 (grQ r) := (fit_grQ r).mono (by omega)
  have hGf : Fit 32 (grG r) := (fit_grG r).mono (by omega)
  have hHf : Fit 32 (grH r) := (fit_grH r).mono (by omega)
  obtain ⟨P, hPe⟩ : ∃ P, P = grP r := ⟨_, rfl⟩
  obtain ⟨Q, hQe⟩ : ∃ Q, Q = grQ r := ⟨_, rfl⟩
  obtain ⟨G, hGe⟩ : ∃ G, G = grG r := ⟨_, rfl⟩
  obtain ⟨H, hHe⟩ : ∃ H, H = grH r := ⟨_, rfl⟩
  have hgok : GOk P Q G := by rw [hPe, hQe, hGe]; exact gok r hr
  have hz128 : byteSz Q ≤ 128 := by rw [hQe]; exact szQ r
  rw [← hPe] at hP
  rw [← hQe] at hQ
  rw [← hGe] at hGf
  rw [← hHe] at hHf
  have HPe := hide hPe
  have HQe := hide hQe
  have HGe := hide hGe
  have HHe := hide hHe
  have hP2 := hgok.two
  have hQ64 := hgok.sml
  have hPb : blen P ≤ 1024 := Nat.le_trans hP.blen (by omega)
  have hQb : blen Q ≤ 1024 := Nat.le_trans hQ.blen (by omega)
  clear hnum hPe hQe hGe hHe
  have HM := hide hM
  have HS := hide hS
  have n1I : ¬ (300 : Int) < (n : Int) := by omega
  have m1I : ¬ (300 : Int) < (m : Int) := by omega
  have hfm : ∀ e, Fit 32 (G ^ e % P) := fun e => hP.le (Nat.le_of_lt (Nat.mod_lt _ (by omega)))
  have hFan := hfm a
  have hFbn := hfm b
  have hFzn := hfm z
  have hFyn : Fit 32 (if raw = true then y else G ^ y % P) := by
    cases raw with
    | true => exact (fit2 hy64).mono (by omega)
    | false => exact hfm y
  obtain ⟨an, han⟩ : ∃ x, x = G ^ a % P := ⟨_, rfl⟩
  obtain ⟨bn', hbn⟩ : ∃ x, x = G ^ b % P := ⟨_, rfl⟩
  obtain ⟨yn, hyn⟩ : ∃ x, x = (if raw = true then y else G ^ y % P) := ⟨_, rfl⟩
  obtain ⟨zn, hzn⟩ : ∃ x, x = G ^ z % P := ⟨_, rfl⟩
  rw [← han] at hFan
  rw [← hbn] at hFbn
  rw [← hyn] at hFyn
  rw [← hzn] at hFzn
  have Han := hide han
  have Hbn := hide hbn
  have Hyn := hide hyn
  have Hzn := hide hzn
  have hba : blen an ≤ 1024 := Nat.le_trans hFan.blen (by omega)
  have hbb : blen bn' ≤ 1024 := Nat.le_trans hFbn.blen (by omega)
  have hby : blen yn ≤ 1024 := Nat.le_trans hFyn.blen (by omega)
  have hbz : blen zn ≤ 1024 := Nat.le_trans hFzn.blen (by omega)
  obtain ⟨t, ht⟩ : ∃ t, t = dverB P Q an bn' yn zn side prf := ⟨_, rfl⟩
  have Ht := hide ht
  clear hM hS hfm han hbn hyn hzn ht
  go_enter Tryz.func4, Tryz.ntmps4
  go_wp2_with fail
  refine (dlives_any w).mono ?_
  rintro e w1 ⟨rfl, hU1⟩
  go_wp2_with fail
  refine (ggroup_any z0 r hr w1 Hnum.out).mono ?_
  rintro e w2 ⟨gr, rfl, hG, hU2⟩
  rw [← HPe.out, ← HQe.out, ← HGe.out, ← HHe.out] at hG
  have hE2 := hU1.trans hU2
  clear hU1 hU2
  go_wp2_with fail
  refine (dmem_any gr P Q G H 32 _ a false hG ha64 hGf hP (by omega) (by omega)).mono ?_
  rw [if_neg (by decide), ← Han.out]
  rintro e w3 ⟨A3, l3, c3, rfl, hV3, hU3⟩
  go_wp2_with fail
  refine (dmem_any gr P Q G H 32 _ b false (hG.ext hU3) hb64 hGf hP (by omega) (by omega)).mono ?_
  rw [if_neg (by decide), ← Hbn.out]
  rintro e w4 ⟨A4, l4, c4, rfl, hV4, hU4⟩
  go_wp2_with fail
  refine (dmem_any gr P Q G H 32 _ y raw (hG.ext (hU3.trans hU4)) hy64 hGf hP (by omega) (by omega)).mono ?_
  rw [← Hyn.out]
  rintro e w5 ⟨A5, l5, c5, rfl, hV5, hU5⟩
  have hU35 := (hU3.trans hU4).trans hU5
  go_wp2_with fail
  refine (dmem_any gr P Q G H 32 _ z false (hG.ext hU35) hz64 hGf hP (by omega) (by omega)).mono ?_
  rw [if_neg (by decide), ← Hzn.out]
  rintro e w6 ⟨A6, l6, c6, rfl, hV6, hU6⟩
  go_wp2_with fail
  refine name_w (fun X hX => ?_)
  have hU6X : Ext w6 X := by rw [hX]; exact (Upd.refl _ _).alloc _
  have b18 : Blk X w6.heap.size 37 #[.slice A3 l3 c3, .slice A4 l4 c4, .slice A5 l5 c5, .slice A6 l6 c6] := by rw [hX]; exact Blk.new _ _ _
  have h3 := hV3.ext ((hU4.trans (hU5.trans hU6)).trans hU6X)
  have h4 := hV4.ext ((hU5.trans hU6).trans hU6X)
  have h5 := hV5.ext (hU6.trans hU6X)
  have h6 := hV6.ext hU6X
  have hUX := (hU35.trans hU6).trans hU6X
  have hGX := hG.ext hUX
  have hEX := hE2.trans hUX
  clear hX hU3 hU4 hU5 hU35 hU6 hU6X hUX hV3 hV4 hV5 hV6 hG hE2
  have hXd : Ext X X.drew := (Upd.refl _ _).drew
  have hED := hEX.trans hXd
  have y0 := fun y : Wd (Ext X.drew) => y.ok.cellv ((b18.ext hXd).at 0 rfl)
  have y1 := fun y : Wd (Ext X.drew) => y.ok.cellv ((b18.ext hXd).at 1 rfl)
  have y2 := fun y : Wd (Ext X.drew) => y.ok.cellv ((b18.ext hXd).at 2 rfl)
  have y3 := fun y : Wd (Ext X.drew) => y.ok.cellv ((b18.ext hXd).at 3 rfl)
  cases t with
  | true =>
    refine wp_region_plan (Ext _) 20 [(false,0), (false,1), (false,2), (false,3), (false,5), (false,7), (false,9), (false,10), (true,4), (true,6), (true,8), (true,11), (false,12), (false,13), (false,14), (false,15), (false,16), (true,17), (false,18), (false,19)] (by kernel_rfl) (by kernel_rfl) (Upd.refl _ _) (fun hne => ?_)
    repeat (refine head_q rfl (fun K hK => ?_); have hK2 := hide hK; clear hK; go_simp; refine hK2.out _ ?_; clear hK2 K)
    refine head_l rfl ?_
    go_wp2_with (go_at_call 23; go_must (refine (dver_any gr P Q G H 32 _ _ _ _ _ A D _ _ _ _ _ _ _ _ n c m d an bn' yn zn side prf (hGX.ext hXd) (h3.ext hXd) (h4.ext hXd) (h5.ext hXd) (h6.ext hXd) (HM.out.ext hED) (HS.out.ext hED) hFan hFbn hFyn hFzn hP hQ hP2 hQ64 hz128 (by omega) (by omega) (by omega)).mono ?_); rw [← Ht.out]; rintro e v1 ⟨rfl, hv1⟩)
    refine ⟨Cls (Ext _), fun _ h => h, ⟨⟨_, hv1⟩, rfl⟩, ?_⟩
    repeat (refine head_q rfl (fun K hK => ?_); have hK2 := hide hK; clear hK; go_simp; refine hK2.out _ ?_; clear hK2 K)
    refine head_l rfl ?_
    go_wp2_with (go_at_call 11; go_must (refine (gref_any gr P Q G H 32 _ (hGX.ext (hXd.trans hv1)) hP hQ hGf hHf (by omega)).mono ?_); rintro e v2 ⟨vg, rfl, hRG, hv2⟩; have hw2 := hv1.trans hv2)
    refine ⟨Cls (Ext _), fun _ h => h, ⟨⟨_, hw2⟩, rfl⟩, ?_⟩
    repeat (refine head_q rfl (fun K hK => ?_); have hK2 := hide hK; clear hK; go_simp; refine hK2.out _ ?_; clear hK2 K)
    refine head_l rfl ?_
    go_wp2_with (go_at_call 25; go_must (refine (dof_any _ _ _ _ _ _ _ _ _ _ _ _ an bn' yn zn 32 _ (h3.ext (hXd.trans hw2)) (h4.ext (hXd.trans hw2)) (h5.ext (hXd.trans hw2)) (h6.ext (hXd.trans hw2)) hFan hFbn hFyn hFzn (by omega)).mono ?_); rintro e v3 ⟨vc, rfl, hRC, hv3⟩; have hw3 := hw2.trans hv3)
    refine ⟨Cls (Ext _), fun _ h => h, ⟨⟨_, hw3⟩, rfl⟩, ?_⟩
    repeat (refine head_q rfl (fun K hK => ?_); have hK2 := hide hK; clear hK; go_simp; refine hK2.out _ ?_; clear hK2 K)
    refine head_l rfl ?_
    go_wp2_with (go_at_call 24; go_must (refine (rdver_any _ vg P Q G H vc A D n c m d an bn' yn zn side prf (hRG.ext hv3) hRC (HM.out.ext (hED.trans hw3)) (HS.out.ext (hED.trans hw3)) hP2 hQ64 hPb hQb hba hbb hby hbz (by omega) hz128).mono ?_); rw [← Ht.out]; rintro e v4 ⟨rfl, hv4⟩; have hw4 := hw3.trans hv4)
    refine ⟨Cls (Ext _), fun _ h => h, ⟨⟨_, hw4⟩, rfl⟩, ?_⟩
    repeat (refine head_q rfl (fun K hK => ?_); have hK2 := hide hK; clear hK; go_simp; refine hK2.out _ ?_; clear hK2 K)
    refine head_l rfl ?_
    go_wp2_with (go_at_call 23; go_must (refine (dver_nil _ _ _ _ _ A D _ _ _ _ _ _ _ _ n c m d an bn' yn zn (h3.ext (hXd.trans hw4)) (h4.ext (hXd.trans hw4)) (h5.ext (hXd.trans hw4)) (h6.ext (hXd.trans hw4))).mono ?_); rintro e v5 ⟨rfl, hv5⟩; have hw5 := hw4.trans hv5)
    refine ⟨Cls (Ext _), fun _ h => h, ⟨⟨_, hw5⟩, rfl⟩, ?_⟩
    repeat (refine head_q rfl (fun K hK => ?_); have hK2 := hide hK; clear hK; go_simp; refine hK2.out _ ?_; clear hK2 K)
    have hF := hED.trans hw5
    refine head_nil ?_
    try simp only [List.drop_succ_cons, List.drop_zero]
    go_wp2_with fail
    go_ret
    exact ⟨rfl, hF⟩
  | false =>
    refine wp_region_plan (Ext _) 20 [(false,0), (false,1), (false,2), (false,3), (false,5), (false,7), (false,9), (false,10), (true,4), (true,6), (true,8), (true,11), (false,12), (false,13), (false,14), (false,15), (false,16), (true,17), (false,18), (false,19)] (by kernel_rfl) (by kernel_rfl) (Upd.refl _ _) (fun hne => ?_)
    repeat (refine head_q rfl (fun K hK => ?_); have hK2 := hide hK; clear hK; go_simp; refine hK2.out _ ?_; clear hK2 K)
    refine head_l rfl ?_
    go_wp2_with (go_at_call 23; go_must (refine (dver_any gr P Q G H 32 _ _ _ _ _ A D _ _ _ _ _ _ _ _ n c m d an bn' yn zn side prf (hGX.ext hXd) (h3.ext hXd) (h4.ext hXd) (h5.ext hXd) (h6.ext hXd) (HM.out.ext hED) (HS.out.ext hED) hFan hFbn hFyn hFzn hP hQ hP2 hQ64 hz128 (by omega) (by omega) (by omega)).mono ?_); rw [← Ht.out]; rintro e v1 ⟨rfl, hv1⟩)
    refine ⟨Cls (Ext _), fun _ h => h, ⟨⟨_, hv1⟩, rfl⟩, ?_⟩
    repeat (refine head_q rfl (fun K hK => ?_); have hK2 := hide hK; clear hK; go_simp; refine hK2.out _ ?_; clear hK2 K)
    refine head_l rfl ?_
    go_wp2_with (go_at_call 11; go_must (refine (gref_any gr P Q G H 32 _ (hGX.ext (hXd.trans hv1)) hP hQ hGf hHf (by omega)).mono ?_); rintro e v2 ⟨vg, rfl, hRG, hv2⟩; have hw2 := hv1.trans hv2)
    refine ⟨Cls (Ext _), fun _ h => h, ⟨⟨_, hw2⟩, rfl⟩, ?_⟩
    repeat (refine head_q rfl (fun K hK => ?_); have hK2 := hide hK; clear hK; go_simp; refine hK2.out _ ?_; clear hK2 K)
    refine head_l rfl ?_
    go_wp2_with (go_at_call 25; go_must (refine (dof_any _ _ _ _ _ _ _ _ _ _ _ _ an bn' yn zn 32 _ (h3.ext (hXd.trans hw2)) (h4.ext (hXd.trans hw2)) (h5.ext (hXd.trans hw2)) (h6.ext (hXd.trans hw2)) hFan hFbn hFyn hFzn (by omega)).mono ?_); rintro e v3 ⟨vc, rfl, hRC, hv3⟩; have hw3 := hw2.trans hv3)
    refine ⟨Cls (Ext _), fun _ h => h, ⟨⟨_, hw3⟩, rfl⟩, ?_⟩
    repeat (refine head_q rfl (fun K hK => ?_); have hK2 := hide hK; clear hK; go_simp; refine hK2.out _ ?_; clear hK2 K)
    refine head_l rfl ?_
    go_wp2_with (go_at_call 24; go_must (refine (rdver_any _ vg P Q G H vc A D n c m d an bn' yn zn side prf (hRG.ext hv3) hRC (HM.out.ext (hED.trans hw3)) (HS.out.ext (hED.trans hw3)) hP2 hQ64 hPb hQb hba hbb hby hbz (by omega) hz128).mono ?_); rw [← Ht.out]; rintro e v4 ⟨rfl, hv4⟩; have hw4 := hw3.trans hv4)
    refine ⟨Cls (Ext _), fun _ h => h, ⟨⟨_, hw4⟩, rfl⟩, ?_⟩
    repeat (refine head_q rfl (fun K hK => ?_); have hK2 := hide hK; clear hK; go_simp; refine hK2.out _ ?_; clear hK2 K)
    refine head_l rfl ?_
    go_wp2_with (go_at_call 23; go_must (refine (dver_nil _ _ _ _ _ A D _ _ _ _ _ _ _ _ n c m d an bn' yn zn (h3.ext (hXd.trans hw4)) (h4.ext (hXd.trans hw4)) (h5.ext (hXd.trans hw4)) (h6.ext (hXd.trans hw4))).mono ?_); rintro e v5 ⟨rfl, hv5⟩; have hw5 := hw4.trans hv5)
    refine ⟨Cls (Ext _), fun _ h => h, ⟨⟨_, hw5⟩, rfl⟩, ?_⟩
    repeat (refine head_q rfl (fun K hK => ?_); have hK2 := hide hK; clear hK; go_simp; refine hK2.out _ ?_; clear hK2 K)
    have hF := hED.trans hw5
    refine head_nil ?_
    try simp only [List.drop_succ_cons, List.drop_zero]
    go_wp2_with fail
    go_ret
    exact ⟨rfl, hF⟩
theorem dvers_any (z0 : Int) (a b y z : Nat) (raw : Bool) (A D : Option Addr) (n c m d : Nat) (side prf : List (BitVec 8)) (w : World) (ha64 : a < 18446744073709551616) (hb64 : b < 18446744073709551616) (hy64 : y < 18446744073709551616) (hz64 : z < 18446744073709551616) (hM : Pt.ok w ⟨A, n, c, side⟩) (hS : Pt.ok w ⟨D, m, d, prf⟩) :
    Calls Tryz.prog 4 #[.int .i64 z0, .int .u64 (a : Nat), .int .u64 (b : Nat), .int .u64 (y : Nat), .int .u64 (z : Nat), .bool raw, .slice A n c, .slice D m d] w fun e w' => e = .returned (.bool true) ∧ Ext w w' := by
  by_cases h : n ≤ 300 ∧ m ≤ 300
  · obtain ⟨r, hr, hnum⟩ := gnums_any z0
    exact dvers_good z0 r hr a b y z raw A D n c m d side prf w (fun w' => hnum none 0 0 w') ha64 hb64 hy64 hz64 hM hS h.1 h.2
  · exact dvers_few z0 a b y z raw A D n c m d w (by omega)
end Go.Proofs.YtnhpkpopfdfohaaGreat
