/- SignVerifies, walked. -/
import Derived.Test.YtoekbomfepedcaaGreatSgnV
namespace Go.Proofs.YtoekbomfepedcaaGreat
set_option linter.unusedSimpArgs false
set_option linter.unusedVariables false
open Go.RowKit
open Nt Sha
attribute [local go_sem] steady steadyUpon Cls same_cell anyW
attribute [local irreducible] wpHead wpTree wpHeadR sum chalOf
set_option maxRecDepth 100000 in
set_option maxHeartbeats 1000000 in
theorem svers_few (z y : Int) (mb : Bool) (A D : Option Addr) (n c m d : Nat) (w : World) (h : 300 < n ∨ (n ≤ 300 ∧ 300 < m)) :
    Calls Tryz.prog 4 #[.int .i64 z, .int .u64 y, .bool mb, .slice A n c, .slice D m d] w fun e w' => e = .returned (.bool true) ∧ Ext w w' := by
  rcases h with h | ⟨h1, h⟩
  · have n1I : (300 : Int) < (n : Int) := by omega
    go_enter Tryz.func4, Tryz.ntmps4
    go_wp2_with fail
    refine (slives_any w).mono ?_
    rintro e w1 ⟨rfl, hU1⟩
    go_wp2_with fail
    refine (slives_any w1).mono ?_
    rintro e w2 ⟨rfl, hU2⟩
    have hE := hU1.trans hU2
    go_wp2_with fail
    go_ret
    exact ⟨rfl, hE⟩
  · have n1I : ¬ (300 : Int) < (n : Int) := by omega
    have n2I : (300 : Int) < (m : Int) := by omega
    go_enter Tryz.func4, Tryz.ntmps4
    go_wp2_with fail
    refine (slives_any w).mono ?_
    rintro e w1 ⟨rfl, hU1⟩
    go_wp2_with fail
    refine (slives_any w1).mono ?_
    rintro e w2 ⟨rfl, hU2⟩
    have hE := hU1.trans hU2
    go_wp2_with fail
    go_ret
    exact ⟨rfl, hE⟩
set_option maxRecDepth 100000 in
set_option maxHeartbeats 8000000 in
theorem svers_good (z : Int) (r : Nat) (hr : r < 3) (y : Nat) (mb : Bool) (A D : Option Addr) (n c m d : Nat) (msg sig : List (BitVec 8)) (w : World) (hnum : ∀ w', Calls Tryz.prog 36 #[.int .i64 z, .slice none 0 0] w' (RetNums w' r none 0 0))
    (hy64 : y < 18446744073709551616) (hM : Pt.ok w ⟨A, n, c, msg⟩) (hS : Pt.ok w ⟨D, m, d, sig⟩) (hn : n ≤ 300) (hm : m ≤ 300) :
    Calls Tryz.prog 4 #[.int .i64 z, .int .u64 (y : Nat), .bool mb, .slice A n c, .slice D m d] w fun e w' => e = .returned (.bool true) ∧ Ext w w' := by
  -- the numbers of group r, by name
  have Hnum := hide hnum
  have hP : Fit 32 (grP r) := (fit_grP r).mono (by omega)
  have hQ : Fit 32 (grQ r) := (fit_grQ r).mono (by omega)
  have hGf : Fit 32 (grG r) := (fit_grG r).mono (by omega)
  have hHf : Fit 32 (grH r) := (fit_grH r).mono (by omega)
  obtain ⟨P, hPe⟩ : ∃ P, P = grP r := ⟨_, rfl⟩
  obtain ⟨Q, hQe⟩ : ∃ Q, Q = grQ r := ⟨_, rfl⟩
  obtain ⟨G, hGe⟩ : ∃ G, G = grG r := ⟨_, rfl⟩
  have hgok : GOk P Q G := by rw [hPe, hQe, hGe]; exact gok r hr
  have hz128 : byteSz Q ≤ 128 := by rw [hQe]; exact szQ r
  rw [← hPe] at hP
  rw [← hQe] at hQ
  rw [← hGe] at hGf
  have HPe := hide hPe
  have HQe := hide hQe
  have HGe := hide hGe
  have hP2 := hgok.two
  have hQ64 := hgok.sml
  have hPb : blen P ≤ 1024 := Nat.le_trans hP.blen (by omega)
  have hQb : blen Q ≤ 1024 := Nat.le_trans hQ.blen (by omega)
  have hGb : blen G ≤ 1024 := Nat.le_trans hGf.blen (by omega)
  clear hnum hPe hQe hGe
  have HM := hide hM
  have HS := hide hS
  have n1I : ¬ (300 : Int) < (n : Int) := by omega
  have n2I : ¬ (300 : Int) < (m : Int) := by omega
  have hFy : Fit 32 y := (fit2 hy64).mono (by omega)
  clear hM hS
  go_enter Tryz.func4, Tryz.ntmps4
  go_wp2_with fail
  refine (slives_any w).mono ?_
  rintro e w1 ⟨rfl, hU1⟩
  go_wp2_with fail
  refine (ggroup_any z r hr w1 Hnum.out).mono ?_
  rintro e w2 ⟨gr, rfl, hG, hU2⟩
  rw [← HPe.out, ← HQe.out, ← HGe.out] at hG
  have hE2 := hU1.trans hU2
  clear hU1 hU2
  go_wp2_with fail
  refine (new_any y _ hy64).mono ?_
  rintro e w3 ⟨A3, l3, c3, rfl, hV3, hU3⟩
  cases mb with
  | false =>
    go_wp2_with fail
    refine name_w (fun V hV => ?_)
    have hUV : Ext w2 V := by rw [hV]; exact hU3.alloc _
    have b12 : Box V w3.heap.size 37 (.slice A3 l3 c3) := by rw [hV]; exact Box.new _ _ _
    have hVa : NatV V (.agg #[.slice A3 l3 c3]) y := by rw [hV]; exact hV3.ext ((Upd.refl _ _).alloc _)
    have hGV := hG.ext hUV
    have hEV := hE2.trans hUV
    obtain ⟨aa, haa⟩ : ∃ a, a = y := ⟨_, rfl⟩
    have hFa : Fit 32 aa := by rw [haa]; exact hFy
    rw [← haa] at hVa
    clear hV hUV hU3 hV3 hG hE2 haa
    -- world V; b12, hVa, hGV, hEV
    have hVd : Ext V V.drew := (Upd.refl _ _).drew
    have hED := hEV.trans hVd
    have y0 := fun y : Wd (Ext V.drew) => y.ok.cellv b12.drew.cell
    obtain ⟨t, ht⟩ : ∃ t, t = verB P Q G aa msg sig := ⟨_, rfl⟩
    have Ht := hide ht
    clear ht
    have hab : blen aa ≤ 1024 := Nat.le_trans hFa.blen (by omega)
    refine wp_region_plan (Ext _) 24 [(false,0), (false,1), (false,2), (false,3), (false,5), (false,7), (false,9), (false,10), (true,4), (true,6), (true,8), (true,11), (false,12), (false,13), (false,14), (false,15), (false,16), (true,17), (false,18), (false,19), (false,20), (true,21), (false,22), (false,23)] (by kernel_rfl) (by kernel_rfl) (Upd.refl _ _) (fun hne => ?_)
    repeat (refine head_q rfl (fun K hK => ?_); have hK2 := hide hK; clear hK; go_simp; refine hK2.out _ ?_; clear hK2 K)
    refine head_l rfl ?_
    go_wp2_with (go_at_call 21; go_must (refine (sver_any gr P Q G _ 32 _ _ aa A D n c m d msg sig (hGV.ext hVd) (hVa.ext hVd) (HM.out.ext hED) (HS.out.ext hED) hFa hQ hP hGf (by omega) (by omega) hz128 (by omega) hP2).mono ?_); rw [← Ht.out]; rintro e v1 ⟨rfl, hv1⟩)
    refine ⟨Cls (Ext _), fun _ h => h, ⟨⟨_, hv1⟩, rfl⟩, ?_⟩
    repeat (refine head_q rfl (fun K hK => ?_); have hK2 := hide hK; clear hK; go_simp; refine hK2.out _ ?_; clear hK2 K)
    refine head_l rfl ?_
    go_wp2_with (go_at_call 9; go_must (refine (gref_any gr P Q G _ 32 _ (hGV.ext (hVd.trans hv1)) hP hQ hGf hHf (by omega)).mono ?_); rintro e v2 ⟨vg, rfl, hR, hv2⟩; have hv2g := hv1.trans hv2)
    refine ⟨Cls (Ext _), fun _ h => h, ⟨⟨_, hv2g⟩, rfl⟩, ?_⟩
    repeat (refine head_q rfl (fun K hK => ?_); have hK2 := hide hK; clear hK; go_simp; refine hK2.out _ ?_; clear hK2 K)
    refine head_l rfl ?_
    go_wp2_with (go_at_call 23; go_must (refine (gnum_any _ aa 32 _ (hVa.ext (hVd.trans hv2g)) hFa (by omega)).mono ?_); rintro e v3 ⟨A20, l20, c20, rfl, hR20, hv3⟩; have hv3g := hv2g.trans hv3)
    refine ⟨Cls (Ext _), fun _ h => h, ⟨⟨_, hv3g⟩, rfl⟩, ?_⟩
    repeat (refine head_q rfl (fun K hK => ?_); have hK2 := hide hK; clear hK; go_simp; refine hK2.out _ ?_; clear hK2 K)
    refine head_l rfl ?_
    go_wp2_with (go_at_call 22; go_must (refine (rver_any _ vg P Q G _ _ aa A D n c m d msg sig (hR.ext hv3) hR20 (HM.out.ext (hED.trans hv3g)) (HS.out.ext (hED.trans hv3g)) hgok hPb hQb hGb hab (by omega) hz128).mono ?_); rw [← Ht.out]; rintro e v4 ⟨rfl, hv4⟩; have hv4g := hv3g.trans hv4)
    refine ⟨Cls (Ext _), fun _ h => h, ⟨⟨_, hv4g⟩, rfl⟩, ?_⟩
    repeat (refine head_q rfl (fun K hK => ?_); have hK2 := hide hK; clear hK; go_simp; refine hK2.out _ ?_; clear hK2 K)
    refine head_l rfl ?_
    go_wp2_with (go_at_call 21; go_must (refine (sver_none _ _ (by rfl) A D n c m d).mono ?_); rintro e v5 ⟨rfl, hv5⟩; have hv5g := hv4g.trans hv5)
    refine ⟨Cls (Ext _), fun _ h => h, ⟨⟨_, hv5g⟩, rfl⟩, ?_⟩
    repeat (refine head_q rfl (fun K hK => ?_); have hK2 := hide hK; clear hK; go_simp; refine hK2.out _ ?_; clear hK2 K)
    refine head_l rfl ?_
    go_wp2_with (go_at_call 17; go_must (refine (ssize_none _).mono ?_); rintro e v6 ⟨rfl, rfl⟩)
    refine ⟨Cls (Ext _), fun _ h => h, ⟨⟨_, hv5g⟩, rfl⟩, ?_⟩
    repeat (refine head_q rfl (fun K hK => ?_); have hK2 := hide hK; clear hK; go_simp; refine hK2.out _ ?_; clear hK2 K)
    have hEf := hED.trans hv5g
    clear y0
    refine head_nil ?_
    try simp only [List.drop_succ_cons, List.drop_zero]
    go_wp2_with fail
    go_ret
    exact ⟨rfl, hEf⟩
  | true =>
    go_wp2_with fail
    refine name_w (fun W hW => ?_)
    have hUW : Ext w2 W := by rw [hW]; exact hU3.alloc _
    have b12w : Box W w3.heap.size 37 (.slice A3 l3 c3) := by rw [hW]; exact Box.new _ _ _
    have hVw : NatV W (.agg #[.slice A3 l3 c3]) y := by rw [hW]; exact hV3.ext ((Upd.refl _ _).alloc _)
    have hGW := hG.ext hUW
    have hEW := hE2.trans hUW
    have hs3 := hU3.size
    have hs2 := hE2.size
    clear hW
    have hWd : Ext W W.drew := (Upd.refl _ _).drew
    have y0 := fun y : Wd (Ext W.drew) => y.ok.cellv b12w.drew.cell
    refine wp_region_plan (Ext _) 5 [(false,0), (false,1), (false,3), (true,2), (true,4)] (by kernel_rfl) (by kernel_rfl) (Upd.refl _ _) (fun hne => ?_)
    repeat (refine head_q rfl (fun K hK => ?_); have hK2 := hide hK; clear hK; go_simp; refine hK2.out _ ?_; clear hK2 K)
    refine head_l rfl ?_
    go_wp2_with (go_at_call 20; go_must (refine (gG_any gr P Q G _ _ (hGW.ext hWd)).mono ?_); rintro e v1 ⟨A4, l4, c4, rfl, hV4, hv1⟩)
    refine ⟨Cls (Ext _), fun _ h => h, ⟨⟨_, hv1⟩, rfl⟩, ?_⟩
    repeat (refine head_q rfl (fun K hK => ?_); have hK2 := hide hK; clear hK; go_simp; refine hK2.out _ ?_; clear hK2 K)
    refine head_l rfl ?_
    go_wp2_with (go_at_call 19; go_must (refine (gExp_any gr P Q G _ 32 _ _ _ G y 32 (hGW.ext (hWd.trans hv1)) hV4 (hVw.ext (hWd.trans hv1)) hGf hP hFy (by omega) (by omega)).mono ?_); rintro e v2 ⟨A5, l5, c5, rfl, hV5, hv2⟩; replace hv2 := hv1.trans hv2)
    refine ⟨Cls (Ext _), fun _ h => h, ⟨⟨_, hv2⟩, rfl⟩, ?_⟩
    repeat (refine head_q rfl (fun K hK => ?_); have hK2 := hide hK; clear hK; go_simp; refine hK2.out _ ?_; clear hK2 K)
    have hX := hWd.trans hv2
    have b12x := b12w.ext hX
    have z2 := b12x.cell
    have z3 := b12x.frozen
    have b12n := b12x.set (.slice A5 l5 c5)
    have hVn := hV5.far (v := .slice A5 l5 c5) z2
    have hEn : Ext w (v2.setCell ⟨w3.heap.size, 0, none⟩ (.slice A5 l5 c5)) := (hEW.trans hX).setCell (p := ⟨w3.heap.size, 0, none⟩) (.inr (show w.heap.size ≤ w3.heap.size by omega)) _
    have hGn : GrpV (v2.setCell ⟨w3.heap.size, 0, none⟩ (.slice A5 l5 c5)) gr P Q G (grH r) := hG.ext ((hUW.trans hX).setCell (p := ⟨w3.heap.size, 0, none⟩) (.inr (show w2.heap.size ≤ w3.heap.size by omega)) _)
    obtain ⟨aa, haa⟩ : ∃ a, a = G ^ y % P := ⟨_, rfl⟩
    have hFa : Fit 32 aa := by rw [haa]; exact hP.le (Nat.le_of_lt (Nat.mod_lt _ (by omega)))
    rw [← haa] at hVn
    clear y0 haa
    refine head_nil ?_
    try simp only [List.drop_succ_cons, List.drop_zero]
    go_wp2_with fail
    refine name_w (fun V hV => ?_)
    have b12 : Box V w3.heap.size 37 (.slice A5 l5 c5) := by rw [hV]; exact b12n
    have hVa : NatV V (.agg #[.slice A5 l5 c5]) aa := by rw [hV]; exact hVn
    have hGV : GrpV V gr P Q G (grH r) := by rw [hV]; exact hGn
    have hEV : Ext w V := by rw [hV]; exact hEn
    clear hV hUW hU3 hV3 hG hE2 b12w hVw hGW hEW hWd hv1 hv2 hV4 hV5 hX b12x z2 z3 b12n hVn hEn hGn hs2 hs3
    -- world V; b12, hVa, hGV, hEV
    have hVd : Ext V V.drew := (Upd.refl _ _).drew
    have hED := hEV.trans hVd
    have y0 := fun y : Wd (Ext V.drew) => y.ok.cellv b12.drew.cell
    obtain ⟨t, ht⟩ : ∃ t, t = verB P Q G aa msg sig := ⟨_, rfl⟩
    have Ht := hide ht
    clear ht
    have hab : blen aa ≤ 1024 := Nat.le_trans hFa.blen (by omega)
    refine wp_region_plan (Ext _) 24 [(false,0), (false,1), (false,2), (false,3), (false,5), (false,7), (false,9), (false,10), (true,4), (true,6), (true,8), (true,11), (false,12), (false,13), (false,14), (false,15), (false,16), (true,17), (false,18), (false,19), (false,20), (true,21), (false,22), (false,23)] (by kernel_rfl) (by kernel_rfl) (Upd.refl _ _) (fun hne => ?_)
    repeat (refine head_q rfl (fun K hK => ?_); have hK2 := hide hK; clear hK; go_simp; refine hK2.out _ ?_; clear hK2 K)
    refine head_l rfl ?_
    go_wp2_with (go_at_call 21; go_must (refine (sver_any gr P Q G _ 32 _ _ aa A D n c m d msg sig (hGV.ext hVd) (hVa.ext hVd) (HM.out.ext hED) (HS.out.ext hED) hFa hQ hP hGf (by omega) (by omega) hz128 (by omega) hP2).mono ?_); rw [← Ht.out]; rintro e v1 ⟨rfl, hv1⟩)
    refine ⟨Cls (Ext _), fun _ h => h, ⟨⟨_, hv1⟩, rfl⟩, ?_⟩
    repeat (refine head_q rfl (fun K hK => ?_); have hK2 := hide hK; clear hK; go_simp; refine hK2.out _ ?_; clear hK2 K)
    refine head_l rfl ?_
    go_wp2_with (go_at_call 9; go_must (refine (gref_any gr P Q G _ 32 _ (hGV.ext (hVd.trans hv1)) hP hQ hGf hHf (by omega)).mono ?_); rintro e v2 ⟨vg, rfl, hR, hv2⟩; have hv2g := hv1.trans hv2)
    refine ⟨Cls (Ext _), fun _ h => h, ⟨⟨_, hv2g⟩, rfl⟩, ?_⟩
    repeat (refine head_q rfl (fun K hK => ?_); have hK2 := hide hK; clear hK; go_simp; refine hK2.out _ ?_; clear hK2 K)
    refine head_l rfl ?_
    go_wp2_with (go_at_call 23; go_must (refine (gnum_any _ aa 32 _ (hVa.ext (hVd.trans hv2g)) hFa (by omega)).mono ?_); rintro e v3 ⟨A20, l20, c20, rfl, hR20, hv3⟩; have hv3g := hv2g.trans hv3)
    refine ⟨Cls (Ext _), fun _ h => h, ⟨⟨_, hv3g⟩, rfl⟩, ?_⟩
    repeat (refine head_q rfl (fun K hK => ?_); have hK2 := hide hK; clear hK; go_simp; refine hK2.out _ ?_; clear hK2 K)
    refine head_l rfl ?_
    go_wp2_with (go_at_call 22; go_must (refine (rver_any _ vg P Q G _ _ aa A D n c m d msg sig (hR.ext hv3) hR20 (HM.out.ext (hED.trans hv3g)) (HS.out.ext (hED.trans hv3g)) hgok hPb hQb hGb hab (by omega) hz128).mono ?_); rw [← Ht.out]; rintro e v4 ⟨rfl, hv4⟩; have hv4g := hv3g.trans hv4)
    refine ⟨Cls (Ext _), fun _ h => h, ⟨⟨_, hv4g⟩, rfl⟩, ?_⟩
    repeat (refine head_q rfl (fun K hK => ?_); have hK2 := hide hK; clear hK; go_simp; refine hK2.out _ ?_; clear hK2 K)
    refine head_l rfl ?_
    go_wp2_with (go_at_call 21; go_must (refine (sver_none _ _ (by rfl) A D n c m d).mono ?_); rintro e v5 ⟨rfl, hv5⟩; have hv5g := hv4g.trans hv5)
    refine ⟨Cls (Ext _), fun _ h => h, ⟨⟨_, hv5g⟩, rfl⟩, ?_⟩
    repeat (refine head_q rfl (fun K hK => ?_); have hK2 := hide hK; clear hK; go_simp; refine hK2.out _ ?_; clear hK2 K)
    refine head_l rfl ?_
    go_wp2_with (go_at_call 17; go_must (refine (ssize_none _).mono ?_); rintro e v6 ⟨rfl, rfl⟩)
    refine ⟨Cls (Ext _), fun _ h => h, ⟨⟨_, hv5g⟩, rfl⟩, ?_⟩
    repeat (refine head_q rfl (fun K hK => ?_); have hK2 := hide hK; clear hK; go_simp; refine hK2.out _ ?_; clear hK2 K)
    have hEf := hED.trans hv5g
    clear y0
    refine head_nil ?_
    try simp only [List.drop_succ_cons, List.drop_zero]
    go_wp2_with fail
    go_ret
    exact ⟨rfl, hEf⟩
theorem svers_any (z : Int) (y : Nat) (mb : Bool) (A D : Option Addr) (n c m d : Nat) (msg sig : List (BitVec 8)) (w : World) (hy64 : y < 18446744073709551616) (hM : Pt.ok w ⟨A, n, c, msg⟩) (hS : Pt.ok w ⟨D, m, d, sig⟩) :
    Calls Tryz.prog 4 #[.int .i64 z, .int .u64 (y : Nat), .bool mb, .slice A n c, .slice D m d] w fun e w' => e = .returned (.bool true) ∧ Ext w w' := by
  by_cases hn : n ≤ 300
  · by_cases hm : m ≤ 300
    · obtain ⟨r, hr, hnum⟩ := gnums_any z
      exact svers_good z r hr y mb A D n c m d msg sig w (fun w' => hnum none 0 0 w') hy64 hM hS hn hm
    · exact svers_few z y mb A D n c m d w (.inr ⟨hn, by omega⟩)
  · exact svers_few z y mb A D n c m d w (.inl (by omega))
end Go.Proofs.YtoekbomfepedcaaGreat
