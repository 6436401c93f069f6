/- GroupAsks, walked. -/
import Derived.Test.YtoekbomfepedcaaGrpV
import Derived.Test.YtoekbomfepedcaaGrpo
namespace Go.Proofs.Ytoekbomfepedcaa
set_option linter.unusedSimpArgs false
set_option linter.unusedVariables false
open Go.RowKit
open Nt
attribute [local go_sem] steady steadyUpon Cls same_cell anyW
attribute [local irreducible] wpHead wpTree wpHeadR
set_option maxRecDepth 100000 in
set_option maxHeartbeats 1000000 in
theorem gasks_few (z : Int) (A : Option Addr) (n c : Nat) (w : World) (h : 10 < n) :
    Calls Try.prog 5 #[.int .i64 z, .slice A n c] w fun e w' => e = .returned (.bool true) ∧ Ext w w' := by
  have n1I : (10 : Int) < (n : Int) := by omega
  go_enter Try.func5, Try.ntmps5
  go_wp2_with fail
  refine (glives_any w).mono ?_
  rintro e w1 ⟨rfl, hU1⟩
  go_wp2_with fail
  refine (glives_any w1).mono ?_
  rintro e w2 ⟨rfl, hU2⟩
  have hE := hU1.trans hU2
  go_wp2_with fail
  go_ret
  exact ⟨rfl, hE⟩
theorem chalB_short (ps : List Pt) : ∀ (k : Nat), (∀ i, i < k → (gat ps i).n ≤ 300 ∧ (gat ps i).bs.length = (gat ps i).n) → k ≤ ps.length → (chalB (ps.take k)).length ≤ 308 * k
  | 0, _, _ => by simp [chalB]
  | k + 1, h, hk => by
    have h1 := chalB_short ps k (fun i hi => h i (by omega)) (by omega)
    rw [← chalB_take (by omega), List.length_append, List.length_append, leK_length]
    have := h k (by omega)
    omega
theorem grQ_lt (r : Nat) : 64 < grQ r := by
  unfold grQ
  split
  · decide
  · split <;> decide
set_option maxRecDepth 100000 in
set_option maxHeartbeats 4000000 in
theorem gasks_good (z : Int) (r : Nat) (hr : r < 3) (A : Option Addr) (n c : Nat) (ps : List Pt) (w : World) (hnum : ∀ w', Calls Try.prog 76 #[.int .i64 z, .slice none 0 0] w' (RetNums w' r none 0 0))
    (hP : Pts w A ps) (hl : ps.length = n) (hn : n ≤ 10) :
    Calls Try.prog 5 #[.int .i64 z, .slice A n c] w fun e w' => e = .returned (.bool true) ∧ Ext w w' := by
  have Hnum := hide hnum
  have HP := hide hP
  have Hl := hide hl
  have n1I : ¬ (10 : Int) < (n : Int) := by omega
  clear hnum hP hl
  go_enter Try.func5, Try.ntmps5
  go_wp2_with fail
  refine (glives_any w).mono ?_
  rintro e w1 ⟨rfl, hU1⟩
  go_wp2_with fail
  go_loopw [26, 6] (fun i v wr => ∃ (j : Nat), j ≤ n ∧ i = .int .i64 (j : Int) ∧ Hid (∀ q, q < j → (gat ps q).n ≤ 300) ∧ wr = w1) (fun i _ _ => n - (intOf i).toNat)
  case atStart => exact ⟨0, Nat.zero_le _, rfl, hide (fun q hq => absurd hq (by omega)), rfl⟩
  case round =>
    obtain ⟨j, hj, rfl, hall, rfl⟩ := hrel
    by_cases hlt : j < n
    case pos =>
      have hltI : (j : Int) < (n : Int) := by omega
      obtain ⟨b, o, rfl, -, hc⟩ := (HP.out.1.ext hU1).open_ (by rw [Hl.out]; omega)
      have q0 : wr.cell? ⟨b, o + j, none⟩ = some (gat ps j).val := hc j (by rw [Hl.out]; exact hlt)
      have hok := HP.out.2 j (by rw [Hl.out]; exact hlt)
      unfold Pt.val at q0
      obtain ⟨m, hm⟩ : ∃ m, m = (gat ps j).n := ⟨_, rfl⟩
      rw [← hm] at q0
      have hmx : m ≤ 9223372036854775807 := by have := hok.2.2; unfold maxLen at this; omega
      have Hm := hide hm
      clear hc hok hm
      by_cases h3 : m ≤ 300
      · have h3I : ¬ (300 : Int) < (m : Int) := by omega
        go_wp2_with fail
        go_roundw
        case rel =>
          refine ⟨j + 1, by omega, by go_num, hide (fun q hq => ?_), trivial⟩
          by_cases hqj : q < j
          · exact hall.out q hqj
          · obtain rfl : q = j := by omega
            rw [← Hm.out]; exact h3
        case measure => simp [intOf]; omega
      · have h3I : (300 : Int) < (m : Int) := by omega
        go_wp2_with fail
        go_ret
        exact ⟨rfl, hU1⟩
    case neg =>
      obtain rfl : j = n := by omega
      have hltI : ¬ ((j : Int) < (j : Int)) := by omega
      have hcl : (chalB ps).length ≤ 100000000 := by
        have h1 := chalB_short ps j (fun i hi => ⟨hall.out i hi, (HP.out.2 i (by rw [Hl.out]; exact hi)).2.1⟩) (Nat.le_of_eq Hl.out.symm)
        rw [List.take_of_length_le (Nat.le_of_eq Hl.out)] at h1
        omega
      have Hcl := hide hcl
      have hQ0 := grQ_lt r
      obtain ⟨x, hx⟩ : ∃ x, x = chalN ps (grQ r) := ⟨_, rfl⟩
      have hxQ : x < grQ r := by rw [hx]; exact Nat.mod_lt _ (by omega)
      have hFx : Fit 3 x := (fit_grQ r).le (Nat.le_of_lt hxQ)
      have Hx := hide hx
      clear hcl hall hx
      go_wp2_with fail
      refine (ggroup_any z r hr _ Hnum.out).mono ?_
      rintro e w2 ⟨gr, rfl, hG, hU2⟩
      have hE2 := hU1.trans hU2
      go_wp2_with fail
      refine (gChal_any gr (grP r) (grQ r) (grG r) (grH r) 8 A j c ps _ hG (HP.out.ext hE2) Hl.out (by omega) Hcl.out ((fit_grQ r).mono (by omega)) (by omega) (by omega)).mono ?_
      rw [← Hx.out]
      rintro e w3 ⟨A3, l3, c3, rfl, hV3, hU3⟩
      have hE3 := hE2.trans hU3
      have hG3 := hG.ext hU3
      clear hE2 hU2 hU3 hG hU1
      go_wp2_with fail
      refine name_c (fun W4 hW4 => ?_)
      have b9 : Box W4 w3.heap.size 33 (.slice A3 l3 c3) := by rw [hW4]; exact Box.new _ _ _
      have hE4 : Ext w W4 := by rw [hW4]; exact hE3.alloc _
      have hG4 : GrpV W4 gr (grP r) (grQ r) (grG r) (grH r) := by rw [hW4]; exact hG3.ext ((Upd.refl _ _).alloc _)
      have hV4 : NatV W4 (.agg #[.slice A3 l3 c3]) x := by rw [hW4]; exact hV3.ext ((Upd.refl _ _).alloc _)
      clear hW4 hE3 hG3 hV3
      refine (gOf_none _).mono ?_
      rintro e w5 ⟨A5, l5, c5, rfl, -, hU5⟩
      have k9 := ((b9.ext hU5).alloc (.cells #[.slice A5 l5 c5] 33)).cell
      go_wp2_with fail
      clear k9
      refine name_c (fun W6 hW6 => ?_)
      have hU6 : Ext W4 W6 := by rw [hW6]; exact hU5.alloc _
      have b9' := b9.ext hU6
      have hG6 := hG4.ext hU6
      have hV6 := hV4.ext hU6
      have hE6 := hE4.trans hU6
      clear hW6 hU6 hU5 b9 hG4 hV4 hE4
      refine (gBytes_none _ _ (by rfl)).mono ?_
      rintro e w7 ⟨rfl, hU7⟩
      go_wp2_with fail
      refine (gMulti_none _).mono ?_
      rintro e w8 ⟨A8, l8, c8, rfl, -, hU8⟩
      go_wp2_with fail
      refine name_w (fun X hX => ?_)
      have hU9 : Ext W6 X := by rw [hX]; exact (hU7.trans hU8).alloc _
      have b10 := b9'.ext hU9
      have hGX := hG6.ext hU9
      have hVX := hV6.ext hU9
      have hEX := hE6.trans hU9
      clear hX hU7 hU8 hU9 b9' hG6 hV6 hE6
      have q1 := fun y : Wd (Ext X.drew) => y.ok.cellv b10.drew.cell
      refine wp_region_plan (Ext _) 47 [(false,0), (false,1), (false,3), (true,2), (true,4), (true,5), (false,6), (false,7), (false,8), (true,9), (true,10), (true,11), (false,12), (false,13), (false,14), (false,15), (true,16), (true,17), (false,18), (false,19), (false,20), (true,21), (false,22), (false,23), (false,24), (false,25), (true,26), (false,27), (false,28), (false,29), (false,30), (false,31), (true,32), (false,33), (false,34), (false,35), (false,36), (false,37), (false,38), (false,39), (false,40), (false,41), (false,42), (false,43), (false,44), (false,45), (false,46)] (by kernel_rfl) (by kernel_rfl) (Upd.refl _ _) (fun hne => ?_)
      repeat (refine head_q rfl (fun K hK => ?_); have hK2 := hide hK; clear hK; go_simp; refine hK2.out _ ?_; clear hK2 K)
      refine head_l rfl ?_
      go_wp2_with (go_at_call 31; go_must (refine (gref_any gr (grP r) (grQ r) (grG r) (grH r) 3 _ (hGX.ext (Upd.refl _ _).drew) (fit_grP r) (fit_grQ r) (fit_grG r) (fit_grH r) (by omega)).mono ?_); rintro e v1 ⟨vg, rfl, hR1, hu1⟩)
      refine ⟨Cls (Ext _), fun _ h => h, ⟨⟨_, hu1⟩, rfl⟩, ?_⟩
      repeat (refine head_q rfl (fun K hK => ?_); have hK2 := hide hK; clear hK; go_simp; refine hK2.out _ ?_; clear hK2 K)
      refine head_l rfl ?_
      go_wp2_with (go_at_call 32; go_must (refine (rChal_any vg (grP r) (grQ r) (grG r) (grH r) 256 A j c ps _ hR1 (HP.out.ext (hEX.trans ((Upd.refl _ _).drew.trans hu1))) Hl.out (by omega) Hcl.out (Nat.le_trans (fit_grQ r).blen (by omega)) (by omega) (by omega) (by omega)).mono ?_); rw [← Hx.out]; rintro e v2 ⟨A10, l10, c10, rfl, hR2, hu2⟩; replace hu2 := hu1.trans hu2)
      refine ⟨Cls (Ext _), fun _ h => h, ⟨⟨_, hu2⟩, rfl⟩, ?_⟩
      repeat (refine head_q rfl (fun K hK => ?_); have hK2 := hide hK; clear hK; go_simp; refine hK2.out _ ?_; clear hK2 K)
      refine head_l rfl ?_
      go_wp2_with (go_at_call 16; go_must (refine (lsame_any _ _ x x 3 _ (hVX.ext ((Upd.refl _ _).drew.trans hu2)) hR2 hFx hFx (by omega)).mono ?_); rintro e v3 ⟨rfl, hu3⟩; rw [decide_eq_true rfl]; replace hu3 := hu2.trans hu3)
      refine ⟨Cls (Ext _), fun _ h => h, ⟨⟨_, hu3⟩, rfl⟩, ?_⟩
      repeat (refine head_q rfl (fun K hK => ?_); have hK2 := hide hK; clear hK; go_simp; refine hK2.out _ ?_; clear hK2 K)
      refine head_l rfl ?_
      go_wp2_with (go_at_call 33; go_must (refine (gField_any gr (grP r) (grQ r) (grG r) (grH r) _ (hGX.ext ((Upd.refl _ _).drew.trans hu3))).mono ?_); rintro e v4 ⟨gq, rfl, hRq, rfl⟩)
      refine ⟨Cls (Ext _), fun _ h => h, ⟨⟨_, hu3⟩, rfl⟩, ?_⟩
      repeat (refine head_q rfl (fun K hK => ?_); have hK2 := hide hK; clear hK; go_simp; refine hK2.out _ ?_; clear hK2 K)
      refine head_l rfl ?_
      go_wp2_with (go_at_call 34; go_must (refine (mmod_any gq (grQ r) _ hRq).mono ?_); rintro e v5 ⟨A11, l11, c11, rfl, hV11, hu5⟩; replace hu5 := hu3.trans hu5)
      refine ⟨Cls (Ext _), fun _ h => h, ⟨⟨_, hu5⟩, rfl⟩, ?_⟩
      repeat (refine head_q rfl (fun K hK => ?_); have hK2 := hide hK; clear hK; go_simp; refine hK2.out _ ?_; clear hK2 K)
      have hz : cmpI x (grQ r) = -1 := cmpI_lt hxQ
      refine head_l rfl ?_
      go_wp2_with (go_at_call 27; go_must (refine (cmp_any _ _ x (grQ r) 3 _ (hVX.ext ((Upd.refl _ _).drew.trans hu5)) hV11 hFx (fit_grQ r) (by omega)).mono ?_); rintro e v6 ⟨rfl, hu6⟩; rw [hz]; replace hu6 := hu5.trans hu6)
      refine ⟨Cls (Ext _), fun _ h => h, ⟨⟨_, hu6⟩, rfl⟩, ?_⟩
      repeat (refine head_q rfl (fun K hK => ?_); have hK2 := hide hK; clear hK; go_simp; refine hK2.out _ ?_; clear hK2 K)
      refine head_l rfl ?_
      go_wp2_with (go_at_call 28; go_must (refine (gChal_none _).mono ?_); rintro e v7 ⟨A12, l12, c12, rfl, hV12, hu7⟩; replace hu7 := hu6.trans hu7)
      refine ⟨Cls (Ext _), fun _ h => h, ⟨⟨_, hu7⟩, rfl⟩, ?_⟩
      repeat (refine head_q rfl (fun K hK => ?_); have hK2 := hide hK; clear hK; go_simp; refine hK2.out _ ?_; clear hK2 K)
      refine head_l rfl ?_
      go_wp2_with (go_at_call 24; go_must (refine (zero_any _ 0 _ hV12).mono ?_); rintro e v8 ⟨rfl, hu8⟩; rw [decide_eq_true (rfl : 0 = 0)]; replace hu8 := hu7.trans hu8)
      refine ⟨Cls (Ext _), fun _ h => h, ⟨⟨_, hu8⟩, rfl⟩, ?_⟩
      repeat (refine head_q rfl (fun K hK => ?_); have hK2 := hide hK; clear hK; go_simp; refine hK2.out _ ?_; clear hK2 K)
      refine head_l rfl ?_
      go_wp2_with (go_at_call 33; go_must (refine (gField_none _).mono ?_); rintro e v9 ⟨rfl, rfl⟩)
      refine ⟨Cls (Ext _), fun _ h => h, ⟨⟨_, hu8⟩, rfl⟩, ?_⟩
      repeat (refine head_q rfl (fun K hK => ?_); have hK2 := hide hK; clear hK; go_simp; refine hK2.out _ ?_; clear hK2 K)
      refine head_l rfl ?_
      go_wp2_with (go_at_call 19; go_must (refine (gSize_none _).mono ?_); rintro e v9 ⟨rfl, rfl⟩)
      refine ⟨Cls (Ext _), fun _ h => h, ⟨⟨_, hu8⟩, rfl⟩, ?_⟩
      repeat (refine head_q rfl (fun K hK => ?_); have hK2 := hide hK; clear hK; go_simp; refine hK2.out _ ?_; clear hK2 K)
      refine head_l rfl ?_
      go_wp2_with (go_at_call 35; go_must (refine (gMember_none _ _ (by rfl)).mono ?_); rintro e v9 ⟨rfl, hu9⟩; replace hu9 := hu8.trans hu9)
      refine ⟨Cls (Ext _), fun _ h => h, ⟨⟨_, hu9⟩, rfl⟩, ?_⟩
      repeat (refine head_q rfl (fun K hK => ?_); have hK2 := hide hK; clear hK; go_simp; refine hK2.out _ ?_; clear hK2 K)
      have hG := hEX.trans hu9.undrew
      clear q1
      refine head_nil ?_
      try simp only [List.drop_succ_cons, List.drop_zero]
      go_wp2_with fail
      go_ret
      exact ⟨rfl, hG⟩
theorem gasks_any (z : Int) (A : Option Addr) (n c : Nat) (ps : List Pt) (w : World) (hP : Pts w A ps) (hl : ps.length = n) :
    Calls Try.prog 5 #[.int .i64 z, .slice A n c] w fun e w' => e = .returned (.bool true) ∧ Ext w w' := by
  by_cases hn : n ≤ 10
  · obtain ⟨r, hr, hnum⟩ := gnums_any z
    exact gasks_good z r hr A n c ps w (fun w' => hnum none 0 0 w') hP hl hn
  · exact gasks_few z A n c w (by omega)
end Go.Proofs.Ytoekbomfepedcaa
