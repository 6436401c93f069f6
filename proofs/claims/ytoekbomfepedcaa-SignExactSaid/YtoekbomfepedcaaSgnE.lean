/- SignBack, walked. -/
import Derived.Test.YtoekbomfepedcaaSgnL
namespace Go.Proofs.Ytoekbomfepedcaa
set_option linter.unusedSimpArgs false
set_option linter.unusedVariables false
open Go.RowKit
open Nt Sha
attribute [local go_sem] steady steadyUpon Cls same_cell anyW
attribute [local irreducible] wpHead wpTree wpHeadR sum chalOf
theorem byteSz_pos {Q : Nat} (h : 64 < Q) : 1 ≤ byteSz Q := by
  rcases Nat.eq_zero_or_pos (byteSz Q) with h0 | h0
  · have h1 : Q < 256 ^ byteSz Q := bytelen_le_iff.1 (show bytelen Q ≤ byteSz Q from Nat.le_refl _)
    rw [h0] at h1
    omega
  · exact h0
set_option maxRecDepth 100000 in
set_option maxHeartbeats 1000000 in
theorem sback_few (z x : Int) (y : Int) (A : Option Addr) (n c : Nat) (w : World) (h : 300 < n) :
    Calls Try.prog 6 #[.int .i64 z, .int .u64 x, .slice A n c, .int .u8 y] w fun e w' => e = .returned (.bool true) ∧ Ext w w' := by
  have n1I : (300 : Int) < (n : Int) := by omega
  go_enter Try.func6, Try.ntmps6
  go_wp2_with fail
  refine (slives_any w).mono ?_
  rintro e w1 ⟨rfl, hU1⟩
  go_wp2_with fail
  refine (slives_any w1).mono ?_
  rintro e w2 ⟨rfl, hU2⟩
  have hE := hU1.trans hU2
  go_wp2_with fail
  go_ret
  exact ⟨rfl, hE⟩
set_option maxRecDepth 100000 in
set_option maxHeartbeats 8000000 in
theorem sback_good (z : Int) (r : Nat) (hr : r < 3) (x : Nat) (by_ : BitVec 8) (A : Option Addr) (n c : Nat) (msg : List (BitVec 8)) (w : World) (hnum : ∀ w', Calls Try.prog 76 #[.int .i64 z, .slice none 0 0] w' (RetNums w' r none 0 0))
    (hx64 : x < 18446744073709551616) (hM : Pt.ok w ⟨A, n, c, msg⟩) (hn : n ≤ 300) :
    Calls Try.prog 6 #[.int .i64 z, .int .u64 (x : Nat), .slice A n c, .int .u8 (n8 by_)] w fun e w' => e = .returned (.bool true) ∧ Ext w w' := by
  -- the numbers of group r, by name
  have Hnum := hide hnum
  have hP : Fit 32 (grP r) := (fit_grP r).mono (by omega)
  have hQ : Fit 32 (grQ r) := (fit_grQ r).mono (by omega)
  have hGf : Fit 32 (grG r) := (fit_grG r).mono (by omega)
  obtain ⟨P, hPe⟩ : ∃ P, P = grP r := ⟨_, rfl⟩
  obtain ⟨Q, hQe⟩ : ∃ Q, Q = grQ r := ⟨_, rfl⟩
  obtain ⟨G, hGe⟩ : ∃ G, G = grG r := ⟨_, rfl⟩
  have hgok : GOk P Q G := by rw [hPe, hQe, hGe]; exact gok r hr
  have hz128 : byteSz Q ≤ 128 := by rw [hQe]; exact szQ r
  rw [← hPe] at hP
  rw [← hQe] at hQ
  rw [← hGe] at hGf
  have HPe := hide hPe
  have HQe := hide hQe
  have HGe := hide hGe
  have hP2 := hgok.two
  have hQ64 := hgok.sml
  clear hnum hPe hQe hGe
  have HM := hide hM
  have n1I : ¬ (300 : Int) < (n : Int) := by omega
  have hFx : Fit 32 x := (fit2 hx64).mono (by omega)
  clear hM
  go_enter Try.func6, Try.ntmps6
  go_wp2_with fail
  refine (slives_any w).mono ?_
  rintro e w1 ⟨rfl, hU1⟩
  go_wp2_with fail
  refine (ggroup_any z r hr w1 Hnum.out).mono ?_
  rintro e w2 ⟨gr, rfl, hG, hU2⟩
  rw [← HPe.out, ← HQe.out, ← HGe.out] at hG
  have hE2 := hU1.trans hU2
  clear hU1 hU2
  go_wp2_with fail
  refine (gField_any gr P Q G _ _ hG).mono ?_
  rintro e w3 ⟨gq, rfl, hRq, rfl⟩
  go_wp2_with fail
  refine (new_any x _ hx64).mono ?_
  rintro e w4 ⟨A4, l4, c4, rfl, hV4, hU4⟩
  go_wp2_with fail
  refine (mof_any _ gq x Q 32 _ (hRq.ext hU4) hV4 hFx hQ (by omega)).mono ?_
  rintro e w5 ⟨A5, l5, c5, rfl, hV5, hU5⟩
  have hdQ : x % Q < Q := Nat.mod_lt _ (by omega)
  obtain ⟨d, hd⟩ : ∃ d, d = x % Q := ⟨_, rfl⟩
  rw [← hd] at hV5 hdQ
  clear hd hV4 hFx
  have hU45 := hU4.trans hU5
  have q10 := (Box.new w5 33 (.slice A5 l5 c5)).cell
  go_wp2_with fail
  clear q10
  refine name_c (fun V0 hW => ?_)
  have hU0 : Ext w3 V0 := by rw [hW]; exact hU45.alloc _
  have b10o : Box V0 w5.heap.size 33 (.slice A5 l5 c5) := by rw [hW]; exact Box.new _ _ _
  have hVd : NatV V0 (.agg #[.slice A5 l5 c5]) d := by rw [hW]; exact hV5.ext ((Upd.refl _ _).alloc _)
  have hE0 := hE2.trans hU0
  have hsz35 := hU45.size
  have hsz3 := hE2.size
  clear hW hU4 hU5 hU45 hV5 hRq
  refine (zero_any _ d _ hVd).mono ?_
  rintro e w6 ⟨rfl, hU6⟩
  by_cases hd0 : d = 0
  case pos =>
    rw [decide_eq_true hd0]
    go_wp2_with fail
    refine (new_any 1 _ (by decide)).mono ?_
    rintro e w7 ⟨AK, lK, cK, rfl, hV7, hU7⟩
    have hU67 := hU6.trans hU7
    have b10p := b10o.ext hU67
    have z2 := b10p.cell
    have z3 := b10p.frozen
    have hsz : w.heap.size ≤ w5.heap.size := Nat.le_trans hsz3 hsz35
    obtain ⟨kk, hkk⟩ : ∃ kk, kk = 1 := ⟨_, rfl⟩
    have hk0 : 0 < kk := by omega
    have hkQ : kk < Q := by omega
    have hFk : Fit 32 kk := hQ.le (Nat.le_of_lt hkQ)
    rw [← hkk] at hV7
    have b10n := b10p.set (.slice AK lK cK)
    have hVKn := hV7.far (v := .slice AK lK cK) z2
    have hEVn : Ext w (w7.setCell ⟨w5.heap.size, 0, none⟩ (.slice AK lK cK)) := (hE0.trans hU67).setCell (p := ⟨w5.heap.size, 0, none⟩) (.inr hsz) _
    have hGVn : GrpV (w7.setCell ⟨w5.heap.size, 0, none⟩ (.slice AK lK cK)) gr P Q G (grH r) := hG.ext ((hU0.trans hU67).setCell (p := ⟨w5.heap.size, 0, none⟩) (.inr hsz35) _)
    clear b10o hVd hU6 hU7 hU67 hE0 hV7 b10p hkk hsz hsz35 hsz3 hE2 hU0 hG
    have q10 := b10n.cell
    go_wp2_with fail
    refine name_c (fun V hV => ?_)
    rw [← hV] at hEVn hGVn b10n hVKn
    have hEV := hEVn
    have hGV := hGVn
    have b10 := b10n
    have hVK := hVKn
    clear hV q10 z2 z3 hEVn hGVn b10n hVKn
    -- behind the key; world V, b10 (the key's box), hVK, hGV, hEV; kk
    have q10 := b10.cell
    obtain ⟨N2, hN2⟩ : ∃ N2, N2 = 2 * byteSz Q := ⟨_, rfl⟩
    obtain ⟨sg, hsg⟩ : ∃ sg, sg = signB P Q G kk msg := ⟨_, rfl⟩
    obtain ⟨y, hy⟩ : ∃ y, y = G ^ kk % P := ⟨_, rfl⟩
    have hFy : Fit 32 y := by rw [hy]; exact hP.le (Nat.le_of_lt (Nat.mod_lt _ (by omega)))
    have hbad0 : verB P Q G 0 msg sg = false := verB_zero
    have hgood : verB P Q G y msg sg = true := by rw [hy, hsg]; exact hgok.signed kk msg
    have hN2m : 2 ≤ N2 ∧ N2 ≤ 256 := by have := byteSz_pos hQ64; omega
    have HN2 := hide hN2
    have Hsg := hide hsg
    have Hy := hide hy
    have Hbad0 := hide hbad0
    have Hgood := hide hgood
    clear hN2 hsg hy hbad0 hgood
    try (go_wp2_with fail)
    clear q10
    refine (ssign_any gr P Q G _ 32 _ _ kk A n c msg hGV hVK (HM.out.ext hEV) hFk hQ hP hGf (by omega) (by omega) (by omega) hk0 hkQ (by omega)).mono ?_
    rw [← HN2.out, ← Hsg.out]
    rintro e w11 ⟨A11, c11, rfl, hl11, hO11, hU11⟩
    have hp11 := hide (Own.pt hO11 hl11)
    have q10 := (b10.ext hU11).cell
    clear hO11
    go_wp2_with fail
    clear q10
    refine (ssign_any gr P Q G _ 32 _ _ kk A n c msg (hGV.ext hU11) (hVK.ext hU11) (HM.out.ext (hEV.trans hU11)) hFk hQ hP hGf (by omega) (by omega) (by omega) hk0 hkQ (by omega)).mono ?_
    rw [← HN2.out, ← Hsg.out]
    rintro e w13 ⟨A13, c13, rfl, hl13, hO13, hU13⟩
    have hp13 := hide (Own.pt hO13 hl13)
    have hU113 := hU11.trans hU13
    have q10 := (b10.ext hU113).cell
    clear hO13
    go_wp2_with fail
    clear q10
    refine (spub_any gr P Q G _ 32 _ _ kk (hGV.ext hU113) (hVK.ext hU113) hFk hQ hP hGf (by omega) hk0 hkQ).mono ?_
    rw [← Hy.out]
    rintro e w15 ⟨A15, l15, c15, rfl, hV15, hU15⟩
    have hnn : Ext w15 (w15.alloc (.cells #[.slice A15 l15 c15] 33)) := (Upd.refl _ _).alloc _
    have q15 := (Box.new w15 33 (.slice A15 l15 c15)).cell
    have hS11 : Sl by8 (w15.alloc (.cells #[.slice A15 l15 c15] 33)) A11 sg := hp11.out.2.2.2.ext ((hU13.trans hU15).trans hnn)
    have hS13 : Sl by8 (w15.alloc (.cells #[.slice A15 l15 c15] 33)) A13 sg := hp13.out.2.2.2.ext (hU15.trans hnn)
    have hk11 := run_str (P := Try.prog) (c := c11) Try.under_bs Try.under8 Try.underS hS11 hl11
    have hk13 := run_str (P := Try.prog) (c := c13) Try.under_bs Try.under8 Try.underS hS13 hl11
    obtain ⟨ST, hST⟩ : ∃ ST, ST = str sg := ⟨_, rfl⟩
    rw [← hST] at hk11 hk13
    clear hST hnn hl13 hS13
    go_wp2_with fail
    clear q15 hk11 hk13
    refine name_c (fun W hW => ?_)
    rw [← hW] at hS11
    have hUW : Ext V W := by rw [hW]; exact (hU113.trans hU15).alloc _
    have b15 : Box W w15.heap.size 33 (.slice A15 l15 c15) := by rw [hW]; exact Box.new _ _ _
    have hVy : NatV W (.agg #[.slice A15 l15 c15]) y := by rw [hW]; exact hV15.ext ((Upd.refl _ _).alloc _)
    have hEW := hEV.trans hUW
    have hGW := hGV.ext hUW
    clear hW hU11 hU13 hU113 hU15 hV15 hUW hVK b10 hGV hEV
    refine (sver_any gr P Q G _ 32 W _ y A A11 n c N2 c11 msg sg hGW hVy (HM.out.ext hEW) ⟨hS11, hp11.out.1, hp11.out.2.1, hp11.out.2.2.1⟩ hFy hQ hP hGf (by omega) (by omega) hz128 (by omega) hP2).mono ?_
    rw [Hgood.out]
    rintro e w16 ⟨rfl, hU16⟩
    have hE16 := hEW.trans hU16
    obtain ⟨N3, hN3⟩ : ∃ N3, N3 = N2 + 1 := ⟨_, rfl⟩
    have hl3 : (sg ++ [by_]).length = N3 := by rw [List.length_append, hl11, hN3]; rfl
    have hl3' : ([] ++ sg : List (BitVec 8)).length = N2 := hl11
    have Hl3 := hide hl3
    have hlong : verB P Q G y msg (sg ++ [by_]) = false := verB_len (by rw [hl3, ← HN2.out]; omega)
    have hshort : verB P Q G y msg (sg.take (N2 - 1)) = false := verB_len (by rw [List.length_take, hl11, ← HN2.out]; omega)
    have Hlong := hide hlong
    have Hshort := hide hshort
    have Hp11 := hide (show Pt.ok w16 ⟨A11, N2, c11, sg⟩ from ⟨hS11.ext hU16, hp11.out.1, hp11.out.2.1, hp11.out.2.2.1⟩)
    have b15' := b15.ext hU16
    have hVy' := hVy.ext hU16
    have hG16 := hGW.ext hU16
    have HN3 := hide hN3
    have hN3m : N3 ≤ 1000 := by omega
    clear hEW hU16 hS11 hp11 b15 hVy hGW hl3 hlong hshort hN3
    go_wp2_with (first
     | (at_builtin; refine wpList_apd by8 one8 Try.el8 [] sg ([] ++ sg) N2 rfl hl3' (by omega) (by unfold maxLen; omega) rfl rfl rfl rfl (rep_nil w16 (Nat.le_refl _)) rfl hl11 (Hp11.out.1.ext ((Upd.refl _ _).alloc _)) (by simp) ?_; intro A17 c17 w17 hO17 hU17 hin17; have hE17 := upd_new (w0 := w16) hU17 ((Upd.refl _ _).alloc _) (fun q hq => by simp [inA] at hq; omega))
     | (at_builtin; go_must (refine wpList_apd by8 one8 Try.el8 ([] ++ sg) [by_] (sg ++ [by_]) N3 rfl Hl3.out (by omega) (by unfold maxLen; omega) rfl rfl rfl hl3' (hO17.ext ((Upd.refl _ _).alloc _)) rfl rfl (Sl.new by8 _ _ [by_]) (Nat.le_trans hE17.size (by simp)) ?_); intro A18 c18 w18 hO18 hU18 hin18))
    have hX18 : Ext w16 w18 := upd_new hU18 (hE17.alloc _) (fun q hq => (hO17.in_ hq).1)
    have hp18 := hide (Own.pt hO18 Hl3.out)
    have hE18 := hE16.trans hX18
    have b15 := b15'.ext hX18
    have hVy := hVy'.ext hX18
    have hGX := hG16.ext hX18
    have Hp11x := hide (Hp11.out.ext hX18)
    obtain ⟨N1, hN1⟩ : ∃ N1, N2 = N1 + 1 := ⟨N2 - 1, by omega⟩
    have hsub : (N2 : Int) - 1 = (N1 : Int) := by omega
    have hlc : N2 ≤ c11 := Hp11.out.2.2.1
    have hs : ∀ w, (Instr.sliceAt 23 (.slice A11 N2 c11) none (some (.int .i64 (N1 : Int))) none).run Try.prog w = .ok (.slice A11 N1 c11) w := fun w => run_cut_h Try.n_el8.under Try.n_sz8 A11 N2 c11 N1 .i64 (by omega) w
    have hsl : (sg.take (N2 - 1)).length = N1 := by rw [List.length_take, hl11]; omega
    have Hsl := hide hsl
    have HN1 := hide hN1
    have hN1m : N1 ≤ 1000 := by omega
    have hw1 : IntKind.i64.wrap (N1 : Int) = (N1 : Int) := IntWalk.i64_in _ (by omega)
    clear hO18 hU18 hin18 hO17 hU17 hin17 hE17 hE16 b15' hVy' hG16 hsl hN1 hX18
    refine name_w (fun X hX => ?_)
    subst hX
    have hXd : Ext X X.drew := (Upd.refl _ _).drew
    have hED := hE18.trans hXd
    have q1 := fun y : Wd (Ext X.drew) => y.ok.cellv b15.drew.cell
    have hF0 : Fit 32 0 := fit1 (by decide) (by omega)
    refine wp_region_plan (Ext _) 26 [(false,0), (false,1), (false,2), (false,3), (true,4), (false,5), (false,6), (false,7), (false,8), (false,9), (false,10), (false,11), (false,12), (false,13), (false,14), (true,15), (false,16), (false,17), (false,18), (false,19), (false,20), (false,21), (false,22), (true,23), (false,24), (false,25)] (by kernel_rfl) (by kernel_rfl) (Upd.refl _ _) (fun hne => ?_)
    repeat (refine head_q rfl (fun K hK => ?_); have hK2 := hide hK; clear hK; go_simp; refine hK2.out _ ?_; clear hK2 K)
    refine head_l rfl ?_
    go_wp2_with (go_at_call 40; go_must (refine (sver_any gr P Q G _ 32 _ _ y A A18 n c N3 c18 msg (sg ++ [by_]) (hGX.ext hXd) (hVy.ext hXd) (HM.out.ext hED) ⟨hp18.out.2.2.2.ext hXd, hp18.out.1, hp18.out.2.1, hp18.out.2.2.1⟩ hFy hQ hP hGf (by omega) (by omega) hz128 (by omega) hP2).mono ?_); rw [Hlong.out]; rintro e u1 ⟨rfl, hu1⟩)
    refine ⟨Cls (Ext _), fun _ h => h, ⟨⟨_, hu1⟩, rfl⟩, ?_⟩
    repeat (refine head_q rfl (fun K hK => ?_); have hK2 := hide hK; clear hK; go_simp; refine hK2.out _ ?_; clear hK2 K)
    refine head_l rfl ?_
    go_wp2_with (go_at_call 40; go_must (refine (sver_any gr P Q G _ 32 _ _ y A A11 n c N1 c11 msg (sg.take (N2 - 1)) (hGX.ext (hXd.trans hu1)) (hVy.ext (hXd.trans hu1)) (HM.out.ext (hED.trans hu1)) ⟨(Hp11x.out.1.take (N2 - 1)).ext (hXd.trans hu1), Hsl.out, (by show N1 ≤ c11; have := HN1.out; omega), Hp11x.out.2.2.2⟩ hFy hQ hP hGf (by omega) (by omega) hz128 (by omega) hP2).mono ?_); rw [Hshort.out]; rintro e u2 ⟨rfl, hu2⟩; replace hu2 := hu1.trans hu2)
    refine ⟨Cls (Ext _), fun _ h => h, ⟨⟨_, hu2⟩, rfl⟩, ?_⟩
    repeat (refine head_q rfl (fun K hK => ?_); have hK2 := hide hK; clear hK; go_simp; refine hK2.out _ ?_; clear hK2 K)
    refine head_l rfl ?_
    go_wp2_with (go_at_call 40; go_must (refine (sver_any gr P Q G _ 32 _ _ 0 A A11 n c N2 c11 msg sg (hGX.ext (hXd.trans hu2)) (NatV.nil _) (HM.out.ext (hED.trans hu2)) (Hp11x.out.ext (hXd.trans hu2)) hF0 hQ hP hGf (by omega) (by omega) hz128 (by omega) hP2).mono ?_); rw [Hbad0.out]; rintro e u3 ⟨rfl, hu3⟩; replace hu3 := hu2.trans hu3)
    refine ⟨Cls (Ext _), fun _ h => h, ⟨⟨_, hu3⟩, rfl⟩, ?_⟩
    repeat (refine head_q rfl (fun K hK => ?_); have hK2 := hide hK; clear hK; go_simp; refine hK2.out _ ?_; clear hK2 K)
    have hG := hE18.trans hu3.undrew
    clear q1
    refine head_nil ?_
    try simp only [List.drop_succ_cons, List.drop_zero]
    go_wp2_with fail
    go_ret
    exact ⟨rfl, hG⟩
  case neg =>
    rw [decide_eq_false hd0]
    obtain ⟨V, hV⟩ : ∃ V, V = w6 := ⟨_, rfl⟩
    rw [← hV] at hU6
    have b10 := b10o.ext hU6
    obtain ⟨kk, hkk⟩ : ∃ kk, kk = d := ⟨_, rfl⟩
    have hVK := hVd.ext hU6
    rw [← hkk] at hVK
    have hk0 : 0 < kk := by omega
    have hkQ : kk < Q := by omega
    have hFk : Fit 32 kk := hQ.le (Nat.le_of_lt hkQ)
    have hEV := hE0.trans hU6
    have hGV := hG.ext (hU0.trans hU6)
    subst hV
    clear b10o hVd hU6 hE0 hkk hsz35 hsz3 hE2 hU0 hG
    -- behind the key; world V, b10 (the key's box), hVK, hGV, hEV; kk
    have q10 := b10.cell
    obtain ⟨N2, hN2⟩ : ∃ N2, N2 = 2 * byteSz Q := ⟨_, rfl⟩
    obtain ⟨sg, hsg⟩ : ∃ sg, sg = signB P Q G kk msg := ⟨_, rfl⟩
    obtain ⟨y, hy⟩ : ∃ y, y = G ^ kk % P := ⟨_, rfl⟩
    have hFy : Fit 32 y := by rw [hy]; exact hP.le (Nat.le_of_lt (Nat.mod_lt _ (by omega)))
    have hbad0 : verB P Q G 0 msg sg = false := verB_zero
    have hgood : verB P Q G y msg sg = true := by rw [hy, hsg]; exact hgok.signed kk msg
    have hN2m : 2 ≤ N2 ∧ N2 ≤ 256 := by have := byteSz_pos hQ64; omega
    have HN2 := hide hN2
    have Hsg := hide hsg
    have Hy := hide hy
    have Hbad0 := hide hbad0
    have Hgood := hide hgood
    clear hN2 hsg hy hbad0 hgood
    try (go_wp2_with fail)
    clear q10
    refine (ssign_any gr P Q G _ 32 _ _ kk A n c msg hGV hVK (HM.out.ext hEV) hFk hQ hP hGf (by omega) (by omega) (by omega) hk0 hkQ (by omega)).mono ?_
    rw [← HN2.out, ← Hsg.out]
    rintro e w11 ⟨A11, c11, rfl, hl11, hO11, hU11⟩
    have hp11 := hide (Own.pt hO11 hl11)
    have q10 := (b10.ext hU11).cell
    clear hO11
    go_wp2_with fail
    clear q10
    refine (ssign_any gr P Q G _ 32 _ _ kk A n c msg (hGV.ext hU11) (hVK.ext hU11) (HM.out.ext (hEV.trans hU11)) hFk hQ hP hGf (by omega) (by omega) (by omega) hk0 hkQ (by omega)).mono ?_
    rw [← HN2.out, ← Hsg.out]
    rintro e w13 ⟨A13, c13, rfl, hl13, hO13, hU13⟩
    have hp13 := hide (Own.pt hO13 hl13)
    have hU113 := hU11.trans hU13
    have q10 := (b10.ext hU113).cell
    clear hO13
    go_wp2_with fail
    clear q10
    refine (spub_any gr P Q G _ 32 _ _ kk (hGV.ext hU113) (hVK.ext hU113) hFk hQ hP hGf (by omega) hk0 hkQ).mono ?_
    rw [← Hy.out]
    rintro e w15 ⟨A15, l15, c15, rfl, hV15, hU15⟩
    have hnn : Ext w15 (w15.alloc (.cells #[.slice A15 l15 c15] 33)) := (Upd.refl _ _).alloc _
    have q15 := (Box.new w15 33 (.slice A15 l15 c15)).cell
    have hS11 : Sl by8 (w15.alloc (.cells #[.slice A15 l15 c15] 33)) A11 sg := hp11.out.2.2.2.ext ((hU13.trans hU15).trans hnn)
    have hS13 : Sl by8 (w15.alloc (.cells #[.slice A15 l15 c15] 33)) A13 sg := hp13.out.2.2.2.ext (hU15.trans hnn)
    have hk11 := run_str (P := Try.prog) (c := c11) Try.under_bs Try.under8 Try.underS hS11 hl11
    have hk13 := run_str (P := Try.prog) (c := c13) Try.under_bs Try.under8 Try.underS hS13 hl11
    obtain ⟨ST, hST⟩ : ∃ ST, ST = str sg := ⟨_, rfl⟩
    rw [← hST] at hk11 hk13
    clear hST hnn hl13 hS13
    go_wp2_with fail
    clear q15 hk11 hk13
    refine name_c (fun W hW => ?_)
    rw [← hW] at hS11
    have hUW : Ext V W := by rw [hW]; exact (hU113.trans hU15).alloc _
    have b15 : Box W w15.heap.size 33 (.slice A15 l15 c15) := by rw [hW]; exact Box.new _ _ _
    have hVy : NatV W (.agg #[.slice A15 l15 c15]) y := by rw [hW]; exact hV15.ext ((Upd.refl _ _).alloc _)
    have hEW := hEV.trans hUW
    have hGW := hGV.ext hUW
    clear hW hU11 hU13 hU113 hU15 hV15 hUW hVK b10 hGV hEV
    refine (sver_any gr P Q G _ 32 W _ y A A11 n c N2 c11 msg sg hGW hVy (HM.out.ext hEW) ⟨hS11, hp11.out.1, hp11.out.2.1, hp11.out.2.2.1⟩ hFy hQ hP hGf (by omega) (by omega) hz128 (by omega) hP2).mono ?_
    rw [Hgood.out]
    rintro e w16 ⟨rfl, hU16⟩
    have hE16 := hEW.trans hU16
    obtain ⟨N3, hN3⟩ : ∃ N3, N3 = N2 + 1 := ⟨_, rfl⟩
    have hl3 : (sg ++ [by_]).length = N3 := by rw [List.length_append, hl11, hN3]; rfl
    have hl3' : ([] ++ sg : List (BitVec 8)).length = N2 := hl11
    have Hl3 := hide hl3
    have hlong : verB P Q G y msg (sg ++ [by_]) = false := verB_len (by rw [hl3, ← HN2.out]; omega)
    have hshort : verB P Q G y msg (sg.take (N2 - 1)) = false := verB_len (by rw [List.length_take, hl11, ← HN2.out]; omega)
    have Hlong := hide hlong
    have Hshort := hide hshort
    have Hp11 := hide (show Pt.ok w16 ⟨A11, N2, c11, sg⟩ from ⟨hS11.ext hU16, hp11.out.1, hp11.out.2.1, hp11.out.2.2.1⟩)
    have b15' := b15.ext hU16
    have hVy' := hVy.ext hU16
    have hG16 := hGW.ext hU16
    have HN3 := hide hN3
    have hN3m : N3 ≤ 1000 := by omega
    clear hEW hU16 hS11 hp11 b15 hVy hGW hl3 hlong hshort hN3
    go_wp2_with (first
     | (at_builtin; refine wpList_apd by8 one8 Try.el8 [] sg ([] ++ sg) N2 rfl hl3' (by omega) (by unfold maxLen; omega) rfl rfl rfl rfl (rep_nil w16 (Nat.le_refl _)) rfl hl11 (Hp11.out.1.ext ((Upd.refl _ _).alloc _)) (by simp) ?_; intro A17 c17 w17 hO17 hU17 hin17; have hE17 := upd_new (w0 := w16) hU17 ((Upd.refl _ _).alloc _) (fun q hq => by simp [inA] at hq; omega))
     | (at_builtin; go_must (refine wpList_apd by8 one8 Try.el8 ([] ++ sg) [by_] (sg ++ [by_]) N3 rfl Hl3.out (by omega) (by unfold maxLen; omega) rfl rfl rfl hl3' (hO17.ext ((Upd.refl _ _).alloc _)) rfl rfl (Sl.new by8 _ _ [by_]) (Nat.le_trans hE17.size (by simp)) ?_); intro A18 c18 w18 hO18 hU18 hin18))
    have hX18 : Ext w16 w18 := upd_new hU18 (hE17.alloc _) (fun q hq => (hO17.in_ hq).1)
    have hp18 := hide (Own.pt hO18 Hl3.out)
    have hE18 := hE16.trans hX18
    have b15 := b15'.ext hX18
    have hVy := hVy'.ext hX18
    have hGX := hG16.ext hX18
    have Hp11x := hide (Hp11.out.ext hX18)
    obtain ⟨N1, hN1⟩ : ∃ N1, N2 = N1 + 1 := ⟨N2 - 1, by omega⟩
    have hsub : (N2 : Int) - 1 = (N1 : Int) := by omega
    have hlc : N2 ≤ c11 := Hp11.out.2.2.1
    have hs : ∀ w, (Instr.sliceAt 23 (.slice A11 N2 c11) none (some (.int .i64 (N1 : Int))) none).run Try.prog w = .ok (.slice A11 N1 c11) w := fun w => run_cut_h Try.n_el8.under Try.n_sz8 A11 N2 c11 N1 .i64 (by omega) w
    have hsl : (sg.take (N2 - 1)).length = N1 := by rw [List.length_take, hl11]; omega
    have Hsl := hide hsl
    have HN1 := hide hN1
    have hN1m : N1 ≤ 1000 := by omega
    have hw1 : IntKind.i64.wrap (N1 : Int) = (N1 : Int) := IntWalk.i64_in _ (by omega)
    clear hO18 hU18 hin18 hO17 hU17 hin17 hE17 hE16 b15' hVy' hG16 hsl hN1 hX18
    refine name_w (fun X hX => ?_)
    subst hX
    have hXd : Ext X X.drew := (Upd.refl _ _).drew
    have hED := hE18.trans hXd
    have q1 := fun y : Wd (Ext X.drew) => y.ok.cellv b15.drew.cell
    have hF0 : Fit 32 0 := fit1 (by decide) (by omega)
    refine wp_region_plan (Ext _) 26 [(false,0), (false,1), (false,2), (false,3), (true,4), (false,5), (false,6), (false,7), (false,8), (false,9), (false,10), (false,11), (false,12), (false,13), (false,14), (true,15), (false,16), (false,17), (false,18), (false,19), (false,20), (false,21), (false,22), (true,23), (false,24), (false,25)] (by kernel_rfl) (by kernel_rfl) (Upd.refl _ _) (fun hne => ?_)
    repeat (refine head_q rfl (fun K hK => ?_); have hK2 := hide hK; clear hK; go_simp; refine hK2.out _ ?_; clear hK2 K)
    refine head_l rfl ?_
    go_wp2_with (go_at_call 40; go_must (refine (sver_any gr P Q G _ 32 _ _ y A A18 n c N3 c18 msg (sg ++ [by_]) (hGX.ext hXd) (hVy.ext hXd) (HM.out.ext hED) ⟨hp18.out.2.2.2.ext hXd, hp18.out.1, hp18.out.2.1, hp18.out.2.2.1⟩ hFy hQ hP hGf (by omega) (by omega) hz128 (by omega) hP2).mono ?_); rw [Hlong.out]; rintro e u1 ⟨rfl, hu1⟩)
    refine ⟨Cls (Ext _), fun _ h => h, ⟨⟨_, hu1⟩, rfl⟩, ?_⟩
    repeat (refine head_q rfl (fun K hK => ?_); have hK2 := hide hK; clear hK; go_simp; refine hK2.out _ ?_; clear hK2 K)
    refine head_l rfl ?_
    go_wp2_with (go_at_call 40; go_must (refine (sver_any gr P Q G _ 32 _ _ y A A11 n c N1 c11 msg (sg.take (N2 - 1)) (hGX.ext (hXd.trans hu1)) (hVy.ext (hXd.trans hu1)) (HM.out.ext (hED.trans hu1)) ⟨(Hp11x.out.1.take (N2 - 1)).ext (hXd.trans hu1), Hsl.out, (by show N1 ≤ c11; have := HN1.out; omega), Hp11x.out.2.2.2⟩ hFy hQ hP hGf (by omega) (by omega) hz128 (by omega) hP2).mono ?_); rw [Hshort.out]; rintro e u2 ⟨rfl, hu2⟩; replace hu2 := hu1.trans hu2)
    refine ⟨Cls (Ext _), fun _ h => h, ⟨⟨_, hu2⟩, rfl⟩, ?_⟩
    repeat (refine head_q rfl (fun K hK => ?_); have hK2 := hide hK; clear hK; go_simp; refine hK2.out _ ?_; clear hK2 K)
    refine head_l rfl ?_
    go_wp2_with (go_at_call 40; go_must (refine (sver_any gr P Q G _ 32 _ _ 0 A A11 n c N2 c11 msg sg (hGX.ext (hXd.trans hu2)) (NatV.nil _) (HM.out.ext (hED.trans hu2)) (Hp11x.out.ext (hXd.trans hu2)) hF0 hQ hP hGf (by omega) (by omega) hz128 (by omega) hP2).mono ?_); rw [Hbad0.out]; rintro e u3 ⟨rfl, hu3⟩; replace hu3 := hu2.trans hu3)
    refine ⟨Cls (Ext _), fun _ h => h, ⟨⟨_, hu3⟩, rfl⟩, ?_⟩
    repeat (refine head_q rfl (fun K hK => ?_); have hK2 := hide hK; clear hK; go_simp; refine hK2.out _ ?_; clear hK2 K)
    have hG := hE18.trans hu3.undrew
    clear q1
    refine head_nil ?_
    try simp only [List.drop_succ_cons, List.drop_zero]
    go_wp2_with fail
    go_ret
    exact ⟨rfl, hG⟩
theorem sback_any (z : Int) (x : Nat) (by_ : BitVec 8) (A : Option Addr) (n c : Nat) (msg : List (BitVec 8)) (w : World) (hx64 : x < 18446744073709551616) (hM : Pt.ok w ⟨A, n, c, msg⟩) :
    Calls Try.prog 6 #[.int .i64 z, .int .u64 (x : Nat), .slice A n c, .int .u8 (n8 by_)] w fun e w' => e = .returned (.bool true) ∧ Ext w w' := by
  by_cases hn : n ≤ 300
  · obtain ⟨r, hr, hnum⟩ := gnums_any z
    exact sback_good z r hr x by_ A n c msg w (fun w' => hnum none 0 0 w') hx64 hM hn
  · exact sback_few z x (n8 by_) A n c w (by omega)
end Go.Proofs.Ytoekbomfepedcaa
