/- Signatures of the document, walked: Sign. -/
import Derived.Test.YtoekbomfepedcaaGreatSgnR
import Derived.Test.YtoekbomfepedcaaGreatMacX
import Derived.Test.YtoekbomfepedcaaGreatRexp
namespace Go.Proofs.YtoekbomfepedcaaGreat
set_option linter.unusedSimpArgs false
set_option linter.unusedVariables false
open Go.RowKit
open Nt Sha
attribute [local go_sem] steady steadyUpon Cls same_cell anyW
attribute [local irreducible] wpHead wpTree wpHeadR sum chalOf
section
variable (w : World) (v : Value) (P Q G H : Nat)
set_option maxRecDepth 100000 in
set_option maxHeartbeats 1000000 in
theorem rgexp_any (va ve : Value) (a e : Nat) (h : RGrpV w v P Q G H) (hVa : RefV w va a) (hVe : RefV w ve e) (hFP : blen P ≤ 1000000) (hFa : blen a ≤ 1000000) (hFe : blen e ≤ 1000000) (hP0 : 0 < P) :
    Calls Tryz.prog 54 #[v, va, ve] w (RetR w (a ^ e % P)) := by
  obtain ⟨A1, l1, c1, A2, l2, c2, A3, l3, c3, A4, l4, c4, rfl, h1, h2, h3, h4⟩ := h
  obtain ⟨A5, l5, c5, xs, rfl, -⟩ := hVa.open_
  obtain ⟨A6, l6, c6, ys, rfl, -⟩ := hVe.open_
  go_enter Tryz.func54, Tryz.ntmps54
  have b1 : Blk (w.alloc (.cells #[.slice A1 l1 c1, .slice A2 l2 c2, .slice A3 l3 c3, .slice A4 l4 c4] 30)) w.heap.size 30 #[.slice A1 l1 c1, .slice A2 l2 c2, .slice A3 l3 c3, .slice A4 l4 c4] := Blk.new _ _ _
  have q0 := b1.at 0 rfl
  have hE : Ext w (w.alloc (.cells #[.slice A1 l1 c1, .slice A2 l2 c2, .slice A3 l3 c3, .slice A4 l4 c4] 30)) := (Upd.refl _ w).alloc _
  go_wp2_with fail
  refine (rexp_any _ _ _ a e P 1000000 _ (hVa.ext hE) (hVe.ext hE) (h1.ext hE) hFa hFe hFP (by omega) hP0).mono ?_
  rintro e w1 ⟨A7, l7, c7, rfl, hV7, hU7⟩
  have hEE := hE.trans hU7
  go_wp2_with fail
  go_ret
  exact ⟨_, _, _, rfl, hV7, hEE⟩
set_option maxRecDepth 100000 in
set_option maxHeartbeats 4000000 in
theorem rsign_any (vx : Value) (x : Nat) (A : Option Addr) (n c : Nat) (msg : List (BitVec 8)) (h : RGrpV w v P Q G H) (hgok : GOk P Q G) (hVx : RefV w vx x) (hM : Pt.ok w ⟨A, n, c, msg⟩) (hFP : blen P ≤ 1024) (hFQ : blen Q ≤ 1024) (hFG : blen G ≤ 1024) (hn : n ≤ 1000000) (hxQ : x < Q) :
    Calls Tryz.prog 16 #[v, vx, .slice A n c] w (RetS w (2 * byteSz Q) (signB P Q G x msg)) := by
  have hG := h
  obtain ⟨A1, l1, c1, A2, l2, c2, A3, l3, c3, A4, l4, c4, rfl, hg1, hg2, hg3, hg4⟩ := h
  obtain ⟨A5, l5, c5, xs, rfl, -⟩ := hVx.open_
  have HG := hide hG
  have HM := hide hM
  have hP2 := hgok.two
  have hQ64 := hgok.sml
  have hfx : blen x ≤ 1024 := Nat.le_trans (blen_mono (Nat.le_of_lt hxQ)) hFQ
  have hbx : bytelen x ≤ byteSz Q := byteSz_mono (Nat.le_of_lt hxQ)
  obtain ⟨z, hz⟩ : ∃ z, z = byteSz Q := ⟨_, rfl⟩
  obtain ⟨N, hN⟩ : ∃ N, N = 2 * byteSz Q := ⟨_, rfl⟩
  have hzm : z ≤ 1000 := by rw [hz]; unfold byteSz; omega
  have hNm : N ≤ 2000 := by omega
  obtain ⟨R, hR⟩ : ∃ R, R = RetS w N (signB P Q G x msg) := ⟨_, rfl⟩
  rw [← hN, ← hR]
  have Hz := hide hz
  have HN := hide hN
  have HR := hide hR
  clear hz hN hR hG hM
  go_enter Tryz.func16, Tryz.ntmps16
  go_wp2_with fail
  refine name_w (fun W hW => ?_)
  have b3 : Blk W w.heap.size 30 #[.slice A1 l1 c1, .slice A2 l2 c2, .slice A3 l3 c3, .slice A4 l4 c4] := by rw [hW]; exact Blk.new _ _ _
  have hE : Ext w W := by rw [hW]; exact (Upd.refl _ w).alloc _
  clear hW
  have hWd : Ext W W.drew := (Upd.refl _ _).drew
  have hED := hE.trans hWd
  have y0 := fun y : Wd (Ext W.drew) => y.ok.cellv ((b3.ext hWd).at 0 rfl)
  have y1 := fun y : Wd (Ext W.drew) => y.ok.cellv ((b3.ext hWd).at 1 rfl)
  have y2 := fun y : Wd (Ext W.drew) => y.ok.cellv ((b3.ext hWd).at 2 rfl)
  have y3 := fun y : Wd (Ext W.drew) => y.ok.cellv ((b3.ext hWd).at 3 rfl)
  have hel := Mac.expand_length (toB x z) msg 64
  obtain ⟨bs, hbs⟩ : ∃ b, b = Mac.expand (toB x z) msg 64 := ⟨_, rfl⟩
  rw [← hbs] at hel
  obtain ⟨e0, he0⟩ : ∃ x, x = ofB bs := ⟨_, rfl⟩
  have hfe : blen e0 ≤ 1024 := by rw [he0]; exact Nat.le_trans (Fit.blen (fit_bs128 (k := 16) (n := 64) (by omega) (by omega))) (by omega)
  obtain ⟨d, hd⟩ : ∃ d, d = drawN Q x msg := ⟨_, rfl⟩
  have hde : d = e0 % Q := by rw [hd, he0, hbs, Hz.out]; rfl
  have hdQ : d < Q := by rw [hde]; exact Nat.mod_lt _ (by omega)
  have hfd : blen d ≤ 1024 := Nat.le_trans (blen_mono (Nat.le_of_lt hdQ)) hFQ
  have Hel := hide hel
  have Hbs := hide hbs
  have He0 := hide he0
  have Hd := hide hd
  have Hde := hide hde
  clear hel hbs he0 hd hde
  refine wp_region_plan (Ext _) 8 [(false,0), (false,1), (false,3), (false,6), (false,7), (true,2), (true,4), (true,5)] (by kernel_rfl) (by kernel_rfl) (Upd.refl _ _) (fun hne => ?_)
  repeat (refine head_q rfl (fun K hK => ?_); have hK2 := hide hK; clear hK; go_simp; refine hK2.out _ ?_; clear hK2 K)
  refine head_l rfl ?_
  go_wp2_with (go_at_call 52; go_must (refine (rfixed_any _ _ P Q G H _ x (HG.out.ext hED) (hVx.ext hED) (by omega) (by omega) hbx).mono ?_); rw [← Hz.out]; rintro e v1 ⟨A6, c6, rfl, hO6, hv1⟩)
  refine ⟨Cls (Ext _), fun _ h => h, ⟨⟨_, hv1⟩, rfl⟩, ?_⟩
  repeat (refine head_q rfl (fun K hK => ?_); have hK2 := hide hK; clear hK; go_simp; refine hK2.out _ ?_; clear hK2 K)
  have hp6 := Own.pt hO6 (toB_length x z)
  refine head_l rfl ?_
  go_wp2_with (go_at_call 51; go_must (refine (rexpand_any A6 z c6 (toB x z) A n c msg 64 _ hp6.2.2.2 hp6.1 hp6.2.1 hp6.2.2.1 (by omega) (HM.out.ext (hED.trans hv1)).1 HM.out.2.1 HM.out.2.2.1 HM.out.2.2.2 (by omega) (by omega)).mono ?_); rw [← Hbs.out]; rintro e v2 ⟨A7, c7, rfl, hO7, hv2⟩; have hv2g := hv1.trans hv2)
  refine ⟨Cls (Ext _), fun _ h => h, ⟨⟨_, hv2g⟩, rfl⟩, ?_⟩
  repeat (refine head_q rfl (fun K hK => ?_); have hK2 := hide hK; clear hK; go_simp; refine hK2.out _ ?_; clear hK2 K)
  refine head_l rfl ?_
  go_wp2_with (go_at_call 50; go_must (refine (rof_any A7 64 c7 bs _ Hel.out (by omega) hO7.sl).mono ?_); rw [← He0.out]; rintro e v3 ⟨A8, l8, c8, rfl, hR8, hv3⟩; have hv3g := hv2g.trans hv3)
  refine ⟨Cls (Ext _), fun _ h => h, ⟨⟨_, hv3g⟩, rfl⟩, ?_⟩
  repeat (refine head_q rfl (fun K hK => ?_); have hK2 := hide hK; clear hK; go_simp; refine hK2.out _ ?_; clear hK2 K)
  clear y0 y1 y2 y3 hO6 hp6 hO7
  refine head_nil ?_
  try simp only [List.drop_succ_cons, List.drop_zero]
  go_wp2_with fail
  refine (rmof_any _ _ e0 Q 1024 _ hR8 (hg2.ext (hED.trans hv3g)) hfe hFQ (by omega) (by omega)).mono ?_
  rw [← Hde.out]
  rintro e v4 ⟨A9, l9, c9, rfl, hR9, hv4⟩
  have hl9 := hR9.len
  have hW4 := hWd.trans (hv3g.trans hv4)
  have b3' := b3.ext hW4
  have hE4 := hE.trans hW4
  clear hWd hED hv1 hv2 hv2g hv3 hv3g hv4 hR8 hW4 b3 hE
  by_cases hd0 : d = 0
  case pos =>
    obtain rfl : l9 = 0 := by rw [hl9, hd0]; rfl
    clear hl9
    go_wp2_with fail
    refine (rsmall_any 1 _ (by decide)).mono ?_
    rintro e v5 ⟨AK, lK, cK, rfl, hR5, hv5⟩
    obtain ⟨kk, hkk⟩ : ∃ kk, kk = 1 := ⟨_, rfl⟩
    rw [← hkk] at hR5
    have hfk : blen kk ≤ 1024 := by rw [hkk]; decide
    have HK : Hid (kk = sgnK Q x msg) := hide (by unfold sgnK nz1; rw [← Hd.out, if_pos hd0, hkk])
    have b3n := b3'.ext hv5
    have hEn := hE4.trans hv5
    clear hkk b3' hE4 hR9 hv5
    go_wp2_with fail
    refine name_w (fun V hV => ?_)
    subst hV
    have b3 := b3n
    have hEV := hEn
    have hVK := hR5
    clear b3n hEn hR5
    -- world V: the draw kk in slot 7; b3, hVK, hEV
    have hVd : Ext V V.drew := (Upd.refl _ _).drew
    have hED := hEV.trans hVd
    have y0 := fun y : Wd (Ext V.drew) => y.ok.cellv ((b3.ext hVd).at 0 rfl)
    have y1 := fun y : Wd (Ext V.drew) => y.ok.cellv ((b3.ext hVd).at 1 rfl)
    have y2 := fun y : Wd (Ext V.drew) => y.ok.cellv ((b3.ext hVd).at 2 rfl)
    have y3 := fun y : Wd (Ext V.drew) => y.ok.cellv ((b3.ext hVd).at 3 rfl)
    have hmu : memB P Q (G ^ kk % P) = true := hgok.mem kk
    have hmy : memB P Q (G ^ x % P) = true := hgok.mem x
    obtain ⟨u, hu⟩ : ∃ u, u = G ^ kk % P := ⟨_, rfl⟩
    obtain ⟨yy, hyy⟩ : ∃ y, y = G ^ x % P := ⟨_, rfl⟩
    rw [← hu] at hmu
    rw [← hyy] at hmy
    have Hu := hide hu
    have Hyy := hide hyy
    obtain ⟨cc, hcc⟩ : ∃ cc, cc = chalOf [sgnB, memBy P Q u, memBy P Q yy, msg] Q := ⟨_, rfl⟩
    have hcQ : cc < Q := by rw [hcc]; exact chalOf_lt (by omega)
    have HC : Hid (cc = sgnC P Q G x msg) := hide (by rw [hcc]; unfold sgnC; rw [← HK.out, hu, hyy])
    have Hcc := hide hcc
    have hfc : blen cc ≤ 1024 := Nat.le_trans (blen_mono (Nat.le_of_lt hcQ)) hFQ
    have Hmu := hide hmu
    have Hmy := hide hmy
    clear hu hyy hcc hmu hmy
    refine wp_region_plan (Ext _) 12 [(false,0), (false,1), (false,2), (false,3), (false,4), (false,6), (false,7), (false,8), (false,9), (false,11), (true,5), (true,10)] (by kernel_rfl) (by kernel_rfl) (Upd.refl _ _) (fun hne => ?_)
    repeat (refine head_q rfl (fun K hK => ?_); have hK2 := hide hK; clear hK; go_simp; refine hK2.out _ ?_; clear hK2 K)
    refine head_l rfl ?_
    go_wp2_with (go_at_call 54; go_must (refine (rgexp_any _ _ P Q G H _ _ G kk (HG.out.ext hED) (hg3.ext hED) (hVK.ext hVd) (by omega) (by omega) (by omega) (by omega)).mono ?_); rw [← Hu.out]; rintro e v1 ⟨A20, l20, c20, rfl, hR20, hv1⟩)
    refine ⟨Cls (Ext _), fun _ h => h, ⟨⟨_, hv1⟩, rfl⟩, ?_⟩
    repeat (refine head_q rfl (fun K hK => ?_); have hK2 := hide hK; clear hK; go_simp; refine hK2.out _ ?_; clear hK2 K)
    refine head_l rfl ?_
    go_wp2_with (go_at_call 54; go_must (refine (rgexp_any _ _ P Q G H _ _ G x (HG.out.ext (hED.trans hv1)) (hg3.ext (hED.trans hv1)) (hVx.ext (hED.trans hv1)) (by omega) (by omega) (by omega) (by omega)).mono ?_); rw [← Hyy.out]; rintro e v2 ⟨A21, l21, c21, rfl, hR21, hv2⟩; have hv2g := hv1.trans hv2)
    refine ⟨Cls (Ext _), fun _ h => h, ⟨⟨_, hv2g⟩, rfl⟩, ?_⟩
    repeat (refine head_q rfl (fun K hK => ?_); have hK2 := hide hK; clear hK; go_simp; refine hK2.out _ ?_; clear hK2 K)
    clear y0 y1 y2 y3
    refine head_nil ?_
    try simp only [List.drop_succ_cons, List.drop_zero]
    go_wp2_with fail
    refine (rschal_any 1024 _ _ P Q G H _ _ u yy A n c msg (HG.out.ext (hED.trans hv2g)) (hR20.ext hv2) hR21 (HM.out.ext (hED.trans hv2g)) Hmu.out Hmy.out hFP hFQ (by omega) (by omega) (by omega) (by omega)).mono ?_
    rw [← Hcc.out]
    rintro e v3 ⟨A22, l22, c22, rfl, hR22, hv3⟩
    have hV3 := hVd.trans (hv2g.trans hv3)
    have b3' := b3.ext hV3
    have hVK' := hVK.ext hV3
    have hE3 := hEV.trans hV3
    clear hVd hED hR20 hR21 hv1 hv2 hv2g hv3 hV3 b3 hVK hEV
    go_wp2_with fail
    refine name_w (fun V hV => ?_)
    subst hV
    have hVd : Ext V V.drew := (Upd.refl _ _).drew
    have hED := hE3.trans hVd
    have y1 := fun y : Wd (Ext V.drew) => y.ok.cellv ((b3'.ext hVd).at 1 rfl)
    obtain ⟨ss, hss⟩ : ∃ ss, ss = (kk + cc * x % Q) % Q := ⟨_, rfl⟩
    have hsQ : ss < Q := by rw [hss]; exact Nat.mod_lt _ (by omega)
    have Hss := hide hss
    have hmQ : cc * x % Q < Q := Nat.mod_lt _ (by omega)
    have hfm : blen (cc * x % Q) ≤ 1024 := Nat.le_trans (blen_mono (Nat.le_of_lt hmQ)) hFQ
    have hfs : blen ss ≤ 1024 := Nat.le_trans (blen_mono (Nat.le_of_lt hsQ)) hFQ
    clear hss
    refine wp_region_plan (Ext _) 8 [(false,0), (false,1), (false,2), (false,3), (false,4), (false,6), (false,7), (true,5)] (by kernel_rfl) (by kernel_rfl) (Upd.refl _ _) (fun hne => ?_)
    repeat (refine head_q rfl (fun K hK => ?_); have hK2 := hide hK; clear hK; go_simp; refine hK2.out _ ?_; clear hK2 K)
    refine head_l rfl ?_
    go_wp2_with (go_at_call 56; go_must (refine (rmmul_any _ _ _ cc x Q 1024 _ (hR22.ext hVd) (hVx.ext hED) (hg2.ext hED) (by omega) (by omega) (by omega) (by omega) (by omega)).mono ?_); rintro e v1 ⟨A23, l23, c23, rfl, hR23, hv1⟩)
    refine ⟨Cls (Ext _), fun _ h => h, ⟨⟨_, hv1⟩, rfl⟩, ?_⟩
    repeat (refine head_q rfl (fun K hK => ?_); have hK2 := hide hK; clear hK; go_simp; refine hK2.out _ ?_; clear hK2 K)
    clear y1
    refine head_nil ?_
    try simp only [List.drop_succ_cons, List.drop_zero]
    go_wp2_with fail
    refine (rmadd_any _ _ _ kk (cc * x % Q) Q 1024 _ (hVK'.ext (hVd.trans hv1)) hR23 (hg2.ext (hED.trans hv1)) (by omega) (by omega) (by omega) (by omega) (by omega)).mono ?_
    rw [← Hss.out]
    rintro e v2 ⟨A24, l24, c24, rfl, hR24, hv2⟩
    have hV3 := hVd.trans (hv1.trans hv2)
    have b3 := b3'.ext hV3
    have hRc := hR22.ext hV3
    have hE4 := hE3.trans hV3
    clear hVd hED hR22 hR23 hv1 hv2 hV3 b3' hVK' hE3
    go_wp2_with fail
    refine name_w (fun V hV => ?_)
    subst hV
    have hVd : Ext V V.drew := (Upd.refl _ _).drew
    have hED := hE4.trans hVd
    have y0 := fun y : Wd (Ext V.drew) => y.ok.cellv ((b3.ext hVd).at 0 rfl)
    have y1 := fun y : Wd (Ext V.drew) => y.ok.cellv ((b3.ext hVd).at 1 rfl)
    have y2 := fun y : Wd (Ext V.drew) => y.ok.cellv ((b3.ext hVd).at 2 rfl)
    have y3 := fun y : Wd (Ext V.drew) => y.ok.cellv ((b3.ext hVd).at 3 rfl)
    have hbc : bytelen cc ≤ byteSz Q := byteSz_mono (Nat.le_of_lt hcQ)
    have hbs : bytelen ss ≤ byteSz Q := byteSz_mono (Nat.le_of_lt hsQ)
    refine wp_region_plan (Ext _) 5 [(false,0), (false,1), (false,3), (false,4), (true,2)] (by kernel_rfl) (by kernel_rfl) (Upd.refl _ _) (fun hne => ?_)
    repeat (refine head_q rfl (fun K hK => ?_); have hK2 := hide hK; clear hK; go_simp; refine hK2.out _ ?_; clear hK2 K)
    refine head_l rfl ?_
    go_wp2_with (go_at_call 52; go_must (refine (rfixed_any _ _ P Q G H _ cc (HG.out.ext hED) (hRc.ext hVd) (by omega) (by omega) hbc).mono ?_); rw [← Hz.out]; rintro e v1 ⟨A25, c25, rfl, hO25, hv1⟩)
    refine ⟨Cls (Ext _), fun _ h => h, ⟨⟨_, hv1⟩, rfl⟩, ?_⟩
    repeat (refine head_q rfl (fun K hK => ?_); have hK2 := hide hK; clear hK; go_simp; refine hK2.out _ ?_; clear hK2 K)
    clear y0 y1 y2 y3
    refine head_nil ?_
    try simp only [List.drop_succ_cons, List.drop_zero]
    go_wp2_with fail
    refine (rfixed_any _ _ P Q G H _ ss (HG.out.ext (hED.trans hv1)) (hR24.ext (hVd.trans hv1)) (by omega) (by omega) hbs).mono ?_
    rw [← Hz.out]
    rintro e v2 ⟨A26, c26, rfl, hO26, hv2⟩
    have hlc : (toB cc z).length = z := toB_length _ _
    have hls : (toB ss z).length = z := toB_length _ _
    have hlN : (toB cc z ++ toB ss z).length = N := by rw [List.length_append, hlc, hls, HN.out]; have := Hz.out; omega
    have Hlc := hide hlc
    have Hls := hide hls
    have HlN := hide hlN
    have hO := (hO25.ext hv2).mono (B' := w.heap.size) hED.size
    have hEE := (hED.trans hv1).trans hv2
    have hfin : toB cc z ++ toB ss z = signB P Q G x msg := by unfold signB sgnS; rw [← HC.out, ← HK.out, ← Hz.out, ← Hss.out]
    have Hfin := hide hfin
    clear hlc hls hlN hO25 hv1 hv2 hfin hR24 hRc
    go_wp2_with (at_builtin; go_must (refine wpList_apd by8 one8 Tryz.el8 (toB cc z) (toB ss z) (toB cc z ++ toB ss z) N rfl HlN.out (by omega) (by unfold maxLen; omega) rfl rfl rfl Hlc.out hO rfl Hls.out hO26.sl hEE.size ?_); intro A27 c27 v3 hO27 hU27 hin27)
    have hEF := upd_new hU27 hEE (fun q hq => (hO.in_ hq).1)
    rw [HR.out, ← Hfin.out]
    exact ⟨A27, c27, rfl, hO27, hEF⟩
  case neg =>
    have hlp : 0 < l9 := by
      rw [hl9]
      rcases Nat.eq_zero_or_pos (blen d) with h0 | h0
      · exact absurd (blen_eq_zero.1 h0) hd0
      · exact h0
    have hne : ¬ ((l9 : Int) = 0) := by omega
    have hnb : ((l9 : Int) == 0) = false := beq_eq_false_iff_ne.2 hne
    obtain ⟨kk, hkk⟩ : ∃ kk, kk = d := ⟨_, rfl⟩
    rw [← hkk] at hR9
    have hfk : blen kk ≤ 1024 := by rw [hkk]; exact hfd
    have HK : Hid (kk = sgnK Q x msg) := hide (by unfold sgnK nz1; rw [← Hd.out, if_neg hd0, hkk])
    clear hkk hl9
    go_wp2_with fail
    refine name_w (fun V hV => ?_)
    subst hV
    have b3 := b3'
    have hEV := hE4
    have hVK := hR9
    clear b3' hE4 hR9 hne hnb hlp
    -- world V: the draw kk in slot 7; b3, hVK, hEV
    have hVd : Ext V V.drew := (Upd.refl _ _).drew
    have hED := hEV.trans hVd
    have y0 := fun y : Wd (Ext V.drew) => y.ok.cellv ((b3.ext hVd).at 0 rfl)
    have y1 := fun y : Wd (Ext V.drew) => y.ok.cellv ((b3.ext hVd).at 1 rfl)
    have y2 := fun y : Wd (Ext V.drew) => y.ok.cellv ((b3.ext hVd).at 2 rfl)
    have y3 := fun y : Wd (Ext V.drew) => y.ok.cellv ((b3.ext hVd).at 3 rfl)
    have hmu : memB P Q (G ^ kk % P) = true := hgok.mem kk
    have hmy : memB P Q (G ^ x % P) = true := hgok.mem x
    obtain ⟨u, hu⟩ : ∃ u, u = G ^ kk % P := ⟨_, rfl⟩
    obtain ⟨yy, hyy⟩ : ∃ y, y = G ^ x % P := ⟨_, rfl⟩
    rw [← hu] at hmu
    rw [← hyy] at hmy
    have Hu := hide hu
    have Hyy := hide hyy
    obtain ⟨cc, hcc⟩ : ∃ cc, cc = chalOf [sgnB, memBy P Q u, memBy P Q yy, msg] Q := ⟨_, rfl⟩
    have hcQ : cc < Q := by rw [hcc]; exact chalOf_lt (by omega)
    have HC : Hid (cc = sgnC P Q G x msg) := hide (by rw [hcc]; unfold sgnC; rw [← HK.out, hu, hyy])
    have Hcc := hide hcc
    have hfc : blen cc ≤ 1024 := Nat.le_trans (blen_mono (Nat.le_of_lt hcQ)) hFQ
    have Hmu := hide hmu
    have Hmy := hide hmy
    clear hu hyy hcc hmu hmy
    refine wp_region_plan (Ext _) 12 [(false,0), (false,1), (false,2), (false,3), (false,4), (false,6), (false,7), (false,8), (false,9), (false,11), (true,5), (true,10)] (by kernel_rfl) (by kernel_rfl) (Upd.refl _ _) (fun hne => ?_)
    repeat (refine head_q rfl (fun K hK => ?_); have hK2 := hide hK; clear hK; go_simp; refine hK2.out _ ?_; clear hK2 K)
    refine head_l rfl ?_
    go_wp2_with (go_at_call 54; go_must (refine (rgexp_any _ _ P Q G H _ _ G kk (HG.out.ext hED) (hg3.ext hED) (hVK.ext hVd) (by omega) (by omega) (by omega) (by omega)).mono ?_); rw [← Hu.out]; rintro e v1 ⟨A20, l20, c20, rfl, hR20, hv1⟩)
    refine ⟨Cls (Ext _), fun _ h => h, ⟨⟨_, hv1⟩, rfl⟩, ?_⟩
    repeat (refine head_q rfl (fun K hK => ?_); have hK2 := hide hK; clear hK; go_simp; refine hK2.out _ ?_; clear hK2 K)
    refine head_l rfl ?_
    go_wp2_with (go_at_call 54; go_must (refine (rgexp_any _ _ P Q G H _ _ G x (HG.out.ext (hED.trans hv1)) (hg3.ext (hED.trans hv1)) (hVx.ext (hED.trans hv1)) (by omega) (by omega) (by omega) (by omega)).mono ?_); rw [← Hyy.out]; rintro e v2 ⟨A21, l21, c21, rfl, hR21, hv2⟩; have hv2g := hv1.trans hv2)
    refine ⟨Cls (Ext _), fun _ h => h, ⟨⟨_, hv2g⟩, rfl⟩, ?_⟩
    repeat (refine head_q rfl (fun K hK => ?_); have hK2 := hide hK; clear hK; go_simp; refine hK2.out _ ?_; clear hK2 K)
    clear y0 y1 y2 y3
    refine head_nil ?_
    try simp only [List.drop_succ_cons, List.drop_zero]
    go_wp2_with fail
    refine (rschal_any 1024 _ _ P Q G H _ _ u yy A n c msg (HG.out.ext (hED.trans hv2g)) (hR20.ext hv2) hR21 (HM.out.ext (hED.trans hv2g)) Hmu.out Hmy.out hFP hFQ (by omega) (by omega) (by omega) (by omega)).mono ?_
    rw [← Hcc.out]
    rintro e v3 ⟨A22, l22, c22, rfl, hR22, hv3⟩
    have hV3 := hVd.trans (hv2g.trans hv3)
    have b3' := b3.ext hV3
    have hVK' := hVK.ext hV3
    have hE3 := hEV.trans hV3
    clear hVd hED hR20 hR21 hv1 hv2 hv2g hv3 hV3 b3 hVK hEV
    go_wp2_with fail
    refine name_w (fun V hV => ?_)
    subst hV
    have hVd : Ext V V.drew := (Upd.refl _ _).drew
    have hED := hE3.trans hVd
    have y1 := fun y : Wd (Ext V.drew) => y.ok.cellv ((b3'.ext hVd).at 1 rfl)
    obtain ⟨ss, hss⟩ : ∃ ss, ss = (kk + cc * x % Q) % Q := ⟨_, rfl⟩
    have hsQ : ss < Q := by rw [hss]; exact Nat.mod_lt _ (by omega)
    have Hss := hide hss
    have hmQ : cc * x % Q < Q := Nat.mod_lt _ (by omega)
    have hfm : blen (cc * x % Q) ≤ 1024 := Nat.le_trans (blen_mono (Nat.le_of_lt hmQ)) hFQ
    have hfs : blen ss ≤ 1024 := Nat.le_trans (blen_mono (Nat.le_of_lt hsQ)) hFQ
    clear hss
    refine wp_region_plan (Ext _) 8 [(false,0), (false,1), (false,2), (false,3), (false,4), (false,6), (false,7), (true,5)] (by kernel_rfl) (by kernel_rfl) (Upd.refl _ _) (fun hne => ?_)
    repeat (refine head_q rfl (fun K hK => ?_); have hK2 := hide hK; clear hK; go_simp; refine hK2.out _ ?_; clear hK2 K)
    refine head_l rfl ?_
    go_wp2_with (go_at_call 56; go_must (refine (rmmul_any _ _ _ cc x Q 1024 _ (hR22.ext hVd) (hVx.ext hED) (hg2.ext hED) (by omega) (by omega) (by omega) (by omega) (by omega)).mono ?_); rintro e v1 ⟨A23, l23, c23, rfl, hR23, hv1⟩)
    refine ⟨Cls (Ext _), fun _ h => h, ⟨⟨_, hv1⟩, rfl⟩, ?_⟩
    repeat (refine head_q rfl (fun K hK => ?_); have hK2 := hide hK; clear hK; go_simp; refine hK2.out _ ?_; clear hK2 K)
    clear y1
    refine head_nil ?_
    try simp only [List.drop_succ_cons, List.drop_zero]
    go_wp2_with fail
    refine (rmadd_any _ _ _ kk (cc * x % Q) Q 1024 _ (hVK'.ext (hVd.trans hv1)) hR23 (hg2.ext (hED.trans hv1)) (by omega) (by omega) (by omega) (by omega) (by omega)).mono ?_
    rw [← Hss.out]
    rintro e v2 ⟨A24, l24, c24, rfl, hR24, hv2⟩
    have hV3 := hVd.trans (hv1.trans hv2)
    have b3 := b3'.ext hV3
    have hRc := hR22.ext hV3
    have hE4 := hE3.trans hV3
    clear hVd hED hR22 hR23 hv1 hv2 hV3 b3' hVK' hE3
    go_wp2_with fail
    refine name_w (fun V hV => ?_)
    subst hV
    have hVd : Ext V V.drew := (Upd.refl _ _).drew
    have hED := hE4.trans hVd
    have y0 := fun y : Wd (Ext V.drew) => y.ok.cellv ((b3.ext hVd).at 0 rfl)
    have y1 := fun y : Wd (Ext V.drew) => y.ok.cellv ((b3.ext hVd).at 1 rfl)
    have y2 := fun y : Wd (Ext V.drew) => y.ok.cellv ((b3.ext hVd).at 2 rfl)
    have y3 := fun y : Wd (Ext V.drew) => y.ok.cellv ((b3.ext hVd).at 3 rfl)
    have hbc : bytelen cc ≤ byteSz Q := byteSz_mono (Nat.le_of_lt hcQ)
    have hbs : bytelen ss ≤ byteSz Q := byteSz_mono (Nat.le_of_lt hsQ)
    refine wp_region_plan (Ext _) 5 [(false,0), (false,1), (false,3), (false,4), (true,2)] (by kernel_rfl) (by kernel_rfl) (Upd.refl _ _) (fun hne => ?_)
    repeat (refine head_q rfl (fun K hK => ?_); have hK2 := hide hK; clear hK; go_simp; refine hK2.out _ ?_; clear hK2 K)
    refine head_l rfl ?_
    go_wp2_with (go_at_call 52; go_must (refine (rfixed_any _ _ P Q G H _ cc (HG.out.ext hED) (hRc.ext hVd) (by omega) (by omega) hbc).mono ?_); rw [← Hz.out]; rintro e v1 ⟨A25, c25, rfl, hO25, hv1⟩)
    refine ⟨Cls (Ext _), fun _ h => h, ⟨⟨_, hv1⟩, rfl⟩, ?_⟩
    repeat (refine head_q rfl (fun K hK => ?_); have hK2 := hide hK; clear hK; go_simp; refine hK2.out _ ?_; clear hK2 K)
    clear y0 y1 y2 y3
    refine head_nil ?_
    try simp only [List.drop_succ_cons, List.drop_zero]
    go_wp2_with fail
    refine (rfixed_any _ _ P Q G H _ ss (HG.out.ext (hED.trans hv1)) (hR24.ext (hVd.trans hv1)) (by omega) (by omega) hbs).mono ?_
    rw [← Hz.out]
    rintro e v2 ⟨A26, c26, rfl, hO26, hv2⟩
    have hlc : (toB cc z).length = z := toB_length _ _
    have hls : (toB ss z).length = z := toB_length _ _
    have hlN : (toB cc z ++ toB ss z).length = N := by rw [List.length_append, hlc, hls, HN.out]; have := Hz.out; omega
    have Hlc := hide hlc
    have Hls := hide hls
    have HlN := hide hlN
    have hO := (hO25.ext hv2).mono (B' := w.heap.size) hED.size
    have hEE := (hED.trans hv1).trans hv2
    have hfin : toB cc z ++ toB ss z = signB P Q G x msg := by unfold signB sgnS; rw [← HC.out, ← HK.out, ← Hz.out, ← Hss.out]
    have Hfin := hide hfin
    clear hlc hls hlN hO25 hv1 hv2 hfin hR24 hRc
    go_wp2_with (at_builtin; go_must (refine wpList_apd by8 one8 Tryz.el8 (toB cc z) (toB ss z) (toB cc z ++ toB ss z) N rfl HlN.out (by omega) (by unfold maxLen; omega) rfl rfl rfl Hlc.out hO rfl Hls.out hO26.sl hEE.size ?_); intro A27 c27 v3 hO27 hU27 hin27)
    have hEF := upd_new hU27 hEE (fun q hq => (hO.in_ hq).1)
    rw [HR.out, ← Hfin.out]
    exact ⟨A27, c27, rfl, hO27, hEF⟩
end
end Go.Proofs.YtoekbomfepedcaaGreat
