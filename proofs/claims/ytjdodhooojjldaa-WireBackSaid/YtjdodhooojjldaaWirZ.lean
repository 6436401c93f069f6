/- What was written comes back, and no other one has these bytes: the law, walked. -/
import Derived.Test.YtjdodhooojjldaaWirX
namespace Go.Proofs.Ytjdodhooojjldaa
set_option linter.unusedSimpArgs false
set_option linter.unusedVariables false
open Go.RowKit
open Nt Sha
attribute [local go_sem] steady steadyUpon Cls same_cell anyW str_eq
attribute [local irreducible] wpHead wpTree wpHeadR
set_option maxRecDepth 100000 in
set_option maxHeartbeats 8000000 in
theorem wback_any (x o : Pl) (v u : Vo) (w : World) (hx : PlOk w x) (ho : PlOk w o) (hv : VoOk w v) (hu : VoOk w u) :
    Calls Try.prog 12 #[.agg x.cs, .agg o.cs, .agg v.cs, .agg u.cs] w fun e w' => e = .returned (.bool true) ∧ Ext w w' := by
  have HX := hide hx
  have HO := hide ho
  have HV := hide hv
  have HU := hide hu
  clear hx ho hv hu
  unfold Pl.cs Vo.cs
  go_enter Try.func12, Try.ntmps12
  go_upto_region 1 with fail
  refine name_w (fun W hW => ?_)
  have b1 : Blk W w.heap.size 86 x.cs := by rw [hW]; exact (((Blk.new _ _ _).ext ((Upd.refl _ _).alloc _)).ext ((Upd.refl _ _).alloc _)).ext ((Upd.refl _ _).alloc _)
  have b2 : Blk W (w.heap.size + 1) 86 o.cs := by rw [hW]; exact ((Blk.new_at (by simp)).ext ((Upd.refl _ _).alloc _)).ext ((Upd.refl _ _).alloc _)
  have b3 : Blk W (w.heap.size + 1 + 1) 78 v.cs := by rw [hW]; exact (Blk.new_at (by simp)).ext ((Upd.refl _ _).alloc _)
  have b4 : Blk W (w.heap.size + 1 + 1 + 1) 78 u.cs := by rw [hW]; exact Blk.new_at (by simp)
  have hE : Ext w W := by rw [hW]; exact ((((Upd.refl _ _).alloc _).alloc _).alloc _).alloc _
  have HB1 := hide b1
  have HB2 := hide b2
  have HB3 := hide b3
  have HB4 := hide b4
  clear hW b1 b2 b3 b4
  go_wp2_with fail
  refine (wlives_any _).mono ?_
  rintro e w1 ⟨rfl, hU1⟩
  have c1 := HB1.out.ext hU1
  have HE1 := hide (hE.trans hU1)
  have HEW := hide hU1
  have q0 : w1.cell? ⟨w.heap.size, 0, none⟩ = some (.int .i64 x.K) := c1.at 0 rfl
  have q1 : w1.cell? ⟨w.heap.size, 1, none⟩ = some (.int .i64 x.au) := c1.at 1 rfl
  have q2 : w1.cell? ⟨w.heap.size, 2, none⟩ = some (.int .i64 x.ep) := c1.at 2 rfl
  have q3 : w1.cell? ⟨w.heap.size, 3, none⟩ = some (.int .i64 x.mode) := c1.at 3 rfl
  have q4 : w1.cell? ⟨w.heap.size, 4, none⟩ = some (.int .i64 x.peer) := c1.at 4 rfl
  have q5 : w1.cell? ⟨w.heap.size, 5, none⟩ = some (.int .i64 x.phase) := c1.at 5 rfl
  have q6 : w1.cell? ⟨w.heap.size, 6, none⟩ = some (.slice x.L1 x.ln x.c1) := c1.at 6 rfl
  have q7 : w1.cell? ⟨w.heap.size, 7, none⟩ = some (.slice x.L2 x.lt x.c2) := c1.at 7 rfl
  have q8 : w1.cell? ⟨w.heap.size, 8, none⟩ = some (.slice x.P x.lp x.c3) := c1.at 8 rfl
  clear c1 hU1 hE
  go_wp2_with fail
  refine (wfew_any x w1 (HX.out.ext HE1.out)).mono ?_
  rintro e w2 ⟨b, rfl, hU2, hfew⟩
  have HE2 := hide (HE1.out.trans hU2)
  have HEW2 := hide (HEW.out.trans hU2)
  have Hf := hide hfew
  clear hU2 hfew q0 q1 q2 q3 q4 q5 q6 q7 q8 HE1 HEW
  cases b with
  | false =>
    go_wp2_with fail
    refine (wlives_any _).mono ?_
    rintro e w9 ⟨rfl, hU9⟩
    go_wp2_with fail
    go_ret
    exact ⟨rfl, HE2.out.trans hU9⟩
  | true =>
    obtain ⟨h100, -, -⟩ := Hf.out rfl
    have H100 := hide h100
    have c2 := HB2.out.ext HEW2.out
    have q0 : w2.cell? ⟨w.heap.size + 1, 0, none⟩ = some (.int .i64 o.K) := c2.at 0 rfl
    have q1 : w2.cell? ⟨w.heap.size + 1, 1, none⟩ = some (.int .i64 o.au) := c2.at 1 rfl
    have q2 : w2.cell? ⟨w.heap.size + 1, 2, none⟩ = some (.int .i64 o.ep) := c2.at 2 rfl
    have q3 : w2.cell? ⟨w.heap.size + 1, 3, none⟩ = some (.int .i64 o.mode) := c2.at 3 rfl
    have q4 : w2.cell? ⟨w.heap.size + 1, 4, none⟩ = some (.int .i64 o.peer) := c2.at 4 rfl
    have q5 : w2.cell? ⟨w.heap.size + 1, 5, none⟩ = some (.int .i64 o.phase) := c2.at 5 rfl
    have q6 : w2.cell? ⟨w.heap.size + 1, 6, none⟩ = some (.slice o.L1 o.ln o.c1) := c2.at 6 rfl
    have q7 : w2.cell? ⟨w.heap.size + 1, 7, none⟩ = some (.slice o.L2 o.lt o.c2) := c2.at 7 rfl
    have q8 : w2.cell? ⟨w.heap.size + 1, 8, none⟩ = some (.slice o.P o.lp o.c3) := c2.at 8 rfl
    clear c2 h100
    go_wp2_with fail
    refine (wfew_any o w2 (HO.out.ext HE2.out)).mono ?_
    rintro e w3 ⟨b, rfl, hU3, hfew⟩
    have HE3 := hide (HE2.out.trans hU3)
    have HEW3 := hide (HEW2.out.trans hU3)
    have Hf2 := hide hfew
    clear hU3 hfew q0 q1 q2 q3 q4 q5 q6 q7 q8 HE2 HEW2
    cases b with
    | false =>
      go_wp2_with fail
      refine (wlives_any _).mono ?_
      rintro e w9 ⟨rfl, hU9⟩
      go_wp2_with fail
      go_ret
      exact ⟨rfl, HE3.out.trans hU9⟩
    | true =>
      obtain ⟨h100, -, -⟩ := Hf2.out rfl
      have H100o := hide h100
      clear h100
      have p5 : w3.cell? ⟨w.heap.size + 1 + 1, 5, none⟩ = some (.slice v.P v.lp v.c) := (HB3.out.ext HEW3.out).at 5 rfl
      by_cases h5 : 5000 < v.lp
      · have hI : (5000 : Int) < (v.lp : Int) := by omega
        go_wp2_with fail
        refine (wlives_any _).mono ?_
        rintro e w9 ⟨rfl, hU9⟩
        go_wp2_with fail
        go_ret
        exact ⟨rfl, HE3.out.trans hU9⟩
      have hI : ¬ (5000 : Int) < (v.lp : Int) := by omega
      have r5 : w3.cell? ⟨w.heap.size + 1 + 1 + 1, 5, none⟩ = some (.slice u.P u.lp u.c) := (HB4.out.ext HEW3.out).at 5 rfl
      by_cases h6 : 5000 < u.lp
      · have hI2 : (5000 : Int) < (u.lp : Int) := by omega
        go_wp2_with fail
        refine (wlives_any _).mono ?_
        rintro e w9 ⟨rfl, hU9⟩
        go_wp2_with fail
        go_ret
        exact ⟨rfl, HE3.out.trans hU9⟩
      have hI2 : ¬ (5000 : Int) < (u.lp : Int) := by omega
      have c1 := HB1.out.ext HEW3.out
      have q0 : w3.cell? ⟨w.heap.size, 0, none⟩ = some (.int .i64 x.K) := c1.at 0 rfl
      have q1 : w3.cell? ⟨w.heap.size, 1, none⟩ = some (.int .i64 x.au) := c1.at 1 rfl
      have q2 : w3.cell? ⟨w.heap.size, 2, none⟩ = some (.int .i64 x.ep) := c1.at 2 rfl
      have q3 : w3.cell? ⟨w.heap.size, 3, none⟩ = some (.int .i64 x.mode) := c1.at 3 rfl
      have q4 : w3.cell? ⟨w.heap.size, 4, none⟩ = some (.int .i64 x.peer) := c1.at 4 rfl
      have q5 : w3.cell? ⟨w.heap.size, 5, none⟩ = some (.int .i64 x.phase) := c1.at 5 rfl
      have q6 : w3.cell? ⟨w.heap.size, 6, none⟩ = some (.slice x.L1 x.ln x.c1) := c1.at 6 rfl
      have q7 : w3.cell? ⟨w.heap.size, 7, none⟩ = some (.slice x.L2 x.lt x.c2) := c1.at 7 rfl
      have q8 : w3.cell? ⟨w.heap.size, 8, none⟩ = some (.slice x.P x.lp x.c3) := c1.at 8 rfl
      clear c1
      go_wp2_with fail
      refine (wof_any x w3 (HX.out.ext HE3.out) H100.out).mono ?_
      rintro e w4 ⟨D, cD, F, cF, rfl, hU4, hNL, -⟩
      clear q0 q1 q2 q3 q4 q5 q6 q7 q8 p5 r5 h5 h6 hI hI2
      have HU4 := hide hU4
      have HNL := hide hNL
      clear hU4 hNL
      unfold ecs
      go_upto_region 4 with fail
      refine name_w (fun V hV => ?_)
      have d1 : Blk V w4.heap.size 90 (ecs x (.slice D x.ln cD)) := by rw [hV]; exact (Blk.new _ _ _).ext ((Upd.refl _ _).alloc _)
      have hEV : Ext w4 V := by rw [hV]; exact ((Upd.refl _ _).alloc _).alloc _
      have HD1 := hide d1
      have HE4 := hide ((HE3.out.trans HU4.out).trans hEV)
      have HEW4 := hide ((HEW3.out.trans HU4.out).trans hEV)
      have HNV := hide (HNL.out.ext hEV)
      clear hV hEV d1 HE3 HEW3 HU4 HNL
      have c2 := HB2.out.ext HEW4.out
      have q0 : V.cell? ⟨w.heap.size + 1, 0, none⟩ = some (.int .i64 o.K) := c2.at 0 rfl
      have q1 : V.cell? ⟨w.heap.size + 1, 1, none⟩ = some (.int .i64 o.au) := c2.at 1 rfl
      have q2 : V.cell? ⟨w.heap.size + 1, 2, none⟩ = some (.int .i64 o.ep) := c2.at 2 rfl
      have q3 : V.cell? ⟨w.heap.size + 1, 3, none⟩ = some (.int .i64 o.mode) := c2.at 3 rfl
      have q4 : V.cell? ⟨w.heap.size + 1, 4, none⟩ = some (.int .i64 o.peer) := c2.at 4 rfl
      have q5 : V.cell? ⟨w.heap.size + 1, 5, none⟩ = some (.int .i64 o.phase) := c2.at 5 rfl
      have q6 : V.cell? ⟨w.heap.size + 1, 6, none⟩ = some (.slice o.L1 o.ln o.c1) := c2.at 6 rfl
      have q7 : V.cell? ⟨w.heap.size + 1, 7, none⟩ = some (.slice o.L2 o.lt o.c2) := c2.at 7 rfl
      have q8 : V.cell? ⟨w.heap.size + 1, 8, none⟩ = some (.slice o.P o.lp o.c3) := c2.at 8 rfl
      clear c2
      go_wp2_with fail
      refine (wof_any o V (HO.out.ext HE4.out) H100o.out).mono ?_
      rintro e w5 ⟨D2, cD2, F2, cF2, rfl, hU5, hNL, -⟩
      clear q0 q1 q2 q3 q4 q5 q6 q7 q8
      have HU5 := hide hU5
      have HNL := hide hNL
      clear hU5 hNL
      unfold ecs
      go_upto_region 5 with fail
      refine name_w (fun X hX => ?_)
      have d2 : Blk X w5.heap.size 90 (ecs o (.slice D2 o.ln cD2)) := by rw [hX]; exact (Blk.new _ _ _).ext ((Upd.refl _ _).alloc _)
      have hEX : Ext w5 X := by rw [hX]; exact ((Upd.refl _ _).alloc _).alloc _
      have HD2 := hide d2
      have HDX := hide ((HD1.out.ext HU5.out).ext hEX)
      have HE5 := hide ((HE4.out.trans HU5.out).trans hEX)
      have HEW5 := hide ((HEW4.out.trans HU5.out).trans hEX)
      have HNX := hide ((HNV.out.ext HU5.out).ext hEX)
      have HNX2 := hide (HNL.out.ext hEX)
      clear hX hEX d2 HE4 HEW4 HU5 HNL HNV HD1
      obtain ⟨y, hy⟩ : ∃ y, y = plE x D cD := ⟨_, rfl⟩
      obtain ⟨y2, hy2⟩ : ∃ y, y = plE o D2 cD2 := ⟨_, rfl⟩
      have HY : Hid (EnOk X y) := hide (by rw [hy]; exact plE_en (HX.out.ext HE5.out) cD HNX.out H100.out)
      have HYf : Hid (FitL 12 y.ns) := hide (by rw [hy]; exact qnums_fit x)
      have Hcs : Hid ((Value.agg y.cs) = .agg #[.int .i64 x.K, .int .i64 x.au, .int .i64 x.ep, .int .i64 x.mode, .int .i64 x.peer, .int .i64 x.phase, .slice D x.ln cD, .slice x.L2 x.lt x.c2, .slice x.P x.lp x.c3]) := hide (by rw [hy]; rfl)
      have HY2 : Hid (EnOk X y2) := hide (by rw [hy2]; exact plE_en (HO.out.ext HE5.out) cD2 HNX2.out H100o.out)
      have HYf2 : Hid (FitL 12 y2.ns) := hide (by rw [hy2]; exact qnums_fit o)
      have Hcs2 : Hid ((Value.agg y2.cs) = .agg #[.int .i64 o.K, .int .i64 o.au, .int .i64 o.ep, .int .i64 o.mode, .int .i64 o.peer, .int .i64 o.phase, .slice D2 o.ln cD2, .slice o.L2 o.lt o.c2, .slice o.P o.lp o.c3]) := hide (by rw [hy2]; rfl)
      have hdx : Blk X w4.heap.size 90 y.cs := by rw [hy]; exact HDX.out
      have hd2 : Blk X w5.heap.size 90 y2.cs := by rw [hy2]; exact HD2.out
      have Hy := hide hy
      have Hy2 := hide hy2
      have HDX' := hide hdx
      have HD2' := hide hd2
      clear hy hy2 hdx hd2 HNX HNX2 HD2
      have c1 := HDX.out
      have q0 : X.cell? ⟨w4.heap.size, 0, none⟩ = some (.int .i64 x.K) := c1.at 0 rfl
      have q1 : X.cell? ⟨w4.heap.size, 1, none⟩ = some (.int .i64 x.au) := c1.at 1 rfl
      have q2 : X.cell? ⟨w4.heap.size, 2, none⟩ = some (.int .i64 x.ep) := c1.at 2 rfl
      have q3 : X.cell? ⟨w4.heap.size, 3, none⟩ = some (.int .i64 x.mode) := c1.at 3 rfl
      have q4 : X.cell? ⟨w4.heap.size, 4, none⟩ = some (.int .i64 x.peer) := c1.at 4 rfl
      have q5 : X.cell? ⟨w4.heap.size, 5, none⟩ = some (.int .i64 x.phase) := c1.at 5 rfl
      have q6 : X.cell? ⟨w4.heap.size, 6, none⟩ = some (.slice D x.ln cD) := c1.at 6 rfl
      have q7 : X.cell? ⟨w4.heap.size, 7, none⟩ = some (.slice x.L2 x.lt x.c2) := c1.at 7 rfl
      have q8 : X.cell? ⟨w4.heap.size, 8, none⟩ = some (.slice x.P x.lp x.c3) := c1.at 8 rfl
      clear c1 HDX
      go_wp2_with fail
      rw [← Hcs.out]
      refine (encE_any y 12 X HY.out HYf.out (by omega)).mono ?_
      rintro e w6 ⟨A2, l, c2, er, rfl, hU6, hyy, hnn⟩
      clear q0 q1 q2 q3 q4 q5 q6 q7 q8
      have Hyy := hide hyy
      have Hnn := hide hnn
      have HU6 := hide hU6
      clear hyy hnn hU6
      go_upto_if 68 with fail
      go_cut [] (fun wx => Ext w6 wx)
      case first =>
        cases hok : y.ok with
        | false =>
          obtain ⟨rfl, rfl, rfl⟩ := Hnn.out hok
          clear hok
          go_wp2_with fail
          go_meet
          exact Upd.refl _ _
        | true =>
          obtain ⟨rfl, hl, hO⟩ := Hyy.out hok
          have Hok := hide hok
          have Hl := hide hl
          have HOw := hide hO
          have hcap := hO.cap
          rw [List.length_map, hl] at hcap
          clear hok hl hO
          go_wp2_with fail
          refine (decE_any A2 l c2 y.bytes _ HOw.out.sl Hl.out hcap.1 hcap.2).mono ?_
          intro e w7 hdec
          obtain ⟨z, rfl, hz, hU7, hzok, hzb, hz1, hz2, hz3, hz4, hz5, hzf⟩ := hdec.back Hok.out HY.out
          replace hz1 : z.K = x.K := hz1.trans (by rw [Hy.out]; rfl)
          replace hz2 : z.au = x.au := hz2.trans (by rw [Hy.out]; rfl)
          replace hz3 : z.ep = x.ep := hz3.trans (by rw [Hy.out]; rfl)
          replace hz4 : z.ln = x.ln := hz4.trans (by rw [Hy.out]; rfl)
          replace hz5 : z.lt = x.lt := hz5.trans (by rw [Hy.out]; rfl)
          have Hz := hide (And.intro hz1 (And.intro hz2 (And.intro hz3 (And.intro hz4 hz5))))
          have HZ := hide hz
          have HZf := hide hzf
          have HU7 := hide hU7
          have Hzok := hide hzok
          have Hzb := hide hzb
          have Hzcs : Hid ((Value.agg z.cs) = .agg #[.int .i64 z.K, .int .i64 z.au, .int .i64 z.ep, .int .i64 z.mode, .int .i64 z.peer, .int .i64 z.phase, .slice z.L1 z.ln z.c1, .slice z.L2 z.lt z.c2, .slice z.P z.lp z.c3]) := hide rfl
          clear hdec hz hzf hU7 hzok hzb hz1 hz2 hz3 hz4 hz5
          unfold En.cs
          go_upto_region 8 with fail
          refine name_w (fun S hS => ?_)
          have hb : Blk S w7.heap.size 90 z.cs := by rw [hS]; exact Blk.new _ _ _
          have hES : Ext w7 S := by rw [hS]; exact (Upd.refl _ _).alloc _
          have HBz := hide hb
          have HES := hide (HU7.out.trans hES)
          have HZS := hide (HZ.out.ext hES)
          clear hS hb hES HZ HU7
          have c1 := HBz.out
          have q0 : S.cell? ⟨w7.heap.size, 0, none⟩ = some (.int .i64 z.K) := c1.at 0 rfl
          have q1 : S.cell? ⟨w7.heap.size, 1, none⟩ = some (.int .i64 z.au) := c1.at 1 rfl
          have q2 : S.cell? ⟨w7.heap.size, 2, none⟩ = some (.int .i64 z.ep) := c1.at 2 rfl
          have q3 : S.cell? ⟨w7.heap.size, 3, none⟩ = some (.int .i64 z.mode) := c1.at 3 rfl
          have q4 : S.cell? ⟨w7.heap.size, 4, none⟩ = some (.int .i64 z.peer) := c1.at 4 rfl
          have q5 : S.cell? ⟨w7.heap.size, 5, none⟩ = some (.int .i64 z.phase) := c1.at 5 rfl
          have q6 : S.cell? ⟨w7.heap.size, 6, none⟩ = some (.slice z.L1 z.ln z.c1) := c1.at 6 rfl
          have q7 : S.cell? ⟨w7.heap.size, 7, none⟩ = some (.slice z.L2 z.lt z.c2) := c1.at 7 rfl
          have q8 : S.cell? ⟨w7.heap.size, 8, none⟩ = some (.slice z.P z.lp z.c3) := c1.at 8 rfl
          clear c1
          go_wp2_with fail
          rw [← Hzcs.out]
          refine (encE_any z 32 S HZS.out HZf.out (by omega)).mono ?_
          rintro e w8 ⟨A3, l3, c3, er3, rfl, hU8, hz8, -⟩
          obtain ⟨rfl, hl3, hO3⟩ := hz8 Hzok.out
          rw [Hzb.out] at hl3 hO3
          clear q0 q1 q2 q3 q4 q5 q6 q7 q8 hz8
          have HU8 := hide hU8
          have Hl3 := hide hl3
          have HO3 := hide hO3.sl
          have HD8 := hide (HD2'.out.ext ((HU6.out.trans HES.out).trans hU8))
          have HY8 := hide (HY2.out.ext ((HU6.out.trans HES.out).trans hU8))
          clear hU8 hl3 hO3
          rw [Hy2.out] at HD8
          have c1 : Blk w8 w5.heap.size 90 #[.int .i64 o.K, .int .i64 o.au, .int .i64 o.ep, .int .i64 o.mode, .int .i64 o.peer, .int .i64 o.phase, .slice D2 o.ln cD2, .slice o.L2 o.lt o.c2, .slice o.P o.lp o.c3] := HD8.out
          have q0 : w8.cell? ⟨w5.heap.size, 0, none⟩ = some (.int .i64 o.K) := c1.at 0 rfl
          have q1 : w8.cell? ⟨w5.heap.size, 1, none⟩ = some (.int .i64 o.au) := c1.at 1 rfl
          have q2 : w8.cell? ⟨w5.heap.size, 2, none⟩ = some (.int .i64 o.ep) := c1.at 2 rfl
          have q3 : w8.cell? ⟨w5.heap.size, 3, none⟩ = some (.int .i64 o.mode) := c1.at 3 rfl
          have q4 : w8.cell? ⟨w5.heap.size, 4, none⟩ = some (.int .i64 o.peer) := c1.at 4 rfl
          have q5 : w8.cell? ⟨w5.heap.size, 5, none⟩ = some (.int .i64 o.phase) := c1.at 5 rfl
          have q6 : w8.cell? ⟨w5.heap.size, 6, none⟩ = some (.slice D2 o.ln cD2) := c1.at 6 rfl
          have q7 : w8.cell? ⟨w5.heap.size, 7, none⟩ = some (.slice o.L2 o.lt o.c2) := c1.at 7 rfl
          have q8 : w8.cell? ⟨w5.heap.size, 8, none⟩ = some (.slice o.P o.lp o.c3) := c1.at 8 rfl
          clear c1
          go_wp2_with fail
          rw [← Hcs2.out]
          refine (encE_any y2 12 w8 HY8.out HYf2.out (by omega)).mono ?_
          rintro e w9 ⟨A4, l4, c4, er4, rfl, hU9, hyy4, hnn4⟩
          clear q0 q1 q2 q3 q4 q5 q6 q7 q8
          have Hyy4 := hide hyy4
          have Hnn4 := hide hnn4
          have hE69 := ((HU6.out.trans HES.out).trans HU8.out).trans hU9
          have HE69 := hide hE69
          have HEl := hide ((HES.out.trans HU8.out).trans hU9)
          have HOs := hide (HOw.out.sl.ext HEl.out)
          have HO3s := hide (HO3.out.ext hU9)
          have c1 : Blk w9 w7.heap.size 90 #[.int .i64 x.K, .int .i64 x.au, .int .i64 x.ep, .int .i64 z.mode, .int .i64 z.peer, .int .i64 z.phase, .slice z.L1 x.ln z.c1, .slice z.L2 x.lt z.c2, .slice z.P z.lp z.c3] := by
            have h := (HBz.out.ext HU8.out).ext hU9
            unfold En.cs at h
            rw [Hz.out.1, Hz.out.2.1, Hz.out.2.2.1, Hz.out.2.2.2.1, Hz.out.2.2.2.2] at h
            exact h
          have c2' : Blk w9 w4.heap.size 90 #[.int .i64 x.K, .int .i64 x.au, .int .i64 x.ep, .int .i64 x.mode, .int .i64 x.peer, .int .i64 x.phase, .slice D x.ln cD, .slice x.L2 x.lt x.c2, .slice x.P x.lp x.c3] := by
            have h := HDX'.out.ext hE69
            rw [Hy.out] at h
            exact h
          have c3' : Blk w9 w5.heap.size 90 #[.int .i64 o.K, .int .i64 o.au, .int .i64 o.ep, .int .i64 o.mode, .int .i64 o.peer, .int .i64 o.phase, .slice D2 o.ln cD2, .slice o.L2 o.lt o.c2, .slice o.P o.lp o.c3] := HD8.out.ext hU9
          have C3 := hide c3'
          have hst := run_str (c := c2) (P := Try.prog) (S := 9) Try.n_under_bs Try.n_under8 Try.n_underS HOs.out Hl.out
          have hst3 := run_str (c := c3) (P := Try.prog) (S := 9) Try.n_under_bs Try.n_under8 Try.n_underS HO3s.out Hl3.out
          clear hyy4 hnn4 hE69 hU9 c3'
          have q0 : w9.cell? ⟨w7.heap.size, 0, none⟩ = some (.int .i64 x.K) := c1.at 0 rfl
          have q1 : w9.cell? ⟨w7.heap.size, 1, none⟩ = some (.int .i64 x.au) := c1.at 1 rfl
          have q2 : w9.cell? ⟨w7.heap.size, 2, none⟩ = some (.int .i64 x.ep) := c1.at 2 rfl
          have q6 : w9.cell? ⟨w7.heap.size, 6, none⟩ = some (.slice z.L1 x.ln z.c1) := c1.at 6 rfl
          have q7 : w9.cell? ⟨w7.heap.size, 7, none⟩ = some (.slice z.L2 x.lt z.c2) := c1.at 7 rfl
          have p0 : w9.cell? ⟨w4.heap.size, 0, none⟩ = some (.int .i64 x.K) := c2'.at 0 rfl
          have p1 : w9.cell? ⟨w4.heap.size, 1, none⟩ = some (.int .i64 x.au) := c2'.at 1 rfl
          have p2 : w9.cell? ⟨w4.heap.size, 2, none⟩ = some (.int .i64 x.ep) := c2'.at 2 rfl
          have p3 : w9.cell? ⟨w4.heap.size, 3, none⟩ = some (.int .i64 x.mode) := c2'.at 3 rfl
          have p4 : w9.cell? ⟨w4.heap.size, 4, none⟩ = some (.int .i64 x.peer) := c2'.at 4 rfl
          have p5 : w9.cell? ⟨w4.heap.size, 5, none⟩ = some (.int .i64 x.phase) := c2'.at 5 rfl
          have p6 : w9.cell? ⟨w4.heap.size, 6, none⟩ = some (.slice D x.ln cD) := c2'.at 6 rfl
          have p7 : w9.cell? ⟨w4.heap.size, 7, none⟩ = some (.slice x.L2 x.lt x.c2) := c2'.at 7 rfl
          have p8 : w9.cell? ⟨w4.heap.size, 8, none⟩ = some (.slice x.P x.lp x.c3) := c2'.at 8 rfl
          have hne : ∀ i j : Nat, True := fun _ _ => trivial
          clear c1 c2' hne
          cases hok2 : y2.ok with
          | false =>
            obtain ⟨rfl, rfl, rfl⟩ := Hnn4.out hok2
            clear hok2
            go_wp2_with fail
            go_meet
            exact HEl.out
          | true =>
            obtain ⟨rfl, hl4, hO4⟩ := Hyy4.out hok2
            have hst4 := run_str (c := c4) (P := Try.prog) (S := 9) Try.n_under_bs Try.n_under8 Try.n_underS hO4.sl hl4
            clear hl4 hO4
            by_cases hbb : y.bytes = y2.bytes
            · obtain ⟨e1, e2, e3, e4, e5, e6, e7⟩ := en_fields Hok.out HY.out hok2 HY2.out hbb
              rw [Hy.out, Hy2.out] at e1 e2 e3 e4 e5 e6 e7
              replace e1 : o.K = x.K := e1
              replace e2 : o.au = x.au := e2
              replace e3 : o.ep = x.ep := e3
              replace e4 : o.peer = x.peer := e4
              replace e5 : o.phase = x.phase := e5
              replace e6 : o.mode = x.mode := e6
              replace e7 : o.pr = x.pr := e7
              have c3' := C3.out
              rw [e1, e2, e3, e4, e5, e6] at c3'
              rw [← hbb] at hst4
              have hpx := run_str (c := x.c3) (P := Try.prog) (S := 9) Try.n_under_bs Try.n_under8 Try.n_underS (HX.out.proof.ext ((HE5.out.trans HU6.out).trans HEl.out)) HX.out.plen
              have hpo := run_str (c := o.c3) (P := Try.prog) (S := 9) Try.n_under_bs Try.n_under8 Try.n_underS (HO.out.proof.ext ((HE5.out.trans HU6.out).trans HEl.out)) HO.out.plen
              rw [e7] at hpo
              have r0 : w9.cell? ⟨w5.heap.size, 0, none⟩ = some (.int .i64 x.K) := c3'.at 0 rfl
              have r1 : w9.cell? ⟨w5.heap.size, 1, none⟩ = some (.int .i64 x.au) := c3'.at 1 rfl
              have r2 : w9.cell? ⟨w5.heap.size, 2, none⟩ = some (.int .i64 x.ep) := c3'.at 2 rfl
              have r3 : w9.cell? ⟨w5.heap.size, 3, none⟩ = some (.int .i64 x.mode) := c3'.at 3 rfl
              have r4 : w9.cell? ⟨w5.heap.size, 4, none⟩ = some (.int .i64 x.peer) := c3'.at 4 rfl
              have r5 : w9.cell? ⟨w5.heap.size, 5, none⟩ = some (.int .i64 x.phase) := c3'.at 5 rfl
              have r6 : w9.cell? ⟨w5.heap.size, 6, none⟩ = some (.slice D2 o.ln cD2) := c3'.at 6 rfl
              have r7 : w9.cell? ⟨w5.heap.size, 7, none⟩ = some (.slice o.L2 o.lt o.c2) := c3'.at 7 rfl
              have r8 : w9.cell? ⟨w5.heap.size, 8, none⟩ = some (.slice o.P o.lp o.c3) := c3'.at 8 rfl
              clear hbb hok2 e1 e2 e3 e4 e5 e6 e7 c3'
              go_wp2_with fail
              go_meet
              exact HEl.out
            · have hb2 : ¬ y2.bytes = y.bytes := fun h => hbb h.symm
              clear hok2
              go_wp2_with fail
              go_meet
              exact HEl.out
      case rest =>
        have HEc := hide ((HE5.out.trans HU6.out).trans hcut)
        have HEWc := hide ((HEW5.out.trans HU6.out).trans hcut)
        clear hcut Hyy Hnn HU6
        have c1 := HB3.out.ext HEWc.out
        have q0 : wc.cell? ⟨w.heap.size + 1 + 1, 0, none⟩ = some (.int .i64 v.K) := c1.at 0 rfl
        have q1 : wc.cell? ⟨w.heap.size + 1 + 1, 1, none⟩ = some (.int .i64 v.from_) := c1.at 1 rfl
        have q2 : wc.cell? ⟨w.heap.size + 1 + 1, 2, none⟩ = some (.int .i64 v.slot) := c1.at 2 rfl
        have q3 : wc.cell? ⟨w.heap.size + 1 + 1, 3, none⟩ = some (.int .i64 v.view) := c1.at 3 rfl
        have q4 : wc.cell? ⟨w.heap.size + 1 + 1, 4, none⟩ = some (.int .i64 v.valid) := c1.at 4 rfl
        have q5 : wc.cell? ⟨w.heap.size + 1 + 1, 5, none⟩ = some (.slice v.P v.lp v.c) := c1.at 5 rfl
        clear c1
        have Hvcs : Hid ((Value.agg v.cs) = .agg #[.int .i64 v.K, .int .i64 v.from_, .int .i64 v.slot, .int .i64 v.view, .int .i64 v.valid, .slice v.P v.lp v.c]) := hide rfl
        have Hucs : Hid ((Value.agg u.cs) = .agg #[.int .i64 u.K, .int .i64 u.from_, .int .i64 u.slot, .int .i64 u.view, .int .i64 u.valid, .slice u.P u.lp u.c]) := hide rfl
        go_wp2_with fail
        rw [← Hvcs.out]
        refine (encV_any v wc (HV.out.ext HEc.out)).mono ?_
        rintro e w6 ⟨A2, l, c2, er, rfl, hU6, hyy, hnn⟩
        clear q0 q1 q2 q3 q4 q5
        cases hok : v.ok with
        | false =>
          obtain ⟨rfl, rfl, rfl⟩ := hnn hok
          clear hok hyy hnn
          go_wp2_with fail
          go_ret
          exact ⟨rfl, HEc.out.trans hU6⟩
        | true =>
          obtain ⟨rfl, hl, hO⟩ := hyy hok
          have Hok := hide hok
          have Hl := hide hl
          have HOw := hide hO
          have HU6 := hide hU6
          have hcap := hO.cap
          rw [List.length_map, hl] at hcap
          clear hok hl hO hyy hnn hU6
          go_wp2_with fail
          refine (decV_any A2 l c2 v.bytes _ HOw.out.sl Hl.out hcap.1 hcap.2).mono ?_
          intro e w7 hdec
          obtain ⟨z, rfl, hz, hU7, hzs⟩ := hdec.back Hok.out HV.out.len
          have HZ := hide hz
          have HU7 := hide hU7
          have Hzs := hide hzs
          clear hdec hz hU7 hzs
          unfold Vo.cs
          go_upto_region 17 with fail
          refine name_w (fun S hS => ?_)
          have hb : Blk S w7.heap.size 78 z.cs := by rw [hS]; exact Blk.new _ _ _
          have hES : Ext w7 S := by rw [hS]; exact (Upd.refl _ _).alloc _
          have HBz := hide hb
          have HES := hide (HU7.out.trans hES)
          have HZS := hide (HZ.out.ext hES)
          have c1 := HB4.out.ext ((HEWc.out.trans HU6.out).trans HES.out)
          clear hS hb hES HZ HU7
          have q0 : S.cell? ⟨w.heap.size + 1 + 1 + 1, 0, none⟩ = some (.int .i64 u.K) := c1.at 0 rfl
          have q1 : S.cell? ⟨w.heap.size + 1 + 1 + 1, 1, none⟩ = some (.int .i64 u.from_) := c1.at 1 rfl
          have q2 : S.cell? ⟨w.heap.size + 1 + 1 + 1, 2, none⟩ = some (.int .i64 u.slot) := c1.at 2 rfl
          have q3 : S.cell? ⟨w.heap.size + 1 + 1 + 1, 3, none⟩ = some (.int .i64 u.view) := c1.at 3 rfl
          have q4 : S.cell? ⟨w.heap.size + 1 + 1 + 1, 4, none⟩ = some (.int .i64 u.valid) := c1.at 4 rfl
          have q5 : S.cell? ⟨w.heap.size + 1 + 1 + 1, 5, none⟩ = some (.slice u.P u.lp u.c) := c1.at 5 rfl
          clear c1
          go_wp2_with fail
          rw [← Hucs.out]
          refine (encV_any u S (HU.out.ext ((HEc.out.trans HU6.out).trans HES.out))).mono ?_
          rintro e w8 ⟨A4, l4, c4, er4, rfl, hU8, hyy4, hnn4⟩
          clear q0 q1 q2 q3 q4 q5
          have Hyy4 := hide hyy4
          have Hnn4 := hide hnn4
          have HE8 := hide (((HEc.out.trans HU6.out).trans HES.out).trans hU8)
          have HEW8 := hide (((HEWc.out.trans HU6.out).trans HES.out).trans hU8)
          have HZ8 := hide (HZS.out.ext hU8)
          have cz := HBz.out.ext hU8
          have cv := HB3.out.ext HEW8.out
          have cu := HB4.out.ext HEW8.out
          have hstv := nstr_cls (c := c2) (((HOw.out.sl.ext (HES.out.trans hU8))).ext (Upd.refl _ w8).drew) Hl.out
          have hdr : Ext w8 w8.drew := (Upd.refl _ _).drew
          have HDR := hide hdr
          clear hyy4 hnn4 hU8 hdr
          go_upto_region 18 with fail
          have z0 := fun x : Wd (Ext w8.drew) => x.ok.cellv (show w8.drew.cell? ⟨w7.heap.size, 0, none⟩ = some (.int .i64 z.K) from cz.at 0 rfl)
          have z1 := fun x : Wd (Ext w8.drew) => x.ok.cellv (show w8.drew.cell? ⟨w7.heap.size, 1, none⟩ = some (.int .i64 z.from_) from cz.at 1 rfl)
          have z2 := fun x : Wd (Ext w8.drew) => x.ok.cellv (show w8.drew.cell? ⟨w7.heap.size, 2, none⟩ = some (.int .i64 z.slot) from cz.at 2 rfl)
          have z3 := fun x : Wd (Ext w8.drew) => x.ok.cellv (show w8.drew.cell? ⟨w7.heap.size, 3, none⟩ = some (.int .i64 z.view) from cz.at 3 rfl)
          have z4 := fun x : Wd (Ext w8.drew) => x.ok.cellv (show w8.drew.cell? ⟨w7.heap.size, 4, none⟩ = some (.int .i64 z.valid) from cz.at 4 rfl)
          have z5 := fun x : Wd (Ext w8.drew) => x.ok.cellv (show w8.drew.cell? ⟨w7.heap.size, 5, none⟩ = some (.slice z.P z.lp z.c) from cz.at 5 rfl)
          have v0 := fun x : Wd (Ext w8.drew) => x.ok.cellv (show w8.drew.cell? ⟨w.heap.size + 1 + 1, 0, none⟩ = some (.int .i64 v.K) from cv.at 0 rfl)
          have v1 := fun x : Wd (Ext w8.drew) => x.ok.cellv (show w8.drew.cell? ⟨w.heap.size + 1 + 1, 1, none⟩ = some (.int .i64 v.from_) from cv.at 1 rfl)
          have v2 := fun x : Wd (Ext w8.drew) => x.ok.cellv (show w8.drew.cell? ⟨w.heap.size + 1 + 1, 2, none⟩ = some (.int .i64 v.slot) from cv.at 2 rfl)
          have v3 := fun x : Wd (Ext w8.drew) => x.ok.cellv (show w8.drew.cell? ⟨w.heap.size + 1 + 1, 3, none⟩ = some (.int .i64 v.view) from cv.at 3 rfl)
          have v4 := fun x : Wd (Ext w8.drew) => x.ok.cellv (show w8.drew.cell? ⟨w.heap.size + 1 + 1, 4, none⟩ = some (.int .i64 v.valid) from cv.at 4 rfl)
          have v5 := fun x : Wd (Ext w8.drew) => x.ok.cellv (show w8.drew.cell? ⟨w.heap.size + 1 + 1, 5, none⟩ = some (.slice v.P v.lp v.c) from cv.at 5 rfl)
          have u0 := fun x : Wd (Ext w8.drew) => x.ok.cellv (show w8.drew.cell? ⟨w.heap.size + 1 + 1 + 1, 0, none⟩ = some (.int .i64 u.K) from cu.at 0 rfl)
          have u1 := fun x : Wd (Ext w8.drew) => x.ok.cellv (show w8.drew.cell? ⟨w.heap.size + 1 + 1 + 1, 1, none⟩ = some (.int .i64 u.from_) from cu.at 1 rfl)
          have u2 := fun x : Wd (Ext w8.drew) => x.ok.cellv (show w8.drew.cell? ⟨w.heap.size + 1 + 1 + 1, 2, none⟩ = some (.int .i64 u.slot) from cu.at 2 rfl)
          have u3 := fun x : Wd (Ext w8.drew) => x.ok.cellv (show w8.drew.cell? ⟨w.heap.size + 1 + 1 + 1, 3, none⟩ = some (.int .i64 u.view) from cu.at 3 rfl)
          have u4 := fun x : Wd (Ext w8.drew) => x.ok.cellv (show w8.drew.cell? ⟨w.heap.size + 1 + 1 + 1, 4, none⟩ = some (.int .i64 u.valid) from cu.at 4 rfl)
          have u5 := fun x : Wd (Ext w8.drew) => x.ok.cellv (show w8.drew.cell? ⟨w.heap.size + 1 + 1 + 1, 5, none⟩ = some (.slice u.P u.lp u.c) from cu.at 5 rfl)
          clear cz cv cu
          cases hok2 : u.ok with
          | false =>
            obtain ⟨rfl, rfl, rfl⟩ := Hnn4.out hok2
            clear hok2
            refine wp_region_plan (Ext _) 22 [(false,0), (false,1), (false,2), (false,3), (false,4), (true,5), (false,6), (false,7), (false,8), (false,9), (false,10), (false,11), (false,12), (false,13), (false,14), (false,15), (false,16), (false,17), (false,18), (true,19), (false,20), (false,21)] (by kernel_rfl) (by kernel_rfl) (Upd.refl _ _) (fun hne => ?_)
            repeat (refine head_q rfl (fun K hK => ?_); have hK2 := hide hK; clear hK; go_simp; refine hK2.out _ ?_; clear hK2 K)
            refine head_l rfl ?_
            go_wp2_with (refine (wsame_any z v _ (HZ8.out.ext HDR.out) (HV.out.ext (HE8.out.trans HDR.out))).mono ?_; rintro e wA ⟨rfl, hUA⟩; rw [Hzs.out])
            refine ⟨Cls (Ext _), fun _ h => h, ⟨⟨_, hUA⟩, rfl⟩, ?_⟩
            repeat (refine head_q rfl (fun K hK => ?_); have hK2 := hide hK; clear hK; go_simp; refine hK2.out _ ?_; clear hK2 K)
            refine head_l rfl ?_
            go_wp2_with fail
            refine ⟨Cls (Ext _), fun _ h => h, ⟨⟨_, hUA⟩, rfl⟩, ?_⟩
            repeat (refine head_q rfl (fun K hK => ?_); have hK2 := hide hK; clear hK; go_simp; refine hK2.out _ ?_; clear hK2 K)
            refine head_nil ?_
            try simp only [List.drop_succ_cons, List.drop_zero]
            go_wp2_with fail
            go_ret
            exact ⟨rfl, (HE8.out.trans HDR.out).trans hUA⟩
          | true =>
            obtain ⟨rfl, hl4, hO4⟩ := Hyy4.out hok2
            have hstu := nstr_cls (c := c4) (hO4.sl.ext (Upd.refl _ w8).drew) hl4
            obtain ⟨b, hb⟩ : ∃ b, b = decide (u.bytes = v.bytes) := ⟨_, rfl⟩
            have hsuv : sameV u v = b := by rw [hb]; exact (same_iff hok2 HU.out.len Hok.out HV.out.len).symm
            have Hsuv := hide hsuv
            have hb' := hb.symm
            clear hok2 hl4 hO4 hsuv hb
            refine wp_region_plan (Ext _) 22 [(false,0), (false,1), (false,2), (false,3), (false,4), (true,5), (false,6), (false,7), (false,8), (false,9), (false,10), (false,11), (false,12), (false,13), (false,14), (false,15), (false,16), (false,17), (false,18), (true,19), (false,20), (false,21)] (by kernel_rfl) (by kernel_rfl) (Upd.refl _ _) (fun hne => ?_)
            repeat (refine head_q rfl (fun K hK => ?_); have hK2 := hide hK; clear hK; go_simp; refine hK2.out _ ?_; clear hK2 K)
            refine head_l rfl ?_
            go_wp2_with (refine (wsame_any z v _ (HZ8.out.ext HDR.out) (HV.out.ext (HE8.out.trans HDR.out))).mono ?_; rintro e wA ⟨rfl, hUA⟩; rw [Hzs.out])
            refine ⟨Cls (Ext _), fun _ h => h, ⟨⟨_, hUA⟩, rfl⟩, ?_⟩
            repeat (refine head_q rfl (fun K hK => ?_); have hK2 := hide hK; clear hK; go_simp; refine hK2.out _ ?_; clear hK2 K)
            refine head_l rfl ?_
            go_wp2_with (refine (wsame_any u v _ (HU.out.ext ((HE8.out.trans HDR.out).trans hUA)) (HV.out.ext ((HE8.out.trans HDR.out).trans hUA))).mono ?_; rintro e wB ⟨rfl, hUB⟩; rw [Hsuv.out])
            refine ⟨Cls (Ext _), fun _ h => h, ⟨⟨_, (hUA.trans hUB)⟩, rfl⟩, ?_⟩
            repeat (refine head_q rfl (fun K hK => ?_); have hK2 := hide hK; clear hK; go_simp; refine hK2.out _ ?_; clear hK2 K)
            refine head_nil ?_
            try simp only [List.drop_succ_cons, List.drop_zero]
            go_wp2_with fail
            go_ret
            exact ⟨rfl, ((HE8.out.trans HDR.out).trans hUA).trans hUB⟩
end Go.Proofs.Ytjdodhooojjldaa
