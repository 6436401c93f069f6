/- Votes: the law, walked. -/
import Derived.Test.YtjdodhooojjldaaWirV
import Derived.Test.YtjdodhooojjldaaShaI
namespace Go.Proofs.Ytjdodhooojjldaa
set_option linter.unusedSimpArgs false
set_option linter.unusedVariables false
open Go.RowKit
open Nt Sha
attribute [local go_sem] steady steadyUpon Cls same_cell anyW str_eq
attribute [local irreducible] wpHead wpTree wpHeadR
def exEn : En := ⟨4, 2, 1, 0, 0, 1, none, 0, 0, [], none, 0, 0, [], none, 0, 0, []⟩
def exBytes : List B8 := [0x45#8, 0x04#8, 0x02#8, 0x00#8, 0x00#8, 0x00#8, 0x01#8, 0x00#8, 0x00#8, 0x01#8, 0x00#8, 0x00#8, 0x00#8, 0x00#8]
theorem exEn_bytes : exEn.bytes = exBytes := by decide +kernel
theorem exEn_ok : exEn.ok = true := by decide +kernel
theorem exEn_en (w : World) : EnOk w exEn := ⟨NatL.nil, rfl, by decide, ⟨Sl.nil, fun i hi => absurd hi (by simp [exEn])⟩, rfl, by decide, Sl.nil, rfl, by decide⟩
theorem exStr : ((str exBytes).toList == [69, 4, 2, 0, 0, 0, 1, 0, 0, 1, 0, 0, 0, 0]) = true := by decide +kernel
set_option maxRecDepth 100000 in
set_option maxHeartbeats 1000000 in
theorem wlives_any (w : World) : Calls Try.prog 47 #[] w fun e w' => e = .returned (.bool true) ∧ Ext w w' := by
  go_enter Try.func47, Try.ntmps47
  go_wp2_with fail
  refine (encE_any exEn 1 w (exEn_en w) (fun i hi => absurd hi (by simp [exEn])) (by omega)).mono ?_
  rintro e w1 ⟨A, l, c, m, rfl, hU, hy, -⟩
  obtain ⟨rfl, hl, hO⟩ := hy exEn_ok
  rw [exEn_bytes] at hl hO
  have hst := run_str (c := c) (P := Try.prog) (S := 9) Try.under_bs Try.under8 Try.underS hO.sl hl
  clear hO hl hy
  go_wp2_with fail
  rw [exStr]
  go_ret
  exact ⟨rfl, hU⟩
theorem name_b' {P : Program} {f : Func} {Q : Ending → World → Prop} {x : Exit} {a : Act} {W : World} (h : ∀ W', W' = W → bodyPost P f Q x a W') : bodyPost P f Q x a W := h W rfl
set_option maxRecDepth 100000 in
set_option maxHeartbeats 1000000 in
theorem wvote_any (x : Vo) (w : World) : Calls Try.prog 50 #[.agg x.cs] w fun e w' => e = .returned (.agg x.cs) ∧ Ext w w' := by
  unfold Vo.cs
  go_enter Try.func50, Try.ntmps50
  go_wp2_with fail
  refine name_b' (fun V hV => ?_)
  have hb : Blk V (w.heap.size + 1) 82 x.cs := by rw [hV]; exact Blk.new_at (by simp)
  have hE : Ext w V := by rw [hV]; exact ((Upd.refl _ _).alloc _).alloc _
  clear hV
  have q0 := hb.at 0 rfl
  have q1 := hb.at 1 rfl
  have q2 := hb.at 2 rfl
  have q3 := hb.at 3 rfl
  have q4 := hb.at 4 rfl
  have q5 := hb.at 5 rfl
  refine bodyPost_ret (v := .agg x.cs) ?_ rfl ⟨rfl, hE⟩
  simp [results, Try.results50, go_sem, q0, q1, q2, q3, q4, q5, Vo.cs]
set_option maxRecDepth 100000 in
set_option maxHeartbeats 4000000 in
theorem wvotes_any (x : Vo) (w : World) (hx : VoOk w x) : Calls Try.prog 9 #[.agg x.cs] w fun e w' => e = .returned (.bool true) ∧ Ext w w' := by
  have HX := hide hx
  obtain ⟨lp, hlp⟩ : ∃ lp, lp = x.lp := ⟨_, rfl⟩
  clear hx
  unfold Vo.cs
  go_enter Try.func9, Try.ntmps9
  go_upto_region 1 with fail
  refine name_w (fun W hW => ?_)
  have hb : Blk W w.heap.size 78 x.cs := by rw [hW]; exact Blk.new _ _ _
  have hE : Ext w W := by rw [hW]; exact (Upd.refl _ _).alloc _
  clear hW
  go_wp2_with fail
  refine (wlives_any _).mono ?_
  rintro e w1 ⟨rfl, hU1⟩
  have hb1 := hb.ext hU1
  have q5 : w1.cell? ⟨w.heap.size, 5, none⟩ = some (.slice x.P x.lp x.c) := hb1.at 5 rfl
  by_cases h5 : 5000 < x.lp
  · have hI : (5000 : Int) < (x.lp : Int) := by omega
    go_wp2_with fail
    refine (wlives_any _).mono ?_
    rintro e w2 ⟨rfl, hU2⟩
    go_wp2_with fail
    go_ret
    exact ⟨rfl, (hE.trans hU1).trans hU2⟩
  · have hI : ¬ (5000 : Int) < (x.lp : Int) := by omega
    have q0 : w1.cell? ⟨w.heap.size, 0, none⟩ = some (.int .i64 x.K) := hb1.at 0 rfl
    have q1 : w1.cell? ⟨w.heap.size, 1, none⟩ = some (.int .i64 x.from_) := hb1.at 1 rfl
    have q2 : w1.cell? ⟨w.heap.size, 2, none⟩ = some (.int .i64 x.slot) := hb1.at 2 rfl
    have q3 : w1.cell? ⟨w.heap.size, 3, none⟩ = some (.int .i64 x.view) := hb1.at 3 rfl
    have q4 : w1.cell? ⟨w.heap.size, 4, none⟩ = some (.int .i64 x.valid) := hb1.at 4 rfl
    have hE1 := hE.trans hU1
    clear hU1 hE hb
    go_wp2_with fail
    refine (encV_any x w1 (HX.out.ext hE1)).mono ?_
    rintro e w2 ⟨A, l, c, m, rfl, hU2, hy, hn⟩
    replace q0 := hU2.cellv q0
    replace q1 := hU2.cellv q1
    replace q2 := hU2.cellv q2
    replace q3 := hU2.cellv q3
    replace q4 := hU2.cellv q4
    replace q5 := hU2.cellv q5
    have hE2 := hE1.trans hU2
    have Hy := hide hy
    have Hn := hide hn
    clear hy hn hU2 hE1 hb1
    go_wp2_with fail
    refine (wvote_any x w2).mono ?_
    rintro e w3 ⟨rfl, hU3⟩
    clear q0 q1 q2 q3 q4 q5
    go_wp2_with fail
    refine (rencV_any x w3 (HX.out.ext (hE2.trans hU3))).mono ?_
    rintro e w4 ⟨A2, l2, c2, rfl, hU4, hy2⟩
    have hE4 := (hE2.trans hU3).trans hU4
    cases hok : x.ok with
    | true =>
      obtain ⟨rfl, hl, hO⟩ := Hy.out hok
      obtain ⟨hl2, hS2⟩ := hy2 hok
      have hst := run_str (c := c) (P := Try.prog) (S := 9) Try.under_bs Try.under8 Try.underS (hO.sl.ext (hU3.trans hU4)) hl
      have hst2 := run_str (c := c2) (P := Try.prog) (S := 9) Try.under_bs Try.under8 Try.underS hS2 hl2
      clear hl hl2 hO hS2 hy2 hok
      go_wp2_with fail
      go_ret
      exact ⟨rfl, hE4⟩
    | false =>
      obtain ⟨rfl, rfl, rfl⟩ := Hn.out hok
      clear hy2 hok
      go_wp2_with fail
      go_ret
      exact ⟨rfl, hE4⟩
end Go.Proofs.Ytjdodhooojjldaa
