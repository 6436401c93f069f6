/- Entries: the law, walked. -/
import Derived.Test.YtjdodhooojjldaaWirL
import Derived.Test.YtjdodhooojjldaaWirM
import Derived.Test.YtjdodhooojjldaaWirT
namespace Go.Proofs.Ytjdodhooojjldaa
set_option linter.unusedSimpArgs false
set_option linter.unusedVariables false
open Go.RowKit
open Nt Sha
attribute [local go_sem] steady steadyUpon Cls same_cell anyW str_eq
attribute [local irreducible] wpHead wpTree wpHeadR
/-- the entry made of one that came in -/
def plE (x : Pl) (A : Option Addr) (c : Nat) : En := ⟨x.K, x.au, x.ep, x.mode, x.peer, x.phase, A, x.ln, c, qnums x.qs, x.L2, x.lt, x.c2, x.ps, x.P, x.lp, x.c3, x.pr⟩
theorem plE_cs (x : Pl) (A : Option Addr) (c : Nat) : (plE x A c).cs = ecs x (.slice A x.ln c) := rfl
theorem qnums_fit (x : Pl) : FitL 12 (qnums x.qs) := fun i hi => by
  unfold qnums at hi ⊢
  rw [gat_lt hi, List.getElem_map]
  exact fit_48 _
theorem plE_en {w : World} {x : Pl} (h : PlOk w x) {A : Option Addr} (c : Nat) (hn : NatL w A (qnums x.qs)) (h100 : x.ln ≤ 100) : EnOk w (plE x A c) :=
  ⟨hn, by show (qnums x.qs).length = x.ln; unfold qnums; rw [List.length_map]; exact h.nlen, by show x.ln ≤ _; omega, h.texts, h.tlen, by show x.lt ≤ _; have := h.tcap; have := h.tmax; unfold maxLen at this; omega, h.proof, h.plen, by show x.lp ≤ _; have := h.pcap; have := h.pmax; unfold maxLen at this; omega⟩
theorem plE_rn {w : World} {x : Pl} (h : PlOk w x) {A : Option Addr} (c : Nat) (hn : RefL w A (qnums x.qs)) (h100 : x.ln ≤ 100) : RnOk w (plE x A c) 12 :=
  ⟨hn, by show (qnums x.qs).length = x.ln; unfold qnums; rw [List.length_map]; exact h.nlen, by show x.ln ≤ _; omega, qnums_fit x, by omega, h.texts, h.tlen, by show x.lt ≤ _; have := h.tcap; have := h.tmax; unfold maxLen at this; omega, h.proof, h.plen, h.pcap, h.pmax⟩
set_option maxRecDepth 100000 in
set_option maxHeartbeats 4000000 in
theorem wentries_any (x : Pl) (w : World) (hx : PlOk w x) : Calls Try.prog 10 #[.agg x.cs] w fun e w' => e = .returned (.bool true) ∧ Ext w w' := by
  have HX := hide hx
  clear hx
  unfold Pl.cs
  go_enter Try.func10, Try.ntmps10
  go_upto_region 1 with fail
  refine name_w (fun W hW => ?_)
  have hb : Blk W w.heap.size 86 x.cs := by rw [hW]; exact Blk.new _ _ _
  have hE : Ext w W := by rw [hW]; exact (Upd.refl _ _).alloc _
  clear hW
  go_wp2_with fail
  refine (wlives_any _).mono ?_
  rintro e w1 ⟨rfl, hU1⟩
  have hb1 := hb.ext hU1
  have hE1 := hE.trans hU1
  have q0 : w1.cell? ⟨w.heap.size, 0, none⟩ = some (.int .i64 x.K) := hb1.at 0 rfl
  have q1 : w1.cell? ⟨w.heap.size, 1, none⟩ = some (.int .i64 x.au) := hb1.at 1 rfl
  have q2 : w1.cell? ⟨w.heap.size, 2, none⟩ = some (.int .i64 x.ep) := hb1.at 2 rfl
  have q3 : w1.cell? ⟨w.heap.size, 3, none⟩ = some (.int .i64 x.mode) := hb1.at 3 rfl
  have q4 : w1.cell? ⟨w.heap.size, 4, none⟩ = some (.int .i64 x.peer) := hb1.at 4 rfl
  have q5 : w1.cell? ⟨w.heap.size, 5, none⟩ = some (.int .i64 x.phase) := hb1.at 5 rfl
  have q6 : w1.cell? ⟨w.heap.size, 6, none⟩ = some (.slice x.L1 x.ln x.c1) := hb1.at 6 rfl
  have q7 : w1.cell? ⟨w.heap.size, 7, none⟩ = some (.slice x.L2 x.lt x.c2) := hb1.at 7 rfl
  have q8 : w1.cell? ⟨w.heap.size, 8, none⟩ = some (.slice x.P x.lp x.c3) := hb1.at 8 rfl
  clear hb hU1 hE
  go_wp2_with fail
  refine (wfew_any x w1 (HX.out.ext hE1)).mono ?_
  rintro e w2 ⟨b, rfl, hU2, hfew⟩
  have hE2 := hE1.trans hU2
  replace q0 := hU2.cellv q0
  replace q1 := hU2.cellv q1
  replace q2 := hU2.cellv q2
  replace q3 := hU2.cellv q3
  replace q4 := hU2.cellv q4
  replace q5 := hU2.cellv q5
  replace q6 := hU2.cellv q6
  replace q7 := hU2.cellv q7
  replace q8 := hU2.cellv q8
  have HE2 := hide hE2
  have Hf := hide hfew
  clear hE1 hU2 hb1 hE2 hfew
  cases b with
  | false =>
    clear q0 q1 q2 q3 q4 q5 q6 q7 q8
    go_wp2_with fail
    refine (wlives_any _).mono ?_
    rintro e w3 ⟨rfl, hU3⟩
    go_wp2_with fail
    go_ret
    exact ⟨rfl, HE2.out.trans hU3⟩
  | true =>
    obtain ⟨h100, -, -⟩ := Hf.out rfl
    have H100 := hide h100
    go_wp2_with fail
    refine (wof_any x w2 (HX.out.ext HE2.out) H100.out).mono ?_
    rintro e w3 ⟨D, cD, F, cF, rfl, hU3, hNL, hRL⟩
    have hE3 := HE2.out.trans hU3
    have HE3 := hide hE3
    have HNL := hide hNL
    have HRL := hide hRL
    clear q0 q1 q2 q3 q4 q5 q6 q7 q8 hE3 hNL hRL hU3 h100
    unfold ecs
    go_upto_region 4 with fail
    refine name_w (fun V hV => ?_)
    have b4 : Blk V w3.heap.size 90 (ecs x (.slice D x.ln cD)) := by rw [hV]; exact (Blk.new _ _ _).ext ((Upd.refl _ _).alloc _)
    have b5 : Blk V (w3.heap.size + 1) 93 (ecs x (.slice F x.ln cF)) := by rw [hV]; exact Blk.new_at (by simp)
    have hEV : Ext w3 V := by rw [hV]; exact ((Upd.refl _ _).alloc _).alloc _
    have HEV := hide hEV
    have B5 := hide b5
    clear hV hEV b5
    have q0 : V.cell? ⟨w3.heap.size, 0, none⟩ = some (.int .i64 x.K) := b4.at 0 rfl
    have q1 : V.cell? ⟨w3.heap.size, 1, none⟩ = some (.int .i64 x.au) := b4.at 1 rfl
    have q2 : V.cell? ⟨w3.heap.size, 2, none⟩ = some (.int .i64 x.ep) := b4.at 2 rfl
    have q3 : V.cell? ⟨w3.heap.size, 3, none⟩ = some (.int .i64 x.mode) := b4.at 3 rfl
    have q4 : V.cell? ⟨w3.heap.size, 4, none⟩ = some (.int .i64 x.peer) := b4.at 4 rfl
    have q5 : V.cell? ⟨w3.heap.size, 5, none⟩ = some (.int .i64 x.phase) := b4.at 5 rfl
    have q6 : V.cell? ⟨w3.heap.size, 6, none⟩ = some (.slice D x.ln cD) := b4.at 6 rfl
    have q7 : V.cell? ⟨w3.heap.size, 7, none⟩ = some (.slice x.L2 x.lt x.c2) := b4.at 7 rfl
    have q8 : V.cell? ⟨w3.heap.size, 8, none⟩ = some (.slice x.P x.lp x.c3) := b4.at 8 rfl
    clear b4
    go_wp2_with fail
    refine (encE_any (plE x D cD) 12 V (plE_en (HX.out.ext (HE3.out.trans HEV.out)) cD (HNL.out.ext HEV.out) H100.out) (qnums_fit x) (by omega)).mono ?_
    rintro e w4 ⟨A, l, c, m, rfl, hU4, hy, hn⟩
    have b5 := B5.out.ext hU4
    have hE4 := (HE3.out.trans HEV.out).trans hU4
    have HE4 := hide hE4
    have HRL4 := hide ((HRL.out.ext HEV.out).ext hU4)
    have Hy := hide hy
    have Hn := hide hn
    clear q0 q1 q2 q3 q4 q5 q6 q7 q8 hy hn hU4 hE4
    have q0 : w4.cell? ⟨w3.heap.size + 1, 0, none⟩ = some (.int .i64 x.K) := b5.at 0 rfl
    have q1 : w4.cell? ⟨w3.heap.size + 1, 1, none⟩ = some (.int .i64 x.au) := b5.at 1 rfl
    have q2 : w4.cell? ⟨w3.heap.size + 1, 2, none⟩ = some (.int .i64 x.ep) := b5.at 2 rfl
    have q3 : w4.cell? ⟨w3.heap.size + 1, 3, none⟩ = some (.int .i64 x.mode) := b5.at 3 rfl
    have q4 : w4.cell? ⟨w3.heap.size + 1, 4, none⟩ = some (.int .i64 x.peer) := b5.at 4 rfl
    have q5 : w4.cell? ⟨w3.heap.size + 1, 5, none⟩ = some (.int .i64 x.phase) := b5.at 5 rfl
    have q6 : w4.cell? ⟨w3.heap.size + 1, 6, none⟩ = some (.slice F x.ln cF) := b5.at 6 rfl
    have q7 : w4.cell? ⟨w3.heap.size + 1, 7, none⟩ = some (.slice x.L2 x.lt x.c2) := b5.at 7 rfl
    have q8 : w4.cell? ⟨w3.heap.size + 1, 8, none⟩ = some (.slice x.P x.lp x.c3) := b5.at 8 rfl
    clear b5
    go_wp2_with fail
    refine (rencE_any (plE x F cF) 12 w4 (plE_rn (HX.out.ext HE4.out) cF HRL4.out H100.out)).mono ?_
    rintro e w5 ⟨A2, l2, c2, rfl, hU5, hy2⟩
    have hE5 := HE4.out.trans hU5
    replace hy2 : (plE x D cD).ok = true → (plE x D cD).bytes.length = l2 ∧ Sl by8 w5 A2 (plE x D cD).bytes := hy2
    obtain ⟨ok, hok⟩ : ∃ ok, ok = (plE x D cD).ok := ⟨_, rfl⟩
    rw [show (plE x F cF).ok = (plE x D cD).ok from rfl, ← hok]
    rw [← hok] at hy2
    have Hy := Hy.out
    have Hn := Hn.out
    rw [← hok] at Hy Hn
    clear q0 q1 q2 q3 q4 q5 q6 q7 q8 hok
    generalize (plE x D cD).bytes = bts at Hy hy2
    cases ok with
    | true =>
      obtain ⟨rfl, hl, hO⟩ := Hy rfl
      obtain ⟨hl2, hS2⟩ := hy2 rfl
      have hst := run_str (c := c) (P := Try.prog) (S := 9) Try.under_bs Try.under8 Try.underS (hO.sl.ext hU5) hl
      have hst2 := run_str (c := c2) (P := Try.prog) (S := 9) Try.under_bs Try.under8 Try.underS hS2 hl2
      clear hl hl2 hO hS2 Hy hy2 Hn
      go_wp2_with fail
      go_ret
      exact ⟨rfl, hE5⟩
    | false =>
      obtain ⟨rfl, rfl, rfl⟩ := Hn rfl
      clear hy2 Hy Hn
      go_wp2_with fail
      go_ret
      exact ⟨rfl, hE5⟩
end Go.Proofs.Ytjdodhooojjldaa
