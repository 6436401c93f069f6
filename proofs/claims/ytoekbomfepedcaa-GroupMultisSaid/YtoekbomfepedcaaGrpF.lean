/- The laws' groups: Group, lives. -/
import Derived.Test.YtoekbomfepedcaaGrpE
namespace Go.Proofs.Ytoekbomfepedcaa
set_option linter.unusedSimpArgs false
set_option linter.unusedVariables false
open Go.RowKit
open Nt
attribute [local go_sem] steady steadyUpon Cls same_cell
attribute [local irreducible] wpHead wpTree wpHeadR
theorem fit_grP (r : Nat) : Fit 3 (grP r) := by
  unfold Fit grP
  split
  · decide +kernel
  · split <;> decide +kernel
theorem fit_grQ (r : Nat) : Fit 3 (grQ r) := by
  unfold Fit grQ
  split
  · decide +kernel
  · split <;> decide +kernel
theorem fit_grG (r : Nat) : Fit 3 (grG r) := by
  unfold Fit grG
  split
  · decide +kernel
  · split <;> decide +kernel
theorem fit_grH (r : Nat) : Fit 3 (grH r) := by
  unfold Fit grH
  split
  · decide +kernel
  · split <;> decide +kernel
theorem fitL_of {k : Nat} {ns : List Nat} (h : ns.all fun n => decide (n < W32 ^ k)) : FitL k ns := fun i hi => by
  rw [List.all_eq_true] at h
  have := h (gat ns i) (by rw [gat_lt hi]; exact List.getElem_mem _)
  exact (decide_eq_true_iff.1 this : gat ns i < W32 ^ k)
def fitB (s : St) : Bool := decide (s.N < W32 ^ 3) && (decide (s.b < W32 ^ 3) && ((s.ps.all fun n => decide (n < W32 ^ 3)) && decide (s.ps.length ≤ 100)))
theorem fitS_of {s : St} (h : fitB s = true) : FitS 3 s := by
  unfold fitB at h
  simp only [Bool.and_eq_true, decide_eq_true_eq] at h
  exact ⟨h.1, h.2.1, fitL_of h.2.2.1, h.2.2.2⟩
theorem fit_grS (r : Nat) : ∀ i, i < (grS r).length → FitS 3 (gat (grS r) i) := fun i hi => by
  have : (grS r).all fitB = true := by
    unfold grS
    split
    · rfl
    · split <;> decide +kernel
  rw [List.all_eq_true] at this
  exact fitS_of (this _ (by rw [gat_lt hi]; exact List.getElem_mem _))
/-- one of the three groups is handed back -/
def RetGrp (w : World) (r : Nat) (e : Ending) (w' : World) : Prop := ∃ gr, e = .returned (.pointer (some ⟨gr, 0, none⟩)) ∧ GrpV w' gr (grP r) (grQ r) (grG r) (grH r) ∧ Ext w w'
set_option maxRecDepth 100000 in
set_option maxHeartbeats 1000000 in
theorem ggroup_any (z : Int) (r : Nat) (hr : r < 3) (w : World) (hnum : ∀ w', Calls Try.prog 76 #[.int .i64 z, .slice none 0 0] w' (RetNums w' r none 0 0)) :
    Calls Try.prog 21 #[.int .i64 z, .slice none 0 0] w (RetGrp w r) := by
  have Hnum := hide hnum
  clear hnum
  go_enter Try.func21, Try.ntmps21
  go_wp2_with fail
  refine (Hnum.out w).mono ?_
  rintro e w1 ⟨Ap, lp, cp, Aq, lq, cq, Ag, lg, cg, AS, n, c, rfl, hP, hQ, hG, hS, hn, hU1⟩
  have hl : n ≤ 1000 := by
    rw [← hn]; unfold grS; split
    · decide
    · split <;> decide
  have Hn := hide hn
  clear hn
  go_wp2_with fail
  refine (gNew_any Ap lp cp Aq lq cq Ag lg cg none 0 0 (grP r) (grQ r) (grG r) 3 [] AS n c (grS r) w1 hP hQ hG Sl.nil rfl (Nat.le_refl _) (by decide) hS Hn.out hl (fit_grP r) (fit_grQ r) (fit_grG r) (fit_grS r) (by omega) (by omega)).mono ?_
  rw [gNew r hr]
  rintro e w2 ⟨hU2, -, h⟩
  obtain ⟨gr, rfl, hGr⟩ := h rfl
  have hEf := hU1.trans hU2
  clear hP hQ hG hS hU1 hU2 h
  go_wp2_with fail
  go_ret
  exact ⟨gr, rfl, hGr, hEf⟩
theorem gnil0 : (IntKind.u64.wrap (0 : Int)).tmod 3 = ((0 : Nat) : Int) := by decide +kernel
theorem gnil1 : (IntKind.u64.wrap (1 : Int)).tmod 3 = ((1 : Nat) : Int) := by decide +kernel
theorem lv_pow : (64 ^ 101 % grP 0) = 1 := by rw [pow_is 70 (by decide)]; decide +kernel
theorem lv_mem : memB (grP 0) (grQ 0) 2 = false := by unfold memB; rw [pow_is 70 (by decide)]; decide +kernel
set_option maxRecDepth 100000 in
set_option maxHeartbeats 2000000 in
theorem glives_any (w : World) : Calls Try.prog 11 #[] w fun e w' => e = .returned (.bool true) ∧ Ext w w' := by
  have hF1 : ∀ {n : Nat}, n < 4294967296 → Fit 3 n := fun h => Fit.mono (show Fit 1 _ by unfold Fit W32; omega) (by omega)
  go_enter Try.func11, Try.ntmps11
  go_wp2_with fail
  refine (ggroup_any 0 0 (by omega) w (fun w' => gnums0_any 0 none 0 0 w' gnil0)).mono ?_
  rintro e w1 ⟨gr, rfl, hG, hU1⟩
  go_wp2_with fail
  refine (new_any 64 _ (by decide)).mono ?_
  rintro e w2 ⟨A2, l2, c2, rfl, hV2, hU2⟩
  go_wp2_with fail
  refine (new_any 101 _ (by decide)).mono ?_
  rintro e w3 ⟨A3, l3, c3, rfl, hV3, hU3⟩
  go_wp2_with fail
  refine (gExp_any gr (grP 0) (grQ 0) (grG 0) (grH 0) 3 _ _ _ 64 101 3 (hG.ext (hU2.trans hU3)) (hV2.ext hU3) hV3 (hF1 (by decide)) (fit_grP 0) (hF1 (by decide)) (by omega) (by omega)).mono ?_
  rw [lv_pow]
  rintro e w4 ⟨A4, l4, c4, rfl, hV4, hU4⟩
  go_wp2_with fail
  refine (new_any 1 _ (by decide)).mono ?_
  rintro e w5 ⟨A5, l5, c5, rfl, hV5, hU5⟩
  go_wp2_with fail
  refine (cmp_any _ _ 1 1 3 _ (hV4.ext hU5) hV5 (hF1 (by decide)) (hF1 (by decide)) (by omega)).mono ?_
  rintro e w6 ⟨rfl, hU6⟩
  rw [cmpI_eq]
  go_wp2_with fail
  refine (new_any 2 _ (by decide)).mono ?_
  rintro e w7 ⟨A7, l7, c7, rfl, hV7, hU7⟩
  have hG7 := hG.ext (((((hU2.trans hU3).trans hU4).trans hU5).trans hU6).trans hU7)
  have hE7 := ((((((hU1.trans hU2).trans hU3).trans hU4).trans hU5).trans hU6).trans hU7)
  clear hG hU1 hU2 hU3 hU4 hU5 hU6 hU7 hV2 hV3 hV4 hV5
  go_wp2_with fail
  refine (gMember_any gr (grP 0) (grQ 0) (grG 0) (grH 0) 3 _ _ 2 hG7 hV7 (hF1 (by decide)) (fit_grP 0) (fit_grQ 0) (by omega) (by omega)).mono ?_
  rw [lv_mem]
  rintro e w8 ⟨rfl, hU8⟩
  have hE8 := hE7.trans hU8
  clear hG7 hV7 hE7 hU8
  go_wp2_with fail
  refine (ggroup_any 1 1 (by omega) w8 (fun w' => gnums1_any 1 none 0 0 w' gnil1)).mono ?_
  rintro e w9 ⟨gr2, rfl, -, hU9⟩
  have hE9 := hE8.trans hU9
  clear hE8 hU9
  go_wp2_with fail
  go_ret
  exact ⟨rfl, hE9⟩
end Go.Proofs.Ytoekbomfepedcaa
