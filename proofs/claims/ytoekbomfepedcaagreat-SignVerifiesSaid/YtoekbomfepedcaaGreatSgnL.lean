/- The laws of signatures: lives, SignKeys. -/
import Derived.Test.YtoekbomfepedcaaGreatSgnP
import Derived.Test.YtoekbomfepedcaaGreatGrpV
namespace Go.Proofs.YtoekbomfepedcaaGreat
set_option linter.unusedSimpArgs false
set_option linter.unusedVariables false
open Go.RowKit
open Nt Sha
attribute [local go_sem] steady steadyUpon Cls same_cell anyW
attribute [local irreducible] wpHead wpTree wpHeadR sum chalOf
theorem fit1 {n k : Nat} (h : n < 4294967296) (hk : 1 ≤ k) : Fit k n := Fit.mono (show Fit 1 _ by unfold Fit W32; omega) hk
theorem sz0 : 2 * byteSz (grQ 0) = 2 := by decide +kernel
theorem szQ (r : Nat) : byteSz (grQ r) ≤ 128 := Nat.le_trans (byteSz_le (fit_grQ r)) (by omega)
/-- "m" -/
def msgM : List (BitVec 8) := [109]
set_option maxRecDepth 100000 in
set_option maxHeartbeats 4000000 in
theorem slives_any (w : World) : Calls Tryz.prog 7 #[] w fun e w' => e = .returned (.bool true) ∧ Ext w w' := by
  have hc1 := fun w => Lib.run_convert_bytes_const (P := Tryz.prog) w 23 5 #[.int .u8 109] 1 1 Tryz.under_bs Tryz.under8
  have hP : Fit 32 (grP 0) := (fit_grP 0).mono (by omega)
  have hQ : Fit 32 (grQ 0) := (fit_grQ 0).mono (by omega)
  have hGf : Fit 32 (grG 0) := (fit_grG 0).mono (by omega)
  have hQ7 : 7 < grQ 0 := by decide
  have hz := sz0
  obtain ⟨P, hPe⟩ : ∃ P, P = grP 0 := ⟨_, rfl⟩
  obtain ⟨Q, hQe⟩ : ∃ Q, Q = grQ 0 := ⟨_, rfl⟩
  obtain ⟨G, hGe⟩ : ∃ G, G = grG 0 := ⟨_, rfl⟩
  have hgok : GOk P Q G := by rw [hPe, hQe, hGe]; exact gok 0 (by omega)
  rw [← hPe] at hP
  rw [← hQe] at hQ hQ7 hz
  rw [← hGe] at hGf
  have HPe := hide hPe
  have HQe := hide hQe
  have HGe := hide hGe
  have Hz := hide hz
  clear hPe hQe hGe hz
  have hP2 := hgok.two
  have hF7 : Fit 32 7 := fit1 (by decide) (by omega)
  have hFy : Fit 32 (G ^ 7 % P) := hP.le (Nat.le_of_lt (Nat.mod_lt _ (by omega)))
  obtain ⟨y, hy⟩ : ∃ y, y = G ^ 7 % P := ⟨_, rfl⟩
  rw [← hy] at hFy
  have Hy := hide hy
  clear hy
  go_enter Tryz.func7, Tryz.ntmps7
  go_wp2_with fail
  refine (ggroup_any 0 0 (by omega) w (fun w' => gnums0_any 0 none 0 0 w' gnil0)).mono ?_
  rintro e w1 ⟨gr, rfl, hG, hU1⟩
  rw [← HPe.out, ← HQe.out, ← HGe.out] at hG
  go_wp2_with fail
  refine (new_any 7 _ (by decide)).mono ?_
  rintro e w2 ⟨A2, l2, c2, rfl, hV2, hU2⟩
  have hEa : Ext w2 (w2.alloc (.cells #[.int .u8 109] 5 (1, 2))) := (Upd.refl _ _).alloc _
  have P0 : Pt.ok (w2.alloc (.cells #[.int .u8 109] 5 (1, 2))) ⟨some ⟨w2.heap.size, 0, none⟩, 1, 1, msgM⟩ := ⟨Sl.mark by8 w2 5 (1, 2) msgM, rfl, Nat.le_refl _, by simp [maxLen]⟩
  have HP0 := hide P0
  have HEa := hide hEa
  clear P0 hEa
  go_wp2_with fail
  refine (ssign_any gr P Q G _ 32 _ _ 7 (some ⟨w2.heap.size, 0, none⟩) 1 1 msgM (hG.ext (hU2.trans HEa.out)) (hV2.ext HEa.out) HP0.out hF7 hQ hP hGf (by omega) (by omega) (by omega) (by omega) hQ7 (by omega)).mono ?_
  rw [Hz.out]
  rintro e w3 ⟨A3, c3, rfl, hl3, hO3, hU3⟩
  have hE3 := (hU1.trans (hU2.trans HEa.out)).trans hU3
  have hG3 := hG.ext ((hU2.trans HEa.out).trans hU3)
  have hpt := hide (Own.pt hO3 hl3)
  clear hO3 hl3 hU1 hU2 HEa HP0 hU3 hV2 hG
  go_wp2_with fail
  refine (new_any 7 _ (by decide)).mono ?_
  rintro e w4 ⟨A4, l4, c4, rfl, hV4, hU4⟩
  go_wp2_with fail
  refine (spub_any gr P Q G _ 32 _ _ 7 (hG3.ext hU4) hV4 hF7 hQ hP hGf (by omega) (by omega) hQ7).mono ?_
  rw [← Hy.out]
  rintro e w5 ⟨A5, l5, c5, rfl, hV5, hU5⟩
  have hU45 := hU4.trans hU5
  have hEn : Ext w5 (w5.alloc (.cells #[.slice A5 l5 c5] 37)) := (Upd.refl _ _).alloc _
  have hEm : Ext (w5.alloc (.cells #[.slice A5 l5 c5] 37)) ((w5.alloc (.cells #[.slice A5 l5 c5] 37)).alloc (.cells #[.int .u8 109] 5 (1, 2))) := (Upd.refl _ _).alloc _
  have P1 : Pt.ok ((w5.alloc (.cells #[.slice A5 l5 c5] 37)).alloc (.cells #[.int .u8 109] 5 (1, 2))) ⟨some ⟨w5.heap.size + 1, 0, none⟩, 1, 1, msgM⟩ := by
    have := Sl.mark by8 (w5.alloc (.cells #[.slice A5 l5 c5] 37)) 5 (1, 2) msgM
    rw [show (w5.alloc (.cells #[.slice A5 l5 c5] 37)).heap.size = w5.heap.size + 1 by simp] at this
    exact ⟨this, rfl, Nat.le_refl _, by simp [maxLen]⟩
  have hc2 := Joins.run_convert_bytes_const_at (P := Tryz.prog) (w5.alloc (.cells #[.slice A5 l5 c5] 37)) 23 5 #[.int .u8 109] 1 1 (w5.heap.size + 1) (by simp) Tryz.under_bs Tryz.under8
  have HP1 := hide P1
  have HEm := hide (hEn.trans hEm)
  clear P1 hEn hEm hU4 hV4
  have q4 := (Box.new w5 37 (.slice A5 l5 c5)).cell
  go_wp2_with fail
  clear q4
  have hEf := hU45.trans HEm.out
  have hgood : verB P Q G y msgM (signB P Q G 7 msgM) = true := by rw [Hy.out]; exact hgok.signed 7 msgM
  refine (sver_any gr P Q G _ 32 _ _ y (some ⟨w5.heap.size + 1, 0, none⟩) A3 1 1 2 c3 msgM (signB P Q G 7 msgM) (hG3.ext hEf) (hV5.ext HEm.out) HP1.out ⟨hpt.out.2.2.2.ext hEf, hpt.out.1, hpt.out.2.1, hpt.out.2.2.1⟩ hFy hQ hP hGf (by omega) (by omega) (by rw [HQe.out]; exact szQ 0) (by omega) hP2).mono ?_
  rw [hgood]
  rintro e w6 ⟨rfl, hU6⟩
  have hEE := (hE3.trans hEf).trans hU6
  go_wp2_with fail
  go_ret
  exact ⟨rfl, hEE⟩
end Go.Proofs.YtoekbomfepedcaaGreat
