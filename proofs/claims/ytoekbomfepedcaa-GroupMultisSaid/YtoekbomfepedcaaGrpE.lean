/- The laws' groups: big, the first two of numbers. -/
import Derived.Test.YtoekbomfepedcaaGrpD
import Derived.Test.YtoekbomfepedcaaGrpK
namespace Go.Proofs.Ytoekbomfepedcaa
set_option linter.unusedSimpArgs false
set_option linter.unusedVariables false
open Go.RowKit
open Nt
attribute [local go_sem] steady steadyUpon Cls same_cell
attribute [local irreducible] wpHead wpTree wpHeadR
set_option maxRecDepth 100000 in
set_option maxHeartbeats 1000000 in
theorem gbig_any (h l : Nat) (w : World) (hh : h < 18446744073709551616) (hl : l < 18446744073709551616) :
    Calls Try.prog 114 #[.int .u64 h, .int .u64 l] w (RetN w (h * 4294967296 + l)) := by
  go_enter Try.func114, Try.ntmps114
  go_wp2_with fail
  refine name_c (fun W hW => ?_)
  have b4 : Box W w.heap.size 33 (.slice none 0 0) := by rw [hW]; exact Box.new _ _ _
  have hE : Ext w W := by rw [hW]; exact (Upd.refl _ _).alloc _
  clear hW
  refine (new_any h _ hh).mono ?_
  rintro e w1 ⟨A1, l1, c1, rfl, hV1, hU1⟩
  go_wp2_with fail
  refine (new_any 4294967296 _ (by decide)).mono ?_
  rintro e w2 ⟨A2, l2, c2, rfl, hV2, hU2⟩
  have hF64 : ∀ {n : Nat}, n < 18446744073709551616 → Fit 2 n := fun h => by unfold Fit; exact Nat.lt_of_lt_of_le h (by decide)
  go_wp2_with fail
  refine (mul_any _ _ h 4294967296 2 _ (hV1.ext hU2) hV2 (hF64 hh) (hF64 (by decide)) (by omega)).mono ?_
  rintro e w3 ⟨A3, l3, c3, rfl, hV3, hU3⟩
  go_wp2_with fail
  refine (new_any l _ hl).mono ?_
  rintro e w4 ⟨A4, l4, c4, rfl, hV4, hU4⟩
  go_wp2_with fail
  refine (add_any _ _ (h * 4294967296) l 4 _ (hV3.ext hU4) hV4 (Fit.mul (hF64 hh) (hF64 (by decide))) ((hF64 hl).mono (by omega)) (by omega)).mono ?_
  rintro e w5 ⟨A5, l5, c5, rfl, hV5, hU5⟩
  have hG : Ext W w5 := (((hU1.trans hU2).trans hU3).trans hU4).trans hU5
  have b4' := b4.ext hG
  have z2 := b4'.cell
  have z3 := b4'.frozen
  go_wp2_with fail
  have q := (b4'.set (.slice A5 l5 c5)).cell
  exact bodyPost_ret (v := .agg #[.slice A5 l5 c5]) (by simp [results, Try.results114, go_sem, q]) rfl ⟨_, _, _, rfl, hV5.far z2, (hE.trans hG).setCell (p := ⟨w.heap.size, 0, none⟩) (.inr (Nat.le_refl _)) _⟩
/-- the numbers of one of the three groups, with a seed -/
def RetNums (w : World) (r : Nat) (As : Option Addr) (ls cs : Nat) (e : Ending) (w' : World) : Prop :=
  ∃ Ap lp cp Aq lq cq Ag lg cg AS n c, e = .returned (.tuple #[.agg #[.slice Ap lp cp, .slice Aq lq cq, .slice Ag lg cg, .slice As ls cs], .slice AS n c]) ∧ NatV w' (.agg #[.slice Ap lp cp]) (grP r) ∧ NatV w' (.agg #[.slice Aq lq cq]) (grQ r) ∧ NatV w' (.agg #[.slice Ag lg cg]) (grG r) ∧ StepL w' AS (grS r) ∧ (grS r).length = n ∧ Ext w w'
theorem u64_mod3 (z : Int) : ∃ K : Nat, (IntKind.u64.wrap z).tmod 3 = (K : Int) ∧ K < 3 := by
  have hw0 : 0 ≤ IntKind.u64.wrap z := by
    unfold IntKind.wrap
    simp [IntKind.signed, IntKind.bits]
    omega
  rw [Int.tmod_eq_emod_of_nonneg hw0]
  exact ⟨(IntKind.u64.wrap z % 3).toNat, by omega, by omega⟩
/-- four slices stored over four slices -/
theorem nat4 {w : World} {g : Nat} {t : TypeId} {s : Value} {n : Nat} {a0 a1 a2 a3 b0 b1 b2 b3 : Option Addr} {l0 l1 l2 l3 c0 c1 c2 c3 m0 m1 m2 m3 d0 d1 d2 d3 : Nat} (h : NatV w s n) (hb : Blk w g t #[.slice a0 l0 c0, .slice a1 l1 c1, .slice a2 l2 c2, .slice a3 l3 c3]) :
    NatV ((((w.setCell ⟨g, 0, none⟩ (.slice b0 m0 d0)).setCell ⟨g, 1, none⟩ (.slice b1 m1 d1)).setCell ⟨g, 2, none⟩ (.slice b2 m2 d2)).setCell ⟨g, 3, none⟩ (.slice b3 m3 d3)) s n := by
  have h1 := h.far (v := .slice b0 m0 d0) (hb.at 0 rfl)
  have hb1 := hb.set 0 (.slice b0 m0 d0)
  have h2 := h1.far (v := .slice b1 m1 d1) (hb1.at 1 rfl)
  have hb2 := hb1.set 1 (.slice b1 m1 d1)
  have h3 := h2.far (v := .slice b2 m2 d2) (hb2.at 2 rfl)
  have hb3 := hb2.set 2 (.slice b2 m2 d2)
  exact h3.far (hb3.at 3 rfl)
theorem blk4 {w : World} {g : Nat} {t : TypeId} {x0 x1 x2 x3 : Value} (hb : Blk w g t #[x0, x1, x2, x3]) (v0 v1 v2 v3 : Value) : Blk ((((w.setCell ⟨g, 0, none⟩ v0).setCell ⟨g, 1, none⟩ v1).setCell ⟨g, 2, none⟩ v2).setCell ⟨g, 3, none⟩ v3) g t #[v0, v1, v2, v3] :=
  (((hb.set 0 v0).set 1 v1).set 2 v2).set 3 v3
theorem ext4 {w w' : World} {g : Nat} (h : Ext w w') (hg : w.heap.size ≤ g) (v0 v1 v2 v3 : Value) : Ext w ((((w'.setCell ⟨g, 0, none⟩ v0).setCell ⟨g, 1, none⟩ v1).setCell ⟨g, 2, none⟩ v2).setCell ⟨g, 3, none⟩ v3) :=
  (((h.setCell (p := ⟨g, 0, none⟩) (.inr hg) v0).setCell (p := ⟨g, 1, none⟩) (.inr hg) v1).setCell (p := ⟨g, 2, none⟩) (.inr hg) v2).setCell (p := ⟨g, 3, none⟩) (.inr hg) v3
set_option maxRecDepth 100000 in
set_option maxHeartbeats 2000000 in
theorem gnums0_any (z : Int) (As : Option Addr) (ls cs : Nat) (w : World) (hz : (IntKind.u64.wrap z).tmod 3 = ((0 : Nat) : Int)) :
    Calls Try.prog 76 #[.int .i64 z, .slice As ls cs] w (RetNums w 0 As ls cs) := by
  have hz' : (IntKind.u64.wrap z).tmod 3 = 0 := hz
  clear hz
  go_enter Try.func76, Try.ntmps76
  go_wp2_with fail
  refine name_c (fun W hW => ?_)
  have b4 : Blk W w.heap.size 49 #[.slice none 0 0, .slice none 0 0, .slice none 0 0, .slice none 0 0] := by rw [hW]; exact Blk.new _ _ _
  have hE : Ext w W := by rw [hW]; exact (Upd.refl _ _).alloc _
  clear hW
  refine (new_any 607 _ (by decide)).mono ?_
  rintro e w1 ⟨A1, l1, c1, rfl, hV1, hU1⟩
  go_wp2_with fail
  refine (new_any 101 _ (by decide)).mono ?_
  rintro e w2 ⟨A2, l2, c2, rfl, hV2, hU2⟩
  go_wp2_with fail
  refine (new_any 64 _ (by decide)).mono ?_
  rintro e w3 ⟨A3, l3, c3, rfl, hV3, hU3⟩
  have hG := (hU1.trans hU2).trans hU3
  have b4' := b4.ext hG
  have y0 := b4'.at 0 rfl
  have y1 := b4'.at 1 rfl
  have y2 := b4'.at 2 rfl
  have y3 := b4'.at 3 rfl
  have x0 := b4'.frozen 0
  have x1 := b4'.frozen 1
  have x2 := b4'.frozen 2
  have x3 := b4'.frozen 3
  have hVa := hV1.ext (hU2.trans hU3)
  have hVb := hV2.ext hU3
  have hN1 := nat4 (b0 := A1) (m0 := l1) (d0 := c1) (b1 := A2) (m1 := l2) (d1 := c2) (b2 := A3) (m2 := l3) (d2 := c3) (b3 := As) (m3 := ls) (d3 := cs) hVa b4'
  have hN2 := nat4 (b0 := A1) (m0 := l1) (d0 := c1) (b1 := A2) (m1 := l2) (d1 := c2) (b2 := A3) (m2 := l3) (d2 := c3) (b3 := As) (m3 := ls) (d3 := cs) hVb b4'
  have hN3 := nat4 (b0 := A1) (m0 := l1) (d0 := c1) (b1 := A2) (m1 := l2) (d1 := c2) (b2 := A3) (m2 := l3) (d2 := c3) (b3 := As) (m3 := ls) (d3 := cs) hV3 b4'
  have hB4 := blk4 b4' (.slice A1 l1 c1) (.slice A2 l2 c2) (.slice A3 l3 c3) (.slice As ls cs)
  have hE4 := ext4 (hE.trans hG) (Nat.le_refl _) (.slice A1 l1 c1) (.slice A2 l2 c2) (.slice A3 l3 c3) (.slice As ls cs)
  clear hV1 hV2 hV3 hU1 hU2 hU3 hVa hVb b4 b4'
  go_wp2_with fail
  have q0 := hB4.at 0 rfl
  have q1 := hB4.at 1 rfl
  have q2 := hB4.at 2 rfl
  have q3 := hB4.at 3 rfl
  refine bodyPost_ret (v := .tuple #[.agg #[.slice A1 l1 c1, .slice A2 l2 c2, .slice A3 l3 c3, .slice As ls cs], .slice none 0 0]) ?_ rfl ⟨A1, l1, c1, A2, l2, c2, A3, l3, c3, none, 0, 0, rfl, hN1, hN2, hN3, fun i hi => absurd hi (by simp [grS]), rfl, hE4⟩
  simp [results, Try.results76, go_sem, q0, q1, q2, q3]
set_option maxRecDepth 100000 in
set_option maxHeartbeats 2000000 in
theorem gnums1_any (z : Int) (As : Option Addr) (ls cs : Nat) (w : World) (hz : (IntKind.u64.wrap z).tmod 3 = ((1 : Nat) : Int)) :
    Calls Try.prog 76 #[.int .i64 z, .slice As ls cs] w (RetNums w 1 As ls cs) := by
  have hz' : (IntKind.u64.wrap z).tmod 3 = 1 := hz
  clear hz
  go_enter Try.func76, Try.ntmps76
  go_wp2_with fail
  refine name_c (fun W hW => ?_)
  have b4 : Blk W w.heap.size 49 #[.slice none 0 0, .slice none 0 0, .slice none 0 0, .slice none 0 0] := by rw [hW]; exact Blk.new _ _ _
  have hE : Ext w W := by rw [hW]; exact (Upd.refl _ _).alloc _
  clear hW
  refine (new_any 655211 _ (by decide)).mono ?_
  rintro e w1 ⟨A1, l1, c1, rfl, hV1, hU1⟩
  go_wp2_with fail
  refine (new_any 65521 _ (by decide)).mono ?_
  rintro e w2 ⟨A2, l2, c2, rfl, hV2, hU2⟩
  go_wp2_with fail
  refine (new_any 1024 _ (by decide)).mono ?_
  rintro e w3 ⟨A3, l3, c3, rfl, hV3, hU3⟩
  go_wp2_with fail
  refine (new_any 655211 _ (by decide)).mono ?_
  rintro e w4 ⟨B1, m1, d1, rfl, hW1, hU4⟩
  go_wp2_with fail
  refine (new_any 2 _ (by decide)).mono ?_
  rintro e w5 ⟨B2, m2, d2, rfl, hW2, hU5⟩
  go_wp2_with fail
  refine (new_any 65521 _ (by decide)).mono ?_
  rintro e w6 ⟨B3, m3, d3, rfl, hW3, hU6⟩
  have hG := ((((hU1.trans hU2).trans hU3).trans hU4).trans hU5).trans hU6
  have b4' := b4.ext hG
  have y0 := b4'.at 0 rfl
  have y1 := b4'.at 1 rfl
  have y2 := b4'.at 2 rfl
  have y3 := b4'.at 3 rfl
  have x0 := b4'.frozen 0
  have x1 := b4'.frozen 1
  have x2 := b4'.frozen 2
  have x3 := b4'.frozen 3
  have hVa := hV1.ext ((((hU2.trans hU3).trans hU4).trans hU5).trans hU6)
  have hVb := hV2.ext (((hU3.trans hU4).trans hU5).trans hU6)
  have hVc := hV3.ext ((hU4.trans hU5).trans hU6)
  have hWa := hW1.ext (hU5.trans hU6)
  have hWb := hW2.ext hU6
  have hg6 : w.heap.size < w6.heap.size := Nat.lt_of_lt_of_le b4.lt hG.size
  clear hV1 hV2 hV3 hW1 hW2 hU1 hU2 hU3 hU4 hU5 hU6 b4
  have hE4 := ext4 (hE.trans hG) (Nat.le_refl _) (.slice A1 l1 c1) (.slice A2 l2 c2) (.slice A3 l3 c3) (.slice As ls cs)
  clear hG hE
  go_wp2_with fail
  clear y0 y1 y2 y3 x0 x1 x2 x3
  have hB4 := blk4 b4' (.slice A1 l1 c1) (.slice A2 l2 c2) (.slice A3 l3 c3) (.slice As ls cs)
  have hNa := nat4 (b0 := A1) (m0 := l1) (d0 := c1) (b1 := A2) (m1 := l2) (d1 := c2) (b2 := A3) (m2 := l3) (d2 := c3) (b3 := As) (m3 := ls) (d3 := cs) hVa b4'
  have hNb := nat4 (b0 := A1) (m0 := l1) (d0 := c1) (b1 := A2) (m1 := l2) (d1 := c2) (b2 := A3) (m2 := l3) (d2 := c3) (b3 := As) (m3 := ls) (d3 := cs) hVb b4'
  have hNc := nat4 (b0 := A1) (m0 := l1) (d0 := c1) (b1 := A2) (m1 := l2) (d1 := c2) (b2 := A3) (m2 := l3) (d2 := c3) (b3 := As) (m3 := ls) (d3 := cs) hVc b4'
  have hOa := nat4 (b0 := A1) (m0 := l1) (d0 := c1) (b1 := A2) (m1 := l2) (d1 := c2) (b2 := A3) (m2 := l3) (d2 := c3) (b3 := As) (m3 := ls) (d3 := cs) hWa b4'
  have hOb := nat4 (b0 := A1) (m0 := l1) (d0 := c1) (b1 := A2) (m1 := l2) (d1 := c2) (b2 := A3) (m2 := l3) (d2 := c3) (b3 := As) (m3 := ls) (d3 := cs) hWb b4'
  have hOc := nat4 (b0 := A1) (m0 := l1) (d0 := c1) (b1 := A2) (m1 := l2) (d1 := c2) (b2 := A3) (m2 := l3) (d2 := c3) (b3 := As) (m3 := ls) (d3 := cs) hW3 b4'
  clear hVa hVb hVc hWa hWb hW3 b4'
  have hsz : ((((w6.setCell ⟨w.heap.size, 0, none⟩ (.slice A1 l1 c1)).setCell ⟨w.heap.size, 1, none⟩ (.slice A2 l2 c2)).setCell ⟨w.heap.size, 2, none⟩ (.slice A3 l3 c3)).setCell ⟨w.heap.size, 3, none⟩ (.slice As ls cs)).heap.size = w6.heap.size := by simp
  generalize (((w6.setCell ⟨w.heap.size, 0, none⟩ (.slice A1 l1 c1)).setCell ⟨w.heap.size, 1, none⟩ (.slice A2 l2 c2)).setCell ⟨w.heap.size, 2, none⟩ (.slice A3 l3 c3)).setCell ⟨w.heap.size, 3, none⟩ (.slice As ls cs) = Y at hB4 hNa hNb hNc hOa hOb hOc hE4 hsz ⊢
  rw [← hsz] at *
  generalize hZ : (Y.alloc (.cells #[.slice B3 m3 d3] 33)).alloc (.cells #[.slice B1 m1 d1, .slice B2 m2 d2, .slice (some ⟨Y.heap.size, 0, none⟩) 1 1] 37) = Z
  have hX : Ext Y Z := by rw [← hZ]; exact ((Upd.refl _ _).alloc _).alloc _
  have bs1 : Blk Z Y.heap.size 33 #[.slice B3 m3 d3] := by rw [← hZ]; exact (Blk.new Y _ _).ext ((Upd.refl _ _).alloc _)
  have bs2 : Blk Z (Y.heap.size + 1) 37 #[.slice B1 m1 d1, .slice B2 m2 d2, .slice (some ⟨Y.heap.size, 0, none⟩) 1 1] := by rw [← hZ]; exact Blk.new_at (by simp)
  clear hZ
  have hB5 := hB4.ext hX
  have q0 := hB5.at 0 rfl
  have q1 := hB5.at 1 rfl
  have q2 := hB5.at 2 rfl
  have q3 := hB5.at 3 rfl
  refine bodyPost_ret (v := .tuple #[.agg #[.slice A1 l1 c1, .slice A2 l2 c2, .slice A3 l3 c3, .slice As ls cs], .slice (some ⟨Y.heap.size + 1, 0, none⟩) 1 1]) ?_ rfl ⟨A1, l1, c1, A2, l2, c2, A3, l3, c3, _, 1, 1, rfl, hNa.ext hX, hNb.ext hX, hNc.ext hX, ?_, rfl, hE4.trans hX⟩
  · simp [results, Try.results76, go_sem, q0, q1, q2, q3]
  · intro i hi
    obtain rfl : i = 0 := by
      have : i < 1 := hi
      omega
    refine ⟨Y.heap.size + 1, 0, B1, m1, d1, B2, m2, d2, some ⟨Y.heap.size, 0, none⟩, 1, 1, rfl, bs2.at 0 rfl, bs2.at 1 rfl, bs2.at 2 rfl, hOa.ext hX, hOb.ext hX, ?_, rfl, Nat.le_refl _, by decide⟩
    refine ⟨[⟨B3, m3, d3⟩], rfl, fun j hj => ?_, fun j hj => ?_⟩
    · obtain rfl : j = 0 := by
        have : j < 1 := hj
        omega
      exact ⟨Y.heap.size, 0, rfl, bs1.at 0 rfl⟩
    · obtain rfl : j = 0 := by
        have : j < 1 := hj
        omega
      exact hOc.ext hX
end Go.Proofs.Ytoekbomfepedcaa
