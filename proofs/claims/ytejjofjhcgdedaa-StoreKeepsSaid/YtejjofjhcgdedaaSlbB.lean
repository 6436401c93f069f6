/- A slab, walked: stroke, New, Supply. -/
import Derived.Test.YtejjofjhcgdedaaSlbA
namespace Go.Proofs.Ytejjofjhcgdedaa
set_option linter.unusedSimpArgs false
set_option linter.unusedVariables false
open Go.RowKit
open Sha
attribute [local go_sem] steady steadyUpon Cls same_cell
attribute [local irreducible] wpHead wpTree wpHeadR
/-- one stroke -/
def Slv.stroke (x : Slv) : Slv := if x.out then x else ⟨x.secs, x.endless, if x.endless then x.supply else x.supply - 1, x.strokes + 1⟩
theorem Slv.stroke_secs (x : Slv) : x.stroke.secs = x.secs := by unfold Slv.stroke; split <;> rfl
/-- numbers of a slab in their bounds -/
structure Slv.fit (x : Slv) (k : Nat) : Prop where
  s0 : 0 ≤ x.supply
  s1 : x.supply ≤ 9223372036854775807
  t0 : 0 ≤ x.strokes
  t1 : x.strokes ≤ (k : Int)
theorem Slb.set {w w' : World} {B : Nat} {D : Nat → Prop} {g gl : Nat} {f : Nat → Value} {x x' : Slv} (h : Slb w B D g gl f x) (hs : x'.secs = x.secs) (hU : Upd (only g) w w') (hb : Blk w' g 71 (slcs gl x.secs.length x')) : Slb w' B D g gl f x' := by
  have ng : ∀ k, D k → ¬ only g k := fun k hk e => (h.data k hk).2.2.1 e
  refine ⟨by rw [hs]; exact hb, by rw [hs]; exact h.rows.upd hU (fun e => h.ne e.symm), fun i hi => ?_, fun i hi => ?_, fun k hk => ⟨(h.data k hk).1, Nat.lt_of_lt_of_le (h.data k hk).2.1 hU.size, (h.data k hk).2.2⟩, h.lg, h.lgl, h.ne, by rw [hs]; exact h.len⟩
  · rw [hs] at hi ⊢; exact (h.burnt i hi).keep hU ng
  · rw [hs] at hi ⊢; exact (h.ink i hi).keep hU ng
set_option maxRecDepth 100000 in
set_option maxHeartbeats 1000000 in
theorem sstroke_any (B : Nat) (D : Nat → Prop) (g gl : Nat) (f : Nat → Value) (x : Slv) (w : World) (h : Slb w B D g gl f x) (hx : x.fit 1000000) :
    Calls Try.prog 37 #[.pointer (some ⟨g, 0, none⟩)] w fun e w' => e = .returned (.bool (!x.out)) ∧ Slb w' B D g gl f x.stroke ∧ Upd (only g) w w' := by
  have H := hide h
  have q1 : w.cell? ⟨g, 1, none⟩ = some (.bool x.endless) := h.cells.at 1 rfl
  have q2 : w.cell? ⟨g, 2, none⟩ = some (.int .i64 x.supply) := h.cells.at 2 rfl
  have q3 : w.cell? ⟨g, 3, none⟩ = some (.int .i64 x.strokes) := h.cells.at 3 rfl
  have f2 := h.cells.frozen 2
  have f3 := h.cells.frozen 3
  obtain ⟨h0, h1, h2, h3⟩ := hx
  clear h
  go_enter Try.func37, Try.ntmps37
  go_wp2_with fail
  refine (sout_any B D g gl f x w H.out).mono ?_
  rintro e w1 ⟨rfl, rfl⟩
  obtain ⟨y, hy⟩ : ∃ y, y = x.stroke := ⟨_, rfl⟩
  have Hy := hide hy
  clear hy
  cases hout : x.out with
  | true =>
    have Hout := hide hout
    have hyx : y = x := by rw [Hy.out]; unfold Slv.stroke; rw [hout]; rfl
    have HY : Hid (Slb w1 B D g gl f x.stroke) := hide (by rw [← Hy.out, hyx]; exact H.out)
    clear hout hyx
    go_wp2_with fail
    go_ret
    exact ⟨by rw [Hout.out]; rfl, HY.out, Upd.refl _ _⟩
  | false =>
    have Hout := hide hout
    cases hend : x.endless with
    | true =>
      have hyx : x.stroke = ⟨x.secs, x.endless, x.supply, x.strokes + 1⟩ := by unfold Slv.stroke; rw [hout, hend]; rfl
      have hU : Upd (only g) w1 (w1.setCell ⟨g, 3, none⟩ (.int .i64 (x.strokes + 1))) := (Upd.refl _ _).setCell (T := only g) (p := ⟨g, 3, none⟩) (.inl rfl) _
      have hS : Slb (w1.setCell ⟨g, 3, none⟩ (.int .i64 (x.strokes + 1))) B D g gl f x.stroke := by
        rw [hyx]
        exact H.out.set rfl hU (H.out.cells.set 3 _)
      have HS := hide hS
      have HU := hide hU
      rw [hend] at q1
      clear hS hU hyx hout hend
      go_wp2_with fail
      go_ret
      exact ⟨by rw [Hout.out]; rfl, HS.out, HU.out⟩
    | false =>
      have hsup : x.supply ≠ 0 := by
        intro h
        unfold Slv.out at hout
        rw [hend, h] at hout
        cases hout
      have hyx : x.stroke = ⟨x.secs, x.endless, x.supply - 1, x.strokes + 1⟩ := by unfold Slv.stroke; rw [hout, hend]; rfl
      have hU : Upd (only g) w1 ((w1.setCell ⟨g, 3, none⟩ (.int .i64 (x.strokes + 1))).setCell ⟨g, 2, none⟩ (.int .i64 (x.supply - 1))) := ((Upd.refl _ _).setCell (T := only g) (p := ⟨g, 3, none⟩) (.inl rfl) _).setCell (T := only g) (p := ⟨g, 2, none⟩) (.inl rfl) _
      have hS : Slb ((w1.setCell ⟨g, 3, none⟩ (.int .i64 (x.strokes + 1))).setCell ⟨g, 2, none⟩ (.int .i64 (x.supply - 1))) B D g gl f x.stroke := by
        rw [hyx]
        exact H.out.set rfl hU ((H.out.cells.set 3 _).set 2 _)
      have HS := hide hS
      have HU := hide hU
      have hs1 : 1 ≤ x.supply := by omega
      rw [hend] at q1
      clear hS hU hyx hout hend hsup
      go_wp2_with fail
      go_ret
      exact ⟨by rw [Hout.out]; rfl, HS.out, HU.out⟩
end Go.Proofs.Ytejjofjhcgdedaa
