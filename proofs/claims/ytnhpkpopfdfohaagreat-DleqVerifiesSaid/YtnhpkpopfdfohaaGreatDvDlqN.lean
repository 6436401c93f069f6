/- Equal exponents without a group, walked. -/
import Derived.Test.YtnhpkpopfdfohaaGreatDvDlqE
import Derived.Test.YtnhpkpopfdfohaaGreatDvGrpo
namespace Go.Proofs.YtnhpkpopfdfohaaGreat
set_option linter.unusedSimpArgs false
set_option linter.unusedVariables false
open Go.RowKit
open Nt Sha
attribute [local go_sem] steady steadyUpon Cls same_cell anyW
attribute [local irreducible] wpHead wpTree wpHeadR sum chalOf ansN
section
variable (w : World)
set_option maxRecDepth 100000 in
set_option maxHeartbeats 1000000 in
theorem dmembers_nil (A : Option Addr) (n c : Nat) (ns : List Nat) (hL : NatL w A ns) (hn : ns.length = n) (h1 : 1 ≤ n) :
    Calls Tryz.prog 57 #[.pointer none, .slice A n c] w fun e w' => e = .returned (.bool false) ∧ Ext w w' := by
  have HL := hide hL
  have Hn := hide hn
  clear hL hn
  go_enter Tryz.func57, Tryz.ntmps57
  go_wp2_with fail
  go_loopw [9, 6] (fun i v wx => i = .int .i64 ((0 : Nat) : Int) ∧ wx = w) (fun i _ _ => 0)
  case atStart => exact ⟨rfl, rfl⟩
  case round =>
    obtain ⟨rfl, rfl⟩ := hrel
    have hlti : ((0 : Nat) : Int) < (n : Int) := by omega
    obtain ⟨b, o, B1, m1, d1, rfl, q0, hVj⟩ := HL.out.at (i := 0) (by rw [Hn.out]; omega)
    rw [Nat.add_zero] at q0
    have q1 := (Box.new wr 34 (.slice B1 m1 d1)).cell
    go_wp2_with fail
    clear q1
    refine name_c (fun V hV => ?_)
    have hEV : Ext wr V := by rw [hV]; exact (Upd.refl _ _).alloc _
    clear hV
    refine (gMember_none V (.slice B1 m1 d1) rfl).mono ?_
    rintro e v1 ⟨rfl, hU1⟩
    have hE1 := hEV.trans hU1
    go_wp2_with fail
    go_ret
    exact ⟨rfl, hE1⟩
set_option maxRecDepth 100000 in
set_option maxHeartbeats 1000000 in
theorem dver_nil (A0 A1 A2 A3 AS D : Option Addr) (l0 c0 l1 c1 l2 c2 l3 c3 n c m d a b y z : Nat) (h0 : NatV w (.agg #[.slice A0 l0 c0]) a) (h1 : NatV w (.agg #[.slice A1 l1 c1]) b) (h2 : NatV w (.agg #[.slice A2 l2 c2]) y) (h3 : NatV w (.agg #[.slice A3 l3 c3]) z) :
    Calls Tryz.prog 23 #[.pointer none, .agg #[.slice A0 l0 c0, .slice A1 l1 c1, .slice A2 l2 c2, .slice A3 l3 c3], .slice AS n c, .slice D m d] w fun e w' => e = .returned (.bool false) ∧ Ext w w' := by
  go_enter Tryz.func23, Tryz.ntmps23
  obtain ⟨W0, hW0⟩ : ∃ W0, W0 = w.alloc (.cells #[.slice A0 l0 c0, .slice A1 l1 c1, .slice A2 l2 c2, .slice A3 l3 c3] 37) := ⟨_, rfl⟩
  have b5 : Blk W0 w.heap.size 37 #[.slice A0 l0 c0, .slice A1 l1 c1, .slice A2 l2 c2, .slice A3 l3 c3] := by rw [hW0]; exact Blk.new _ _ _
  have hW0s : W0.heap.size = w.heap.size + 1 := by rw [hW0]; simp
  have hE : Ext w W0 := by rw [hW0]; exact (Upd.refl _ w).alloc _
  have q0 := b5.at 0 rfl
  have q1 := b5.at 1 rfl
  have q2 := b5.at 2 rfl
  have q3 := b5.at 3 rfl
  rw [hW0] at q0 q1 q2 q3
  go_wp2_with fail
  clear q0 q1 q2 q3
  refine name_c (fun W hW => ?_)
  rw [← hW0] at hW
  have hEW : Ext w W := by rw [hW]; exact hE.alloc _
  have hL : NatL W (some ⟨w.heap.size + 1, 0, none⟩) [a, b, y, z] := by
    have hx : Ext w (W0.alloc (.cells #[.slice A0 l0 c0, .slice A1 l1 c1, .slice A2 l2 c2, .slice A3 l3 c3] 34)) := hE.alloc _
    rw [hW]
    exact natL4 (Blk.new_at (t := 34) hW0s) (h0.ext hx) (h1.ext hx) (h2.ext hx) (h3.ext hx)
  clear hW hW0 hW0s b5 hE W0
  refine (dmembers_nil W _ 4 4 [a, b, y, z] hL rfl (by omega)).mono ?_
  rintro e w1 ⟨rfl, hU1⟩
  have hE1 := hEW.trans hU1
  go_wp2_with fail
  go_ret
  exact ⟨rfl, hE1⟩
end
end Go.Proofs.YtnhpkpopfdfohaaGreat
