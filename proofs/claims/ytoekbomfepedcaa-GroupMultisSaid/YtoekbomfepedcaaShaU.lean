/- The sum of parts, walked. -/
import Derived.Test.YtoekbomfepedcaaShaT
namespace Go.Proofs.Ytoekbomfepedcaa
set_option linter.unusedSimpArgs false
set_option linter.unusedVariables false
open Go.RowKit
open Sha
attribute [local go_sem] steady steadyUpon Cls same_cell by8 by32 by64

/-- A part: where it lies, and its bytes. -/
structure Pt where
  A : Option Addr
  n : Nat
  c : Nat
  bs : List (BitVec 8)
instance : Inhabited Pt := ⟨⟨none, 0, 0, []⟩⟩
def Pt.val (p : Pt) : Value := .slice p.A p.n p.c
def Pt.ok (w : World) (p : Pt) : Prop := Sl by8 w p.A p.bs ∧ p.bs.length = p.n ∧ p.n ≤ p.c ∧ p.c ≤ maxLen
/-- A slice of slices of bytes. -/
def Pts (w : World) (A : Option Addr) (ps : List Pt) : Prop := Sl Pt.val w A ps ∧ ∀ i, i < ps.length → (gat ps i).ok w
def flat (ps : List Pt) : List (BitVec 8) := ps.flatMap Pt.bs
theorem Pts.ext {w w' : World} {A : Option Addr} {ps : List Pt} (h : Pts w A ps) (hu : Ext w w') : Pts w' A ps := ⟨h.1.ext hu, fun i hi => ⟨(h.2 i hi).1.ext hu, (h.2 i hi).2⟩⟩
theorem flat_take {ps : List Pt} {k : Nat} (h : k < ps.length) : flat (ps.take k) ++ (gat ps k).bs = flat (ps.take (k + 1)) := by
  unfold flat
  rw [List.take_succ_eq_append_getElem h, List.flatMap_append, gat_lt h]
  simp
theorem flat_le (ps : List Pt) (k : Nat) : (flat (ps.take k)).length ≤ (flat ps).length := by
  have : flat ps = flat (ps.take k) ++ flat (ps.drop k) := by unfold flat; rw [← List.flatMap_append, List.take_append_drop]
  rw [this, List.length_append]; omega

set_option maxRecDepth 100000 in
set_option maxHeartbeats 1000000 in
theorem psum_any (A : Option Addr) (n c : Nat) (ps : List Pt) (w : World) (hP : Pts w A ps) (hn : ps.length = n) (hl : (flat ps).length ≤ 100000000) (hm : n ≤ maxLen) :
    Calls Try.prog 133 #[.slice A n c] w (RetS w 32 (sum (flat ps))) := by
  unfold maxLen at hm
  have Hn := hide hn
  have Hl := hide hl
  have HP := hide hP
  clear hn hl hP
  go_enter Try.func133, Try.ntmps133
  go_wp2_with fail
  refine (hnew_any w).mono ?_
  rintro e w1 ⟨g, T1, rfl, hH1, hU1⟩
  have hH1' := hide hH1
  clear hH1
  go_wp2_with fail
  go_loopw [9] (fun i wx => ∃ k T, k ≤ n ∧ i = .int .i64 (k : Nat) ∧ Hsh wx w.heap.size T g (flat (ps.take k)) ∧ Ext w wx) (fun i _ => n - (intOf i).toNat)
  case atStart => exact ⟨0, T1, by omega, rfl, hH1'.out, hU1⟩
  case round =>
    obtain ⟨k, T, hk, rfl, hH, hU⟩ := hrel
    have hH' := hide hH
    clear hH hU1 hH1'
    by_cases hlt : k < n
    · have hlti : (k : Int) < n := by omega
      have hd : decide ((k : Int) < n) = true := decide_eq_true (by omega)
      obtain ⟨b, o, rfl, _, hc⟩ := (HP.out.ext hU).1.open_ (by have := Hn.out; omega)
      have hck := hc k (by have := Hn.out; omega)
      unfold Pt.val at hck
      have Hok := hide ((HP.out.ext hU).2 k (by have := Hn.out; omega))
      clear hc
      go_wp2_with (go_at_call 81; go_must (refine (hadd_any w.heap.size g T (flat (ps.take k)) (gat ps k).bs (flat (ps.take (k + 1))) _ _ _ _ hH'.out hU.size Hok.out.1 Hok.out.2.1 (flat_take (by have := Hn.out; omega)) (by have := Hl.out; have := flat_le ps (k + 1); omega)).mono ?_); rintro e w2 ⟨T2, rfl, hH2, hU2, hin2⟩)
      go_roundw
      case rel => exact ⟨k + 1, T2, by omega, by go_num, hH2, upd_new hU2 hU (fun i hi => (hH'.out.in_ hi).1)⟩
      case measure => simp [intOf]; omega
    · obtain rfl : k = n := by omega
      clear hk hlt
      go_wp2_with (go_at_call 82; go_must (refine (hsum_any w.heap.size g T (flat (ps.take k)) _ hH'.out (by have := Hl.out; have := flat_le ps k; omega)).mono ?_); rintro e w2 ⟨A2, c2, rfl, hO2, hU2⟩)
      go_ret
      refine ⟨A2, c2, rfl, ?_, hU.trans hU2⟩
      rw [List.take_of_length_le (by have := Hn.out; omega)] at hO2
      exact hO2.mono hU.size
end Go.Proofs.Ytoekbomfepedcaa
