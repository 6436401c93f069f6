/- The laws of the sum: the example lives; words for parts. -/
import Derived.Test.YtoekbomfepedcaaShaU
import Derived.Test.YtoekbomfepedcaaShaE
import Derived.Test.YtoekbomfepedcaaBase
namespace Go.Proofs.Ytoekbomfepedcaa
set_option linter.unusedSimpArgs false
set_option linter.unusedVariables false
open Go.RowKit
open Sha
attribute [local go_sem] steady steadyUpon Cls by8 by32 by64 str_eq

theorem Try.under8 : Try.prog.underlying 5 = some (.int .u8) := by kernel_rfl
theorem Try.underS : Try.prog.underlying 9 = some .string := by kernel_rfl
theorem Own.at_ {w : World} {B g c i : Nat} {e : TypeId} {xs : List (BitVec 8)} (h : Own w B e (some ⟨g, 0, none⟩) c (xs.map by8)) (hi : i < xs.length) : w.cell? ⟨g, i, none⟩ = some (.int .u8 (n8 (gat xs i))) := by
  have := h.sl.cells i hi
  rw [Nat.zero_add] at this
  exact this
/-- Bytes that can be read in a world give the same string in every later one. -/
theorem str_cls {W : World} {A : Option Addr} {n c : Nat} {bs : List (BitVec 8)} (hS : Sl by8 W A bs) (hn : bs.length = n) (x : Wd (Ext W)) :
    (convert 23 9 (.slice A n c)).run Try.prog x.w = .ok (.string (str bs)) x.w :=
  run_str Try.under_bs Try.under8 Try.underS (hS.ext x.ok) hn
theorem rep_nil (w : World) {B : Nat} (hB : B ≤ w.heap.size) : Own (w.alloc (.cells #[] 5)) B 5 (some ⟨w.heap.size, 0, none⟩) 0 (([] : List (BitVec 8)).map by8) :=
  Own.lit by8 w 5 [] hB (Nat.zero_le _)

theorem one_part (w : World) (A : Option Addr) (n c : Nat) (bs : List (BitVec 8)) (hS : Sl by8 w A bs) (hn : bs.length = n) (hc : n ≤ c) (hm : c ≤ maxLen) :
    Pts (w.alloc (.cells #[.slice A n c] 23)) (some ⟨w.heap.size, 0, none⟩) [⟨A, n, c, bs⟩] :=
  ⟨Sl.new Pt.val w 23 [⟨A, n, c, bs⟩], fun i hi => by
    obtain rfl : i = 0 := by simp at hi; omega
    exact ⟨hS.ext ((Upd.refl _ _).alloc _), hn, hc, hm⟩⟩
theorem flat_one (p : Pt) : flat [p] = p.bs := by simp [flat]

end Go.Proofs.Ytoekbomfepedcaa
