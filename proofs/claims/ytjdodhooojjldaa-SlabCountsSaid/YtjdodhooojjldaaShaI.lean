/- The laws of the sum: the example lives; words for parts. -/
import Derived.Test.YtjdodhooojjldaaShaU
import Derived.Test.YtjdodhooojjldaaShaE
import Derived.Test.YtjdodhooojjldaaBase
namespace Go.Proofs.Ytjdodhooojjldaa
set_option linter.unusedSimpArgs false
set_option linter.unusedVariables false
open Go.RowKit
open Sha
attribute [local go_sem] steady steadyUpon Cls by8 by32 by64 str_eq

theorem Try.under8 : Try.prog.underlying 5 = some (.int .u8) := by kernel_rfl
theorem Try.underS : Try.prog.underlying 9 = some .string := by kernel_rfl
theorem Own.at_ {w : World} {B g c i : Nat} {e : TypeId} {xs : List (BitVec 8)} (h : Own w B e (some ⟨g, 0, none⟩) c (xs.map by8)) (hi : i < xs.length) : w.cell? ⟨g, i, none⟩ = some (.int .u8 (n8 (gat xs i))) := by
  have := h.sl.cells i hi
  rw [Nat.zero_add] at this
  exact this
/-- Bytes that can be read in a world give the same string in every later one. -/
theorem str_cls {W : World} {A : Option Addr} {n c : Nat} {bs : List (BitVec 8)} (hS : Sl by8 W A bs) (hn : bs.length = n) (x : Wd (Ext W)) :
    (convert 25 9 (.slice A n c)).run Try.prog x.w = .ok (.string (str bs)) x.w :=
  run_str Try.under_bs Try.under8 Try.underS (hS.ext x.ok) hn
theorem rep_nil (w : World) {B : Nat} (hB : B ≤ w.heap.size) : Own (w.alloc (.cells #[] 5)) B 5 (some ⟨w.heap.size, 0, none⟩) 0 (([] : List (BitVec 8)).map by8) :=
  Own.lit by8 w 5 [] hB (Nat.zero_le _)

set_option maxRecDepth 100000 in
set_option maxHeartbeats 1000000 in
theorem lives_any (w : World) : Calls Try.prog 15 #[] w fun e w' => e = .returned (.bool true) ∧ Ext w w' := by
  go_enter Try.func15, Try.ntmps15
  go_wp2_with fail
  refine (psum_any none 0 0 [] w ⟨Sl.nil, fun i hi => absurd hi (by simp)⟩ rfl (by simp [flat]) (Nat.zero_le _)).mono ?_
  rintro e w1 ⟨A, c, rfl, hO, hU⟩
  rw [show flat [] = [] from rfl, sum_empty] at hO
  obtain ⟨g, rfl, -, -⟩ := hO.open_ (by simp)
  have k0 : w1.cell? ⟨g, 0, none⟩ = some (.int .u8 227) := Own.at_ hO (i := 0) (by simp)
  have k1 : w1.cell? ⟨g, 1, none⟩ = some (.int .u8 176) := Own.at_ hO (i := 1) (by simp)
  clear hO
  go_wp2
  go_ret
  exact ⟨rfl, hU⟩

theorem one_part (w : World) (A : Option Addr) (n c : Nat) (bs : List (BitVec 8)) (hS : Sl by8 w A bs) (hn : bs.length = n) (hc : n ≤ c) (hm : c ≤ maxLen) :
    Pts (w.alloc (.cells #[.slice A n c] 25)) (some ⟨w.heap.size, 0, none⟩) [⟨A, n, c, bs⟩] :=
  ⟨Sl.new Pt.val w 25 [⟨A, n, c, bs⟩], fun i hi => by
    obtain rfl : i = 0 := by simp at hi; omega
    exact ⟨hS.ext ((Upd.refl _ _).alloc _), hn, hc, hm⟩⟩
theorem flat_one (p : Pt) : flat [p] = p.bs := by simp [flat]

end Go.Proofs.Ytjdodhooojjldaa
