/- The laws of the sum, walked: the example lives; any sum is the document's. -/
import Derived.Test.YtlbhjjihopafoaaShaW
import Derived.Test.YtlbhjjihopafoaaShaE
import Derived.Test.YtlbhjjihopafoaaStr
import Derived.Test.YtlbhjjihopafoaaTree
namespace Go.Proofs.Ytlbhjjihopafoaa
open Go.RowKit
open Sha
attribute [local go_sem] steady steadyUpon Cls by8 by32 by64 str_eq

theorem Try.under8 : Try.prog.underlying 5 = some (.int .u8) := by kernel_rfl
theorem Try.underS : Try.prog.underlying 9 = some .string := by kernel_rfl
theorem Own.at_ {w : World} {B g c i : Nat} {e : TypeId} {xs : List (BitVec 8)} (h : Own w B e (some ⟨g, 0, none⟩) c (xs.map by8)) (hi : i < xs.length) : w.cell? ⟨g, i, none⟩ = some (.int .u8 (n8 (gat xs i))) := by
  have := h.sl.cells i hi
  rw [Nat.zero_add] at this
  exact this
/-- Bytes that can be read in a world give the same string in every later one. -/
theorem str_cls {W : World} {A : Option Addr} {n c : Nat} {bs : List (BitVec 8)} (hS : Sl by8 W A bs) (hn : bs.length = n) (x : Wd (Ext W)) :
    (convert 22 9 (.slice A n c)).run Try.prog x.w = .ok (.string (str bs)) x.w :=
  run_str Try.under_bs Try.under8 Try.underS (hS.ext x.ok) hn
theorem rep_nil (w : World) {B : Nat} (hB : B ≤ w.heap.size) : Own (w.alloc (.cells #[] 5)) B 5 (some ⟨w.heap.size, 0, none⟩) 0 (([] : List (BitVec 8)).map by8) :=
  Own.lit by8 w 5 [] hB (Nat.zero_le _)

set_option maxRecDepth 100000 in
set_option maxHeartbeats 1000000 in
theorem lives_any (w : World) : Calls Try.prog 13 #[] w fun e w' => e = .returned (.bool true) ∧ Ext w w' := by
  go_enter Try.func13, Try.ntmps13
  go_wp2_with fail
  refine (psum_any none 0 0 [] w ⟨Sl.nil, fun i hi => absurd hi (by simp)⟩ rfl (by simp [flat]) (Nat.zero_le _)).mono ?_
  rintro e w1 ⟨A, c, rfl, hO, hU⟩
  rw [show flat [] = [] from rfl, sum_empty] at hO
  obtain ⟨g, rfl, -, -⟩ := hO.open_ (by simp)
  have k0 : w1.cell? ⟨g, 0, none⟩ = some (.int .u8 227) := Own.at_ hO (i := 0) (by simp)
  have k1 : w1.cell? ⟨g, 1, none⟩ = some (.int .u8 176) := Own.at_ hO (i := 1) (by simp)
  clear hO
  go_wp2
  go_ret
  exact ⟨rfl, hU⟩

set_option maxHeartbeats 1000000 in
theorem sums_long (D : Option Addr) (l f : Nat) (w : World) (hl : 1000 < l) (hl2 : l ≤ maxLen) :
    Calls Try.prog 3 #[.slice D l f] w fun e w' => e = .returned (.bool true) ∧ Ext w w' := by
  unfold maxLen at hl2
  have hlt : (1000 : Int) < (l : Int) := by omega
  go_enter Try.func3, Try.ntmps3
  go_wp2_with fail
  refine (lives_any _).mono ?_
  rintro e w1 ⟨rfl, hU1⟩
  go_wp2_with fail
  refine (lives_any _).mono ?_
  rintro e w2 ⟨rfl, hU2⟩
  go_wp2_with fail
  go_ret
  exact ⟨rfl, hU1.trans hU2⟩

theorem one_part (w : World) (A : Option Addr) (n c : Nat) (bs : List (BitVec 8)) (hS : Sl by8 w A bs) (hn : bs.length = n) (hc : n ≤ c) (hm : c ≤ maxLen) :
    Pts (w.alloc (.cells #[.slice A n c] 22)) (some ⟨w.heap.size, 0, none⟩) [⟨A, n, c, bs⟩] :=
  ⟨Sl.new Pt.val w 22 [⟨A, n, c, bs⟩], fun i hi => by
    obtain rfl : i = 0 := by simp at hi; omega
    exact ⟨hS.ext ((Upd.refl _ _).alloc _), hn, hc, hm⟩⟩
theorem flat_one (p : Pt) : flat [p] = p.bs := by simp [flat]

set_option maxRecDepth 100000 in
set_option maxHeartbeats 1000000 in
theorem sums_short (D : Option Addr) (l f : Nat) (b : List (BitVec 8)) (w : World) (hl : l ≤ 1000) (hbl : b.length = l) (hD : Sl by8 w D b) (hlf : l ≤ f) (hf : f ≤ maxLen) :
    Calls Try.prog 3 #[.slice D l f] w fun e w' => e = .returned (.bool true) ∧ Ext w w' := by
  have hD' := hide hD
  clear hD
  have Hbl := hide hbl
  clear hbl
  have Hf := hide hf
  clear hf
  have hlt : ¬ (1000 : Int) < (l : Int) := by omega
  go_enter Try.func3, Try.ntmps3
  go_wp2_with fail
  refine (lives_any _).mono ?_
  rintro e w1 ⟨rfl, hU1⟩
  go_wp2_with (at_builtin; go_must (refine wpList_apd by8 one8 Try.el8 [] b b l rfl Hbl.out (by omega) (by unfold maxLen; omega) rfl rfl rfl rfl (rep_nil _ (Nat.le_refl _)) rfl Hbl.out (hD'.out.ext (hU1.alloc _)) (by simp) ?_); intro A2 c2 w2 hO2 hU2 hin2; have hU2' := upd_new (w0 := w1) hU2 ((Upd.refl _ _).alloc _) (fun i hi => by simp [inA] at hi; omega))
  have Hc2 := hide hO2.cap
  refine (psum_any _ _ _ [⟨A2, l, c2, b⟩] _ (one_part w2 A2 l c2 b hO2.sl Hbl.out (by have := Hc2.out.1; rw [List.length_map, Hbl.out] at this; exact this) Hc2.out.2) rfl (by rw [flat_one]; simp only; rw [Hbl.out]; omega) (by simp [maxLen])).mono ?_
  rintro e w3 ⟨A3, c3, rfl, hO3, hU3⟩
  rw [flat_one] at hO3
  have hU13 : Ext w w3 := (hU1.trans hU2').trans (((Upd.refl _ _).alloc _).trans hU3)
  have hO2' := hide (hO2.ext (((Upd.refl _ _).alloc _).trans hU3))
  have hO3' := hide hO3
  have hDx := hide (hD'.out.ext hU13)
  clear hO2 hO3 hU2 hin2 hU2' hU1 hU3
  go_wp2_with fail
  have hcv := str_cls (c := c3) (hO3'.out.sl.ext (Upd.refl _ _).drew) (sum_length b)
  refine wp_region_tree (Ext _) 13 (.q 0 (.q 1 (.q 2 (.l 3 (.q 4 (.q 5 (.q 6 (.q 7 (.q 8 (.q 9 (.q 10 (.q 11 (.q 12 .done))))))))))))) (by kernel_rfl) (by kernel_rfl) (Upd.refl _ _) (fun hne => ?_)
  repeat (refine tree_q rfl (fun K hK => ?_); go_simp; refine hK _ ?_; clear hK K)
  refine tree_l rfl ?_
  go_wp2_with (go_at_call 15; go_must (refine (rsum_any _ _ _ b _ (hDx.out.ext (Upd.refl _ _).drew) Hbl.out (by omega)).mono ?_); rintro e w4 ⟨A4, c4, rfl, hO4, hU4⟩)
  have hcr := str_cls (c := c4) hO4.sl (sum_length b)
  have hcb := str_cls (c := f) (hDx.out.ext hU4.undrew) Hbl.out
  have hco := str_cls (c := c2) (hO2'.out.sl.ext hU4.undrew) Hbl.out
  refine ⟨Cls (Ext _), cls_narrow hU4, ⟨⟨_, Upd.refl _ _⟩, rfl⟩, ?_⟩
  repeat (refine tree_q rfl (fun K hK => ?_); go_simp; refine hK _ ?_; clear hK K)
  refine tree_done ?_
  try simp only [List.drop_succ_cons, List.drop_zero]
  go_wp2
  go_ret
  exact ⟨rfl, hU13.trans hU4.undrew⟩

theorem sums_any (D : Option Addr) (l f : Nat) (b : List (BitVec 8)) (w : World) (hbl : b.length = l) (hD : Sl by8 w D b) (hlf : l ≤ f) (hf : f ≤ maxLen) :
    Calls Try.prog 3 #[.slice D l f] w fun e w' => e = .returned (.bool true) ∧ Ext w w' := by
  by_cases hl : l ≤ 1000
  · exact sums_short D l f b w hl hbl hD hlf hf
  · exact sums_long D l f w (by omega) (by omega)
end Go.Proofs.Ytlbhjjihopafoaa
