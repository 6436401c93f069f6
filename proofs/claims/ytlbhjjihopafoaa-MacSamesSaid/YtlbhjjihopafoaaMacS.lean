/- The law that the same bytes are told to be the same, walked. -/
import Derived.Test.YtlbhjjihopafoaaMacL
namespace Go.Proofs.Ytlbhjjihopafoaa
open Go.RowKit
open Sha
open Mac
attribute [local go_sem] steady steadyUpon Cls by8 by32 by64 str_eq

theorem sames_long (A B : Option Addr) (n m c d : Nat) (w : World) (h : 3000 < n ∨ 3000 < m) :
    Calls Try.prog 9 #[.slice A n c, .slice B m d] w fun e w' => e = .returned (.bool true) ∧ Ext w w' := by
  by_cases h1 : (3000 : Int) < n
  · clear h
    go_enter Try.func9, Try.ntmps9
    go_wp2_with fail
    refine (mlives_any _).mono ?_
    rintro e w1 ⟨rfl, hU1⟩
    go_wp2_with fail
    refine (mlives_any _).mono ?_
    rintro e w2 ⟨rfl, hU2⟩
    go_wp2_with fail
    go_ret
    exact ⟨rfl, hU1.trans hU2⟩
  · have h2 : (3000 : Int) < m := by omega
    clear h
    go_enter Try.func9, Try.ntmps9
    go_wp2_with fail
    refine (mlives_any _).mono ?_
    rintro e w1 ⟨rfl, hU1⟩
    go_wp2_with fail
    refine (mlives_any _).mono ?_
    rintro e w2 ⟨rfl, hU2⟩
    go_wp2_with fail
    go_ret
    exact ⟨rfl, hU1.trans hU2⟩

set_option maxRecDepth 100000 in
set_option maxHeartbeats 2000000 in
theorem sames_short (A B : Option Addr) (n m c d : Nat) (a b : List (BitVec 8)) (w : World) (h1 : Pt.ok w ⟨A, n, c, a⟩) (h2 : Pt.ok w ⟨B, m, d, b⟩) (hn : n ≤ 3000) (hm : m ≤ 3000) :
    Calls Try.prog 9 #[.slice A n c, .slice B m d] w fun e w' => e = .returned (.bool true) ∧ Ext w w' := by
  have H1 := hide h1
  have H2 := hide h2
  clear h1 h2
  have d1 : ¬ (3000 : Int) < n := by omega
  have d2 : ¬ (3000 : Int) < m := by omega
  go_enter Try.func9, Try.ntmps9
  go_wp2_with fail
  refine (mlives_any _).mono ?_
  rintro e w1 ⟨rfl, hU1⟩
  go_wp2_with fail
  have hca := str_cls (c := c) (H1.out.1.ext hU1.drew) H1.out.2.1
  have hcb := str_cls (c := d) (H2.out.1.ext hU1.drew) H2.out.2.1
  refine wp_region_tree (Ext _) 16 (.q 0 (.q 1 (.q 3 (.q 4 (.q 5 (.q 6 (.q 7 (.l 2 (.q 8 (.q 9 (.q 10 (.q 12 (.l 11 (.l 13 (.l 14 (.q 15 .done)))))))))))))))) (by kernel_rfl) (by kernel_rfl) (Upd.refl _ _) (fun hne => ?_)
  repeat (refine tree_q rfl (fun K hK => ?_); go_simp; refine hK _ ?_; clear hK K)
  refine tree_l rfl ?_
  go_wp2_with (go_at_call 28; go_must (refine (same_any A n c a B m d b _ (H1.out.1.ext hU1.drew) H1.out.2.1 (by omega) (H2.out.1.ext hU1.drew) H2.out.2.1 (by omega)).mono ?_); rintro e w2 ⟨rfl, hU2⟩)
  refine ⟨_, fun _ h => h, ⟨⟨_, hU2⟩, rfl⟩, ?_⟩
  repeat (refine tree_q rfl (fun K hK => ?_); go_simp; refine hK _ ?_; clear hK K)
  refine tree_l rfl ?_
  go_wp2_with fail
  refine ⟨_, fun _ h => h, ⟨⟨_, (hU2.alloc _)⟩, rfl⟩, ?_⟩
  repeat (refine tree_q rfl (fun K hK => ?_); go_simp; refine hK _ ?_; clear hK K)
  refine tree_lw rfl rfl ?_
  go_must (refine wpList_apd by8 one8 Try.el8 [] a a n rfl H1.out.2.1 (by omega) (by unfold maxLen; omega) rfl rfl rfl rfl (rep_nil w2 (Nat.le_refl _)) rfl H1.out.2.1 (H1.out.1.ext ((hU1.drew.trans hU2).alloc _)) (by simp) ?_)
  intro A3 c3 w3 hO3 hU3 hin3
  have hU3' := upd_new (w0 := w1.drew) hU3 (hU2.alloc _) (fun i hi => by simp [inA] at hi; have := hU2.size; omega)
  refine wpList_nil ?_
  simp only [Exit.then]
  refine ⟨_, fun _ h => h, ⟨⟨_, hU3'⟩, rfl⟩, ?_⟩
  repeat (refine tree_q rfl (fun K hK => ?_); go_simp; refine hK _ ?_; clear hK K)
  refine tree_l rfl ?_
  go_wp2_with (go_at_call 28; go_must (refine (same_any A n c a A3 n c3 a _ (H1.out.1.ext (hU1.drew.trans hU3')) H1.out.2.1 (by omega) hO3.sl H1.out.2.1 (by omega)).mono ?_); rintro e w4 ⟨rfl, hU4⟩)
  refine ⟨_, fun _ h => h, ⟨⟨_, (hU3'.trans hU4)⟩, rfl⟩, ?_⟩
  repeat (refine tree_q rfl (fun K hK => ?_); go_simp; refine hK _ ?_; clear hK K)
  refine tree_done ?_
  try simp only [List.drop_succ_cons, List.drop_zero]
  go_wp2
  go_ret
  exact ⟨rfl, (hU1.drew.trans hU3').trans hU4⟩

theorem msames_any (A B : Option Addr) (n m c d : Nat) (a b : List (BitVec 8)) (w : World) (h1 : Pt.ok w ⟨A, n, c, a⟩) (h2 : Pt.ok w ⟨B, m, d, b⟩) :
    Calls Try.prog 9 #[.slice A n c, .slice B m d] w fun e w' => e = .returned (.bool true) ∧ Ext w w' := by
  by_cases h : 3000 < n ∨ 3000 < m
  · exact sames_long A B n m c d w h
  · exact sames_short A B n m c d a b w h1 h2 (by omega) (by omega)
end Go.Proofs.Ytlbhjjihopafoaa
