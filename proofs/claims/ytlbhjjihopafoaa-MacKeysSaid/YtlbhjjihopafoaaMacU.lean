/- The laws on expansions and derived keys, walked. -/
import Derived.Test.YtlbhjjihopafoaaMacT
namespace Go.Proofs.Ytlbhjjihopafoaa
open Go.RowKit
open Sha
open Mac
attribute [local go_sem] steady steadyUpon Cls by8 by32 by64 str_eq

theorem expands_few (A B : Option Addr) (n m c d : Nat) (key info : List (BitVec 8)) (N : Int) (w : World) (h1 : Pt.ok w ⟨A, n, c, key⟩) (h2 : Pt.ok w ⟨B, m, d, info⟩) (hf : ¬ fewB [⟨A, n, c, key⟩, ⟨B, m, d, info⟩]) :
    Calls Try.prog 10 #[.slice A n c, .slice B m d, .int .i64 N] w fun e w' => e = .returned (.bool true) ∧ Ext w w' := by
  have H1 := hide h1
  have H2 := hide h2
  have Hf := hide hf
  clear h1 h2 hf
  go_enter Try.func10, Try.ntmps10
  go_wp2_with fail
  refine (mlives_any _).mono ?_
  rintro e w1 ⟨rfl, hU1⟩
  go_wp2_with fail
  refine (few_no _ _ _ [⟨A, n, c, key⟩, ⟨B, m, d, info⟩] _ (Pts.two w1 _ ⟨A, n, c, key⟩ ⟨B, m, d, info⟩ (H1.out.ext hU1) (H2.out.ext hU1)) rfl (by simp [maxLen]) Hf.out).mono ?_
  rintro e w2 ⟨rfl, hw⟩
  have hU2 : Ext w w2 := by rw [← hw]; exact hU1.alloc _
  clear hw hU1
  go_wp2_with fail
  refine (mlives_any _).mono ?_
  rintro e w3 ⟨rfl, hU3⟩
  go_wp2_with fail
  go_ret
  exact ⟨rfl, hU2.trans hU3⟩

set_option maxHeartbeats 1000000 in
theorem expands_neg (A B : Option Addr) (n m c d : Nat) (key info : List (BitVec 8)) (N : Int) (w : World) (h1 : Pt.ok w ⟨A, n, c, key⟩) (h2 : Pt.ok w ⟨B, m, d, info⟩) (hf : fewB [⟨A, n, c, key⟩, ⟨B, m, d, info⟩]) (hN : N < 0) :
    Calls Try.prog 10 #[.slice A n c, .slice B m d, .int .i64 N] w fun e w' => e = .returned (.bool true) ∧ Ext w w' := by
  have d1 : ¬ 300 < N := by omega
  have H1 := hide h1
  have H2 := hide h2
  have Hf := hide hf
  clear h1 h2 hf
  go_enter Try.func10, Try.ntmps10
  go_wp2_with fail
  refine (mlives_any _).mono ?_
  rintro e w1 ⟨rfl, hU1⟩
  go_wp2_with fail
  refine (few_yes _ _ _ [⟨A, n, c, key⟩, ⟨B, m, d, info⟩] _ (Pts.two w1 _ ⟨A, n, c, key⟩ ⟨B, m, d, info⟩ (H1.out.ext hU1) (H2.out.ext hU1)) rfl (by simp [maxLen]) Hf.out).mono ?_
  rintro e w2 ⟨rfl, hw⟩
  have hU2 : Ext w w2 := by rw [← hw]; exact hU1.alloc _
  clear hw hU1
  go_wp2_with fail
  refine (expand_no _ _ _ _ _ _ _ _ (by omega)).mono ?_
  rintro e w3 ⟨rfl, rfl⟩
  go_wp2_with fail
  refine (asked_neg _ _ (by omega)).mono ?_
  rintro e w3 ⟨rfl, rfl⟩
  go_wp2_with fail
  go_ret
  exact ⟨rfl, hU2⟩
set_option maxHeartbeats 1000000 in
theorem expands_big (A B : Option Addr) (n m c d : Nat) (key info : List (BitVec 8)) (N : Int) (w : World) (h1 : Pt.ok w ⟨A, n, c, key⟩) (h2 : Pt.ok w ⟨B, m, d, info⟩) (hf : fewB [⟨A, n, c, key⟩, ⟨B, m, d, info⟩]) (hN : 8160 < N) :
    Calls Try.prog 10 #[.slice A n c, .slice B m d, .int .i64 N] w fun e w' => e = .returned (.bool true) ∧ Ext w w' := by
  have d1 : 300 < N := by omega
  have d2 : ¬ N ≤ 8160 := by omega
  have H1 := hide h1
  have H2 := hide h2
  have Hf := hide hf
  clear h1 h2 hf
  go_enter Try.func10, Try.ntmps10
  go_wp2_with fail
  refine (mlives_any _).mono ?_
  rintro e w1 ⟨rfl, hU1⟩
  go_wp2_with fail
  refine (few_yes _ _ _ [⟨A, n, c, key⟩, ⟨B, m, d, info⟩] _ (Pts.two w1 _ ⟨A, n, c, key⟩ ⟨B, m, d, info⟩ (H1.out.ext hU1) (H2.out.ext hU1)) rfl (by simp [maxLen]) Hf.out).mono ?_
  rintro e w2 ⟨rfl, hw⟩
  have hU2 : Ext w w2 := by rw [← hw]; exact hU1.alloc _
  clear hw hU1
  go_wp2_with fail
  refine (expand_long _ _ _ _ _ _ _ _ (by omega)).mono ?_
  rintro e w3 ⟨rfl, rfl⟩
  go_wp2_with fail
  refine (asked_long _ _ (by omega)).mono ?_
  rintro e w3 ⟨rfl, rfl⟩
  go_wp2_with fail
  go_ret
  exact ⟨rfl, hU2⟩

set_option maxRecDepth 100000 in
set_option maxHeartbeats 2000000 in
theorem expands_good (A B : Option Addr) (n m c d : Nat) (key info : List (BitVec 8)) (K : Nat) (w : World) (h1 : Pt.ok w ⟨A, n, c, key⟩) (h2 : Pt.ok w ⟨B, m, d, info⟩) (hf : fewB [⟨A, n, c, key⟩, ⟨B, m, d, info⟩]) (hN : K ≤ 300) :
    Calls Try.prog 10 #[.slice A n c, .slice B m d, .int .i64 K] w fun e w' => e = .returned (.bool true) ∧ Ext w w' := by
  have hn5 : n ≤ 500 := hf 0 (by simp)
  have hm5 : m ≤ 500 := hf 1 (by simp)
  have d1 : ¬ (300 : Int) < (K : Int) := by omega
  have H1 := hide h1
  have H2 := hide h2
  have Hf := hide hf
  clear h1 h2 hf
  go_enter Try.func10, Try.ntmps10
  go_wp2_with fail
  refine (mlives_any _).mono ?_
  rintro e w1 ⟨rfl, hU1⟩
  go_wp2_with fail
  refine (few_yes _ _ _ [⟨A, n, c, key⟩, ⟨B, m, d, info⟩] _ (Pts.two w1 _ ⟨A, n, c, key⟩ ⟨B, m, d, info⟩ (H1.out.ext hU1) (H2.out.ext hU1)) rfl (by simp [maxLen]) Hf.out).mono ?_
  rintro e w2 ⟨rfl, hw⟩
  have hU2 : Ext w w2 := by rw [← hw]; exact hU1.alloc _
  clear hw hU1
  go_wp2_with fail
  refine (expand_any A n c key B m d info K w2 (H1.out.1.ext hU2) H1.out.2.1 H1.out.2.2.1 H1.out.2.2.2 (by omega) (H2.out.1.ext hU2) H2.out.2.1 H2.out.2.2.1 H2.out.2.2.2 (by omega) (by omega)).mono ?_
  rintro e w3 ⟨A3, c3, rfl, hO3, hU3⟩
  have hUw3 := hU2.trans hU3
  have hS3 := hide hO3.sl
  clear hO3
  go_wp2_with fail
  refine (asked_ok _ _ (by omega) (by omega)).mono ?_
  rintro e w4 ⟨rfl, rfl⟩
  go_wp2_with fail
  have hcv := str_cls (c := c3) (hS3.out.ext (Upd.refl _ w3).drew) (expand_length key info K)
  refine wp_region_tree (Ext _) 12 (.q 0 (.q 1 (.q 2 (.q 3 (.q 4 (.q 5 (.q 6 (.q 7 (.l 8 (.q 9 (.q 10 (.q 11 .done)))))))))))) (by kernel_rfl) (by kernel_rfl) (Upd.refl _ _) (fun hne => ?_)
  repeat (refine tree_q rfl (fun K hK => ?_); go_simp; refine hK _ ?_; clear hK K)
  refine tree_l rfl ?_
  go_wp2_with (go_at_call 31; go_must (refine (rexpand_any A n c key B m d info K _ (H1.out.1.ext hUw3.drew) H1.out.2.1 H1.out.2.2.1 H1.out.2.2.2 (by omega) (H2.out.1.ext hUw3.drew) H2.out.2.1 H2.out.2.2.1 H2.out.2.2.2 (by omega) (by omega)).mono ?_); rintro e w5 ⟨A5, c5, rfl, hO5, hU5⟩)
  have hcr := str_cls (c := c5) hO5.sl (expand_length key info K)
  refine ⟨Cls (Ext _), cls_narrow hU5, ⟨⟨_, Upd.refl _ _⟩, rfl⟩, ?_⟩
  repeat (refine tree_q rfl (fun K hK => ?_); go_simp; refine hK _ ?_; clear hK K)
  refine tree_done ?_
  try simp only [List.drop_succ_cons, List.drop_zero]
  go_wp2
  go_ret
  exact ⟨rfl, hUw3.trans hU5.undrew⟩
set_option maxRecDepth 100000 in
set_option maxHeartbeats 2000000 in
theorem expands_mid (A B : Option Addr) (n m c d : Nat) (key info : List (BitVec 8)) (N : Int) (w : World) (h1 : Pt.ok w ⟨A, n, c, key⟩) (h2 : Pt.ok w ⟨B, m, d, info⟩) (hf : fewB [⟨A, n, c, key⟩, ⟨B, m, d, info⟩]) (hN : 300 < N) (hN2 : N ≤ 8160) :
    Calls Try.prog 10 #[.slice A n c, .slice B m d, .int .i64 N] w fun e w' => e = .returned (.bool true) ∧ Ext w w' := by
  have hn5 : n ≤ 500 := hf 0 (by simp)
  have hm5 : m ≤ 500 := hf 1 (by simp)
  have d1 : (300 : Int) < N := by omega
  obtain ⟨K, hK⟩ : ∃ K : Nat, K = 300 := ⟨_, rfl⟩
  have hK2 : (300 : Int) = (K : Int) := by omega
  have HK2 := hide hK2
  have hK3 : K ≤ 300 := by omega
  clear hK hK2
  have H1 := hide h1
  have H2 := hide h2
  have Hf := hide hf
  clear h1 h2 hf
  go_enter Try.func10, Try.ntmps10
  go_wp2_with fail
  refine (mlives_any _).mono ?_
  rintro e w1 ⟨rfl, hU1⟩
  go_wp2_with fail
  refine (few_yes _ _ _ [⟨A, n, c, key⟩, ⟨B, m, d, info⟩] _ (Pts.two w1 _ ⟨A, n, c, key⟩ ⟨B, m, d, info⟩ (H1.out.ext hU1) (H2.out.ext hU1)) rfl (by simp [maxLen]) Hf.out).mono ?_
  rintro e w2 ⟨rfl, hw⟩
  have hU2 : Ext w w2 := by rw [← hw]; exact hU1.alloc _
  clear hw hU1
  go_wp2_with fail
  rw [HK2.out]
  refine (expand_any A n c key B m d info K w2 (H1.out.1.ext hU2) H1.out.2.1 H1.out.2.2.1 H1.out.2.2.2 (by omega) (H2.out.1.ext hU2) H2.out.2.1 H2.out.2.2.1 H2.out.2.2.2 (by omega) (by omega)).mono ?_
  rintro e w3 ⟨A3, c3, rfl, hO3, hU3⟩
  have hUw3 := hU2.trans hU3
  have hS3 := hide hO3.sl
  clear hO3
  go_wp2_with fail
  refine (asked_ok _ _ (by omega) (by omega)).mono ?_
  rintro e w4 ⟨rfl, rfl⟩
  go_wp2_with fail
  have hcv := str_cls (c := c3) (hS3.out.ext (Upd.refl _ w3).drew) (expand_length key info K)
  refine wp_region_tree (Ext _) 12 (.q 0 (.q 1 (.q 2 (.q 3 (.q 4 (.q 5 (.q 6 (.q 7 (.l 8 (.q 9 (.q 10 (.q 11 .done)))))))))))) (by kernel_rfl) (by kernel_rfl) (Upd.refl _ _) (fun hne => ?_)
  repeat (refine tree_q rfl (fun K hK => ?_); go_simp; refine hK _ ?_; clear hK K)
  refine tree_l rfl ?_
  go_wp2_with (go_at_call 31; go_must (refine (rexpand_any A n c key B m d info K _ (H1.out.1.ext hUw3.drew) H1.out.2.1 H1.out.2.2.1 H1.out.2.2.2 (by omega) (H2.out.1.ext hUw3.drew) H2.out.2.1 H2.out.2.2.1 H2.out.2.2.2 (by omega) (by omega)).mono ?_); rintro e w5 ⟨A5, c5, rfl, hO5, hU5⟩)
  have hcr := str_cls (c := c5) hO5.sl (expand_length key info K)
  refine ⟨Cls (Ext _), cls_narrow hU5, ⟨⟨_, Upd.refl _ _⟩, rfl⟩, ?_⟩
  repeat (refine tree_q rfl (fun K hK => ?_); go_simp; refine hK _ ?_; clear hK K)
  refine tree_done ?_
  try simp only [List.drop_succ_cons, List.drop_zero]
  go_wp2
  go_ret
  exact ⟨rfl, hUw3.trans hU5.undrew⟩
theorem mexpands_any (A B : Option Addr) (n m c d : Nat) (key info : List (BitVec 8)) (N : Int) (w : World) (h1 : Pt.ok w ⟨A, n, c, key⟩) (h2 : Pt.ok w ⟨B, m, d, info⟩) :
    Calls Try.prog 10 #[.slice A n c, .slice B m d, .int .i64 N] w fun e w' => e = .returned (.bool true) ∧ Ext w w' := by
  by_cases hf : fewB [⟨A, n, c, key⟩, ⟨B, m, d, info⟩]
  · by_cases hN : N < 0
    · exact expands_neg A B n m c d key info N w h1 h2 hf hN
    · by_cases hN2 : 8160 < N
      · exact expands_big A B n m c d key info N w h1 h2 hf hN2
      · by_cases hN3 : 300 < N
        · exact expands_mid A B n m c d key info N w h1 h2 hf hN3 (by omega)
        · obtain ⟨K, rfl⟩ := Int.eq_ofNat_of_zero_le (show 0 ≤ N by omega)
          exact expands_good A B n m c d key info K w h1 h2 hf (by omega)
  · exact expands_few A B n m c d key info N w h1 h2 hf
end Go.Proofs.Ytlbhjjihopafoaa
