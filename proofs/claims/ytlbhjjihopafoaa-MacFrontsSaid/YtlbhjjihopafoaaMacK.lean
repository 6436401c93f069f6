/- The law on the fronts of expansions, walked. -/
import Derived.Test.YtlbhjjihopafoaaMacV
import Derived.Test.YtlbhjjihopafoaaFacts
namespace Go.Proofs.Ytlbhjjihopafoaa
open Go.RowKit
open Sha
open Mac
attribute [local go_sem] steady steadyUpon Cls by8 by32 by64 str_eq

set_option maxRecDepth 100000 in
set_option maxHeartbeats 4000000 in
theorem fronts_good_far (A B : Option Addr) (n m c d : Nat) (key info : List (BitVec 8)) (N M : Int) (K L : Nat) (w : World) (h1 : Pt.ok w ⟨A, n, c, key⟩) (h2 : Pt.ok w ⟨B, m, d, info⟩) (hf : fewB [⟨A, n, c, key⟩, ⟨B, m, d, info⟩]) (hK : (IntKind.u64.wrap N).tmod 300 = (K : Int)) (hK2 : K < 300) (hL : (IntKind.u64.wrap M).tmod 300 = (L : Int)) (hL2 : L < 300) (hKL : K < L) (h64 : ¬ n < 64) :
    Calls Try.prog 11 #[.slice A n c, .slice B m d, .int .i64 N, .int .i64 M] w fun e w' => e = .returned (.bool true) ∧ Ext w w' := by
  have hLK : ¬ L < K := by omega
  have h64' : (64 : Int) ≤ (n : Int) := by omega
  have hn5 : n ≤ 500 := hf 0 (by simp)
  have hm5 : m ≤ 500 := hf 1 (by simp)
  have H1 := hide h1
  have H2 := hide h2
  have Hf := hide hf
  clear h1 h2 hf
  go_enter Try.func11, Try.ntmps11
  go_wp2_with fail
  refine (mlives_any _).mono ?_
  rintro e w1 ⟨rfl, hU1⟩
  go_wp2_with fail
  refine (few_yes _ _ _ [⟨A, n, c, key⟩, ⟨B, m, d, info⟩] _ (Pts.two w1 _ ⟨A, n, c, key⟩ ⟨B, m, d, info⟩ (H1.out.ext hU1) (H2.out.ext hU1)) rfl (by simp [maxLen]) Hf.out).mono ?_
  rintro e w2 ⟨rfl, hw⟩
  have hU2 : Ext w w2 := by rw [← hw]; exact hU1.alloc _
  clear hw hU1
  go_wp2_with fail
  clear hK hL
  refine (expand_any A n c key B m d info K w2 (H1.out.1.ext hU2) H1.out.2.1 H1.out.2.2.1 H1.out.2.2.2 (by omega) (H2.out.1.ext hU2) H2.out.2.1 H2.out.2.2.1 H2.out.2.2.2 (by omega) (by omega)).mono ?_
  rintro e w3 ⟨A3, c3, rfl, hO3, hU3⟩
  have hUw3 := hU2.trans hU3
  have hO3' := hide hO3
  clear hO3
  go_wp2_with fail
  refine (expand_any A n c key B m d info L w3 (H1.out.1.ext hUw3) H1.out.2.1 H1.out.2.2.1 H1.out.2.2.2 (by omega) (H2.out.1.ext hUw3) H2.out.2.1 H2.out.2.2.1 H2.out.2.2.2 (by omega) (by omega)).mono ?_
  rintro e w4 ⟨A4, c4, rfl, hO4, hU4⟩
  have hUw4 := hUw3.trans hU4
  have hcap4 : L ≤ c4 := by have := hO4.1; rw [List.length_map, expand_length] at this; exact this
  have hS3 := hide (hO3'.out.sl.ext hU4)
  have hS4 := hide (hO4.sl.take K)
  clear hO4 hU3 hU4 hO3'
  go_wp2_with fail
  have hcv3 := str_cls (c := c3) (hS3.out.ext (Upd.refl _ w4).drew) (expand_length key info K)
  have hcv4 := str_cls (c := c4) (n := K) (hS4.out.ext (Upd.refl _ w4).drew) (by rw [List.length_take, expand_length]; omega)
  rw [expand_take key info K L (by omega)] at hcv4
  have hs1 := run_cut_h (P := Try.prog) Try.under_bs Try.sz8 A4 L c4 K .i64 (by omega)
  refine wp_region_tree (Ext _) 24 (.q 0 (.q 1 (.q 2 (.q 3 (.q 4 (.q 5 (.q 6 (.q 7 (.q 8 (.q 9 (.q 10 (.q 11 (.q 12 (.q 13 (.q 14 (.q 15 (.q 16 (.q 17 (.q 18 (.q 19 (.q 20 (.q 21 (.q 22 (.q 23 .done)))))))))))))))))))))))) (by kernel_rfl) (by kernel_rfl) (Upd.refl _ _) (fun hne => ?_)
  repeat (refine tree_q rfl (fun K hK => ?_); go_simp; refine hK _ ?_; clear hK K)
  refine tree_done ?_
  try simp only [List.drop_succ_cons, List.drop_zero]
  go_wp2
  go_ret
  exact ⟨rfl, hUw4.drew⟩
set_option maxRecDepth 100000 in
set_option maxHeartbeats 4000000 in
theorem fronts_swap_far (A B : Option Addr) (n m c d : Nat) (key info : List (BitVec 8)) (N M : Int) (K L : Nat) (w : World) (h1 : Pt.ok w ⟨A, n, c, key⟩) (h2 : Pt.ok w ⟨B, m, d, info⟩) (hf : fewB [⟨A, n, c, key⟩, ⟨B, m, d, info⟩]) (hK : (IntKind.u64.wrap N).tmod 300 = (L : Int)) (hK2 : K < 300) (hL : (IntKind.u64.wrap M).tmod 300 = (K : Int)) (hL2 : L < 300) (hKL : K < L) (h64 : ¬ n < 64) :
    Calls Try.prog 11 #[.slice A n c, .slice B m d, .int .i64 N, .int .i64 M] w fun e w' => e = .returned (.bool true) ∧ Ext w w' := by
  have hLK : ¬ L < K := by omega
  have h64' : (64 : Int) ≤ (n : Int) := by omega
  have hn5 : n ≤ 500 := hf 0 (by simp)
  have hm5 : m ≤ 500 := hf 1 (by simp)
  have H1 := hide h1
  have H2 := hide h2
  have Hf := hide hf
  clear h1 h2 hf
  go_enter Try.func11, Try.ntmps11
  go_wp2_with fail
  refine (mlives_any _).mono ?_
  rintro e w1 ⟨rfl, hU1⟩
  go_wp2_with fail
  refine (few_yes _ _ _ [⟨A, n, c, key⟩, ⟨B, m, d, info⟩] _ (Pts.two w1 _ ⟨A, n, c, key⟩ ⟨B, m, d, info⟩ (H1.out.ext hU1) (H2.out.ext hU1)) rfl (by simp [maxLen]) Hf.out).mono ?_
  rintro e w2 ⟨rfl, hw⟩
  have hU2 : Ext w w2 := by rw [← hw]; exact hU1.alloc _
  clear hw hU1
  go_wp2_with fail
  clear hK hL
  refine (expand_any A n c key B m d info K w2 (H1.out.1.ext hU2) H1.out.2.1 H1.out.2.2.1 H1.out.2.2.2 (by omega) (H2.out.1.ext hU2) H2.out.2.1 H2.out.2.2.1 H2.out.2.2.2 (by omega) (by omega)).mono ?_
  rintro e w3 ⟨A3, c3, rfl, hO3, hU3⟩
  have hUw3 := hU2.trans hU3
  have hO3' := hide hO3
  clear hO3
  go_wp2_with fail
  refine (expand_any A n c key B m d info L w3 (H1.out.1.ext hUw3) H1.out.2.1 H1.out.2.2.1 H1.out.2.2.2 (by omega) (H2.out.1.ext hUw3) H2.out.2.1 H2.out.2.2.1 H2.out.2.2.2 (by omega) (by omega)).mono ?_
  rintro e w4 ⟨A4, c4, rfl, hO4, hU4⟩
  have hUw4 := hUw3.trans hU4
  have hcap4 : L ≤ c4 := by have := hO4.1; rw [List.length_map, expand_length] at this; exact this
  have hS3 := hide (hO3'.out.sl.ext hU4)
  have hS4 := hide (hO4.sl.take K)
  clear hO4 hU3 hU4 hO3'
  go_wp2_with fail
  have hcv3 := str_cls (c := c3) (hS3.out.ext (Upd.refl _ w4).drew) (expand_length key info K)
  have hcv4 := str_cls (c := c4) (n := K) (hS4.out.ext (Upd.refl _ w4).drew) (by rw [List.length_take, expand_length]; omega)
  rw [expand_take key info K L (by omega)] at hcv4
  have hs1 := run_cut_h (P := Try.prog) Try.under_bs Try.sz8 A4 L c4 K .i64 (by omega)
  refine wp_region_tree (Ext _) 24 (.q 0 (.q 1 (.q 2 (.q 3 (.q 4 (.q 5 (.q 6 (.q 7 (.q 8 (.q 9 (.q 10 (.q 11 (.q 12 (.q 13 (.q 14 (.q 15 (.q 16 (.q 17 (.q 18 (.q 19 (.q 20 (.q 21 (.q 22 (.q 23 .done)))))))))))))))))))))))) (by kernel_rfl) (by kernel_rfl) (Upd.refl _ _) (fun hne => ?_)
  repeat (refine tree_q rfl (fun K hK => ?_); go_simp; refine hK _ ?_; clear hK K)
  refine tree_done ?_
  try simp only [List.drop_succ_cons, List.drop_zero]
  go_wp2
  go_ret
  exact ⟨rfl, hUw4.drew⟩
set_option maxRecDepth 100000 in
set_option maxHeartbeats 4000000 in
theorem fronts_same_far (A B : Option Addr) (n m c d : Nat) (key info : List (BitVec 8)) (N M : Int) (K : Nat) (w : World) (h1 : Pt.ok w ⟨A, n, c, key⟩) (h2 : Pt.ok w ⟨B, m, d, info⟩) (hf : fewB [⟨A, n, c, key⟩, ⟨B, m, d, info⟩]) (hK : (IntKind.u64.wrap N).tmod 300 = (K : Int)) (hK2 : K < 300) (hL : (IntKind.u64.wrap M).tmod 300 = (K : Int)) (h64 : ¬ n < 64) :
    Calls Try.prog 11 #[.slice A n c, .slice B m d, .int .i64 N, .int .i64 M] w fun e w' => e = .returned (.bool true) ∧ Ext w w' := by
  have hLK : ¬ K < K := by omega
  have h64' : (64 : Int) ≤ (n : Int) := by omega
  have hn5 : n ≤ 500 := hf 0 (by simp)
  have hm5 : m ≤ 500 := hf 1 (by simp)
  have H1 := hide h1
  have H2 := hide h2
  have Hf := hide hf
  clear h1 h2 hf
  go_enter Try.func11, Try.ntmps11
  go_wp2_with fail
  refine (mlives_any _).mono ?_
  rintro e w1 ⟨rfl, hU1⟩
  go_wp2_with fail
  refine (few_yes _ _ _ [⟨A, n, c, key⟩, ⟨B, m, d, info⟩] _ (Pts.two w1 _ ⟨A, n, c, key⟩ ⟨B, m, d, info⟩ (H1.out.ext hU1) (H2.out.ext hU1)) rfl (by simp [maxLen]) Hf.out).mono ?_
  rintro e w2 ⟨rfl, hw⟩
  have hU2 : Ext w w2 := by rw [← hw]; exact hU1.alloc _
  clear hw hU1
  go_wp2_with fail
  clear hK hL
  refine (expand_any A n c key B m d info K w2 (H1.out.1.ext hU2) H1.out.2.1 H1.out.2.2.1 H1.out.2.2.2 (by omega) (H2.out.1.ext hU2) H2.out.2.1 H2.out.2.2.1 H2.out.2.2.2 (by omega) (by omega)).mono ?_
  rintro e w3 ⟨A3, c3, rfl, hO3, hU3⟩
  have hUw3 := hU2.trans hU3
  have hO3' := hide hO3
  clear hO3
  go_wp2_with fail
  refine (expand_any A n c key B m d info K w3 (H1.out.1.ext hUw3) H1.out.2.1 H1.out.2.2.1 H1.out.2.2.2 (by omega) (H2.out.1.ext hUw3) H2.out.2.1 H2.out.2.2.1 H2.out.2.2.2 (by omega) (by omega)).mono ?_
  rintro e w4 ⟨A4, c4, rfl, hO4, hU4⟩
  have hUw4 := hUw3.trans hU4
  have hcap4 : K ≤ c4 := by have := hO4.1; rw [List.length_map, expand_length] at this; exact this
  have hS3 := hide (hO3'.out.sl.ext hU4)
  have hS4 := hide (hO4.sl.take K)
  clear hO4 hU3 hU4 hO3'
  go_wp2_with fail
  have hcv3 := str_cls (c := c3) (hS3.out.ext (Upd.refl _ w4).drew) (expand_length key info K)
  have hcv4 := str_cls (c := c4) (n := K) (hS4.out.ext (Upd.refl _ w4).drew) (by rw [List.length_take, expand_length]; omega)
  rw [expand_take key info K K (by omega)] at hcv4
  have hs1 := run_cut_h (P := Try.prog) Try.under_bs Try.sz8 A4 K c4 K .i64 (by omega)
  refine wp_region_tree (Ext _) 24 (.q 0 (.q 1 (.q 2 (.q 3 (.q 4 (.q 5 (.q 6 (.q 7 (.q 8 (.q 9 (.q 10 (.q 11 (.q 12 (.q 13 (.q 14 (.q 15 (.q 16 (.q 17 (.q 18 (.q 19 (.q 20 (.q 21 (.q 22 (.q 23 .done)))))))))))))))))))))))) (by kernel_rfl) (by kernel_rfl) (Upd.refl _ _) (fun hne => ?_)
  repeat (refine tree_q rfl (fun K hK => ?_); go_simp; refine hK _ ?_; clear hK K)
  refine tree_done ?_
  try simp only [List.drop_succ_cons, List.drop_zero]
  go_wp2
  go_ret
  exact ⟨rfl, hUw4.drew⟩
end Go.Proofs.Ytlbhjjihopafoaa
