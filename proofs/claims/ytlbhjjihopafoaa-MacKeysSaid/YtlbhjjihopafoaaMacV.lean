/- The law on derived keys, walked. -/
import Derived.Test.YtlbhjjihopafoaaMacU
namespace Go.Proofs.Ytlbhjjihopafoaa
open Go.RowKit
open Sha
open Mac
attribute [local go_sem] steady steadyUpon Cls by8 by32 by64 str_eq

theorem derives_few (A B C : Option Addr) (n m l c d f : Nat) (salt sec info : List (BitVec 8)) (N : Int) (w : World) (h1 : Pt.ok w ⟨A, n, c, salt⟩) (h2 : Pt.ok w ⟨B, m, d, sec⟩) (h3 : Pt.ok w ⟨C, l, f, info⟩) (hf : ¬ fewB [⟨A, n, c, salt⟩, ⟨B, m, d, sec⟩, ⟨C, l, f, info⟩]) :
    Calls Try.prog 12 #[.slice A n c, .slice B m d, .slice C l f, .int .i64 N] w fun e w' => e = .returned (.bool true) ∧ Ext w w' := by
  have H1 := hide h1
  have H2 := hide h2
  have H3 := hide h3
  have Hf := hide hf
  clear h1 h2 h3 hf
  go_enter Try.func12, Try.ntmps12
  go_wp2_with fail
  refine (mlives_any _).mono ?_
  rintro e w1 ⟨rfl, hU1⟩
  go_wp2_with fail
  refine (few_no _ _ _ [⟨A, n, c, salt⟩, ⟨B, m, d, sec⟩, ⟨C, l, f, info⟩] _ (Pts.three w1 _ ⟨A, n, c, salt⟩ ⟨B, m, d, sec⟩ ⟨C, l, f, info⟩ (H1.out.ext hU1) (H2.out.ext hU1) (H3.out.ext hU1)) rfl (by simp [maxLen]) Hf.out).mono ?_
  rintro e w2 ⟨rfl, hw⟩
  have hU2 : Ext w w2 := by rw [← hw]; exact hU1.alloc _
  clear hw hU1
  go_wp2_with fail
  refine (mlives_any _).mono ?_
  rintro e w3 ⟨rfl, hU3⟩
  go_wp2_with fail
  go_ret
  exact ⟨rfl, hU2.trans hU3⟩

set_option maxRecDepth 100000 in
set_option maxHeartbeats 4000000 in
theorem derives_good (A B C : Option Addr) (n m l c d f : Nat) (salt sec info : List (BitVec 8)) (N : Int) (K : Nat) (w : World) (h1 : Pt.ok w ⟨A, n, c, salt⟩) (h2 : Pt.ok w ⟨B, m, d, sec⟩) (h3 : Pt.ok w ⟨C, l, f, info⟩) (hf : fewB [⟨A, n, c, salt⟩, ⟨B, m, d, sec⟩, ⟨C, l, f, info⟩]) (hK : (IntKind.u64.wrap N).tmod 200 = (K : Int)) (hK2 : K < 200) :
    Calls Try.prog 12 #[.slice A n c, .slice B m d, .slice C l f, .int .i64 N] w fun e w' => e = .returned (.bool true) ∧ Ext w w' := by
  have hn5 : n ≤ 500 := hf 0 (by simp)
  have hm5 : m ≤ 500 := hf 1 (by simp)
  have hl5 : l ≤ 500 := hf 2 (by simp)
  have H1 := hide h1
  have H2 := hide h2
  have H3 := hide h3
  have Hf := hide hf
  clear h1 h2 h3 hf
  go_enter Try.func12, Try.ntmps12
  go_wp2_with fail
  refine (mlives_any _).mono ?_
  rintro e w1 ⟨rfl, hU1⟩
  go_wp2_with fail
  refine (few_yes _ _ _ [⟨A, n, c, salt⟩, ⟨B, m, d, sec⟩, ⟨C, l, f, info⟩] _ (Pts.three w1 _ ⟨A, n, c, salt⟩ ⟨B, m, d, sec⟩ ⟨C, l, f, info⟩ (H1.out.ext hU1) (H2.out.ext hU1) (H3.out.ext hU1)) rfl (by simp [maxLen]) Hf.out).mono ?_
  rintro e w2 ⟨rfl, hw⟩
  have hU2 : Ext w w2 := by rw [← hw]; exact hU1.alloc _
  clear hw hU1
  go_wp2_with fail
  clear hK
  refine (derive_any A n c salt B m d sec C l f info K w2 (H1.out.1.ext hU2) H1.out.2.1 H1.out.2.2.1 H1.out.2.2.2 (by omega) (H2.out.1.ext hU2) H2.out.2.1 H2.out.2.2.1 H2.out.2.2.2 (by omega) (H3.out.1.ext hU2) H3.out.2.1 H3.out.2.2.1 H3.out.2.2.2 (by omega) (by omega)).mono ?_
  rintro e w3 ⟨A3, c3, rfl, hO3, hU3⟩
  have hUw3 := hU2.trans hU3
  have hS3 := hide hO3.sl
  clear hO3
  go_wp2_with fail
  have hcv := str_cls (c := c3) (hS3.out.ext (Upd.refl _ w3).drew) (expand_length (tag salt sec) info K)
  refine wp_region_tree (Ext _) 24 (.q 0 (.q 1 (.q 2 (.q 3 (.q 4 (.q 5 (.q 6 (.q 7 (.q 8 (.l 9 (.q 10 (.q 11 (.q 12 (.q 13 (.q 14 (.q 15 (.q 18 (.q 19 (.l 16 (.q 17 (.l 20 (.q 21 (.q 22 (.q 23 .done)))))))))))))))))))))))) (by kernel_rfl) (by kernel_rfl) (Upd.refl _ _) (fun hne => ?_)
  repeat (refine tree_q rfl (fun K hK => ?_); go_simp; refine hK _ ?_; clear hK K)
  refine tree_l rfl ?_
  go_wp2_with (go_at_call 33; go_must (refine (rderive_any A n c salt B m d sec C l f info K _ (H1.out.1.ext hUw3.drew) H1.out.2.1 H1.out.2.2.1 H1.out.2.2.2 (by omega) (H2.out.1.ext hUw3.drew) H2.out.2.1 H2.out.2.2.1 H2.out.2.2.2 (by omega) (H3.out.1.ext hUw3.drew) H3.out.2.1 H3.out.2.2.1 H3.out.2.2.2 (by omega) (by omega)).mono ?_); rintro e w5 ⟨A5, c5, rfl, hO5, hU5⟩)
  have hcr := str_cls (c := c5) hO5.sl (expand_length (tag salt sec) info K)
  have hW := hUw3.drew.trans hU5
  refine ⟨Cls (Ext _), cls_narrow hU5, ⟨⟨_, Upd.refl _ _⟩, rfl⟩, ?_⟩
  repeat (refine tree_q rfl (fun K hK => ?_); go_simp; refine hK _ ?_; clear hK K)
  refine tree_l rfl ?_
  go_wp2_with (go_at_call 34; go_must (refine (extract_any A n c salt B m d sec _ (H1.out.1.ext hW) H1.out.2.1 H1.out.2.2.1 H1.out.2.2.2 (by omega) (H2.out.1.ext hW) H2.out.2.1 H2.out.2.2.1 H2.out.2.2.2 (by omega)).mono ?_); rintro e w6 ⟨A6, c6, rfl, hO6, hU6⟩)
  have hcs := str_cls (c := c6) hO6.sl (tag_length salt sec)
  have hW := hW.trans hU6
  refine ⟨Cls (Ext _), cls_narrow hU6, ⟨⟨_, Upd.refl _ _⟩, rfl⟩, ?_⟩
  repeat (refine tree_q rfl (fun K hK => ?_); go_simp; refine hK _ ?_; clear hK K)
  refine tree_l rfl ?_
  go_wp2_with (go_at_call 26; go_must (refine (rtag_any A n c salt B m d sec _ (H1.out.1.ext hW) H1.out.2.1 H1.out.2.2.1 H1.out.2.2.2 (by omega) (H2.out.1.ext hW) H2.out.2.1 H2.out.2.2.1 H2.out.2.2.2 (by omega)).mono ?_); rintro e w7 ⟨A7, c7, rfl, hO7, hU7⟩)
  have hct := str_cls (c := c7) hO7.sl (tag_length salt sec)
  have hW := hW.trans hU7
  refine ⟨Cls (Ext _), cls_narrow hU7, ⟨⟨_, Upd.refl _ _⟩, rfl⟩, ?_⟩
  repeat (refine tree_q rfl (fun K hK => ?_); go_simp; refine hK _ ?_; clear hK K)
  refine tree_done ?_
  try simp only [List.drop_succ_cons, List.drop_zero]
  go_wp2
  go_ret
  exact ⟨rfl, hW⟩
theorem u64_mod (N : Int) (q : Nat) (hq : 0 < q) : ∃ K : Nat, (IntKind.u64.wrap N).tmod q = (K : Int) ∧ K < q := by
  have hw0 : 0 ≤ IntKind.u64.wrap N := by
    unfold IntKind.wrap
    simp [IntKind.signed, IntKind.bits]
    omega
  obtain ⟨x, hx⟩ := Int.eq_ofNat_of_zero_le hw0
  refine ⟨x % q, ?_, Nat.mod_lt _ hq⟩
  rw [hx, Int.tmod_eq_emod_of_nonneg (by omega)]
  rfl
theorem mderives_any (A B C : Option Addr) (n m l c d f : Nat) (salt sec info : List (BitVec 8)) (N : Int) (w : World) (h1 : Pt.ok w ⟨A, n, c, salt⟩) (h2 : Pt.ok w ⟨B, m, d, sec⟩) (h3 : Pt.ok w ⟨C, l, f, info⟩) :
    Calls Try.prog 12 #[.slice A n c, .slice B m d, .slice C l f, .int .i64 N] w fun e w' => e = .returned (.bool true) ∧ Ext w w' := by
  by_cases hf : fewB [⟨A, n, c, salt⟩, ⟨B, m, d, sec⟩, ⟨C, l, f, info⟩]
  · obtain ⟨K, hK, hK2⟩ := u64_mod N 200 (by omega)
    exact derives_good A B C n m l c d f salt sec info N K w h1 h2 h3 hf hK hK2
  · exact derives_few A B C n m l c d f salt sec info N w h1 h2 h3 hf
end Go.Proofs.Ytlbhjjihopafoaa
