/- The law that any tag is the document's, walked. -/
import Derived.Test.YtlbhjjihopafoaaMacX
import Derived.Test.YtlbhjjihopafoaaMacL
namespace Go.Proofs.Ytlbhjjihopafoaa
open Go.RowKit
open Sha
open Mac
attribute [local go_sem] steady steadyUpon Cls by8 by32 by64 str_eq

theorem tags_long (A B C : Option Addr) (n m l c d f : Nat) (key a b : List (BitVec 8)) (w : World) (h1 : Pt.ok w ⟨A, n, c, key⟩) (h2 : Pt.ok w ⟨B, m, d, a⟩) (h3 : Pt.ok w ⟨C, l, f, b⟩) (hf : ¬ fewB [⟨A, n, c, key⟩, ⟨B, m, d, a⟩, ⟨C, l, f, b⟩]) :
    Calls Try.prog 7 #[.slice A n c, .slice B m d, .slice C l f] w fun e w' => e = .returned (.bool true) ∧ Ext w w' := by
  have H1 := hide h1
  have H2 := hide h2
  have H3 := hide h3
  have Hf := hide hf
  clear h1 h2 h3 hf
  go_enter Try.func7, Try.ntmps7
  go_wp2_with fail
  refine (mlives_any _).mono ?_
  rintro e w1 ⟨rfl, hU1⟩
  go_wp2_with fail
  refine (few_no _ _ _ [⟨A, n, c, key⟩, ⟨B, m, d, a⟩, ⟨C, l, f, b⟩] _ (Pts.three w1 _ ⟨A, n, c, key⟩ ⟨B, m, d, a⟩ ⟨C, l, f, b⟩ (H1.out.ext hU1) (H2.out.ext hU1) (H3.out.ext hU1)) rfl (by simp [maxLen]) Hf.out).mono ?_
  rintro e w2 ⟨rfl, rfl⟩
  go_wp2_with fail
  refine (mlives_any _).mono ?_
  rintro e w2 ⟨rfl, hU2⟩
  go_wp2_with fail
  go_ret
  exact ⟨rfl, (hU1.alloc _).trans hU2⟩

set_option maxRecDepth 100000 in
set_option maxHeartbeats 2000000 in
theorem tags_short (A B C : Option Addr) (n m l c d f : Nat) (key a b : List (BitVec 8)) (w : World) (h1 : Pt.ok w ⟨A, n, c, key⟩) (h2 : Pt.ok w ⟨B, m, d, a⟩) (h3 : Pt.ok w ⟨C, l, f, b⟩) (hf : fewB [⟨A, n, c, key⟩, ⟨B, m, d, a⟩, ⟨C, l, f, b⟩]) :
    Calls Try.prog 7 #[.slice A n c, .slice B m d, .slice C l f] w fun e w' => e = .returned (.bool true) ∧ Ext w w' := by
  have hn5 : n ≤ 500 := hf 0 (by simp)
  have hm5 : m ≤ 500 := hf 1 (by simp)
  have hl5 : l ≤ 500 := hf 2 (by simp)
  have H1 := hide h1
  have H2 := hide h2
  have H3 := hide h3
  have Hf := hide hf
  clear h1 h2 h3 hf
  go_enter Try.func7, Try.ntmps7
  go_wp2_with fail
  refine (mlives_any _).mono ?_
  rintro e w1 ⟨rfl, hU1⟩
  go_wp2_with fail
  refine (few_yes _ _ _ [⟨A, n, c, key⟩, ⟨B, m, d, a⟩, ⟨C, l, f, b⟩] _ (Pts.three w1 _ ⟨A, n, c, key⟩ ⟨B, m, d, a⟩ ⟨C, l, f, b⟩ (H1.out.ext hU1) (H2.out.ext hU1) (H3.out.ext hU1)) rfl (by simp [maxLen]) Hf.out).mono ?_
  rintro e w2 ⟨rfl, hw⟩
  have hU2 : Ext w w2 := by rw [← hw]; exact hU1.alloc _
  clear hw hU1
  go_wp2_with (at_builtin; go_must (refine wpList_apd by8 one8 Try.el8 [] key key n rfl H1.out.2.1 (by omega) (by unfold maxLen; omega) rfl rfl rfl rfl (rep_nil _ (Nat.le_refl _)) rfl H1.out.2.1 (H1.out.1.ext (hU2.alloc _)) (by simp) ?_); intro A3 c3 w3 hO3 hU3 hin3; have hU3' := upd_new (w0 := w2) hU3 ((Upd.refl _ _).alloc _) (fun i hi => by simp [inA] at hi; omega))
  have hp3 := hide (hO3.pt H1.out.2.1)
  have hUw3 := hU2.trans hU3'
  clear hO3 hU3 hin3 hU3' hU2
  refine (tag_any A3 n c3 key _ 2 2 [⟨B, m, d, a⟩, ⟨C, l, f, b⟩] _ (hp3.out.1.ext ((Upd.refl _ _).alloc _)) hp3.out.2.1 hp3.out.2.2.1 hp3.out.2.2.2 (by omega) (Pts.two w3 _ ⟨B, m, d, a⟩ ⟨C, l, f, b⟩ (H2.out.ext hUw3) (H3.out.ext hUw3)) rfl (by rw [flat2]; simp only; rw [List.length_append, H2.out.2.1, H3.out.2.1]; simp only; omega) (by simp [maxLen])).mono ?_
  rintro e w4 ⟨A4, c4, rfl, hO4, hU4⟩
  rw [flat2] at hO4
  have hUw4 : Ext w w4 := hUw3.trans (((Upd.refl _ _).alloc _).trans hU4)
  have hp4 := hide (hO4.pt (tag_length key (a ++ b)))
  have hp3' := hide (hp3.out.ext (((Upd.refl _ w3).alloc _).trans hU4))
  clear hO4 hp3 hU4
  go_wp2_with fail
  have hcv := str_cls (c := c4) (hp4.out.1.ext (Upd.refl _ w4).drew) (tag_length key (a ++ b))
  refine wp_region_tree (Ext _) 17 (.q 0 (.q 1 (.q 2 (.q 3 (.q 4 (.l 5 (.l 6 (.l 7 (.q 8 (.q 9 (.q 10 (.q 11 (.q 12 (.q 13 (.q 14 (.q 15 (.q 16 .done))))))))))))))))) (by kernel_rfl) (by kernel_rfl) (Upd.refl _ _) (fun hne => ?_)
  repeat (refine tree_q rfl (fun K hK => ?_); go_simp; refine hK _ ?_; clear hK K)
  refine tree_l rfl ?_
  go_wp2_with fail
  refine ⟨_, fun _ h => h, ⟨⟨_, ((Upd.refl _ w4.drew).alloc _)⟩, rfl⟩, ?_⟩
  repeat (refine tree_q rfl (fun K hK => ?_); go_simp; refine hK _ ?_; clear hK K)
  have hW := (Upd.refl (fun _ => False) w4.drew).alloc (.cells #[.slice B m d, .slice C l f] 22)
  refine tree_l rfl ?_
  go_wp2_with (go_at_call 27; go_must (refine (join_any _ 2 2 [⟨B, m, d, a⟩, ⟨C, l, f, b⟩] (m + l) _ (Pts.two w4.drew _ ⟨B, m, d, a⟩ ⟨C, l, f, b⟩ (H2.out.ext hUw4.drew) (H3.out.ext hUw4.drew)) rfl (by rw [flat2, List.length_append, H2.out.2.1, H3.out.2.1]) (by omega) (by simp [maxLen])).mono ?_); rintro e w5 ⟨A5, c5, rfl, hO5, hU5⟩)
  rw [flat2] at hO5
  have hp5 := hide (hO5.pt (n := m + l) (by rw [List.length_append, H2.out.2.1, H3.out.2.1]))
  have hW5 := hW.trans hU5
  refine ⟨_, fun _ h => h, ⟨⟨_, hW5⟩, rfl⟩, ?_⟩
  repeat (refine tree_q rfl (fun K hK => ?_); go_simp; refine hK _ ?_; clear hK K)
  refine tree_l rfl ?_
  go_wp2_with (go_at_call 26; go_must (refine (rtag_any A n c key A5 (m + l) c5 (a ++ b) _ (H1.out.1.ext (hUw4.drew.trans hW5)) H1.out.2.1 H1.out.2.2.1 H1.out.2.2.2 (by omega) hp5.out.1 hp5.out.2.1 hp5.out.2.2.1 hp5.out.2.2.2 (by omega)).mono ?_); rintro e w6 ⟨A6, c6, rfl, hO6, hU6⟩)
  have hW6 := hW5.trans hU6
  have hcr := str_cls (c := c6) hO6.sl (tag_length key (a ++ b))
  have hco := str_cls (c := c3) (hp3'.out.1.ext (hW6.undrew)) hp3'.out.2.1
  have hck := str_cls (c := c) (H1.out.1.ext (hUw4.drew.trans hW6)) H1.out.2.1
  refine ⟨Cls (Ext _), cls_narrow hW6, ⟨⟨_, Upd.refl _ _⟩, rfl⟩, ?_⟩
  repeat (refine tree_q rfl (fun K hK => ?_); go_simp; refine hK _ ?_; clear hK K)
  refine tree_done ?_
  try simp only [List.drop_succ_cons, List.drop_zero]
  go_wp2
  go_ret
  exact ⟨rfl, hUw4.trans hW6.undrew⟩

theorem mtags_any (A B C : Option Addr) (n m l c d f : Nat) (key a b : List (BitVec 8)) (w : World) (h1 : Pt.ok w ⟨A, n, c, key⟩) (h2 : Pt.ok w ⟨B, m, d, a⟩) (h3 : Pt.ok w ⟨C, l, f, b⟩) :
    Calls Try.prog 7 #[.slice A n c, .slice B m d, .slice C l f] w fun e w' => e = .returned (.bool true) ∧ Ext w w' := by
  by_cases hf : fewB [⟨A, n, c, key⟩, ⟨B, m, d, a⟩, ⟨C, l, f, b⟩]
  · exact tags_short A B C n m l c d f key a b w h1 h2 h3 hf
  · exact tags_long A B C n m l c d f key a b w h1 h2 h3 hf
end Go.Proofs.Ytlbhjjihopafoaa
