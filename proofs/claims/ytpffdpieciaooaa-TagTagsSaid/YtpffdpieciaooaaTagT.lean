/- The law TagTags, walked: any message's tag under any key is the document's. -/
import Derived.Test.YtpffdpieciaooaaTagN
import Derived.Test.YtpffdpieciaooaaTagQ
namespace Go.Proofs.Ytpffdpieciaooaa
set_option linter.unusedSimpArgs false
set_option linter.unusedVariables false
open Go.RowKit
open Nt
attribute [local go_sem] steady steadyUpon Cls same_cell by8 anyW
attribute [local irreducible] wpHead wpTree
theorem ttags_long (A B : Option Addr) (n c m d : Nat) (w : World) (h : 300 < m) :
    Calls Try.prog 3 #[.slice A n c, .slice B m d] w fun e w' => e = .returned (.bool true) ∧ Ext w w' := by
  have h1 : (300 : Int) < (m : Int) := by omega
  go_enter Try.func3, Try.ntmps3
  go_wp2_with fail
  refine (tlives_any _).mono ?_
  rintro e w1 ⟨rfl, hU1⟩
  go_wp2_with fail
  refine (tlives_any _).mono ?_
  rintro e w2 ⟨rfl, hU2⟩
  go_wp2_with fail
  go_ret
  exact ⟨rfl, hU1.trans hU2⟩
set_option maxRecDepth 100000 in
set_option maxHeartbeats 2000000 in
theorem ttags_main (A B : Option Addr) (n c m d : Nat) (key b : List (BitVec 8)) (w : World) (h1 : Bi w A n c key) (h2 : Bi w B m d b) (hr : c ≤ 140737488351232) (hm : m ≤ 300) :
    Calls Try.prog 3 #[.slice A n c, .slice B m d] w fun e w' => e = .returned (.bool true) ∧ Ext w w' := by
  have H1 := hide h1
  have H2 := hide h2
  have hnm : n ≤ 140737488351232 := Nat.le_trans h1.2.1 hr
  clear h1 h2
  have hm' : ¬ (300 : Int) < (m : Int) := by omega
  go_enter Try.func3, Try.ntmps3
  go_wp2_with fail
  refine (tlives_any _).mono ?_
  rintro e w1 ⟨rfl, hU1⟩
  go_wp2_with (at_builtin; go_must (refine wpList_apd by8 one8 Try.n_el8 [] key key n rfl H1.out.1 (by omega) (by unfold maxLen; omega) rfl rfl rfl rfl (own_none8 w1 (B := w1.heap.size) (Nat.le_refl _)) rfl H1.out.1 ((H1.out.2.2.2.ext hU1).ext ((Upd.refl _ _).alloc _)) (by simp) ?_); intro A2 c2 w2 hO2 hU2 hin2)
  have hE2 : Ext w w2 := hU1.trans (Upd.fresh hU2 ((Upd.refl _ _).alloc _) (fun k hk => by unfold inA at hk; simp at hk; omega))
  have hS2 := hO2.sl
  have hc2 := hO2.cap.1
  rw [List.length_map, H1.out.1] at hc2
  clear hO2 hU2 hin2
  by_cases h32 : n = 32
  · subst h32
    refine (tag_any A2 B c2 m d key b _ H1.out.1 H2.out.1 hc2 H2.out.2.1 (by omega) hS2 (H2.out.2.2.2.ext hE2)).mono ?_
    rintro e w4 ⟨A4, rfl, hS4, hU4⟩
    have hE4 := hE2.trans hU4
    have ht : (tagOf key b).length = 16 := tagOf_length _ _
    have hcv := nstr_cls (c := 16) (hS4.ext (Upd.refl _ w4).drew) ht
    go_wp2_with fail
    refine wp_region_plan (Ext _) 18 [(false,0), (false,1), (false,2), (false,3), (false,4), (false,5), (false,6), (true,7), (false,8), (false,9), (false,10), (false,11), (false,12), (false,13), (false,14), (false,15), (false,16), (false,17)] (by kernel_rfl) (by kernel_rfl) (Upd.refl _ _) (fun hne => ?_)
    repeat (refine head_q rfl (fun K hK => ?_); have hK2 := hide hK; clear hK; go_simp; refine hK2.out _ ?_; clear hK2 K)
    refine head_l rfl ?_
    go_wp2_with (go_at_call 17; go_must (refine (rtag_any A B c m d key b _ H1.out.1 H2.out.1 H1.out.2.1 H2.out.2.1 (by omega) (H1.out.2.2.2.ext hE4.drew) (H2.out.2.2.2.ext hE4.drew)).mono ?_); rintro e w5 ⟨A5, c5, rfl, hS5, hU5⟩)
    refine ⟨Cls (Ext _), cls_narrow hU5, ⟨⟨_, Upd.refl _ _⟩, rfl⟩, ?_⟩
    have hE5 := hE4.drew.trans hU5
    have hcr := nstr_cls (c := c5) hS5 ht
    have hco := nstr_cls (c := c2) ((hS2.ext hU4.drew).ext hU5) H1.out.1
    have hck := nstr_cls (c := c) (H1.out.2.2.2.ext hE5) H1.out.1
    repeat (refine head_q rfl (fun K hK => ?_); have hK2 := hide hK; clear hK; go_simp; refine hK2.out _ ?_; clear hK2 K)
    refine head_nil ?_
    try simp only [List.drop_succ_cons, List.drop_zero]
    go_wp2
    go_ret
    exact ⟨rfl, hE5⟩
  · have h32I : ¬ (n : Int) = 32 := by omega
    refine (tag_no A2 B n c2 m d _ h32).mono ?_
    rintro e w4 ⟨rfl, hU4⟩
    go_wp2_with fail
    go_ret
    exact ⟨rfl, hE2.trans hU4⟩
theorem ttags_any (A B : Option Addr) (n c m d : Nat) (key b : List (BitVec 8)) (w : World) (h1 : Bi w A n c key) (h2 : Bi w B m d b) (hr : c ≤ 140737488351232) :
    Calls Try.prog 3 #[.slice A n c, .slice B m d] w fun e w' => e = .returned (.bool true) ∧ Ext w w' := by
  by_cases hm : 300 < m
  · exact ttags_long A B n c m d w hm
  · exact ttags_main A B n c m d key b w h1 h2 hr (by omega)
end Go.Proofs.Ytpffdpieciaooaa
