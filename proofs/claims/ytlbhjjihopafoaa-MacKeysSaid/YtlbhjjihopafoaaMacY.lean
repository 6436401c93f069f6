/- The law on keys of more than 64 bytes, walked. -/
import Derived.Test.YtlbhjjihopafoaaMacV
namespace Go.Proofs.Ytlbhjjihopafoaa
open Go.RowKit
open Sha
open Mac
attribute [local go_sem] steady steadyUpon Cls by8 by32 by64 str_eq
attribute [local irreducible] wpHead wpTree

theorem flat_few (ps : List Pt) (w : World) (A : Option Addr) (hP : Pts w A ps) (hf : fewB ps) : ∀ k, k ≤ ps.length → (flat (ps.take k)).length ≤ 500 * k := by
  intro k
  induction k with
  | zero => intro _; simp [flat]
  | succ k ih =>
    intro hk
    have h1 := ih (by omega)
    rw [← flat_take (ps := ps) (k := k) (by omega), List.length_append, (hP.2 k (by omega)).2.1]
    have := hf k (by omega)
    omega
theorem tag_sum (key msg : List (BitVec 8)) (h : 64 < key.length) : tag (sum key) msg = tag key msg := by
  have hs : (sum key).length = 32 := sum_length key
  have e : kb (sum key) = kb key := by unfold kb; rw [if_neg (by omega), if_pos h]
  unfold tag padk
  rw [e]
  unfold inner padk
  rw [e]


theorem keys_few1 (A B : Option Addr) (n c m d : Nat) (key : List (BitVec 8)) (ps : List Pt) (w : World) (h1 : Pt.ok w ⟨A, n, c, key⟩) (hP : Pts w B ps) (hl : ps.length = m) (hm : m ≤ maxLen) (hf : ¬ fewB [⟨A, n, c, key⟩]) :
    Calls Try.prog 8 #[.slice A n c, .slice B m d] w fun e w' => e = .returned (.bool true) ∧ Ext w w' := by
  have Hf := hide hf
  clear hf
  have H1 := hide h1
  have HP := hide hP
  have Hl := hide hl
  clear h1 hP hl
  go_enter Try.func8, Try.ntmps8
  go_wp2_with fail
  refine (mlives_any _).mono ?_
  rintro e w1 ⟨rfl, hU1⟩
  go_wp2_with fail
  refine (few_no _ _ _ [⟨A, n, c, key⟩] _ (Pts.one w1 _ ⟨A, n, c, key⟩ (H1.out.ext hU1)) rfl (by simp [maxLen]) Hf.out).mono ?_
  rintro e w2 ⟨rfl, hw⟩
  have hU2 : Ext w w2 := by rw [← hw]; exact hU1.alloc _
  clear hw hU1
  go_wp2_with fail
  refine (mlives_any _).mono ?_
  rintro e w3 ⟨rfl, hU3⟩
  go_wp2_with fail
  go_ret
  exact ⟨rfl, hU2.trans hU3⟩

theorem keys_few2 (A B : Option Addr) (n c m d : Nat) (key : List (BitVec 8)) (ps : List Pt) (w : World) (h1 : Pt.ok w ⟨A, n, c, key⟩) (hP : Pts w B ps) (hl : ps.length = m) (hm : m ≤ maxLen) (hf : fewB [⟨A, n, c, key⟩]) (hf2 : ¬ fewB ps) :
    Calls Try.prog 8 #[.slice A n c, .slice B m d] w fun e w' => e = .returned (.bool true) ∧ Ext w w' := by
  have hf1 := hide hf
  have Hf2 := hide hf2
  clear hf hf2
  have H1 := hide h1
  have HP := hide hP
  have Hl := hide hl
  clear h1 hP hl
  go_enter Try.func8, Try.ntmps8
  go_wp2_with fail
  refine (mlives_any _).mono ?_
  rintro e w1 ⟨rfl, hU1⟩
  go_wp2_with fail
  refine (few_yes _ _ _ [⟨A, n, c, key⟩] _ (Pts.one w1 _ ⟨A, n, c, key⟩ (H1.out.ext hU1)) rfl (by simp [maxLen]) hf1.out).mono ?_
  rintro e w2 ⟨rfl, hw⟩
  have hU2 : Ext w w2 := by rw [← hw]; exact hU1.alloc _
  clear hw hU1
  go_wp2_with fail
  refine (few_no _ _ _ ps _ (HP.out.ext hU2) Hl.out hm Hf2.out).mono ?_
  rintro e w4 ⟨rfl, rfl⟩
  go_wp2_with fail
  refine (mlives_any _).mono ?_
  rintro e w3 ⟨rfl, hU3⟩
  go_wp2_with fail
  go_ret
  exact ⟨rfl, hU2.trans hU3⟩

theorem keys_many (A B : Option Addr) (n c m d : Nat) (key : List (BitVec 8)) (ps : List Pt) (w : World) (h1 : Pt.ok w ⟨A, n, c, key⟩) (hP : Pts w B ps) (hl : ps.length = m) (hm : m ≤ maxLen) (hf : fewB [⟨A, n, c, key⟩]) (hf2 : fewB ps) (h10 : 10 < m) :
    Calls Try.prog 8 #[.slice A n c, .slice B m d] w fun e w' => e = .returned (.bool true) ∧ Ext w w' := by
  have hf1 := hide hf
  have Hf2 := hide hf2
  have h10' : (10 : Int) < (m : Int) := by omega
  clear hf hf2
  have H1 := hide h1
  have HP := hide hP
  have Hl := hide hl
  clear h1 hP hl
  go_enter Try.func8, Try.ntmps8
  go_wp2_with fail
  refine (mlives_any _).mono ?_
  rintro e w1 ⟨rfl, hU1⟩
  go_wp2_with fail
  refine (few_yes _ _ _ [⟨A, n, c, key⟩] _ (Pts.one w1 _ ⟨A, n, c, key⟩ (H1.out.ext hU1)) rfl (by simp [maxLen]) hf1.out).mono ?_
  rintro e w2 ⟨rfl, hw⟩
  have hU2 : Ext w w2 := by rw [← hw]; exact hU1.alloc _
  clear hw hU1
  go_wp2_with fail
  refine (few_yes _ _ _ ps _ (HP.out.ext hU2) Hl.out hm Hf2.out).mono ?_
  rintro e w4 ⟨rfl, rfl⟩
  go_wp2_with fail
  refine (mlives_any _).mono ?_
  rintro e w3 ⟨rfl, hU3⟩
  go_wp2_with fail
  go_ret
  exact ⟨rfl, hU2.trans hU3⟩


set_option maxRecDepth 100000 in
set_option maxHeartbeats 4000000 in
theorem keys_short (A B : Option Addr) (n c m d : Nat) (key : List (BitVec 8)) (ps : List Pt) (w : World) (h1 : Pt.ok w ⟨A, n, c, key⟩) (hP : Pts w B ps) (hl : ps.length = m) (hm : m ≤ maxLen) (hf : fewB [⟨A, n, c, key⟩]) (hf2 : fewB ps) (h10 : m ≤ 10) (h64 : n ≤ 64) :
    Calls Try.prog 8 #[.slice A n c, .slice B m d] w fun e w' => e = .returned (.bool true) ∧ Ext w w' := by
  have hn5 : n ≤ 500 := hf 0 (by simp)
  have hf1 := hide hf
  have Hf2 := hide hf2
  have h10' : ¬ (10 : Int) < (m : Int) := by omega
  have h64' : ¬ (64 : Int) < (n : Int) := by omega
  clear hf hf2
  have H1 := hide h1
  have HP := hide hP
  have Hl := hide hl
  clear h1 hP hl
  go_enter Try.func8, Try.ntmps8
  go_wp2_with fail
  refine (mlives_any _).mono ?_
  rintro e w1 ⟨rfl, hU1⟩
  go_wp2_with fail
  refine (few_yes _ _ _ [⟨A, n, c, key⟩] _ (Pts.one w1 _ ⟨A, n, c, key⟩ (H1.out.ext hU1)) rfl (by simp [maxLen]) hf1.out).mono ?_
  rintro e w2 ⟨rfl, hw⟩
  have hU2 : Ext w w2 := by rw [← hw]; exact hU1.alloc _
  clear hw hU1
  go_wp2_with fail
  refine (few_yes _ _ _ ps _ (HP.out.ext hU2) Hl.out hm Hf2.out).mono ?_
  rintro e w4 ⟨rfl, rfl⟩
  go_wp2_with fail
  go_loopw [30, 5, 7] (fun i v _ wx => ∃ k A1 c1 l, k ≤ m ∧ i = .int .i64 (k : Nat) ∧ v = .slice A1 l c1 ∧ (flat (ps.take k)).length = l ∧ Own wx w2.heap.size 5 A1 c1 ((flat (ps.take k)).map by8) ∧ Ext w2 wx) (fun i _ _ _ => m - (intOf i).toNat)
  case atStart => exact ⟨0, _, _, 0, by omega, rfl, rfl, rfl, Own.nil, Upd.refl _ _⟩
  case round =>
    obtain ⟨k, A1, c1, l, hk, rfl, rfl, hl1, hO, hU⟩ := hrel
    have hO' := hide hO
    have Hl1 := hide hl1
    clear hO hl1
    by_cases hlt : k < m
    · have hlti : (k : Int) < m := by omega
      have hd : decide ((k : Int) < m) = true := decide_eq_true (by omega)
      obtain ⟨b, o, rfl, _, hc⟩ := ((HP.out.ext hU2).ext hU).1.open_ (by have := Hl.out; omega)
      have hck := hc k (by have := Hl.out; omega)
      unfold Pt.val at hck
      have Hok := hide (((HP.out.ext hU2).ext hU).2 k (by have := Hl.out; omega))
      have hft := flat_take (ps := ps) (k := k) (by have := Hl.out; omega)
      have hlen : (flat (ps.take (k + 1))).length = l + (gat ps k).n := by rw [← hft, List.length_append, Hl1.out, Hok.out.2.1]
      have hb : l + (gat ps k).n ≤ 10000 := by have := flat_few ps w _ HP.out Hf2.out (k + 1) (by have := Hl.out; omega); omega
      have Hft := hide hft
      have Hlen := hide hlen
      clear hc hft hlen
      go_wp2_with (at_builtin; go_must (refine wpList_apd by8 one8 Try.el8 (flat (ps.take k)) (gat ps k).bs (flat (ps.take (k + 1))) (l + (gat ps k).n) Hft.out Hlen.out (by omega) (by unfold maxLen; omega) rfl rfl rfl Hl1.out hO'.out rfl Hok.out.2.1 Hok.out.1 hU.size ?_); intro A2 c2 w5 hO2 hU5 hin2)
      go_roundw
      case rel => exact ⟨k + 1, A2, c2, _, by omega, by go_num, rfl, Hlen.out, hO2, upd_new hU5 hU (fun i hi => (hO'.out.in_ hi).1)⟩
      case measure => simp [intOf]; omega
    · obtain rfl : k = m := by omega
      clear hk hlt
      have hft : flat (ps.take k) = flat ps := by rw [List.take_of_length_le (by have := Hl.out; omega)]
      have hfl : l ≤ 10000 := by have := flat_few ps w _ HP.out Hf2.out k (by have := Hl.out; omega); have := Hl1.out; omega
      rw [hft] at hO' Hl1
      have hp1 := hide (hO'.out.pt Hl1.out)
      have hUw := hU2.trans hU
      clear hft hO' hU hU2
      go_wp2_with fail
      refine (tag_any A n c key B k d ps _ (H1.out.1.ext hUw) H1.out.2.1 H1.out.2.2.1 H1.out.2.2.2 (by omega) (HP.out.ext hUw) Hl.out (by rw [Hl1.out]; omega) hm).mono ?_
      rintro e w6 ⟨A6, c6, rfl, hO6, hU6⟩
      have hUw6 := hUw.trans hU6
      have hp1' := hide (hp1.out.ext hU6)
      have hS6 := hide hO6.sl
      clear hO6 hU6 hUw hp1
      go_wp2_with fail
      have hcv6 := str_cls (c := c6) (hS6.out.ext (Upd.refl _ w6).drew) (tag_length key (flat ps))
      have hd64 : decide ((64 : Int) < (n : Int)) = false := decide_eq_false (by omega)
      refine wp_region_plan (Same _) 14 [(false, 0), (false, 1), (false, 2), (false, 3), (false, 4), (false, 5), (false, 6), (false, 7), (false, 8), (false, 9), (false, 10), (false, 11), (false, 12), (false, 13)] (by kernel_rfl) (by kernel_rfl) rfl (fun hne => ?_)
      repeat (refine head_q rfl (fun K hK => ?_); have hK2 := hide hK; clear hK; go_simp; refine hK2.out _ ?_; clear hK2 K)
      refine head_nil ?_
      try simp only [List.drop_succ_cons, List.drop_zero]
      go_wp2_with fail
      have hcv6 := str_cls (c := c6) (hS6.out.ext (Upd.refl _ w6).drew.drew) (tag_length key (flat ps))
      refine wp_region_plan (Ext _) 13 [(false,0), (false,1), (false,2), (false,3), (true,4), (true,5), (false,6), (false,7), (false,8), (false,9), (false,10), (false,11), (false,12)] (by kernel_rfl) (by kernel_rfl) (Upd.refl _ _) (fun hne => ?_)
      repeat (refine head_q rfl (fun K hK => ?_); have hK2 := hide hK; clear hK; go_simp; refine hK2.out _ ?_; clear hK2 K)
      refine head_l rfl ?_
      go_wp2_with fail
      refine ⟨Cls (Ext _), cls_narrow ((Upd.refl _ _).alloc _), ⟨⟨_, Upd.refl _ _⟩, rfl⟩, ?_⟩
      repeat (refine head_q rfl (fun K hK => ?_); have hK2 := hide hK; clear hK; go_simp; refine hK2.out _ ?_; clear hK2 K)
      refine head_l rfl ?_
      go_wp2_with (go_at_call 25; go_must (refine (tag_any A n c key _ 1 1 [⟨A1, l, c1, flat ps⟩] _ (H1.out.1.ext (hUw6.drew.drew.alloc _)) H1.out.2.1 H1.out.2.2.1 H1.out.2.2.2 (by omega) (Pts.one (w6.drew).drew 22 ⟨A1, l, c1, flat ps⟩ ((hp1'.out.ext (Upd.refl _ _).drew).ext (Upd.refl _ _).drew)) rfl (by rw [flat_one]; simp only; rw [Hl1.out]; omega) (by simp [maxLen])).mono ?_); rintro e w8 ⟨A8, c8, rfl, hO8, hU8⟩; rw [flat_one] at hO8)
      refine ⟨Cls (Ext _), cls_narrow hU8, ⟨⟨_, Upd.refl _ _⟩, rfl⟩, ?_⟩
      have hcv8 := str_cls (c := c8) hO8.sl (tag_length key (flat ps))
      repeat (refine head_q rfl (fun K hK => ?_); have hK2 := hide hK; clear hK; go_simp; refine hK2.out _ ?_; clear hK2 K)
      refine head_nil ?_
      try simp only [List.drop_succ_cons, List.drop_zero]
      go_wp2
      go_ret
      exact ⟨rfl, (hUw6.drew.drew.alloc _).trans hU8⟩

theorem Upd.indrew {T : Nat → Prop} {w w' : World} (h : Upd T w w') : Upd T w.drew w' := ⟨h.os, h.tape, h.output, h.size, h.block⟩
set_option maxRecDepth 100000 in
set_option maxHeartbeats 4000000 in
theorem keys_long (A B : Option Addr) (n c m d : Nat) (key : List (BitVec 8)) (ps : List Pt) (w : World) (h1 : Pt.ok w ⟨A, n, c, key⟩) (hP : Pts w B ps) (hl : ps.length = m) (hm : m ≤ maxLen) (hf : fewB [⟨A, n, c, key⟩]) (hf2 : fewB ps) (h10 : m ≤ 10) (h64 : 64 < n) :
    Calls Try.prog 8 #[.slice A n c, .slice B m d] w fun e w' => e = .returned (.bool true) ∧ Ext w w' := by
  have hn5 : n ≤ 500 := hf 0 (by simp)
  have hf1 := hide hf
  have Hf2 := hide hf2
  have h10' : ¬ (10 : Int) < (m : Int) := by omega
  have h64' : (64 : Int) < (n : Int) := by omega
  have hts : tag (sum key) (flat ps) = tag key (flat ps) := tag_sum key (flat ps) (by rw [h1.2.1]; exact h64)
  have Hts := hide hts
  clear hf hf2 hts
  have H1 := hide h1
  have HP := hide hP
  have Hl := hide hl
  clear h1 hP hl
  go_enter Try.func8, Try.ntmps8
  go_wp2_with fail
  refine (mlives_any _).mono ?_
  rintro e w1 ⟨rfl, hU1⟩
  go_wp2_with fail
  refine (few_yes _ _ _ [⟨A, n, c, key⟩] _ (Pts.one w1 _ ⟨A, n, c, key⟩ (H1.out.ext hU1)) rfl (by simp [maxLen]) hf1.out).mono ?_
  rintro e w2 ⟨rfl, hw⟩
  have hU2 : Ext w w2 := by rw [← hw]; exact hU1.alloc _
  clear hw hU1
  go_wp2_with fail
  refine (few_yes _ _ _ ps _ (HP.out.ext hU2) Hl.out hm Hf2.out).mono ?_
  rintro e w4 ⟨rfl, rfl⟩
  go_wp2_with fail
  go_loopw [30, 5, 7] (fun i v _ wx => ∃ k A1 c1 l, k ≤ m ∧ i = .int .i64 (k : Nat) ∧ v = .slice A1 l c1 ∧ (flat (ps.take k)).length = l ∧ Own wx w2.heap.size 5 A1 c1 ((flat (ps.take k)).map by8) ∧ Ext w2 wx) (fun i _ _ _ => m - (intOf i).toNat)
  case atStart => exact ⟨0, _, _, 0, by omega, rfl, rfl, rfl, Own.nil, Upd.refl _ _⟩
  case round =>
    obtain ⟨k, A1, c1, l, hk, rfl, rfl, hl1, hO, hU⟩ := hrel
    have hO' := hide hO
    have Hl1 := hide hl1
    clear hO hl1
    by_cases hlt : k < m
    · have hlti : (k : Int) < m := by omega
      have hd : decide ((k : Int) < m) = true := decide_eq_true (by omega)
      obtain ⟨b, o, rfl, _, hc⟩ := ((HP.out.ext hU2).ext hU).1.open_ (by have := Hl.out; omega)
      have hck := hc k (by have := Hl.out; omega)
      unfold Pt.val at hck
      have Hok := hide (((HP.out.ext hU2).ext hU).2 k (by have := Hl.out; omega))
      have hft := flat_take (ps := ps) (k := k) (by have := Hl.out; omega)
      have hlen : (flat (ps.take (k + 1))).length = l + (gat ps k).n := by rw [← hft, List.length_append, Hl1.out, Hok.out.2.1]
      have hb : l + (gat ps k).n ≤ 10000 := by have := flat_few ps w _ HP.out Hf2.out (k + 1) (by have := Hl.out; omega); omega
      have Hft := hide hft
      have Hlen := hide hlen
      clear hc hft hlen
      go_wp2_with (at_builtin; go_must (refine wpList_apd by8 one8 Try.el8 (flat (ps.take k)) (gat ps k).bs (flat (ps.take (k + 1))) (l + (gat ps k).n) Hft.out Hlen.out (by omega) (by unfold maxLen; omega) rfl rfl rfl Hl1.out hO'.out rfl Hok.out.2.1 Hok.out.1 hU.size ?_); intro A2 c2 w5 hO2 hU5 hin2)
      go_roundw
      case rel => exact ⟨k + 1, A2, c2, _, by omega, by go_num, rfl, Hlen.out, hO2, upd_new hU5 hU (fun i hi => (hO'.out.in_ hi).1)⟩
      case measure => simp [intOf]; omega
    · obtain rfl : k = m := by omega
      clear hk hlt
      have hft : flat (ps.take k) = flat ps := by rw [List.take_of_length_le (by have := Hl.out; omega)]
      have hfl : l ≤ 10000 := by have := flat_few ps w _ HP.out Hf2.out k (by have := Hl.out; omega); have := Hl1.out; omega
      rw [hft] at hO' Hl1
      have hp1 := hide (hO'.out.pt Hl1.out)
      have hUw := hU2.trans hU
      clear hft hO' hU hU2
      go_wp2_with fail
      refine (tag_any A n c key B k d ps _ (H1.out.1.ext hUw) H1.out.2.1 H1.out.2.2.1 H1.out.2.2.2 (by omega) (HP.out.ext hUw) Hl.out (by rw [Hl1.out]; omega) hm).mono ?_
      rintro e w6 ⟨A6, c6, rfl, hO6, hU6⟩
      have hUw6 := hUw.trans hU6
      have hp1' := hide (hp1.out.ext hU6)
      have hS6 := hide hO6.sl
      clear hO6 hU6 hUw hp1
      go_wp2_with fail
      have hcv6 := str_cls (c := c6) (hS6.out.ext (Upd.refl _ w6).drew) (tag_length key (flat ps))
      have hUd : Ext w w6.drew := hUw6.drew
      have hd64 : decide ((64 : Int) < (n : Int)) = true := decide_eq_true (by omega)
      have hpd := hide (hp1'.out.ext (Upd.refl _ w6).drew)
      have hG : Ext w6.drew w6.drew := Upd.refl _ _
      refine wp_region_tree (Ext w6.drew) 14 (.q 0 (.q 1 (.q 2 (.q 3 (.q 4 (.q 5 (.q 6 (.q 9 (.two 7 10 (.two 8 10 (.l 10 (.l 11 (.q 12 (.q 13 .done)))) (.l 8 (.l 11 (.q 12 (.q 13 .done))))) (.l 7 (.l 8 (.l 11 (.q 12 (.q 13 .done)))))))))))))) (by kernel_rfl) (by kernel_rfl) (Upd.refl _ _) (fun hne => ?_)
      repeat (refine tree_q rfl (fun K hK => ?_); go_simp; refine hK _ ?_; clear hK K)
      refine tree_two rfl rfl ?_ ?_
      · go_wp2_with fail
        -- x7 the new name, (w6.alloc (.cells #[.slice A n c] 22)).drew the world, ((Upd.refl _ w6).alloc _).drew its Ext from w6
        obtain ⟨x7, hxx7⟩ : ∃ x, x = (w6.alloc (.cells #[.slice A n c] 22)).drew := ⟨_, rfl⟩
        have hEx7 : Ext w6 x7 := by rw [hxx7]; exact ((Upd.refl _ w6).alloc _).drew
        have hP7 : Pts x7 (some ⟨w6.heap.size, 0, none⟩) [⟨A, n, c, key⟩] := by rw [hxx7]; exact (Pts.one w6 22 ⟨A, n, c, key⟩ (H1.out.ext hUw6)).ext (Upd.refl _ _).drew
        rw [← hxx7]
        clear hxx7
        refine ⟨_, fun _ h => h, ⟨⟨_, hEx7.indrew⟩, rfl⟩, ?_⟩
        repeat (refine tree_q rfl (fun K hK => ?_); go_simp; refine hK _ ?_; clear hK K)
        refine tree_two rfl rfl ?_ ?_
        · skip
          -- hEx7 Ext w6 of the present world, hP7 the key's row in it
          go_wp2_with (go_at_call 14; go_must (refine (psum_any _ 1 1 [⟨A, n, c, key⟩] _ hP7 rfl (by rw [flat_one]; have h9 := H1.out.2.1; dsimp only at h9 ⊢; omega) (by simp [maxLen])).mono ?_); rintro e w8 ⟨A8, c8, rfl, hO8, hU8⟩)
          rw [flat_one] at hO8
          have hp8 := hide (hO8.pt (n := 32) (sum_length _))
          refine ⟨_, fun _ h => h, ⟨⟨_, (hEx7.trans hU8).indrew⟩, rfl⟩, ?_⟩
          repeat (refine tree_q rfl (fun K hK => ?_); go_simp; refine hK _ ?_; clear hK K)
          refine tree_l rfl ?_
          go_wp2_with fail
          -- x10 the new name, w8.alloc (.cells #[.slice A1 l c1] 22) the world, ((hEx7.trans hU8).alloc _) its Ext from w6
          obtain ⟨x10, hxx10⟩ : ∃ x, x = w8.alloc (.cells #[.slice A1 l c1] 22) := ⟨_, rfl⟩
          have hEx10 : Ext w6 x10 := by rw [hxx10]; exact ((hEx7.trans hU8).alloc _)
          have hP10 : Pts x10 (some ⟨w8.heap.size, 0, none⟩) [⟨A1, l, c1, flat ps⟩] := by rw [hxx10]; exact Pts.one w8 22 ⟨A1, l, c1, flat ps⟩ (hp1'.out.ext (hEx7.trans hU8))
          have hq8 := hide (hp8.out.ext (show Ext w8 x10 by rw [hxx10]; exact (Upd.refl _ _).alloc _))
          rw [← hxx10]
          clear hxx10
          refine ⟨_, fun _ h => h, ⟨⟨_, hEx10.indrew⟩, rfl⟩, ?_⟩
          repeat (refine tree_q rfl (fun K hK => ?_); go_simp; refine hK _ ?_; clear hK K)
          refine tree_l rfl ?_
          -- hEx10 Ext w6 of the present world, hq8.out the sum in it, hP10 the row of all bytes in it
          go_wp2_with (go_at_call 25; go_must (refine (tag_any A8 32 c8 (sum key) _ 1 1 [⟨A1, l, c1, flat ps⟩] _ (hq8.out).1 (hq8.out).2.1 (hq8.out).2.2.1 (hq8.out).2.2.2 (by omega) hP10 rfl (by rw [flat_one]; simp only; rw [Hl1.out]; omega) (by simp [maxLen])).mono ?_); rintro e w9 ⟨A9, c9, rfl, hO9, hU9⟩; rw [flat_one] at hO9)
          rw [Hts.out] at hO9
          have hEz := hEx10.trans hU9
          refine ⟨Cls (Ext w9), fun v hv => cls_narrow hEz.indrew v hv, ⟨⟨_, Upd.refl _ _⟩, rfl⟩, ?_⟩
          have hcv9 := str_cls (c := c9) hO9.sl (tag_length key (flat ps))
          have hcv6' := str_cls (c := c6) (hS6.out.ext hEz) (tag_length key (flat ps))
          repeat (refine tree_q rfl (fun K hK => ?_); go_simp; refine hK _ ?_; clear hK K)
          refine tree_done ?_
          try simp only [List.drop_succ_cons, List.drop_zero]
          go_wp2_with fail
          have hUz := hUw6.trans hEz
          have hpz := hide (hp1'.out.ext hEz)
          have hcv6z := str_cls (c := c6) (hS6.out.ext (hEz.trans (Upd.refl _ w9).drew)) (tag_length key (flat ps))
          clear hcv6 hcv9 hcv6' hO9 hO8 hp8 hd64
          refine wp_region_plan (Ext _) 13 [(false,0), (false,1), (false,2), (false,3), (true,4), (true,5), (false,6), (false,7), (false,8), (false,9), (false,10), (false,11), (false,12)] (by kernel_rfl) (by kernel_rfl) (Upd.refl _ _) (fun hne => ?_)
          repeat (refine head_q rfl (fun K hK => ?_); have hK2 := hide hK; clear hK; go_simp; refine hK2.out _ ?_; clear hK2 K)
          refine head_l rfl ?_
          go_wp2_with fail
          refine ⟨Cls (Ext _), cls_narrow ((Upd.refl _ _).alloc _), ⟨⟨_, Upd.refl _ _⟩, rfl⟩, ?_⟩
          repeat (refine head_q rfl (fun K hK => ?_); have hK2 := hide hK; clear hK; go_simp; refine hK2.out _ ?_; clear hK2 K)
          refine head_l rfl ?_
          go_wp2_with (go_at_call 25; go_must (refine (tag_any A n c key _ 1 1 [⟨A1, l, c1, flat ps⟩] _ (H1.out.1.ext (hUz.drew.alloc _)) H1.out.2.1 H1.out.2.2.1 H1.out.2.2.2 (by omega) (Pts.one w9.drew 22 ⟨A1, l, c1, flat ps⟩ (hpz.out.ext (Upd.refl _ _).drew)) rfl (by rw [flat_one]; simp only; rw [Hl1.out]; omega) (by simp [maxLen])).mono ?_); rintro e w10 ⟨A10, c10, rfl, hO10, hU10⟩; rw [flat_one] at hO10)
          refine ⟨Cls (Ext _), cls_narrow hU10, ⟨⟨_, Upd.refl _ _⟩, rfl⟩, ?_⟩
          have hcv10 := str_cls (c := c10) hO10.sl (tag_length key (flat ps))
          repeat (refine head_q rfl (fun K hK => ?_); have hK2 := hide hK; clear hK; go_simp; refine hK2.out _ ?_; clear hK2 K)
          refine head_nil ?_
          try simp only [List.drop_succ_cons, List.drop_zero]
          go_wp2
          go_ret
          exact ⟨rfl, (hUz.drew.alloc _).trans hU10⟩
        · go_wp2_with fail
          -- x10 the new name, x7.alloc (.cells #[.slice A1 l c1] 22) the world, (hEx7.alloc _) its Ext from w6
          obtain ⟨x10, hxx10⟩ : ∃ x, x = x7.alloc (.cells #[.slice A1 l c1] 22) := ⟨_, rfl⟩
          have hEx10 : Ext w6 x10 := by rw [hxx10]; exact (hEx7.alloc _)
          have hP10 : Pts x10 (some ⟨x7.heap.size, 0, none⟩) [⟨A1, l, c1, flat ps⟩] := by rw [hxx10]; exact Pts.one x7 22 ⟨A1, l, c1, flat ps⟩ (hp1'.out.ext hEx7)
          have hP7' : Pts x10 (some ⟨w6.heap.size, 0, none⟩) [⟨A, n, c, key⟩] := hP7.ext (by rw [hxx10]; exact (Upd.refl _ _).alloc _)
          rw [← hxx10]
          clear hxx10
          refine ⟨_, fun _ h => h, ⟨⟨_, hEx10.indrew⟩, rfl⟩, ?_⟩
          repeat (refine tree_q rfl (fun K hK => ?_); go_simp; refine hK _ ?_; clear hK K)
          refine tree_l rfl ?_
          -- hEx10 Ext w6 of the present world, hP7' the key's row in it
          go_wp2_with (go_at_call 14; go_must (refine (psum_any _ 1 1 [⟨A, n, c, key⟩] _ hP7' rfl (by rw [flat_one]; have h9 := H1.out.2.1; dsimp only at h9 ⊢; omega) (by simp [maxLen])).mono ?_); rintro e w8 ⟨A8, c8, rfl, hO8, hU8⟩)
          rw [flat_one] at hO8
          have hp8 := hide (hO8.pt (n := 32) (sum_length _))
          refine ⟨_, fun _ h => h, ⟨⟨_, (hEx10.trans hU8).indrew⟩, rfl⟩, ?_⟩
          repeat (refine tree_q rfl (fun K hK => ?_); go_simp; refine hK _ ?_; clear hK K)
          refine tree_l rfl ?_
          -- (hEx10.trans hU8) Ext w6 of the present world, hp8.out the sum in it, (hP10.ext hU8) the row of all bytes in it
          go_wp2_with (go_at_call 25; go_must (refine (tag_any A8 32 c8 (sum key) _ 1 1 [⟨A1, l, c1, flat ps⟩] _ (hp8.out).1 (hp8.out).2.1 (hp8.out).2.2.1 (hp8.out).2.2.2 (by omega) (hP10.ext hU8) rfl (by rw [flat_one]; simp only; rw [Hl1.out]; omega) (by simp [maxLen])).mono ?_); rintro e w9 ⟨A9, c9, rfl, hO9, hU9⟩; rw [flat_one] at hO9)
          rw [Hts.out] at hO9
          have hEz := (hEx10.trans hU8).trans hU9
          refine ⟨Cls (Ext w9), fun v hv => cls_narrow hEz.indrew v hv, ⟨⟨_, Upd.refl _ _⟩, rfl⟩, ?_⟩
          have hcv9 := str_cls (c := c9) hO9.sl (tag_length key (flat ps))
          have hcv6' := str_cls (c := c6) (hS6.out.ext hEz) (tag_length key (flat ps))
          repeat (refine tree_q rfl (fun K hK => ?_); go_simp; refine hK _ ?_; clear hK K)
          refine tree_done ?_
          try simp only [List.drop_succ_cons, List.drop_zero]
          go_wp2_with fail
          have hUz := hUw6.trans hEz
          have hpz := hide (hp1'.out.ext hEz)
          have hcv6z := str_cls (c := c6) (hS6.out.ext (hEz.trans (Upd.refl _ w9).drew)) (tag_length key (flat ps))
          clear hcv6 hcv9 hcv6' hO9 hO8 hp8 hd64
          refine wp_region_plan (Ext _) 13 [(false,0), (false,1), (false,2), (false,3), (true,4), (true,5), (false,6), (false,7), (false,8), (false,9), (false,10), (false,11), (false,12)] (by kernel_rfl) (by kernel_rfl) (Upd.refl _ _) (fun hne => ?_)
          repeat (refine head_q rfl (fun K hK => ?_); have hK2 := hide hK; clear hK; go_simp; refine hK2.out _ ?_; clear hK2 K)
          refine head_l rfl ?_
          go_wp2_with fail
          refine ⟨Cls (Ext _), cls_narrow ((Upd.refl _ _).alloc _), ⟨⟨_, Upd.refl _ _⟩, rfl⟩, ?_⟩
          repeat (refine head_q rfl (fun K hK => ?_); have hK2 := hide hK; clear hK; go_simp; refine hK2.out _ ?_; clear hK2 K)
          refine head_l rfl ?_
          go_wp2_with (go_at_call 25; go_must (refine (tag_any A n c key _ 1 1 [⟨A1, l, c1, flat ps⟩] _ (H1.out.1.ext (hUz.drew.alloc _)) H1.out.2.1 H1.out.2.2.1 H1.out.2.2.2 (by omega) (Pts.one w9.drew 22 ⟨A1, l, c1, flat ps⟩ (hpz.out.ext (Upd.refl _ _).drew)) rfl (by rw [flat_one]; simp only; rw [Hl1.out]; omega) (by simp [maxLen])).mono ?_); rintro e w10 ⟨A10, c10, rfl, hO10, hU10⟩; rw [flat_one] at hO10)
          refine ⟨Cls (Ext _), cls_narrow hU10, ⟨⟨_, Upd.refl _ _⟩, rfl⟩, ?_⟩
          have hcv10 := str_cls (c := c10) hO10.sl (tag_length key (flat ps))
          repeat (refine head_q rfl (fun K hK => ?_); have hK2 := hide hK; clear hK; go_simp; refine hK2.out _ ?_; clear hK2 K)
          refine head_nil ?_
          try simp only [List.drop_succ_cons, List.drop_zero]
          go_wp2
          go_ret
          exact ⟨rfl, (hUz.drew.alloc _).trans hU10⟩
      · go_wp2_with fail
        -- x10 the new name, (w6.alloc (.cells #[.slice A1 l c1] 22)).drew the world, ((Upd.refl _ w6).alloc _).drew its Ext from w6
        obtain ⟨x10, hxx10⟩ : ∃ x, x = (w6.alloc (.cells #[.slice A1 l c1] 22)).drew := ⟨_, rfl⟩
        have hEx10 : Ext w6 x10 := by rw [hxx10]; exact ((Upd.refl _ w6).alloc _).drew
        have hP10 : Pts x10 (some ⟨w6.heap.size, 0, none⟩) [⟨A1, l, c1, flat ps⟩] := by rw [hxx10]; exact (Pts.one w6 22 ⟨A1, l, c1, flat ps⟩ hp1'.out).ext (Upd.refl _ _).drew
        rw [← hxx10]
        clear hxx10
        refine ⟨_, fun _ h => h, ⟨⟨_, hEx10.indrew⟩, rfl⟩, ?_⟩
        repeat (refine tree_q rfl (fun K hK => ?_); go_simp; refine hK _ ?_; clear hK K)
        refine tree_l rfl ?_
        go_wp2_with fail
        -- x7 the new name, x10.alloc (.cells #[.slice A n c] 22) the world, (hEx10.alloc _) its Ext from w6
        obtain ⟨x7, hxx7⟩ : ∃ x, x = x10.alloc (.cells #[.slice A n c] 22) := ⟨_, rfl⟩
        have hEx7 : Ext w6 x7 := by rw [hxx7]; exact (hEx10.alloc _)
        have hP7 : Pts x7 (some ⟨x10.heap.size, 0, none⟩) [⟨A, n, c, key⟩] := by rw [hxx7]; exact Pts.one x10 22 ⟨A, n, c, key⟩ (H1.out.ext (hUw6.trans hEx10))
        have hP10' : Pts x7 (some ⟨w6.heap.size, 0, none⟩) [⟨A1, l, c1, flat ps⟩] := hP10.ext (by rw [hxx7]; exact (Upd.refl _ _).alloc _)
        rw [← hxx7]
        clear hxx7
        refine ⟨_, fun _ h => h, ⟨⟨_, hEx7.indrew⟩, rfl⟩, ?_⟩
        repeat (refine tree_q rfl (fun K hK => ?_); go_simp; refine hK _ ?_; clear hK K)
        refine tree_l rfl ?_
        -- hEx7 Ext w6 of the present world, hP7 the key's row in it
        go_wp2_with (go_at_call 14; go_must (refine (psum_any _ 1 1 [⟨A, n, c, key⟩] _ hP7 rfl (by rw [flat_one]; have h9 := H1.out.2.1; dsimp only at h9 ⊢; omega) (by simp [maxLen])).mono ?_); rintro e w8 ⟨A8, c8, rfl, hO8, hU8⟩)
        rw [flat_one] at hO8
        have hp8 := hide (hO8.pt (n := 32) (sum_length _))
        refine ⟨_, fun _ h => h, ⟨⟨_, (hEx7.trans hU8).indrew⟩, rfl⟩, ?_⟩
        repeat (refine tree_q rfl (fun K hK => ?_); go_simp; refine hK _ ?_; clear hK K)
        refine tree_l rfl ?_
        -- (hEx7.trans hU8) Ext w6 of the present world, hp8.out the sum in it, (hP10'.ext hU8) the row of all bytes in it
        go_wp2_with (go_at_call 25; go_must (refine (tag_any A8 32 c8 (sum key) _ 1 1 [⟨A1, l, c1, flat ps⟩] _ (hp8.out).1 (hp8.out).2.1 (hp8.out).2.2.1 (hp8.out).2.2.2 (by omega) (hP10'.ext hU8) rfl (by rw [flat_one]; simp only; rw [Hl1.out]; omega) (by simp [maxLen])).mono ?_); rintro e w9 ⟨A9, c9, rfl, hO9, hU9⟩; rw [flat_one] at hO9)
        rw [Hts.out] at hO9
        have hEz := (hEx7.trans hU8).trans hU9
        refine ⟨Cls (Ext w9), fun v hv => cls_narrow hEz.indrew v hv, ⟨⟨_, Upd.refl _ _⟩, rfl⟩, ?_⟩
        have hcv9 := str_cls (c := c9) hO9.sl (tag_length key (flat ps))
        have hcv6' := str_cls (c := c6) (hS6.out.ext hEz) (tag_length key (flat ps))
        repeat (refine tree_q rfl (fun K hK => ?_); go_simp; refine hK _ ?_; clear hK K)
        refine tree_done ?_
        try simp only [List.drop_succ_cons, List.drop_zero]
        go_wp2_with fail
        have hUz := hUw6.trans hEz
        have hpz := hide (hp1'.out.ext hEz)
        have hcv6z := str_cls (c := c6) (hS6.out.ext (hEz.trans (Upd.refl _ w9).drew)) (tag_length key (flat ps))
        clear hcv6 hcv9 hcv6' hO9 hO8 hp8 hd64
        refine wp_region_plan (Ext _) 13 [(false,0), (false,1), (false,2), (false,3), (true,4), (true,5), (false,6), (false,7), (false,8), (false,9), (false,10), (false,11), (false,12)] (by kernel_rfl) (by kernel_rfl) (Upd.refl _ _) (fun hne => ?_)
        repeat (refine head_q rfl (fun K hK => ?_); have hK2 := hide hK; clear hK; go_simp; refine hK2.out _ ?_; clear hK2 K)
        refine head_l rfl ?_
        go_wp2_with fail
        refine ⟨Cls (Ext _), cls_narrow ((Upd.refl _ _).alloc _), ⟨⟨_, Upd.refl _ _⟩, rfl⟩, ?_⟩
        repeat (refine head_q rfl (fun K hK => ?_); have hK2 := hide hK; clear hK; go_simp; refine hK2.out _ ?_; clear hK2 K)
        refine head_l rfl ?_
        go_wp2_with (go_at_call 25; go_must (refine (tag_any A n c key _ 1 1 [⟨A1, l, c1, flat ps⟩] _ (H1.out.1.ext (hUz.drew.alloc _)) H1.out.2.1 H1.out.2.2.1 H1.out.2.2.2 (by omega) (Pts.one w9.drew 22 ⟨A1, l, c1, flat ps⟩ (hpz.out.ext (Upd.refl _ _).drew)) rfl (by rw [flat_one]; simp only; rw [Hl1.out]; omega) (by simp [maxLen])).mono ?_); rintro e w10 ⟨A10, c10, rfl, hO10, hU10⟩; rw [flat_one] at hO10)
        refine ⟨Cls (Ext _), cls_narrow hU10, ⟨⟨_, Upd.refl _ _⟩, rfl⟩, ?_⟩
        have hcv10 := str_cls (c := c10) hO10.sl (tag_length key (flat ps))
        repeat (refine head_q rfl (fun K hK => ?_); have hK2 := hide hK; clear hK; go_simp; refine hK2.out _ ?_; clear hK2 K)
        refine head_nil ?_
        try simp only [List.drop_succ_cons, List.drop_zero]
        go_wp2
        go_ret
        exact ⟨rfl, (hUz.drew.alloc _).trans hU10⟩
theorem mkeys_any (A B : Option Addr) (n c m d : Nat) (key : List (BitVec 8)) (ps : List Pt) (w : World) (h1 : Pt.ok w ⟨A, n, c, key⟩) (hP : Pts w B ps) (hl : ps.length = m) (hm : m ≤ maxLen) :
    Calls Try.prog 8 #[.slice A n c, .slice B m d] w fun e w' => e = .returned (.bool true) ∧ Ext w w' := by
  by_cases hf : fewB [⟨A, n, c, key⟩]
  · by_cases hf2 : fewB ps
    · by_cases h10 : 10 < m
      · exact keys_many A B n c m d key ps w h1 hP hl hm hf hf2 h10
      · by_cases h64 : 64 < n
        · exact keys_long A B n c m d key ps w h1 hP hl hm hf hf2 (by omega) h64
        · exact keys_short A B n c m d key ps w h1 hP hl hm hf hf2 (by omega) (by omega)
    · exact keys_few2 A B n c m d key ps w h1 hP hl hm hf hf2
  · exact keys_few1 A B n c m d key ps w h1 hP hl hm hf
end Go.Proofs.Ytlbhjjihopafoaa
