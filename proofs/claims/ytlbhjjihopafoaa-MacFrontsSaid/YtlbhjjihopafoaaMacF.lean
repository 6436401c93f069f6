/- The law on the fronts of expansions, walked. -/
import Derived.Test.YtlbhjjihopafoaaMacV
import Derived.Test.YtlbhjjihopafoaaFacts
namespace Go.Proofs.Ytlbhjjihopafoaa
open Go.RowKit
open Sha
open Mac
attribute [local go_sem] steady steadyUpon Cls by8 by32 by64 str_eq

set_option maxRecDepth 100000 in
set_option maxHeartbeats 4000000 in
theorem fronts_good (A B : Option Addr) (n m c d : Nat) (key info : List (BitVec 8)) (N M : Int) (K L : Nat) (w : World) (h1 : Pt.ok w ⟨A, n, c, key⟩) (h2 : Pt.ok w ⟨B, m, d, info⟩) (hf : fewB [⟨A, n, c, key⟩, ⟨B, m, d, info⟩]) (hK : (IntKind.u64.wrap N).tmod 300 = (K : Int)) (hK2 : K < 300) (hL : (IntKind.u64.wrap M).tmod 300 = (L : Int)) (hL2 : L < 300) (hKL : K < L) (h64 : n < 64) :
    Calls Try.prog 11 #[.slice A n c, .slice B m d, .int .i64 N, .int .i64 M] w fun e w' => e = .returned (.bool true) ∧ Ext w w' := by
  have hLK : ¬ L < K := by omega
  have h64' : ¬ (64 : Int) ≤ (n : Int) := by omega
  have hn5 : n ≤ 500 := hf 0 (by simp)
  have hm5 : m ≤ 500 := hf 1 (by simp)
  have H1 := hide h1
  have H2 := hide h2
  have Hf := hide hf
  clear h1 h2 hf
  go_enter Try.func11, Try.ntmps11
  go_wp2_with fail
  refine (mlives_any _).mono ?_
  rintro e w1 ⟨rfl, hU1⟩
  go_wp2_with fail
  refine (few_yes _ _ _ [⟨A, n, c, key⟩, ⟨B, m, d, info⟩] _ (Pts.two w1 _ ⟨A, n, c, key⟩ ⟨B, m, d, info⟩ (H1.out.ext hU1) (H2.out.ext hU1)) rfl (by simp [maxLen]) Hf.out).mono ?_
  rintro e w2 ⟨rfl, hw⟩
  have hU2 : Ext w w2 := by rw [← hw]; exact hU1.alloc _
  clear hw hU1
  go_wp2_with fail
  clear hK hL
  refine (expand_any A n c key B m d info K w2 (H1.out.1.ext hU2) H1.out.2.1 H1.out.2.2.1 H1.out.2.2.2 (by omega) (H2.out.1.ext hU2) H2.out.2.1 H2.out.2.2.1 H2.out.2.2.2 (by omega) (by omega)).mono ?_
  rintro e w3 ⟨A3, c3, rfl, hO3, hU3⟩
  have hUw3 := hU2.trans hU3
  have hO3' := hide hO3
  clear hO3
  go_wp2_with fail
  refine (expand_any A n c key B m d info L w3 (H1.out.1.ext hUw3) H1.out.2.1 H1.out.2.2.1 H1.out.2.2.2 (by omega) (H2.out.1.ext hUw3) H2.out.2.1 H2.out.2.2.1 H2.out.2.2.2 (by omega) (by omega)).mono ?_
  rintro e w4 ⟨A4, c4, rfl, hO4, hU4⟩
  have hUw4 := hUw3.trans hU4
  have hcap4 : L ≤ c4 := by have := hO4.1; rw [List.length_map, expand_length] at this; exact this
  have hS3 := hide (hO3'.out.sl.ext hU4)
  have hS4 := hide (hO4.sl.take K)
  clear hO4 hU3 hU4 hO3'
  go_wp2_with fail
  have hcv3 := str_cls (c := c3) (hS3.out.ext (Upd.refl _ w4).drew) (expand_length key info K)
  have hcv4 := str_cls (c := c4) (n := K) (hS4.out.ext (Upd.refl _ w4).drew) (by rw [List.length_take, expand_length]; omega)
  rw [expand_take key info K L (by omega)] at hcv4
  have hs1 := run_cut_h (P := Try.prog) Try.under_bs Try.sz8 A4 L c4 K .i64 (by omega)
  refine wp_region_tree (Ext _) 24 (.q 0 (.q 1 (.q 2 (.q 3 (.q 4 (.q 5 (.q 6 (.q 7 (.q 8 (.q 9 (.q 10 (.q 11 (.q 12 (.q 13 (.q 14 (.q 15 (.q 16 (.q 17 (.q 18 (.q 19 (.q 20 (.q 21 (.q 22 (.q 23 .done)))))))))))))))))))))))) (by kernel_rfl) (by kernel_rfl) (Upd.refl _ _) (fun hne => ?_)
  repeat (refine tree_q rfl (fun K hK => ?_); go_simp; refine hK _ ?_; clear hK K)
  refine tree_done ?_
  try simp only [List.drop_succ_cons, List.drop_zero]
  go_wp2_with fail
  obtain ⟨J, hJ⟩ : ∃ J : Nat → Fact, J = fun i => match i with
    | 0 => FVal (.slice A n c)
    | 1 => FVal (.slice B m d)
    | 2 => FRow 1 [⟨B, m, d, info⟩]
    | 3 => FBytes w4.heap.size 32 (tag key info)
    | 4 => FVal (.string (str (tag key info)))
    | 5 => FBytes w4.heap.size 0 []
    | 6 => FVal (.slice A n c)
    | 7 => FBytes w4.heap.size n key
    | 8 => FBytes w4.heap.size 1 [0]
    | 9 => FBytes w4.heap.size (n + 1) (key ++ [0])
    | 10 => FVal (.slice B m d)
    | 11 => FRow 1 [⟨B, m, d, info⟩]
    | 12 => FBytes w4.heap.size 32 (tag key info)
    | 13 => FVal (.string (str (tag key info)))
    | _ => FVal (.bool true) := ⟨_, rfl⟩
  refine wp_region_free 15 J [(7, 5), (9, 7)] (by kernel_rfl) (by kernel_rfl) ?_ ?_ ?_
  · subst hJ
    intro i hi
    match i, hi with
    | 0, _ | 1, _ | 4, _ | 6, _ | 10, _ | 13, _ | 14, _ => exact FVal.local _
    | 2, _ | 11, _ => exact FRow.local _ _
    | 3, _ | 5, _ | 7, _ | 8, _ | 9, _ | 12, _ => exact FBytes.local _ _ _
    | k + 15, h => exact absurd h (by omega)
  · subst hJ
    intro i hi
    match i, hi with
    | 0, _ =>
      intro u wx S o ho hE hr hd hw
      injection (ho : some _ = some o) with ho
      subst ho
      simp only [fr, dstOf]
      go_simp
      go_wp2
      exact ⟨Upd.refl _ _, rfl⟩
    | 1, _ =>
      intro u wx S o ho hE hr hd hw
      injection (ho : some _ = some o) with ho
      subst ho
      simp only [fr, dstOf]
      go_simp
      go_wp2
      exact ⟨Upd.refl _ _, rfl⟩
    | 2, _ =>
      intro u wx S o ho hE hr hd hw
      injection (ho : some _ = some o) with ho
      subst ho
      have f1 : u 1 = .slice B m d := hw 1 (by omega) (by kernel_rfl)
      simp only [fr, dstOf]
      go_simp
      go_wp2
      exact ⟨(Upd.refl _ _).alloc _, _, rfl, Sl.new Pt.val wx 22 [⟨B, m, d, info⟩], Nat.le_refl _, by omega⟩
    | 3, _ =>
      intro u wx S o ho hE hr hd hw
      injection (ho : some _ = some o) with ho
      subst ho
      have f0 : u 0 = .slice A n c := hw 0 (by omega) (by kernel_rfl)
      obtain ⟨g2, f2, hS2, -⟩ : FRow 1 [⟨B, m, d, info⟩] (u 2) wx (S 2) := hw 2 (by omega) (by kernel_rfl)
      simp only [fr, dstOf]
      go_simp
      have hPt : Pts wx (some ⟨g2, 0, none⟩) [⟨B, m, d, info⟩] := ⟨hS2, fun i hi => by
        obtain rfl : i = 0 := by simp at hi; omega
        exact H2.out.ext (hUw4.drew.drew.trans hE)⟩
      have HPt := hide hPt
      clear hPt
      go_wp2_with fail
      refine (tag_any A n c (key) _ 1 1 [⟨B, m, d, info⟩] wx (H1.out.1.ext (hUw4.drew.drew.trans hE)) (H1.out.2.1) (H1.out.2.2.1) (H1.out.2.2.2) (by omega) HPt.out rfl (by rw [flat_one]; simp only; rw [H2.out.2.1]; simp only; omega) (by simp [maxLen])).mono ?_
      rintro e wn ⟨An, cn, rfl, hOn, hUn⟩
      rw [flat_one] at hOn
      have HOn := hide hOn
      clear hOn
      go_wp2_with fail
      exact ⟨_, rfl, hUn, An, cn, rfl, HOn.out.mono hE.size, fun k hk => HOn.out.in_ hk⟩
    | 4, _ =>
      intro u wx S o ho hE hr hd hw
      injection (ho : some _ = some o) with ho
      subst ho
      obtain ⟨A3, c3, f3, hO3, hI3⟩ : FBytes w4.heap.size 32 (tag key info) (u 3) wx (S 3) := hw 3 (by omega) (by kernel_rfl)
      simp only [fr, dstOf]
      go_simp
      have hcv := run_str (P := Try.prog) (c := c3) Try.under_bs Try.under8 Try.underS hO3.sl (tag_length key info)
      go_wp2
      exact ⟨Upd.refl _ _, rfl⟩
    | 5, _ =>
      intro u wx S o ho hE hr hd hw
      injection (ho : some _ = some o) with ho
      subst ho
      simp only [fr, dstOf]
      go_simp
      go_wp2
      exact ⟨(Upd.refl _ _).alloc _, _, _, rfl, rep_nil wx hE.size, fun k hk => by simp [inA] at hk; exact ⟨by omega, by omega⟩⟩
    | 6, _ =>
      intro u wx S o ho hE hr hd hw
      injection (ho : some _ = some o) with ho
      subst ho
      simp only [fr, dstOf]
      go_simp
      go_wp2
      exact ⟨Upd.refl _ _, rfl⟩
    | 7, _ =>
      intro u wx S o ho hE hr hd hw
      injection (ho : some _ = some o) with ho
      subst ho
      obtain ⟨A5, c5, f5, hO5, hI5⟩ : FBytes w4.heap.size 0 [] (u 5) wx (S 5) := hw 5 (by omega) (by kernel_rfl)
      have f6 : u 6 = .slice A n c := hw 6 (by omega) (by kernel_rfl)
      simp only [fr, dstOf]
      go_simp
      refine wpList_apd by8 one8 Try.el8 [] key key n rfl H1.out.2.1 (by omega) (by unfold maxLen; omega) rfl rfl rfl rfl hO5 rfl H1.out.2.1 (H1.out.1.ext (hUw4.drew.drew.trans hE)) hE.size ?_
      intro A7 c7 w7 hO7 hU7 hin7
      go_wp2_with fail
      exact ⟨hU7.mono (fun k _ hk => hI5 k hk), A7, c7, rfl, hO7, fun k hk => (hin7 k hk).elim (fun h => .inr (hI5 k h)) (fun h => .inl ⟨by omega, (hO7.in_ hk).2⟩)⟩
    | 8, _ =>
      intro u wx S o ho hE hr hd hw
      injection (ho : some _ = some o) with ho
      subst ho
      simp only [fr, dstOf]
      go_simp
      go_wp2
      exact ⟨(Upd.refl _ _).alloc _, _, _, rfl, Own.lit by8 wx 5 [0] hE.size (by simp [maxLen]), fun k hk => by simp [inA] at hk; exact ⟨by omega, by omega⟩⟩
    | 9, _ =>
      intro u wx S o ho hE hr hd hw
      injection (ho : some _ = some o) with ho
      subst ho
      obtain ⟨A7, c7, f7, hO7, hI7⟩ : FBytes w4.heap.size n key (u 7) wx (S 7) := hw 7 (by omega) (by kernel_rfl)
      obtain ⟨A8, c8, f8, hO8, hI8⟩ : FBytes w4.heap.size 1 [0] (u 8) wx (S 8) := hw 8 (by omega) (by kernel_rfl)
      simp only [fr, dstOf]
      go_simp
      refine wpList_apd by8 one8 Try.el8 key [0] (key ++ [0]) (n + 1) rfl (by rw [List.length_append, H1.out.2.1]; rfl) (by omega) (by unfold maxLen; omega) rfl rfl rfl H1.out.2.1 hO7 rfl rfl hO8.sl hE.size ?_
      intro A9 c9 w9 hO9 hU9 hin9
      go_wp2_with fail
      exact ⟨hU9.mono (fun k _ hk => hI7 k hk), A9, c9, rfl, hO9, fun k hk => (hin9 k hk).elim (fun h => .inr (hI7 k h)) (fun h => .inl ⟨by omega, (hO9.in_ hk).2⟩)⟩
    | 10, _ =>
      intro u wx S o ho hE hr hd hw
      injection (ho : some _ = some o) with ho
      subst ho
      simp only [fr, dstOf]
      go_simp
      go_wp2
      exact ⟨Upd.refl _ _, rfl⟩
    | 11, _ =>
      intro u wx S o ho hE hr hd hw
      injection (ho : some _ = some o) with ho
      subst ho
      have f10 : u 10 = .slice B m d := hw 10 (by omega) (by kernel_rfl)
      simp only [fr, dstOf]
      go_simp
      go_wp2
      exact ⟨(Upd.refl _ _).alloc _, _, rfl, Sl.new Pt.val wx 22 [⟨B, m, d, info⟩], Nat.le_refl _, by omega⟩
    | 12, _ =>
      intro u wx S o ho hE hr hd hw
      injection (ho : some _ = some o) with ho
      subst ho
      obtain ⟨A9, c9, f9, hO9, hI9⟩ : FBytes w4.heap.size (n + 1) (key ++ [0]) (u 9) wx (S 9) := hw 9 (by omega) (by kernel_rfl)
      obtain ⟨g11, f11, hS11, -⟩ : FRow 1 [⟨B, m, d, info⟩] (u 11) wx (S 11) := hw 11 (by omega) (by kernel_rfl)
      simp only [fr, dstOf]
      go_simp
      have hPt : Pts wx (some ⟨g11, 0, none⟩) [⟨B, m, d, info⟩] := ⟨hS11, fun i hi => by
        obtain rfl : i = 0 := by simp at hi; omega
        exact H2.out.ext (hUw4.drew.drew.trans hE)⟩
      have HPt := hide hPt
      clear hPt
      go_wp2_with fail
      refine (tag_any A9 (n + 1) c9 (key ++ [0]) _ 1 1 [⟨B, m, d, info⟩] wx (hO9.sl) (by rw [List.length_append, H1.out.2.1]; rfl) ((hO9.pt (n := n + 1) (by rw [List.length_append, H1.out.2.1]; rfl)).2.2.1) ((hO9.pt (n := n + 1) (by rw [List.length_append, H1.out.2.1]; rfl)).2.2.2) (by omega) HPt.out rfl (by rw [flat_one]; simp only; rw [H2.out.2.1]; simp only; omega) (by simp [maxLen])).mono ?_
      rintro e wn ⟨An, cn, rfl, hOn, hUn⟩
      rw [flat_one] at hOn
      have HOn := hide hOn
      clear hOn
      go_wp2_with fail
      have hte := tag_pad key info (by rw [H1.out.2.1]; exact h64)
      have HOx := HOn.out
      rw [hte] at HOx
      exact ⟨_, rfl, hUn, An, cn, rfl, HOx.mono hE.size, fun k hk => HOx.in_ hk⟩
    | 13, _ =>
      intro u wx S o ho hE hr hd hw
      injection (ho : some _ = some o) with ho
      subst ho
      obtain ⟨A12, c12, f12, hO12, hI12⟩ : FBytes w4.heap.size 32 (tag key info) (u 12) wx (S 12) := hw 12 (by omega) (by kernel_rfl)
      simp only [fr, dstOf]
      go_simp
      have hcv := run_str (P := Try.prog) (c := c12) Try.under_bs Try.under8 Try.underS hO12.sl (tag_length key info)
      go_wp2
      exact ⟨Upd.refl _ _, rfl⟩
    | 14, _ =>
      intro u wx S o ho hE hr hd hw
      injection (ho : some _ = some o) with ho
      subst ho
      have f4 : u 4 = .string (str (tag key info)) := hw 4 (by omega) (by kernel_rfl)
      have f13 : u 13 = .string (str (tag key info)) := hw 13 (by omega) (by kernel_rfl)
      simp only [fr, dstOf]
      go_simp
      go_wp2
      exact ⟨Upd.refl _ _, rfl⟩
    | k + 15, h => exact absurd h (by omega)
  · intro u wx hE hw
    subst hJ
    obtain ⟨S, f14⟩ := hw 14 (by omega) (by simp)
    have f : u 14 = .bool true := f14
    simp only [fr, dstOf]
    go_simp
    go_wp2
    go_ret
    exact ⟨rfl, hUw4.drew.drew.trans hE⟩
end Go.Proofs.Ytlbhjjihopafoaa
