/- The helpers of the laws on numbers, walked: Same, Num, ref, lives. -/
import Derived.Test.YtekpjdfgpggcnaaRefD
import Derived.Test.YtekpjdfgpggcnaaRefF
namespace Go.Proofs.Ytekpjdfgpggcnaa
set_option linter.unusedSimpArgs false
set_option linter.unusedVariables false
open Go.RowKit
open Nt
attribute [local go_sem] steady steadyUpon Cls same_cell by8 str_eq

/-- Bytes that can be read in a world give the same string in every later one. -/
theorem nstr_cls {W : World} {A : Option Addr} {n c : Nat} {bs : List (BitVec 8)} (hS : Sl by8 W A bs) (hn : bs.length = n) (x : Wd (Ext W)) :
    (convert 22 9 (.slice A n c)).run Try.prog x.w = .ok (.string (str bs)) x.w :=
  run_str Try.n_under_bs Try.n_under8 Try.n_underS (hS.ext x.ok) hn
theorem nstr_run {W : World} {A : Option Addr} {n c : Nat} {bs : List (BitVec 8)} (hS : Sl by8 W A bs) (hn : bs.length = n) :
    (convert 22 9 (.slice A n c)).run Try.prog W = .ok (.string (str bs)) W :=
  run_str Try.n_under_bs Try.n_under8 Try.n_underS hS hn
theorem toB_eq (x y : Nat) : decide (toB x (bytelen x) = toB y (bytelen y)) = decide (x = y) := by
  rw [Bool.eq_iff_iff]
  simp only [decide_eq_true_eq]
  constructor
  · intro h
    have := congrArg ofB h
    rwa [ofB_toB x _ (lt_bytelen x), ofB_toB y _ (lt_bytelen y)] at this
  · intro h; rw [h]
theorem Fit.blen {k n : Nat} (h : Fit k n) : blen n ≤ 32 * k := by
  rw [blen_le_iff, Nat.pow_mul]; exact h

set_option maxRecDepth 100000 in
set_option maxHeartbeats 1000000 in
theorem lsame_any (va vb : Value) (x y k : Nat) (w : World) (hVa : NatV w va x) (hVb : RefV w vb y) (hFa : Fit k x) (hFb : Fit k y) (hk : k ≤ 100000) :
    Calls Try.prog 16 #[va, vb] w fun e w' => e = .returned (.bool (decide (x = y))) ∧ Ext w w' := by
  obtain ⟨A, la, ca, xs, rfl, -⟩ := hVa.open_
  obtain ⟨B, lb, cb, ys, rfl, hly, -, -, -, hTb, hnb⟩ := hVb.open_
  have hlb : lb = blen y := by have := bits_len (hly ▸ hTb); rw [hnb, hly] at this; exact this
  have hbl := Fit.blen hFb
  have hlk : lb ≤ 3200000 := by omega
  have hL : ((lb : Int) + 7) / 8 = (bytelen y : Int) := by unfold bytelen; omega
  have hL2 : bytelen y ≤ 400000 := by unfold bytelen; omega
  obtain ⟨L, hLd⟩ : ∃ L, L = bytelen y := ⟨_, rfl⟩
  rw [← hLd] at hL hL2
  have HLd := hide hLd
  clear hTb hnb hly hlb hLd
  go_enter Try.func16, Try.ntmps16
  go_wp2_with fail
  refine (rbytes_any (.slice B lb cb) y 3200000 L _ (hVb.ext (by repeat (first | (with_reducible exact Upd.refl _ _) | (with_reducible assumption) | (refine Upd.setCell ?_ (.inr (by first | exact Nat.le_refl _ | (dsimp only; omega) | (simp; done) | (simp; omega))) _) | (with_reducible refine Upd.alloc ?_ _) | (with_reducible refine Upd.drew ?_) | (with_reducible refine Upd.trans ?_ (by with_reducible assumption))))) (by omega) (by omega) (by rw [HLd.out]; exact Nat.le_refl _) (by omega)).mono ?_
  rintro e w1 ⟨A1, c1, rfl, hl1, hO1, hU1⟩
  go_wp2_with fail
  have hE1 : Ext w w1 := (by repeat (first | (with_reducible exact Upd.refl _ _) | (with_reducible assumption) | (refine Upd.setCell ?_ (.inr (by first | exact Nat.le_refl _ | (dsimp only; omega) | (simp; done) | (simp; omega))) _) | (with_reducible refine Upd.alloc ?_ _) | (with_reducible refine Upd.drew ?_) | (with_reducible refine Upd.trans ?_ (by with_reducible assumption))))
  have hB2 : Box w1 w.heap.size 26 (.slice A la ca) := (Box.new w 26 (.slice A la ca)).ext hU1
  have hcb := nstr_cls (c := c1) (hO1.sl.ext (Upd.refl _ w1).drew) hl1
  have c2 := fun x : Wd (Ext w1.drew) => (x.ok.cell (p := ⟨w.heap.size, 0, none⟩) hB2.drew.lt (fun h => h)).trans hB2.drew.cell
  have Hl1 := hide hl1
  clear hL hl1 hU1
  refine wp_region_plan (Ext _) 6 [(false,0), (false,3), (false,4), (true,1), (false,2), (false,5)] (by kernel_rfl) (by kernel_rfl) (Upd.refl _ _) (fun hne => ?_)
  repeat (refine head_q rfl (fun K hK => ?_); have hK2 := hide hK; clear hK; go_simp; refine hK2.out _ ?_; clear hK2 K)
  refine head_l rfl ?_
  go_wp2_with (go_at_call 36; go_must (refine (least_any (.agg #[.slice A la ca]) x k _ (hVa.ext hE1.drew) hFa (by omega)).mono ?_); rintro e w2 ⟨A2, c2, rfl, hl2, hO2, hU2⟩)
  refine ⟨Cls (Ext _), cls_narrow hU2, ⟨⟨_, Upd.refl _ _⟩, rfl⟩, ?_⟩
  have hca := nstr_cls (c := c2) hO2.sl hl2
  repeat (refine head_q rfl (fun K hK => ?_); have hK2 := hide hK; clear hK; go_simp; refine hK2.out _ ?_; clear hK2 K)
  refine head_nil ?_
  try simp only [List.drop_succ_cons, List.drop_zero]
  go_wp2
  go_ret
  exact ⟨by rw [HLd.out, toB_eq]; rfl, hE1.drew.trans hU2⟩

theorem num_cut (A : Option Addr) (n c m : Nat) (bs : List (BitVec 8)) (w : World) (hmin : min (n : Int) 48 = (m : Int)) (hlen : (bs.take 48).length = m) (hm48 : m ≤ 48) (hmc : m ≤ c) (hc : n ≤ 9223372036854775807) (hS : Sl by8 w A bs) :
    Calls Try.prog 19 #[.slice A n c] w (RetN w (ofB (bs.take 48))) := by
  have hs1 : ∀ w, (Instr.sliceAt 22 (.slice A n c) none (some (.int .i64 (m : Int))) none).run Try.prog w = .ok (.slice A m c) w := fun w => run_cut_h Try.n_el8.under Try.n_sz8 A n c m .i64 (by omega) w
  have Hlen := hide hlen
  have HS := hide hS
  clear hlen hS
  go_enter Try.func19, Try.ntmps19
  go_wp2_with fail
  refine (from_any A m c (bs.take 48) _ Hlen.out (by omega) (((HS.out.take 48)).ext (by repeat (first | (with_reducible exact Upd.refl _ _) | (with_reducible assumption) | (refine Upd.setCell ?_ (.inr (by first | exact Nat.le_refl _ | (dsimp only; omega) | (simp; done) | (simp; omega))) _) | (with_reducible refine Upd.alloc ?_ _) | (with_reducible refine Upd.drew ?_) | (with_reducible refine Upd.trans ?_ (by with_reducible assumption)))))).mono ?_
  rintro e w1 ⟨A1, l1, c1, rfl, hV, hU⟩
  have hE : Ext w w1 := (by repeat (first | (with_reducible exact Upd.refl _ _) | (with_reducible assumption) | (refine Upd.setCell ?_ (.inr (by first | exact Nat.le_refl _ | (dsimp only; omega) | (simp; done) | (simp; omega))) _) | (with_reducible refine Upd.alloc ?_ _) | (with_reducible refine Upd.drew ?_) | (with_reducible refine Upd.trans ?_ (by with_reducible assumption))))
  have hB := (Box.new w 26 (.slice none 0 0)).ext hU
  have q1 := hB.cell
  have q2 := hB.frozen
  have q3 := hB.lt
  clear hU
  go_wp2
  have q4 := ((hB.set (.slice A1 l1 c1)).alloc (.cells #[.slice A1 l1 c1] 26)).cell
  exact bodyPost_ret (v := .agg #[.slice A1 l1 c1]) (by simp [results, Try.results19, go_sem, q4]) rfl ⟨_, _, _, rfl, (hV.far (v := .slice A1 l1 c1) hB.cell).ext ((Upd.refl _ _).alloc _), (hE.setCell (p := ⟨w.heap.size, 0, none⟩) (.inr (by simp)) _).alloc _⟩
theorem ref_cut (A : Option Addr) (n c m : Nat) (bs : List (BitVec 8)) (w : World) (hmin : min (n : Int) 48 = (m : Int)) (hlen : (bs.take 48).length = m) (hm48 : m ≤ 48) (hmc : m ≤ c) (hc : n ≤ 9223372036854775807) (hS : Sl by8 w A bs) :
    Calls Try.prog 20 #[.slice A n c] w (RetR w (ofB (bs.take 48))) := by
  have hs1 : ∀ w, (Instr.sliceAt 22 (.slice A n c) none (some (.int .i64 (m : Int))) none).run Try.prog w = .ok (.slice A m c) w := fun w => run_cut_h Try.n_el8.under Try.n_sz8 A n c m .i64 (by omega) w
  have Hlen := hide hlen
  have HS := hide hS
  clear hlen hS
  go_enter Try.func20, Try.ntmps20
  go_wp2_with fail
  refine (rof_any A m c (bs.take 48) _ Hlen.out (by omega) (HS.out.take 48)).mono ?_
  rintro e w1 ⟨A1, l1, c1, rfl, hV, hU⟩
  go_wp2
  go_ret
  exact ⟨_, _, _, rfl, hV, hU⟩
/-- Bytes that came in. -/
def In8 (w : World) (A : Option Addr) (n c : Nat) (bs : List (BitVec 8)) : Prop := bs.length = n ∧ n ≤ c ∧ c ≤ maxLen ∧ Sl by8 w A bs
theorem In8.ext {w w' : World} {A : Option Addr} {n c : Nat} {bs : List (BitVec 8)} (h : In8 w A n c bs) (hu : Ext w w') : In8 w' A n c bs := ⟨h.1, h.2.1, h.2.2.1, h.2.2.2.ext hu⟩
theorem cut_min {n : Nat} {bs : List (BitVec 8)} (hl : bs.length = n) : min (n : Int) 48 = ((min n 48 : Nat) : Int) ∧ (bs.take 48).length = min n 48 ∧ min n 48 ≤ 48 ∧ min n 48 ≤ n := by
  refine ⟨by omega, by rw [List.length_take]; omega, by omega, by omega⟩
theorem num_any (A : Option Addr) (n c : Nat) (bs : List (BitVec 8)) (w : World) (h : In8 w A n c bs) :
    Calls Try.prog 19 #[.slice A n c] w (RetN w (ofB (bs.take 48))) := by
  obtain ⟨h1, h2, h3, h4⟩ := cut_min h.1
  have := h.2.2.1
  unfold maxLen at this
  exact num_cut A n c _ bs w h1 h2 h3 (Nat.le_trans h4 h.2.1) (by have := h.2.1; omega) h.2.2.2
theorem ref_any (A : Option Addr) (n c : Nat) (bs : List (BitVec 8)) (w : World) (h : In8 w A n c bs) :
    Calls Try.prog 20 #[.slice A n c] w (RetR w (ofB (bs.take 48))) := by
  obtain ⟨h1, h2, h3, h4⟩ := cut_min h.1
  have := h.2.2.1
  unfold maxLen at this
  exact ref_cut A n c _ bs w h1 h2 h3 (Nat.le_trans h4 h.2.1) (by have := h.2.1; omega) h.2.2.2
theorem fit_48 (bs : List (BitVec 8)) : Fit 12 (ofB (bs.take 48)) := by
  have h1 := ofB_lt (bs.take 48)
  unfold Fit
  refine Nat.lt_of_lt_of_le h1 ?_
  rw [show W32 ^ 12 = 256 ^ 48 by decide]
  exact Nat.pow_le_pow_right (by omega) (by rw [List.length_take]; omega)

set_option maxRecDepth 100000 in
set_option maxHeartbeats 2000000 in
theorem nlives_any (w : World) : Calls Try.prog 13 #[] w fun e w' => e = .returned (.bool true) ∧ Ext w w' := by
  go_enter Try.func13, Try.ntmps13
  go_wp2_with fail
  refine (new_any 7 _ (by omega)).mono ?_
  rintro e w1 ⟨A1, l1, c1, rfl, hV1, hU1⟩
  go_wp2_with fail
  refine (new_any 2 _ (by omega)).mono ?_
  rintro e w2 ⟨A2, l2, c2, rfl, hV2, hU2⟩
  go_wp2_with fail
  refine (div_any _ _ 7 2 4 _ (hV1.ext hU2) hV2 (by unfold Fit; decide) (by unfold Fit; decide) (by omega) (by omega)).mono ?_
  rintro e w3 ⟨A3, l3, c3, A4, l4, c4, rfl, hV3, hV4, hU3⟩
  go_wp2_with fail
  refine name_w (fun W hW => ?_)
  have hE : Ext w W := by rw [hW]; exact ((((hU1.trans hU2).trans hU3).alloc _).alloc _)
  have hVq : NatV W (.agg #[.slice A3 l3 c3]) 3 := by rw [hW]; exact hV3.ext (((Upd.refl _ w3).alloc _).alloc _)
  have hVr : NatV W (.agg #[.slice A4 l4 c4]) 1 := by rw [hW]; exact hV4.ext (((Upd.refl _ w3).alloc _).alloc _)
  have b1 : Box W w3.heap.size 26 (.slice A3 l3 c3) := by rw [hW]; exact Box.alloc (Box.new _ _ _) _
  have b2 : Box W (w3.heap.size + 1) 26 (.slice A4 l4 c4) := by rw [hW]; exact Box.new_at (by simp)
  clear hW hU1 hU2 hU3 hV1 hV2 hV3 hV4
  have c1' := fun x : Wd (Ext W.drew) => (x.ok.cell (p := ⟨w3.heap.size, 0, none⟩) b1.drew.lt (fun h => h)).trans b1.drew.cell
  refine wp_region_plan (Ext _) 12 [(false,0), (false,1), (false,2), (false,3), (true,4), (true,5), (false,6), (false,7), (false,8), (true,9), (true,10), (false,11)] (by kernel_rfl) (by kernel_rfl) (Upd.refl _ _) (fun hne => ?_)
  repeat (refine head_q rfl (fun K hK => ?_); have hK2 := hide hK; clear hK; go_simp; refine hK2.out _ ?_; clear hK2 K)
  refine head_l rfl ?_
  go_wp2_with (go_at_call 31; go_must (refine (rsmall_any 3 _ (by omega)).mono ?_); rintro e w4 ⟨A5, l5, c5, rfl, hV5, hU5⟩)
  refine ⟨Cls (Ext _), cls_narrow hU5, ⟨⟨_, Upd.refl _ _⟩, rfl⟩, ?_⟩
  refine head_l rfl ?_
  go_wp2_with (go_at_call 16; go_must (refine (lsame_any _ _ 3 3 4 _ (hVq.ext ((Upd.refl _ W).drew.trans hU5)) hV5 (by unfold Fit; decide) (by unfold Fit; decide) (by omega)).mono ?_); rintro e w5 ⟨rfl, hU6⟩)
  refine ⟨Cls (Ext _), cls_narrow hU6, ⟨⟨_, Upd.refl _ _⟩, rfl⟩, ?_⟩
  have hE5 : Ext W w5 := ((Upd.refl _ W).drew.trans hU5).trans hU6
  have c2' := fun x : Wd (Ext w5) => (x.ok.cell (p := ⟨w3.heap.size + 1, 0, none⟩) (b2.ext hE5).lt (fun h => h)).trans (b2.ext hE5).cell
  repeat (refine head_q rfl (fun K hK => ?_); have hK2 := hide hK; clear hK; go_simp; refine hK2.out _ ?_; clear hK2 K)
  refine head_l rfl ?_
  go_wp2_with (go_at_call 31; go_must (refine (rsmall_any 1 _ (by omega)).mono ?_); rintro e w6 ⟨A7, l7, c7, rfl, hV7, hU7⟩)
  refine ⟨Cls (Ext _), cls_narrow hU7, ⟨⟨_, Upd.refl _ _⟩, rfl⟩, ?_⟩
  refine head_l rfl ?_
  go_wp2_with (go_at_call 16; go_must (refine (lsame_any _ _ 1 1 4 _ (hVr.ext (hE5.trans hU7)) hV7 (by unfold Fit; decide) (by unfold Fit; decide) (by omega)).mono ?_); rintro e w7 ⟨rfl, hU8⟩)
  refine ⟨Cls (Ext _), cls_narrow hU8, ⟨⟨_, Upd.refl _ _⟩, rfl⟩, ?_⟩
  repeat (refine head_q rfl (fun K hK => ?_); have hK2 := hide hK; clear hK; go_simp; refine hK2.out _ ?_; clear hK2 K)
  refine head_nil ?_
  try simp only [List.drop_succ_cons, List.drop_zero]
  go_wp2
  go_ret
  exact ⟨rfl, ((hE.trans hE5).trans hU7).trans hU8⟩
end Go.Proofs.Ytekpjdfgpggcnaa
