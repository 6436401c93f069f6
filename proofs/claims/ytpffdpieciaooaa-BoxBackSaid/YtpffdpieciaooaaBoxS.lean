/- The laws of the box, walked: BoxSeals, BoxOpens. -/
import Derived.Test.YtpffdpieciaooaaBoxR
import Derived.Test.YtpffdpieciaooaaBoxL
import Derived.Test.YtpffdpieciaooaaTagN
namespace Go.Proofs.Ytpffdpieciaooaa
set_option linter.unusedSimpArgs false
set_option linter.unusedVariables false
open Go.RowKit
open Nt Strm
attribute [local go_sem] steady steadyUpon Cls same_cell by8 str_eq
attribute [local irreducible] wpHead wpTree
theorem rw_not (n m : Nat) : rightB n m = !wrongB n m := by unfold rightB wrongB; rw [Bool.not_not]
theorem wrong_iff {n m : Nat} : wrongB n m = false ↔ n = 32 ∧ m = 12 := by unfold wrongB; simp
def Bi.pt (A : Option Addr) (n c : Nat) (bs : List (BitVec 8)) : Pt := ⟨A, n, c, bs⟩
theorem pts_two {w : World} {A B : Option Addr} {n c m d : Nat} {a b : List (BitVec 8)} (h1 : Bi w A n c a) (h2 : Bi w B m d b) : Pts (w.alloc (.cells #[.slice A n c, .slice B m d] 22)) (some ⟨w.heap.size, 0, none⟩) [⟨A, n, c, a⟩, ⟨B, m, d, b⟩] := by
  have hE : Ext w (w.alloc (.cells #[.slice A n c, .slice B m d] 22)) := (Upd.refl _ _).alloc _
  refine ⟨Sl.new Pt.val w 22 [⟨A, n, c, a⟩, ⟨B, m, d, b⟩], fun i hi => ?_⟩
  match i, hi with
  | 0, _ => exact ⟨h1.2.2.2.ext hE, h1.1, h1.2.1, h1.2.2.1⟩
  | 1, _ => exact ⟨h2.2.2.2.ext hE, h2.1, h2.2.1, h2.2.2.1⟩
  | k + 2, h => exact absurd h (by simp)
/-- the parts that are asked about, and whether they are few -/
def few2 (n m : Nat) : Bool := decide (n ≤ 200) && decide (m ≤ 200)
theorem bfew_two {w : World} {A B : Option Addr} {n c m d : Nat} {a b : List (BitVec 8)} (h1 : Bi w A n c a) (h2 : Bi w B m d b) : Calls Try.prog 52 #[.slice (some ⟨w.heap.size, 0, none⟩) 2 2] (w.alloc (.cells #[.slice A n c, .slice B m d] 22)) fun e w' => e = .returned (.bool (few2 n m)) ∧ Ext w w' := by
  refine (bfew_any _ 2 2 _ _ (pts_two h1 h2) rfl (by omega)).mono ?_
  rintro e w' ⟨rfl, hU⟩
  refine ⟨?_, ((Upd.refl _ _).alloc _).trans hU⟩
  unfold few2
  simp only [List.all_cons, List.all_nil, Bool.and_true]
set_option maxRecDepth 100000 in
set_option maxHeartbeats 2000000 in
theorem bseals_any (A B C D : Option Addr) (nk c nn d ns cs n f : Nat) (key nonce side b : List (BitVec 8)) (w : World) (h1 : Bi w A nk c key) (h2 : Bi w B nn d nonce) (h3 : Bi w C ns cs side) (h4 : Bi w D n f b) :
    Calls Try.prog 11 #[.slice A nk c, .slice B nn d, .slice C ns cs, .slice D n f] w fun e w' => e = .returned (.bool true) ∧ Ext w w' := by
  have H1 := hide h1
  have H2 := hide h2
  have H3 := hide h3
  have H4 := hide h4
  clear h1 h2 h3 h4
  go_enter Try.func11, Try.ntmps11
  go_wp2_with fail
  refine (blives_any _).mono ?_
  rintro e w1 ⟨rfl, hU1⟩
  go_wp2_with fail
  refine (bfew_two (H3.out.ext hU1) (H4.out.ext hU1)).mono ?_
  rintro e w2 ⟨rfl, hU2⟩
  replace hU2 := hU1.trans hU2
  clear hU1
  cases hf : few2 ns n with
  | false =>
    go_wp2_with fail
    refine (blives_any _).mono ?_
    rintro e w3 ⟨rfl, hU3⟩
    go_wp2_with fail
    go_ret
    exact ⟨rfl, hU2.trans hU3⟩
  | true =>
    obtain ⟨hb1, hb2⟩ : ns ≤ 200 ∧ n ≤ 200 := by unfold few2 at hf; simpa using hf
    have K4 := H4.out.ext hU2
    clear hf
    go_wp2_with (at_builtin; go_must (refine wpList_apd by8 one8 Try.n_el8 [] b b n rfl K4.1 (by omega) (by unfold maxLen; omega) rfl rfl rfl rfl (own_none8 w2 (B := w2.heap.size) (Nat.le_refl _)) rfl K4.1 (K4.2.2.2.ext ((Upd.refl _ _).alloc _)) (by simp) ?_); intro A3 c3 w3 hO3 hU3 hin3)
    have hE3 : Ext w w3 := hU2.trans (Upd.fresh hU3 ((Upd.refl _ _).alloc _) (fun k hk => by unfold inA at hk; simp at hk; omega))
    have hS3 := hO3.sl
    have hc3 := hO3.cap.1
    rw [List.length_map, K4.1] at hc3
    clear K4 hU3 hin3 hO3 hU2
    cases hw : wrongB nk nn with
    | true =>
      refine (bseal_wrong _ _ _ _ nk c nn d ns cs n c3 _ hw).mono ?_
      rintro e w4 ⟨rfl, hU4⟩
      have hE4 := hE3.trans hU4
      have hr : rightB nk nn = false := by rw [rw_not, hw]; rfl
      clear hS3 hE3 hU4
      go_wp2_with fail
      refine (right_any _ _ _ _ _ _ _).mono ?_
      rintro e w' ⟨rfl, rfl⟩
      go_wp2_with fail
      go_ret
      exact ⟨rfl, hE4⟩
    | false =>
      obtain ⟨rfl, rfl⟩ := wrong_iff.1 hw
      have hr : rightB 32 12 = true := rfl
      have I3 : BxIn w3 A B C A3 c d ns cs n c3 key nonce side b := ⟨H1.out.1, H2.out.1, H1.out.2.1, H2.out.2.1, H1.out.2.2.2.ext hE3, H2.out.2.2.2.ext hE3, H3.out.1, by omega, H3.out.2.2.2.ext hE3, H4.out.1, by omega, hS3⟩
      clear hw
      refine (bseal_any _ _ _ _ c d ns cs n c3 key nonce side b _ I3).mono ?_
      rintro e w4 ⟨A4, c4, rfl, -, hO4, hU4⟩
      have hE4 := hE3.trans hU4
      have hlen : (bxS key nonce side b).length = n + 16 := by rw [bxS_length, H4.out.1]
      have hcv := nstr_cls (c := c4) (hO4.sl.ext (Upd.refl _ w4).drew) hlen
      have hS34 := hS3.ext hU4
      have I4 : BxIn w4.drew A B C D c d ns cs n f key nonce side b := ⟨H1.out.1, H2.out.1, H1.out.2.1, H2.out.2.1, H1.out.2.2.2.ext hE4.drew, H2.out.2.2.2.ext hE4.drew, H3.out.1, by omega, H3.out.2.2.2.ext hE4.drew, H4.out.1, by omega, H4.out.2.2.2.ext hE4.drew⟩
      clear hO4 hS3 hE3 I3
      go_wp2_with fail
      refine (right_any _ _ _ _ _ _ _).mono ?_
      rintro e w' ⟨rfl, rfl⟩
      go_wp2_with fail
      refine wp_region_plan (Ext _) 20 [(false,0), (false,1), (false,2), (false,3), (false,4), (false,5), (false,6), (false,7), (false,8), (true,9), (false,10), (false,11), (false,12), (false,13), (false,14), (false,15), (false,16), (false,17), (false,18), (false,19)] (by kernel_rfl) (by kernel_rfl) (Upd.refl _ _) (fun hne => ?_)
      repeat (refine head_q rfl (fun K hK => ?_); have hK2 := hide hK; clear hK; go_simp; refine hK2.out _ ?_; clear hK2 K)
      refine head_l rfl ?_
      go_wp2_with (go_at_call 55; go_must (refine (rseal_any _ _ _ _ c d ns cs n f key nonce side b _ I4 H3.out.2.1 H3.out.2.2.1).mono ?_); rintro e w5 ⟨A5, c5, rfl, -, hS5, hU5⟩)
      refine ⟨Cls (Ext _), cls_narrow hU5, ⟨⟨_, Upd.refl _ _⟩, rfl⟩, ?_⟩
      have hE5 := hE4.drew.trans hU5
      have hcr := nstr_cls (c := c5) hS5 hlen
      have hco := nstr_cls (c := c3) ((hS34.ext (Upd.refl _ _).drew).ext hU5) H4.out.1
      have hcb := nstr_cls (c := f) (H4.out.2.2.2.ext hE5) H4.out.1
      repeat (refine head_q rfl (fun K hK => ?_); have hK2 := hide hK; clear hK; go_simp; refine hK2.out _ ?_; clear hK2 K)
      refine head_nil ?_
      try simp only [List.drop_succ_cons, List.drop_zero]
      go_wp2
      go_ret
      exact ⟨rfl, hE5⟩
end Go.Proofs.Ytpffdpieciaooaa
