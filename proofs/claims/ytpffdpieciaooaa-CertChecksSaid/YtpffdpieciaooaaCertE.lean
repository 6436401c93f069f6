/- The laws of certificates: the chapter's example lives; CertSmalls, walked. -/
import Derived.Test.YtpffdpieciaooaaCertD
namespace Go.Proofs.Ytpffdpieciaooaa
set_option linter.unusedSimpArgs false
set_option linter.unusedVariables false
open Go.RowKit
open Nt Pk
attribute [local go_sem] steady steadyUpon Cls same_cell anyW
attribute [local irreducible] wpHead wpTree wpHeadR
def exPs : List Nat := [2, 167, 499]
theorem ex_v2 : vpow 166666 2 = 2 := by rw [vpow_yes (by omega) (by omega) (by decide), vpow_no (by decide)]
theorem ex_v167 : vpow 166666 167 = 167 := by rw [vpow_yes (by omega) (by omega) (by decide), vpow_no (by decide)]
theorem ex_v499 : vpow 166666 499 = 499 := by rw [vpow_yes (by omega) (by omega) (by decide), vpow_no (by decide)]
theorem ex_fac : facF 166667 exPs = 166666 := by
  unfold facF exPs
  simp only [List.map_cons, List.map_nil, show 166667 - 1 = 166666 from rfl, ex_v2, ex_v167, ex_v499, prodL]
theorem ex_pow : 2 ^ (166667 - 1) % 166667 = 1 := by decide +kernel
theorem ex_ok0 : okP 166667 2 exPs [] 0 = true := by decide +kernel
theorem ex_ok1 : okP 166667 2 exPs [] 1 = true := by decide +kernel
theorem ex_ok2 : okP 166667 2 exPs [] 2 = true := by decide +kernel
theorem ex_holds : holdsB 166667 2 exPs [] = true := by
  rw [holds_yes (by omega) (by decide) ex_pow (fun i hi => ?_), ex_fac]
  · decide
  · match i, hi with
    | 0, _ => exact ex_ok0
    | 1, _ => exact ex_ok1
    | 2, _ => exact ex_ok2
    | k + 3, h => exact absurd h (by simp [exPs])
theorem cu64_in {x : Int} (h : (Lit.int .u64 x).wf = true) : ∃ N : Nat, x = (N : Int) ∧ N < 18446744073709551616 := by
  have hb : 0 ≤ x ∧ x ≤ 18446744073709551615 := by
    simpa [Lit.wf, IntKind.min, IntKind.max, IntKind.signed, IntKind.bits] using h
  obtain ⟨k, rfl⟩ := Int.eq_ofNat_of_zero_le hb.1
  exact ⟨k, rfl, by omega⟩
theorem fit2 {n : Nat} (h : n < 18446744073709551616) : Fit 2 n := h
set_option maxRecDepth 100000 in
set_option maxHeartbeats 2000000 in
theorem clives_any (w : World) : Calls Try.prog 37 #[] w fun e w' => e = .returned (.bool true) ∧ Ext w w' := by
  go_enter Try.func37, Try.ntmps37
  go_wp2_with fail
  refine (new_any 166667 _ (by omega)).mono ?_
  rintro e w1 ⟨A1, l1, c1, rfl, hV1, hU1⟩
  go_wp2_with fail
  refine (new_any 2 _ (by omega)).mono ?_
  rintro e w2 ⟨A2, l2, c2, rfl, hV2, hU2⟩
  go_wp2_with fail
  refine (new_any 2 _ (by omega)).mono ?_
  rintro e w3 ⟨A3, l3, c3, rfl, hV3, hU3⟩
  go_wp2_with fail
  refine (new_any 167 _ (by omega)).mono ?_
  rintro e w4 ⟨A4, l4, c4, rfl, hV4, hU4⟩
  go_wp2_with fail
  refine (new_any 499 _ (by omega)).mono ?_
  rintro e w5 ⟨A5, l5, c5, rfl, hV5, hU5⟩
  go_wp2_with fail
  refine name_c (fun W hW => ?_)
  have hEW : Ext w5 W := by rw [hW]; exact (Upd.refl _ _).alloc _
  have hL : NatL W (some ⟨w5.heap.size, 0, none⟩) exPs := by
    refine ⟨[(A3, l3, c3), (A4, l4, c4), (A5, l5, c5)], rfl, by rw [hW]; exact Sl.new svt w5 37 [(A3, l3, c3), (A4, l4, c4), (A5, l5, c5)], fun i hi => ?_⟩
    match i, hi with
    | 0, _ => exact ((hV3.ext hU4).ext hU5).ext hEW
    | 1, _ => exact (hV4.ext hU5).ext hEW
    | 2, _ => exact hV5.ext hEW
    | k + 3, h => exact absurd h (by simp [exPs])
  have hFp : FitL 2 exPs := fun i hi => by
    match i, hi with
    | 0, _ | 1, _ | 2, _ => exact fit2 (by decide)
    | k + 3, h => exact absurd h (by simp [exPs])
  have hE := ((((hU1.trans hU2).trans hU3).trans hU4).trans hU5).trans hEW
  clear hW
  refine (choldsB_any A1 A2 _ none l1 c1 l2 c2 3 3 0 0 166667 2 2 exPs [] _ ((((((hV1.ext hU2).ext hU3).ext hU4).ext hU5).ext hEW)) (((((hV2.ext hU3).ext hU4).ext hU5).ext hEW)) hL rfl (by omega) (by unfold maxLen; omega) NatL.nil rfl (by omega) (fit2 (by decide)) (fit2 (by decide)) hFp (fun i hi => absurd hi (by simp)) (by omega) (by omega)).mono ?_
  rw [ex_holds]
  rintro e w6 ⟨rfl, hU6⟩
  go_wp2_with fail
  go_ret
  exact ⟨rfl, hE.trans hU6⟩
/-- how many numbers from 1 to k divide n -/
def divC (n : Nat) : Nat → Nat
  | 0 => 0
  | k + 1 => divC n k + if n % (k + 1) = 0 then 1 else 0
theorem divC_le (n k : Nat) : divC n k ≤ k := by
  induction k with
  | zero => exact Nat.le_refl _
  | succ k ih => unfold divC; split <;> omega
theorem divC_one (n : Nat) : ∀ k, 1 ≤ k → 1 ≤ divC n k ∧ (divC n k = 1 ↔ ∀ d, 2 ≤ d → d ≤ k → n % d ≠ 0)
  | 0, h => absurd h (by omega)
  | 1, _ => by
    have h1 : divC n 1 = 1 := by unfold divC divC; rw [if_pos (Nat.mod_one n)]
    rw [h1]
    exact ⟨Nat.le_refl _, ⟨fun _ d h1 h2 => by omega, fun _ => rfl⟩⟩
  | k + 2, _ => by
    obtain ⟨h1, h2⟩ := divC_one n (k + 1) (by omega)
    have e : divC n (k + 2) = divC n (k + 1) + if n % (k + 2) = 0 then 1 else 0 := rfl
    rw [e]
    by_cases h : n % (k + 2) = 0
    · rw [if_pos h]
      exact ⟨by omega, ⟨fun h3 => by omega, fun h3 => absurd h (h3 (k + 2) (by omega) (Nat.le_refl _))⟩⟩
    · rw [if_neg h, Nat.add_zero]
      refine ⟨h1, h2.trans ⟨fun h3 d hd hk => ?_, fun h3 d hd hk => h3 d hd (by omega)⟩⟩
      by_cases hd2 : d = k + 2
      · subst hd2; exact h
      · exact h3 d hd (by omega)
theorem small_divC {n : Nat} (h : n < 65536) : smallB n = decide (divC n n = 2) := by
  rcases n with _ | _ | n
  · decide +kernel
  · decide +kernel
  · have e : divC (n + 2) (n + 2) = divC (n + 2) (n + 1) + 1 := by
      show divC (n + 2) (n + 1) + (if (n + 2) % (n + 2) = 0 then 1 else 0) = _
      rw [if_pos (Nat.mod_self _)]
    obtain ⟨h1, h2⟩ := divC_one (n + 2) (n + 1) (by omega)
    have h3 : smallB (n + 2) = true ↔ divC (n + 2) (n + 2) = 2 := by
      rw [e, smallB_iff]
      refine ⟨fun ⟨_, _, h4⟩ => ?_, fun h4 => ⟨by omega, h, fun d hd hdd => ?_⟩⟩
      · have hp := pr_of_small (by omega) h4
        have : divC (n + 2) (n + 1) = 1 := h2.2 fun d hd hk h0 => by
          rcases hp.2 d (Nat.dvd_of_mod_eq_zero h0) with h5 | h5 <;> omega
        omega
      · refine h2.1 (by omega) d hd ?_
        have h5 := Nat.mul_le_mul_right d hd
        omega
    cases hs : smallB (n + 2) with
    | true => exact (decide_eq_true (h3.1 hs)).symm
    | false => exact (decide_eq_false fun h4 => by rw [h3.2 h4] at hs; cases hs).symm
set_option maxRecDepth 100000 in
set_option maxHeartbeats 2000000 in
theorem rdivs_any (n : Nat) (w : World) (hn : n < 65536) : Calls Try.prog 40 #[.int .i64 (n : Int)] w fun e w' => e = .returned (.int .i64 (divC n n : Int)) ∧ Ext w w' := by
  have Hn := hide hn
  have hnI : (n : Int) ≤ 70000 := by omega
  clear hn
  go_enter Try.func40, Try.ntmps40
  go_wp2_with fail
  go_loopw [3, 4] (fun ov dv wr => ∃ (k c : Nat), k ≤ n ∧ c ≤ k ∧ dv = .int .i64 ((k : Int) + 1) ∧ ov = .int .i64 (c : Int) ∧ c = divC n k ∧ Ext w wr) (fun _ dv _ => (70005 - intOf dv).toNat)
  case atStart => exact ⟨0, 0, Nat.zero_le _, Nat.le_refl _, rfl, rfl, rfl, Upd.refl _ _⟩
  case round =>
    obtain ⟨k, c, hk, hck, rfl, rfl, hc, hE⟩ := hrel
    have Hc := hide hc
    clear hc
    by_cases hlt : k < n
    · have hltI : (k : Int) + 1 ≤ (n : Int) := by omega
      have hd0 : ¬ (k : Int) + 1 = 0 := by omega
      obtain ⟨r, hr⟩ : ∃ r, r = n % (k + 1) := ⟨_, rfl⟩
      have hr2 : (n : Int) % ((k : Int) + 1) = (r : Int) := by rw [hr]; rfl
      have hr1 : (n : Int).tmod ((k : Int) + 1) = (r : Int) := by rw [Int.tmod_eq_emod_of_nonneg (by omega)]; exact hr2
      have Hr := hide hr
      clear hr
      by_cases hr0 : r = 0
      · have hr0I : (r : Int) = 0 := by omega
        go_wp2_with fail
        go_roundw
        case rel => exact ⟨k + 1, c + 1, by omega, by omega, by go_num, by go_num, by rw [divC, if_pos (by rw [← Hr.out]; exact hr0), Hc.out], hE⟩
        case measure => simp [intOf]; omega
      · have hr0I : ¬ (r : Int) = 0 := by omega
        go_wp2_with fail
        go_roundw
        case rel => exact ⟨k + 1, c, by omega, by omega, by go_num, rfl, by rw [divC, if_neg (by rw [← Hr.out]; exact hr0), Hc.out]; rfl, hE⟩
        case measure => simp [intOf]; omega
    · obtain rfl : k = n := by omega
      have hltI : ¬ (k : Int) + 1 ≤ (k : Int) := by omega
      go_wp2_with fail
      go_ret
      rw [← Hc.out]
      exact ⟨rfl, hE⟩
set_option maxRecDepth 100000 in
set_option maxHeartbeats 2000000 in
theorem csmalls_any (n : Nat) (w : World) (hn : n < 18446744073709551616) : Calls Try.prog 7 #[.int .u64 (n : Int)] w fun e w' => e = .returned (.bool true) ∧ Ext w w' := by
  have Hn := hide hn
  clear hn
  go_enter Try.func7, Try.ntmps7
  go_wp2_with fail
  refine (clives_any _).mono ?_
  rintro e w1 ⟨rfl, hU1⟩
  by_cases h16 : n < 65536
  · have h16I : decide ((65536 : Int) ≤ (n : Int)) = false := decide_eq_false (by omega)
    have H16 := hide h16
    have hnI : (n : Int) ≤ 70000 := by omega
    clear h16
    go_wp2_with fail
    refine (new_any n _ Hn.out).mono ?_
    rintro e w2 ⟨A2, l2, c2, rfl, hV2, hU2⟩
    go_wp2_with fail
    refine (csmall_any _ n _ hV2).mono ?_
    rintro e w3 ⟨rfl, hU3⟩
    go_wp2_with fail
    refine (rdivs_any n _ H16.out).mono ?_
    rintro e w4 ⟨rfl, hU4⟩
    have hE := ((hU1.trans hU2).trans hU3).trans hU4
    have hs := small_divC H16.out
    obtain ⟨d, hd⟩ : ∃ d, d = divC n n := ⟨_, rfl⟩
    rw [← hd] at hs ⊢
    clear hd hU1 hU2 hU3 hU4 hV2
    by_cases h2 : d = 2
    · rw [decide_eq_true h2] at hs
      rw [hs]
      subst h2
      go_wp2_with fail
      go_ret
      exact ⟨rfl, hE⟩
    · rw [decide_eq_false h2] at hs
      rw [hs]
      have hdI : ((d : Int) == 2) = false := beq_eq_false_iff_ne.2 (by omega)
      have hdI2 : ¬ (d : Int) = 2 := by omega
      go_wp2_with fail
      go_ret
      exact ⟨rfl, hE⟩
  · have h16I : decide ((65536 : Int) ≤ (n : Int)) = true := decide_eq_true (by omega)
    have hs := smallB_false (n := n) (.inr (by omega))
    have Hs := hide hs
    clear h16 hs
    go_wp2_with fail
    refine (new_any n _ Hn.out).mono ?_
    rintro e w2 ⟨A2, l2, c2, rfl, hV2, hU2⟩
    go_wp2_with fail
    refine (csmall_any _ n _ hV2).mono ?_
    rw [Hs.out]
    rintro e w3 ⟨rfl, hU3⟩
    go_wp2_with fail
    go_ret
    exact ⟨rfl, (hU1.trans hU2).trans hU3⟩
end Go.Proofs.Ytpffdpieciaooaa
