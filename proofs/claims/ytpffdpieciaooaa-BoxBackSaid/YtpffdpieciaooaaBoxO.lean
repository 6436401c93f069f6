/- The laws of the box, walked: BoxOpens, BoxShort. -/
import Derived.Test.YtpffdpieciaooaaBoxS
namespace Go.Proofs.Ytpffdpieciaooaa
set_option linter.unusedSimpArgs false
set_option linter.unusedVariables false
open Go.RowKit
open Nt Strm
attribute [local go_sem] steady steadyUpon Cls same_cell by8 str_eq
attribute [local irreducible] wpHead wpTree
set_option maxRecDepth 100000 in
set_option maxHeartbeats 2000000 in
theorem bopens_any (A B C D : Option Addr) (nk c nn d ns cs n f : Nat) (key nonce side b : List (BitVec 8)) (w : World) (h1 : Bi w A nk c key) (h2 : Bi w B nn d nonce) (h3 : Bi w C ns cs side) (h4 : Bi w D n f b) :
    Calls Try.prog 12 #[.slice A nk c, .slice B nn d, .slice C ns cs, .slice D n f] w fun e w' => e = .returned (.bool true) ∧ Ext w w' := by
  have H1 := hide h1
  have H2 := hide h2
  have H3 := hide h3
  have H4 := hide h4
  clear h1 h2 h3 h4
  go_enter Try.func12, Try.ntmps12
  go_wp2_with fail
  refine (blives_any _).mono ?_
  rintro e w1 ⟨rfl, hU1⟩
  go_wp2_with fail
  refine (bfew_two (H3.out.ext hU1) (H4.out.ext hU1)).mono ?_
  rintro e w2 ⟨rfl, hU2⟩
  replace hU2 := hU1.trans hU2
  clear hU1
  cases hf : few2 ns n with
  | false =>
    go_wp2_with fail
    refine (blives_any _).mono ?_
    rintro e w3 ⟨rfl, hU3⟩
    go_wp2_with fail
    go_ret
    exact ⟨rfl, hU2.trans hU3⟩
  | true =>
    obtain ⟨hb1, hb2⟩ : ns ≤ 200 ∧ n ≤ 200 := by unfold few2 at hf; simpa using hf
    have K4 := H4.out.ext hU2
    clear hf
    go_wp2_with (at_builtin; go_must (refine wpList_apd by8 one8 Try.n_el8 [] b b n rfl K4.1 (by omega) (by unfold maxLen; omega) rfl rfl rfl rfl (own_none8 w2 (B := w2.heap.size) (Nat.le_refl _)) rfl K4.1 (K4.2.2.2.ext ((Upd.refl _ _).alloc _)) (by simp) ?_); intro A3 c3 w3 hO3 hU3 hin3)
    have hE3 : Ext w w3 := hU2.trans (Upd.fresh hU3 ((Upd.refl _ _).alloc _) (fun k hk => by unfold inA at hk; simp at hk; omega))
    have hS3 := hO3.sl
    have hc3 := hO3.cap.1
    rw [List.length_map, K4.1] at hc3
    clear K4 hU3 hin3 hO3 hU2
    cases hw : wrongB nk nn with
    | true =>
      refine (bopen_wrong _ _ _ _ nk c nn d ns cs n c3 _ hw).mono ?_
      rintro e w4 ⟨rfl, hU4⟩
      have hE4 := hE3.trans hU4
      have hr : rightB nk nn = false := by rw [rw_not, hw]; rfl
      go_wp2_with fail
      refine (ropen_wrong _ _ _ _ nk c nn d ns cs n f _ hr).mono ?_
      rintro e w5 ⟨rfl, hU5⟩
      have hE5 := hE4.trans hU5
      have hS5 := (hS3.ext hU4).ext hU5
      clear hE3 hE4 hU4 hU5 hS3 hr hw
      have hcx := nstr_run (c := 0) (n := 0) (Sl.nil : Sl by8 w5 none ([] : List (BitVec 8))) rfl
      have hcy := nstr_run (c := 0) (n := 0) (Sl.nil : Sl by8 w5 none ([] : List (BitVec 8))) rfl
      have hco := nstr_run (c := c3) hS5 H4.out.1
      have hcb := nstr_run (c := f) (H4.out.2.2.2.ext hE5) H4.out.1
      go_wp2_with fail
      go_ret
      exact ⟨rfl, hE5⟩
    | false =>
      obtain ⟨rfl, rfl⟩ := wrong_iff.1 hw
      clear hw
      by_cases h16 : n < 16
      · refine (bopen_short _ _ _ _ c d ns cs n c3 _ h16).mono ?_
        rintro e w4 ⟨rfl, hU4⟩
        have hE4 := hE3.trans hU4
        go_wp2_with fail
        refine (ropen_short _ _ _ _ c d ns cs n f _ h16).mono ?_
        rintro e w5 ⟨rfl, hU5⟩
        have hE5 := hE4.trans hU5
        have hS5 := (hS3.ext hU4).ext hU5
        clear hE3 hE4 hU4 hU5 hS3
        have hcx := nstr_run (c := 0) (n := 0) (Sl.nil : Sl by8 w5 none ([] : List (BitVec 8))) rfl
        have hcy := nstr_run (c := 0) (n := 0) (Sl.nil : Sl by8 w5 none ([] : List (BitVec 8))) rfl
        have hco := nstr_run (c := c3) hS5 H4.out.1
        have hcb := nstr_run (c := f) (H4.out.2.2.2.ext hE5) H4.out.1
        go_wp2_with fail
        go_ret
        exact ⟨rfl, hE5⟩
      · obtain ⟨m, rfl⟩ : ∃ m, n = m + 16 := ⟨n - 16, by omega⟩
        clear h16
        refine (bopen_any A B C A3 c d ns cs m c3 key nonce side b _ ⟨H1.out.1, H2.out.1, H1.out.2.1, H2.out.2.1, H1.out.2.2.2.ext hE3, H2.out.2.2.2.ext hE3, H3.out.1, by omega, H3.out.2.2.2.ext hE3, H4.out.1, by omega, hS3⟩ hc3).mono ?_
        rintro e w4 hR4
        have hR : ∀ w5, Ext w w5 → Calls Try.prog 57 #[.slice A 32 c, .slice B 12 d, .slice C ns cs, .slice D (m + 16 : Nat) f] w5 (RetRO w5 m (bxO key nonce side b)) := fun w5 hE =>
          ropen_any A B C D c d ns cs m f key nonce side b _ ⟨H1.out.1, H2.out.1, H1.out.2.1, H2.out.2.1, H1.out.2.2.2.ext hE, H2.out.2.2.2.ext hE, H3.out.1, by omega, H3.out.2.2.2.ext hE, H4.out.1, by omega, H4.out.2.2.2.ext hE⟩ H4.out.2.1 H3.out.2.1 H3.out.2.2.1 H4.out.2.2.1
        have HR := hide hR
        clear hR
        generalize bxO key nonce side b = o at hR4 HR
        cases o with
        | none =>
          obtain ⟨rfl, hU4⟩ := hR4
          have hE4 := hE3.trans hU4
          have HRR := HR.out w4 hE4
          clear HR
          go_wp2_with fail
          refine HRR.mono ?_
          rintro e w5 ⟨rfl, hU5⟩
          have hE5 := hE4.trans hU5
          have hS5 := (hS3.ext hU4).ext hU5
          clear hE3 hE4 hU4 hU5 hS3 HRR
          have hcx := nstr_run (c := 0) (n := 0) (Sl.nil : Sl by8 w5 none ([] : List (BitVec 8))) rfl
          have hcy := nstr_run (c := 0) (n := 0) (Sl.nil : Sl by8 w5 none ([] : List (BitVec 8))) rfl
          have hco := nstr_run (c := c3) hS5 H4.out.1
          have hcb := nstr_run (c := f) (H4.out.2.2.2.ext hE5) H4.out.1
          go_wp2_with fail
          go_ret
          exact ⟨rfl, hE5⟩
        | some bs =>
          obtain ⟨A4, c4, rfl, hl, hO4, hU4⟩ := hR4
          have hE4 := hE3.trans hU4
          have HRR := HR.out w4 hE4
          have Hl := hide hl
          clear HR hl
          go_wp2_with fail
          refine HRR.mono ?_
          rintro e w5 ⟨A5, c5, rfl, hS5, hU5⟩
          have hE5 := hE4.trans hU5
          have hS35 := (hS3.ext hU4).ext hU5
          have hS45 := hO4.sl.ext hU5
          clear hE3 hE4 hU4 hU5 hS3 HRR hO4
          have hcx := nstr_run (c := c4) hS45 Hl.out.symm
          have hcy := nstr_run (c := c5) hS5 Hl.out.symm
          have hco := nstr_run (c := c3) hS35 H4.out.1
          have hcb := nstr_run (c := f) (H4.out.2.2.2.ext hE5) H4.out.1
          go_wp2_with fail
          go_ret
          exact ⟨rfl, hE5⟩
def few3 (l n m : Nat) : Bool := decide (l ≤ 200) && (decide (n ≤ 200) && decide (m ≤ 200))
theorem bfew_three {w : World} {A B C : Option Addr} {n c m d l f : Nat} {a b s : List (BitVec 8)} (h1 : Bi w A n c a) (h2 : Bi w B m d b) (h3 : Bi w C l f s) : Calls Try.prog 52 #[.slice (some ⟨w.heap.size, 0, none⟩) 3 3] (w.alloc (.cells #[.slice A n c, .slice B m d, .slice C l f] 22)) fun e w' => e = .returned (.bool (few3 n m l)) ∧ Ext w w' := by
  have hE : Ext w (w.alloc (.cells #[.slice A n c, .slice B m d, .slice C l f] 22)) := (Upd.refl _ _).alloc _
  have hP : Pts (w.alloc (.cells #[.slice A n c, .slice B m d, .slice C l f] 22)) (some ⟨w.heap.size, 0, none⟩) [⟨A, n, c, a⟩, ⟨B, m, d, b⟩, ⟨C, l, f, s⟩] := by
    refine ⟨Sl.new Pt.val w 22 [⟨A, n, c, a⟩, ⟨B, m, d, b⟩, ⟨C, l, f, s⟩], fun i hi => ?_⟩
    match i, hi with
    | 0, _ => exact ⟨h1.2.2.2.ext hE, h1.1, h1.2.1, h1.2.2.1⟩
    | 1, _ => exact ⟨h2.2.2.2.ext hE, h2.1, h2.2.1, h2.2.2.1⟩
    | 2, _ => exact ⟨h3.2.2.2.ext hE, h3.1, h3.2.1, h3.2.2.1⟩
    | k + 3, h => exact absurd h (by simp)
  refine (bfew_any _ 3 3 _ _ hP rfl (by omega)).mono ?_
  rintro e w' ⟨rfl, hU⟩
  refine ⟨?_, ((Upd.refl _ _).alloc _).trans hU⟩
  unfold few3
  simp only [List.all_cons, List.all_nil, Bool.and_true]
set_option maxRecDepth 100000 in
set_option maxHeartbeats 2000000 in
theorem bshort_any (A B C D : Option Addr) (nk c nn d ns cs n f : Nat) (key nonce side b : List (BitVec 8)) (w : World) (h1 : Bi w A nk c key) (h2 : Bi w B nn d nonce) (h3 : Bi w C ns cs side) (h4 : Bi w D n f b) :
    Calls Try.prog 14 #[.slice A nk c, .slice B nn d, .slice C ns cs, .slice D n f] w fun e w' => e = .returned (.bool true) ∧ Ext w w' := by
  have H1 := hide h1
  have H2 := hide h2
  have H3 := hide h3
  have H4 := hide h4
  clear h1 h2 h3 h4
  go_enter Try.func14, Try.ntmps14
  go_wp2_with fail
  refine (blives_any _).mono ?_
  rintro e w1 ⟨rfl, hU1⟩
  go_wp2_with fail
  refine (bfew_three (H1.out.ext hU1) (H2.out.ext hU1) (H3.out.ext hU1)).mono ?_
  rintro e w2 ⟨rfl, hU2⟩
  replace hU2 := hU1.trans hU2
  clear hU1
  cases hf : few3 nk nn ns with
  | false =>
    go_wp2_with fail
    refine (blives_any _).mono ?_
    rintro e w3 ⟨rfl, hU3⟩
    go_wp2_with fail
    go_ret
    exact ⟨rfl, hU2.trans hU3⟩
  | true =>
    obtain ⟨hb0, hb1, hb2⟩ : nk ≤ 200 ∧ nn ≤ 200 ∧ ns ≤ 200 := by unfold few3 at hf; simpa [and_assoc] using hf
    clear hf
    obtain ⟨l, hl⟩ : ∃ l, l = min n 15 := ⟨_, rfl⟩
    have hl16 : l < 16 := by omega
    have hmin : min (n : Int) 15 = (l : Int) := by omega
    have hlf : l ≤ f := by have := H4.out.2.1; omega
    have hs1 : ∀ w, (Instr.sliceAt 22 (.slice D n f) none (some (.int .i64 (l : Int))) none).run Try.prog w = .ok (.slice D l f) w := fun w => run_cut_h Try.n_el8.under Try.n_sz8 D n f l .i64 hlf w
    have Hl := hide hl
    clear hl
    cases hw : wrongB nk nn with
    | true =>
      have hne : ¬ (nk = 32 ∧ nn = 12) := fun h => by rw [wrong_iff.2 h] at hw; cases hw
      go_wp2_with fail
      refine (bopen_wrong _ _ _ _ nk c nn d ns cs l f _ hw).mono ?_
      rintro e w4 ⟨rfl, hU4⟩
      have hE4 := hU2.trans hU4
      by_cases h32 : nk = 32
      · have h12 : ¬ (nn : Int) = 12 := by omega
        have h32I : (nk : Int) = 32 := by omega
        have hq : ((nn : Int) != 12) = true := by simp; omega
        go_wp2_with fail
        go_ret
        exact ⟨rfl, hE4⟩
      · have h32I : ¬ (nk : Int) = 32 := by omega
        have hq : ((nk : Int) != 32) = true := by simp; omega
        go_wp2_with fail
        go_ret
        exact ⟨rfl, hE4⟩
    | false =>
      obtain ⟨rfl, rfl⟩ := wrong_iff.1 hw
      clear hw
      go_wp2_with fail
      refine (bopen_short _ _ _ _ c d ns cs l f _ hl16).mono ?_
      rintro e w4 ⟨rfl, hU4⟩
      have hE4 := hU2.trans hU4
      go_wp2_with fail
      go_ret
      exact ⟨rfl, hE4⟩
end Go.Proofs.Ytpffdpieciaooaa
