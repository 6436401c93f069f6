/- CertPrimes, walked. -/
import Derived.Test.YtpffdpieciaooaaCertJ
import Derived.Test.YtpffdpieciaooaaCertP
namespace Go.Proofs.Ytpffdpieciaooaa
set_option linter.unusedSimpArgs false
set_option linter.unusedVariables false
open Go.RowKit
open Nt Pk
attribute [local go_sem] steady steadyUpon Cls same_cell anyW
attribute [local irreducible] wpHead wpTree wpHeadR
theorem fewC_out {cs : List Cl} (h : fewC cs = true) : cs.length ≤ 8 ∧ ∀ i, i < cs.length → (gat cs i).n ≤ 40 := by
  unfold fewC at h
  rw [Bool.and_eq_true, decide_eq_true_iff, Bool.not_eq_true'] at h
  refine ⟨h.1, fun i hi => Nat.le_of_not_lt fun hg => ?_⟩
  rw [any_at (fun x : Cl => decide (40 < x.n)) hi (decide_eq_true hg)] at h
  exact absurd h.2 (by decide)
theorem gat_st {cs : List Cl} {i : Nat} (h : i < cs.length) : gat (cs.map Cl.st) i = (gat cs i).st := by
  rw [gat_lt (by simpa using h), gat_lt h]
  simp
theorem ClL.fits {w : World} {A : Option Addr} {cs : List Cl} (h : ClL w A cs) (hf : fewC cs = true) : ∀ i, i < (cs.map Cl.st).length → FitS 2 (gat (cs.map Cl.st) i) := fun i hi => by
  have hi' : i < cs.length := by simpa using hi
  obtain ⟨b, o, -, -, -, -, h1, h2, h3, -, h5, -⟩ := h i hi'
  rw [gat_st hi']
  exact ⟨fit2 h1.out, fit2 h2.out, fun j hj => fit2 (h3.out j hj), by have := (fewC_out hf).2 i hi'; show (gat cs i).ps.length ≤ 100; omega⟩
set_option maxRecDepth 100000 in
set_option maxHeartbeats 8000000 in
theorem cprimes_any (A : Option Addr) (n c N : Nat) (cs : List Cl) (w : World) (hL : ClL w A cs) (hn : cs.length = n) (hn2 : n ≤ 9223372036854775807) (hN : N < 18446744073709551616) :
    Calls Try.prog 10 #[.slice A n c, .int .u64 (N : Int)] w fun e w' => e = .returned (.bool true) ∧ Ext w w' := by
  have Hn := hide hn
  have HL := hide hL
  have HN := hide hN
  obtain ⟨t, ht⟩ : ∃ t, t = fewC cs := ⟨_, rfl⟩
  have Ht := hide ht
  clear hn hL ht
  go_enter Try.func10, Try.ntmps10
  by_cases h32 : N < 4294967296
  · have hdec : decide ((4294967296 : Int) ≤ (N : Int)) = false := decide_eq_false (by omega)
    have H32 := hide h32
    have Hn2 := hide hn2
    clear h32 hN hn2
    go_wp2_with fail
    refine (clives_any _).mono ?_
    rintro e w1 ⟨rfl, hU1⟩
    go_wp2_with fail
    refine (cfew_any A n c cs w1 (HL.out.ext hU1) Hn.out Hn2.out).mono ?_
    rintro e w2 ⟨rfl, hU2⟩
    rw [← Ht.out]
    have hE2 := hU1.trans hU2
    clear hU1 hU2
    cases t with
    | false =>
      go_wp2_with fail
      refine (clives_any _).mono ?_
      rintro e w3 ⟨rfl, hU3⟩
      go_wp2_with fail
      go_ret
      exact ⟨rfl, hE2.trans hU3⟩
    | true =>
      have hfw := fewC_out Ht.out.symm
      have hn8 : n ≤ 8 := by rw [← Hn.out]; exact hfw.1
      have h40 : Hid (∀ j, j < cs.length → (gat cs j).n ≤ 1000) := hide fun j hj => Nat.le_trans (hfw.2 j hj) (by decide)
      have Hf := hide ((HL.out).fits Ht.out.symm)
      have Hn8 := hide hn8
      clear hfw hn8
      go_wp2_with fail
      refine (cchain_any A n c cs w2 (HL.out.ext hE2) Hn.out Hn8.out h40).mono ?_
      rintro e w3 ⟨D, cD, F, cF, rfl, -, -, -, -, hS, -, hU3⟩
      have HS := hide hS
      clear hS
      go_wp2_with fail
      refine (new_any N _ HN.out).mono ?_
      rintro e w4 ⟨A1, l1, c1, rfl, hV1, hU4⟩
      go_wp2_with fail
      refine (cprime_any (.agg #[.slice A1 l1 c1]) N 2 D n cD (cs.map Cl.st) w4 hV1 (fit2 HN.out) (HS.out.ext hU4) (by rw [List.length_map]; exact Hn.out) (by have := Hn8.out; omega) Hf.out (by omega) (by omega)).mono ?_
      rintro e w5 ⟨rfl, hU5⟩
      obtain ⟨q, hq⟩ : ∃ q, q = primeB N (cs.map Cl.st) := ⟨_, rfl⟩
      rw [← hq]
      have hE := ((hE2.trans hU3).trans hU4).trans hU5
      have Hq := hide hq
      clear hq hU3 hU4 hU5 hV1 hE2
      cases q with
      | false =>
        go_wp2_with fail
        go_ret
        exact ⟨rfl, hE⟩
      | true =>
        have hpr : Hid (Pr N) := hide (primeB_pr Hq.out.symm)
        have h2 : 2 ≤ N := hpr.out.1
        clear hdec
        go_wp2_with fail
        go_loopw [7] (fun dv wr => ∃ d : Nat, 2 ≤ d ∧ d ≤ 65536 ∧ dv = .int .u64 (d : Int) ∧ Ext w wr) (fun dv _ => 65537 - (intOf dv).toNat)
        case atStart => exact ⟨2, by omega, by omega, rfl, hE⟩
        case round =>
          clear hE
          obtain ⟨d, hd2, hd, rfl, hE⟩ := hrel
          obtain ⟨s, hs⟩ : ∃ s, s = d * d := ⟨_, rfl⟩
          have hsI : (d : Int) * (d : Int) = (s : Int) := by rw [hs]; push_cast; rfl
          have hsb : s ≤ 4294967296 := by rw [hs]; exact Nat.mul_le_mul hd hd
          have Hs := hide hs
          clear hs
          by_cases hle : s ≤ N
          · have hleI : decide ((s : Int) ≤ (N : Int)) = true := decide_eq_true (by omega)
            have hd255 : d ≤ 65535 := Nat.le_of_lt_succ (Nat.lt_of_le_of_ne hd fun e => by have := Hs.out; have := H32.out; rw [e] at *; omega)
            obtain ⟨r, hr⟩ : ∃ r, r = N % d := ⟨_, rfl⟩
            have hr1 : (N : Int).tmod (d : Int) = (r : Int) := by rw [Int.tmod_eq_emod_of_nonneg (by omega), hr]; rfl
            have hr2 : (N : Int) % (d : Int) = (r : Int) := by rw [hr]; rfl
            have hr0 : r ≠ 0 := by rw [hr]; exact hpr.out.small hd2 (by rw [← Hs.out]; exact hle)
            have hrb : r ≤ 4294967296 := by rw [hr]; exact Nat.le_trans (Nat.mod_le _ _) (Nat.le_of_lt H32.out)
            have hr0I : ¬ (r : Int) = 0 := by omega
            have hd0 : ¬ (d : Int) = 0 := by omega
            clear hr
            go_wp2_with fail
            go_roundw
            case rel => exact ⟨d + 1, by omega, by omega, by go_num, hE⟩
            case measure => simp [intOf]; omega
          · have hleI : decide ((s : Int) ≤ (N : Int)) = false := decide_eq_false (by omega)
            have h2I : decide ((2 : Int) ≤ (N : Int)) = true := decide_eq_true (by omega)
            go_wp2_with fail
            go_ret
            exact ⟨rfl, hE⟩
  · have h32I : (4294967296 : Int) ≤ (N : Int) := by omega
    go_wp2_with fail
    refine (clives_any _).mono ?_
    rintro e w1 ⟨rfl, hU1⟩
    go_wp2_with fail
    refine (cfew_any A n c cs w1 (HL.out.ext hU1) Hn.out hn2).mono ?_
    rintro e w2 ⟨rfl, hU2⟩
    rw [← Ht.out]
    have hE2 := hU1.trans hU2
    clear hU1 hU2
    cases t with
    | false =>
      go_wp2_with fail
      refine (clives_any _).mono ?_
      rintro e w3 ⟨rfl, hU3⟩
      go_wp2_with fail
      go_ret
      exact ⟨rfl, hE2.trans hU3⟩
    | true =>
      go_wp2_with fail
      refine (clives_any _).mono ?_
      rintro e w3 ⟨rfl, hU3⟩
      go_wp2_with fail
      go_ret
      exact ⟨rfl, hE2.trans hU3⟩
end Go.Proofs.Ytpffdpieciaooaa
