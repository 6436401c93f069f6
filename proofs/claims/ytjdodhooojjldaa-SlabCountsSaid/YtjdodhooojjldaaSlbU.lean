/- The law that counts strokes, walked. -/
import Derived.Test.YtjdodhooojjldaaSlbT
namespace Go.Proofs.Ytjdodhooojjldaa
set_option linter.unusedSimpArgs false
set_option linter.unusedVariables false
open Go.RowKit
open Sha
attribute [local go_sem] steady steadyUpon Cls same_cell anyW by8 str_eq
attribute [local irreducible] wpHead wpTree wpHeadR
theorem u64_mod80 (z : Int) : ∃ K : Nat, (IntKind.u64.wrap z).tmod 80 = (K : Int) ∧ K < 80 := by
  have hw0 : 0 ≤ IntKind.u64.wrap z := by
    unfold IntKind.wrap
    simp [IntKind.signed, IntKind.bits]
    omega
  rw [Int.tmod_eq_emod_of_nonneg hw0]
  exact ⟨(IntKind.u64.wrap z % 80).toNat, by omega, by omega⟩
theorem u64_mod40 (z : Int) : ∃ K : Nat, (IntKind.u64.wrap z).tmod 40 = (K : Int) ∧ K < 40 := by
  have hw0 : 0 ≤ IntKind.u64.wrap z := by
    unfold IntKind.wrap
    simp [IntKind.signed, IntKind.bits]
    omega
  rw [Int.tmod_eq_emod_of_nonneg hw0]
  exact ⟨(IntKind.u64.wrap z % 40).toNat, by omega, by omega⟩
theorem sostrokes (w0 : World) (g gl : Nat) (x : Slv) (w : World) (h : SlO w0 w g gl x) :
    Calls Try.prog 35 #[.pointer (some ⟨g, 0, none⟩)] w fun e w' => e = .returned (.int .i64 x.strokes) ∧ w' = w := by
  obtain ⟨⟨D, f, hS0⟩, hE⟩ := h
  exact sstrokes_any _ D g gl f x w hS0
theorem soout (w0 : World) (g gl : Nat) (x : Slv) (w : World) (h : SlO w0 w g gl x) :
    Calls Try.prog 36 #[.pointer (some ⟨g, 0, none⟩)] w fun e w' => e = .returned (.bool x.out) ∧ w' = w := by
  obtain ⟨⟨D, f, hS0⟩, hE⟩ := h
  exact sout_any _ D g gl f x w hS0
theorem n8_ofNat {k : Nat} (h : k < 256) : n8 (BitVec.ofNat 8 k) = (k : Int) := by
  unfold n8
  rw [BitVec.toNat_ofNat, Nat.mod_eq_of_lt (by omega)]
theorem Slv.cnt_fit {S i b : Nat} (h : i + b ≤ S) (hS : S < 80) : (Slv.cnt S i b).fit 80 := ⟨by show (0 : Int) ≤ (S : Int) - i - b; omega, by show (S : Int) - i - b ≤ 9223372036854775807; omega, by show (0 : Int) ≤ (i : Int) + b; omega, by show (i : Int) + b ≤ ((80 : Nat) : Int); omega⟩
theorem cnt_woken_len (S i b : Nat) : ((Slv.cnt S i b).woken []).secs.length = 64 := by rw [Slv.woken_len, Slv.cnt_len]
theorem cnt_woken_face (S i b : Nat) {j : Nat} (hj : j < 64) : faceOf (gat ((Slv.cnt S i b).woken []).secs j) = if j < b then pl64 (BitVec.ofNat 8 (j + 1)) else pl64 0 := by
  rw [Slv.woken_nil _ (by rw [Slv.cnt_len]; exact hj), Slv.cnt_at _ _ _ hj]
  unfold cntSec
  split
  · rfl
  · split <;> rfl
set_option maxRecDepth 100000 in
set_option maxHeartbeats 2000000 in
theorem scounts_any (a0 a1 : Int) (w : World) :
    Calls Try.prog 6 #[.int .i64 a0, .int .i64 a1] w fun e w' => e = .returned (.bool true) ∧ Ext w w' := by
  obtain ⟨S, hS, hS80⟩ := u64_mod80 a0
  obtain ⟨q, hq, hq40⟩ := u64_mod40 a1
  obtain ⟨I, hI⟩ : ∃ I : Nat, (1 : Int) + (q : Int) = (I : Int) ∧ 1 ≤ I ∧ I ≤ 40 := ⟨q + 1, by omega, by omega, by omega⟩
  obtain ⟨hI1, hI2, hI3⟩ := hI
  go_enter Try.func6, Try.ntmps6
  go_wp2_with fail
  refine (sonew 64 (by decide) (by decide) w).mono ?_
  rintro e w1 ⟨g, gl, rfl, hg, hgl, h1⟩
  replace h1 : SlO w w1 g gl (Slv.new 64) := h1
  go_wp2_with fail
  refine (slives_any w1).mono ?_
  rintro e w2 ⟨rfl, hE2⟩
  replace h1 := h1.keep hE2
  clear hE2
  go_wp2_with fail
  refine (sosupply w g gl _ S w2 h1).mono ?_
  rintro e w3 ⟨rfl, h3, -⟩
  rw [Slv.cnt_new] at h3
  clear h1
  go_wp2_with fail
  go_loopw [33] (fun i wr => ∃ k : Nat, k ≤ I ∧ i = .int .i64 (k : Int) ∧ SlO w wr g gl (Slv.cnt S (min k S) 0)) (fun i _ => I - (Go.RowKit.intOf i).toNat)
  case atStart => exact ⟨0, Nat.zero_le _, rfl, by rw [Nat.zero_min]; exact h3⟩
  case round =>
    clear h3
    obtain ⟨k, hk, rfl, hS2⟩ := hrel
    by_cases hlt : k < I
    case pos =>
      have hltI : (k : Int) < (I : Int) := by omega
      obtain ⟨hiE, hiI⟩ := Slv.cnt_ink (S := S) (i := k) (by omega)
      have HiE := hide hiE
      have HiI := hide hiI
      clear hiE hiI
      have hw8 : IntKind.u8.wrap ((k : Int) + 1) = (k : Int) + 1 := by simp [IntKind.wrap, IntKind.signed, IntKind.bits]; omega
      go_wp2_with fail
      refine (splain_any (BitVec.ofNat 8 (k + 1)) _ (by unfold by8; rw [n8_ofNat (by omega)]; congr 1) wr).mono ?_
      rintro e w4 ⟨A4, c4, rfl, hO4, hE4⟩
      replace hS2 := hS2.keep hE4
      clear hE4
      go_wp2_with fail
      refine (soink w g gl _ k A4 64 c4 (pl64 (BitVec.ofNat 8 (k + 1))) w4 hS2 (Slv.fit_up (Slv.cnt_fit (by omega) hS80) (by omega)) hO4.sl (pl64_len _) (by omega)).mono ?_
      rintro e w5 ⟨rfl, h5, -⟩
      rw [HiI.out] at h5
      rw [HiE.out]
      clear hO4 hS2
      by_cases hkS : k < S
      · have hkSI : (k : Int) < (S : Int) := by omega
        rw [if_pos hkS]
        go_wp2_with fail
        go_roundw
        case rel => exact ⟨k + 1, by omega, by go_num, h5⟩
        case measure => simp [Go.RowKit.intOf]; omega
      · have hkSI : ¬ (k : Int) < (S : Int) := by omega
        rw [if_neg hkS]
        go_wp2_with fail
        go_roundw
        case rel => exact ⟨k + 1, by omega, by go_num, h5⟩
        case measure => simp [Go.RowKit.intOf]; omega
    case neg =>
      obtain rfl : k = I := by omega
      have hltI : ¬ ((k : Int) < (k : Int)) := by omega
      obtain ⟨hbE, hbB⟩ := Slv.cnt_burnt (S := S) (I := k) (by omega)
      have HbE := hide hbE
      have HbB := hide hbB
      clear hbE hbB
      by_cases hc : k < S
      case neg =>
        have hd0 : (S : Int) ≤ (k : Int) := by omega
        have hm0 : max (0 : Int) ((S : Int) - (k : Int)) = 0 := by omega
        have hm1 : min (k : Int) 0 = 0 := by omega
        have hcI : ¬ (k : Int) < (S : Int) := by omega
        have hm2 : min (S : Int) (k : Int) = (S : Int) := by omega
        -- 0 b, (0 : Int) b as an Int, if_neg (fun h => hc h.1) the error, (S : Int) how the slab stands behind the burning
        go_wp2_with fail
        refine (soburn w g gl _ wr hS2 (Slv.fit_up (Slv.cnt_fit (by omega) hS80) (by omega))).mono ?_
        rintro e w6 ⟨rfl, h6, -⟩
        rw [HbB.out] at h6
        rw [HbE.out, if_neg (fun h => hc h.1)]
        have hst : (Slv.cnt S (min k S) (min k (S - k))).strokes = (S : Int) := by show ((min k S : Nat) : Int) + ((min k (S - k) : Nat) : Int) = _; omega
        clear hS2
        go_wp2_with fail
        refine (sostrokes w g gl _ w6 h6).mono ?_
        rintro e w7 ⟨rfl, rfl⟩
        rw [hst]
        go_wp2_with fail
        refine (sowake0 w g gl _ w7 h6).mono ?_
        rintro e w8 ⟨rfl, h8, -⟩
        have hbb : Hid (min k (S - k) = 0) := hide (by omega)
        clear h6 hst
        obtain ⟨X, hX⟩ : ∃ X, X = (Slv.cnt S (min k S) (min k (S - k))).woken [] := ⟨_, rfl⟩
        rw [← hX] at h8
        have hXl : X.secs.length = 64 := by rw [hX]; exact cnt_woken_len _ _ _
        have hXe : X.endless = true := by rw [hX]; rfl
        have hXf : ∀ j, j < 64 → faceOf (gat X.secs j) = if j < 0 then pl64 (BitVec.ofNat 8 (j + 1)) else pl64 0 := fun j hj => by rw [hX, cnt_woken_face _ _ _ hj, hbb.out]
        have hXt : X.fit 80 := by rw [hX]; exact Slv.woken_fit (Slv.cnt_fit (by omega) hS80) []
        have HX := hide (And.intro hXl (And.intro hXe (And.intro hXf hXt)))
        clear hX hXl hXe hXf hXt hbb
        go_wp2_with fail
        go_loopw [89] (fun i wr => ∃ j : Nat, j ≤ k ∧ i = .int .i64 (j : Int) ∧ SlO w wr g gl X) (fun i _ => k - (Go.RowKit.intOf i).toNat)
        case atStart => exact ⟨0, Nat.zero_le _, rfl, h8⟩
        case round =>
          clear h8
          obtain ⟨j, hj, rfl, h8⟩ := hrel
          by_cases hjk : j < k
          case neg =>
            obtain rfl : j = k := by omega
            have hjkI : ¬ ((j : Int) < (j : Int)) := by omega
            go_wp2_with fail
            refine (soout w g gl _ wr h8).mono ?_
            rintro e w9 ⟨rfl, rfl⟩
            rw [Slv.out_endless HX.out.2.1]
            go_wp2_with fail
            refine (splain_any 9 _ rfl w9).mono ?_
            rintro e wa ⟨Aa, ca, rfl, hOa, hEa⟩
            replace h8 := h8.keep hEa
            go_wp2_with fail
            refine (soink w g gl _ 1 Aa 64 ca (pl64 9) wa h8 (Slv.fit_up HX.out.2.2.2 (by omega)) hOa.sl (pl64_len _) (by omega)).mono ?_
            rintro e wb ⟨rfl, hb, -⟩
            rw [Slv.inkE_endless HX.out.2.1 (by omega) (by rw [HX.out.1]; omega)]
            have hEf := hb.ext
            clear h8 hOa hEa hb
            go_wp2_with fail
            go_ret
            exact ⟨rfl, hEf⟩
          case pos =>
            have hjkI : (j : Int) < (k : Int) := by omega
            have hlk : X.look (j : Int) = 0 := Slv.look_endless HX.out.2.1 (by omega) (by rw [HX.out.1]; omega)
            have Hlk := hide hlk
            have hfc := HX.out.2.2.1 j (by omega)
            have Hfc := hide hfc
            clear hlk hfc
            go_wp2_with fail
            refine (soface w g gl X j wr h8).mono ?_
            rintro e w9 ⟨hE9, -, h9⟩
            obtain ⟨A9, c9, rfl, hO9⟩ := h9 Hlk.out
            rw [show (j : Int).toNat = j from rfl, Hfc.out] at hO9
            replace h8 := h8.keep hE9
            clear h9 hE9
            go_wp2_with fail
            refine (splain_any 0 _ rfl w9).mono ?_
            rintro e wa ⟨Aa, ca, rfl, hOa, hEa⟩
            replace h8 := h8.keep hEa
            have hS9 := hO9.sl.ext hEa
            clear hO9 hEa
            by_cases hjb : j < 0
            · have hjbI : (j : Int) < (0 : Int) := by omega
              have hw8 : IntKind.u8.wrap ((j : Int) + 1) = (j : Int) + 1 := by simp [IntKind.wrap, IntKind.signed, IntKind.bits]; omega
              rw [if_pos hjb] at hS9
              clear hOa
              go_wp2_with fail
              refine (splain_any (BitVec.ofNat 8 (j + 1)) _ (by unfold by8; rw [n8_ofNat (by omega)]; congr 1) wa).mono ?_
              rintro e wb ⟨Ab, cb, rfl, hOb, hEb⟩
              replace h8 := h8.keep hEb
              have ht1 := run_str (P := Try.prog) (c := c9) Try.under_bs Try.under8 Try.underS (hS9.ext hEb) (pl64_len _)
              have ht2 := run_str (P := Try.prog) (c := cb) Try.under_bs Try.under8 Try.underS hOb.sl (pl64_len _)
              clear hS9 hOb hEb
              go_wp2_with fail
              go_roundw
              case rel => exact ⟨j + 1, by omega, by go_num, h8⟩
              case measure => simp [Go.RowKit.intOf]; omega
            · (first | exact absurd hjk (by omega) | skip) <;> (
                have hjbI : ¬ (j : Int) < (0 : Int) := by omega
                rw [if_neg hjb] at hS9
                have ht1 := run_str (P := Try.prog) (c := c9) Try.under_bs Try.under8 Try.underS hS9 (pl64_len _)
                have ht2 := run_str (P := Try.prog) (c := ca) Try.under_bs Try.under8 Try.underS hOa.sl (pl64_len _)
                clear hS9 hOa
                go_wp2_with fail
                go_roundw
                case rel => exact ⟨j + 1, by omega, by go_num, h8⟩
                case measure => simp [Go.RowKit.intOf]; omega)
      case pos =>
        obtain ⟨R, hR1⟩ : ∃ R : Nat, (S : Int) - (k : Int) = (R : Int) := ⟨S - k, by omega⟩
        have hcI : (k : Int) < (S : Int) := by omega
        have hm0 : max (0 : Int) (R : Int) = (R : Int) := by omega
        by_cases hkR : k ≤ R
        · have hm1 : min (k : Int) (R : Int) = (k : Int) := by omega
          by_cases h2k : (S : Int) ≤ (k : Int) + (k : Int)
          · have hz : ((k : Int) + (k : Int) != (S : Int)) = false := by
              have : (k : Int) + (k : Int) = (S : Int) := by omega
              simpa using this
            -- k b, (k : Int) b as an Int, if_pos ⟨hc, by omega⟩ the error, (k : Int) + (k : Int) how the slab stands behind the burning
            go_wp2_with fail
            refine (soburn w g gl _ wr hS2 (Slv.fit_up (Slv.cnt_fit (by omega) hS80) (by omega))).mono ?_
            rintro e w6 ⟨rfl, h6, -⟩
            rw [HbB.out] at h6
            rw [HbE.out, if_pos ⟨hc, by omega⟩]
            have hst : (Slv.cnt S (min k S) (min k (S - k))).strokes = (k : Int) + (k : Int) := by show ((min k S : Nat) : Int) + ((min k (S - k) : Nat) : Int) = _; omega
            clear hS2
            go_wp2_with fail
            refine (sostrokes w g gl _ w6 h6).mono ?_
            rintro e w7 ⟨rfl, rfl⟩
            rw [hst]
            go_wp2_with fail
            refine (sowake0 w g gl _ w7 h6).mono ?_
            rintro e w8 ⟨rfl, h8, -⟩
            have hbb : Hid (min k (S - k) = k) := hide (by omega)
            clear h6 hst
            obtain ⟨X, hX⟩ : ∃ X, X = (Slv.cnt S (min k S) (min k (S - k))).woken [] := ⟨_, rfl⟩
            rw [← hX] at h8
            have hXl : X.secs.length = 64 := by rw [hX]; exact cnt_woken_len _ _ _
            have hXe : X.endless = true := by rw [hX]; rfl
            have hXf : ∀ j, j < 64 → faceOf (gat X.secs j) = if j < k then pl64 (BitVec.ofNat 8 (j + 1)) else pl64 0 := fun j hj => by rw [hX, cnt_woken_face _ _ _ hj, hbb.out]
            have hXt : X.fit 80 := by rw [hX]; exact Slv.woken_fit (Slv.cnt_fit (by omega) hS80) []
            have HX := hide (And.intro hXl (And.intro hXe (And.intro hXf hXt)))
            clear hX hXl hXe hXf hXt hbb
            go_wp2_with fail
            go_loopw [89] (fun i wr => ∃ j : Nat, j ≤ k ∧ i = .int .i64 (j : Int) ∧ SlO w wr g gl X) (fun i _ => k - (Go.RowKit.intOf i).toNat)
            case atStart => exact ⟨0, Nat.zero_le _, rfl, h8⟩
            case round =>
              clear h8
              obtain ⟨j, hj, rfl, h8⟩ := hrel
              by_cases hjk : j < k
              case neg =>
                obtain rfl : j = k := by omega
                have hjkI : ¬ ((j : Int) < (j : Int)) := by omega
                go_wp2_with fail
                refine (soout w g gl _ wr h8).mono ?_
                rintro e w9 ⟨rfl, rfl⟩
                rw [Slv.out_endless HX.out.2.1]
                go_wp2_with fail
                refine (splain_any 9 _ rfl w9).mono ?_
                rintro e wa ⟨Aa, ca, rfl, hOa, hEa⟩
                replace h8 := h8.keep hEa
                go_wp2_with fail
                refine (soink w g gl _ 1 Aa 64 ca (pl64 9) wa h8 (Slv.fit_up HX.out.2.2.2 (by omega)) hOa.sl (pl64_len _) (by omega)).mono ?_
                rintro e wb ⟨rfl, hb, -⟩
                rw [Slv.inkE_endless HX.out.2.1 (by omega) (by rw [HX.out.1]; omega)]
                have hEf := hb.ext
                clear h8 hOa hEa hb
                go_wp2_with fail
                go_ret
                exact ⟨rfl, hEf⟩
              case pos =>
                have hjkI : (j : Int) < (k : Int) := by omega
                have hlk : X.look (j : Int) = 0 := Slv.look_endless HX.out.2.1 (by omega) (by rw [HX.out.1]; omega)
                have Hlk := hide hlk
                have hfc := HX.out.2.2.1 j (by omega)
                have Hfc := hide hfc
                clear hlk hfc
                go_wp2_with fail
                refine (soface w g gl X j wr h8).mono ?_
                rintro e w9 ⟨hE9, -, h9⟩
                obtain ⟨A9, c9, rfl, hO9⟩ := h9 Hlk.out
                rw [show (j : Int).toNat = j from rfl, Hfc.out] at hO9
                replace h8 := h8.keep hE9
                clear h9 hE9
                go_wp2_with fail
                refine (splain_any 0 _ rfl w9).mono ?_
                rintro e wa ⟨Aa, ca, rfl, hOa, hEa⟩
                replace h8 := h8.keep hEa
                have hS9 := hO9.sl.ext hEa
                clear hO9 hEa
                by_cases hjb : j < k
                · have hjbI : (j : Int) < (k : Int) := by omega
                  have hw8 : IntKind.u8.wrap ((j : Int) + 1) = (j : Int) + 1 := by simp [IntKind.wrap, IntKind.signed, IntKind.bits]; omega
                  rw [if_pos hjb] at hS9
                  clear hOa
                  go_wp2_with fail
                  refine (splain_any (BitVec.ofNat 8 (j + 1)) _ (by unfold by8; rw [n8_ofNat (by omega)]; congr 1) wa).mono ?_
                  rintro e wb ⟨Ab, cb, rfl, hOb, hEb⟩
                  replace h8 := h8.keep hEb
                  have ht1 := run_str (P := Try.prog) (c := c9) Try.under_bs Try.under8 Try.underS (hS9.ext hEb) (pl64_len _)
                  have ht2 := run_str (P := Try.prog) (c := cb) Try.under_bs Try.under8 Try.underS hOb.sl (pl64_len _)
                  clear hS9 hOb hEb
                  go_wp2_with fail
                  go_roundw
                  case rel => exact ⟨j + 1, by omega, by go_num, h8⟩
                  case measure => simp [Go.RowKit.intOf]; omega
                · (first | exact absurd hjk (by omega) | skip) <;> (
                    have hjbI : ¬ (j : Int) < (k : Int) := by omega
                    rw [if_neg hjb] at hS9
                    have ht1 := run_str (P := Try.prog) (c := c9) Try.under_bs Try.under8 Try.underS hS9 (pl64_len _)
                    have ht2 := run_str (P := Try.prog) (c := ca) Try.under_bs Try.under8 Try.underS hOa.sl (pl64_len _)
                    clear hS9 hOa
                    go_wp2_with fail
                    go_roundw
                    case rel => exact ⟨j + 1, by omega, by go_num, h8⟩
                    case measure => simp [Go.RowKit.intOf]; omega)
          · have h2k2 := h2k
            -- k b, (k : Int) b as an Int, if_pos ⟨hc, by omega⟩ the error, (k : Int) + (k : Int) how the slab stands behind the burning
            go_wp2_with fail
            refine (soburn w g gl _ wr hS2 (Slv.fit_up (Slv.cnt_fit (by omega) hS80) (by omega))).mono ?_
            rintro e w6 ⟨rfl, h6, -⟩
            rw [HbB.out] at h6
            rw [HbE.out, if_pos ⟨hc, by omega⟩]
            have hst : (Slv.cnt S (min k S) (min k (S - k))).strokes = (k : Int) + (k : Int) := by show ((min k S : Nat) : Int) + ((min k (S - k) : Nat) : Int) = _; omega
            clear hS2
            go_wp2_with fail
            refine (sostrokes w g gl _ w6 h6).mono ?_
            rintro e w7 ⟨rfl, rfl⟩
            rw [hst]
            go_wp2_with fail
            refine (sowake0 w g gl _ w7 h6).mono ?_
            rintro e w8 ⟨rfl, h8, -⟩
            have hbb : Hid (min k (S - k) = k) := hide (by omega)
            clear h6 hst
            obtain ⟨X, hX⟩ : ∃ X, X = (Slv.cnt S (min k S) (min k (S - k))).woken [] := ⟨_, rfl⟩
            rw [← hX] at h8
            have hXl : X.secs.length = 64 := by rw [hX]; exact cnt_woken_len _ _ _
            have hXe : X.endless = true := by rw [hX]; rfl
            have hXf : ∀ j, j < 64 → faceOf (gat X.secs j) = if j < k then pl64 (BitVec.ofNat 8 (j + 1)) else pl64 0 := fun j hj => by rw [hX, cnt_woken_face _ _ _ hj, hbb.out]
            have hXt : X.fit 80 := by rw [hX]; exact Slv.woken_fit (Slv.cnt_fit (by omega) hS80) []
            have HX := hide (And.intro hXl (And.intro hXe (And.intro hXf hXt)))
            clear hX hXl hXe hXf hXt hbb
            go_wp2_with fail
            go_loopw [89] (fun i wr => ∃ j : Nat, j ≤ k ∧ i = .int .i64 (j : Int) ∧ SlO w wr g gl X) (fun i _ => k - (Go.RowKit.intOf i).toNat)
            case atStart => exact ⟨0, Nat.zero_le _, rfl, h8⟩
            case round =>
              clear h8
              obtain ⟨j, hj, rfl, h8⟩ := hrel
              by_cases hjk : j < k
              case neg =>
                obtain rfl : j = k := by omega
                have hjkI : ¬ ((j : Int) < (j : Int)) := by omega
                go_wp2_with fail
                refine (soout w g gl _ wr h8).mono ?_
                rintro e w9 ⟨rfl, rfl⟩
                rw [Slv.out_endless HX.out.2.1]
                go_wp2_with fail
                refine (splain_any 9 _ rfl w9).mono ?_
                rintro e wa ⟨Aa, ca, rfl, hOa, hEa⟩
                replace h8 := h8.keep hEa
                go_wp2_with fail
                refine (soink w g gl _ 1 Aa 64 ca (pl64 9) wa h8 (Slv.fit_up HX.out.2.2.2 (by omega)) hOa.sl (pl64_len _) (by omega)).mono ?_
                rintro e wb ⟨rfl, hb, -⟩
                rw [Slv.inkE_endless HX.out.2.1 (by omega) (by rw [HX.out.1]; omega)]
                have hEf := hb.ext
                clear h8 hOa hEa hb
                go_wp2_with fail
                go_ret
                exact ⟨rfl, hEf⟩
              case pos =>
                have hjkI : (j : Int) < (k : Int) := by omega
                have hlk : X.look (j : Int) = 0 := Slv.look_endless HX.out.2.1 (by omega) (by rw [HX.out.1]; omega)
                have Hlk := hide hlk
                have hfc := HX.out.2.2.1 j (by omega)
                have Hfc := hide hfc
                clear hlk hfc
                go_wp2_with fail
                refine (soface w g gl X j wr h8).mono ?_
                rintro e w9 ⟨hE9, -, h9⟩
                obtain ⟨A9, c9, rfl, hO9⟩ := h9 Hlk.out
                rw [show (j : Int).toNat = j from rfl, Hfc.out] at hO9
                replace h8 := h8.keep hE9
                clear h9 hE9
                go_wp2_with fail
                refine (splain_any 0 _ rfl w9).mono ?_
                rintro e wa ⟨Aa, ca, rfl, hOa, hEa⟩
                replace h8 := h8.keep hEa
                have hS9 := hO9.sl.ext hEa
                clear hO9 hEa
                by_cases hjb : j < k
                · have hjbI : (j : Int) < (k : Int) := by omega
                  have hw8 : IntKind.u8.wrap ((j : Int) + 1) = (j : Int) + 1 := by simp [IntKind.wrap, IntKind.signed, IntKind.bits]; omega
                  rw [if_pos hjb] at hS9
                  clear hOa
                  go_wp2_with fail
                  refine (splain_any (BitVec.ofNat 8 (j + 1)) _ (by unfold by8; rw [n8_ofNat (by omega)]; congr 1) wa).mono ?_
                  rintro e wb ⟨Ab, cb, rfl, hOb, hEb⟩
                  replace h8 := h8.keep hEb
                  have ht1 := run_str (P := Try.prog) (c := c9) Try.under_bs Try.under8 Try.underS (hS9.ext hEb) (pl64_len _)
                  have ht2 := run_str (P := Try.prog) (c := cb) Try.under_bs Try.under8 Try.underS hOb.sl (pl64_len _)
                  clear hS9 hOb hEb
                  go_wp2_with fail
                  go_roundw
                  case rel => exact ⟨j + 1, by omega, by go_num, h8⟩
                  case measure => simp [Go.RowKit.intOf]; omega
                · (first | exact absurd hjk (by omega) | skip) <;> (
                    have hjbI : ¬ (j : Int) < (k : Int) := by omega
                    rw [if_neg hjb] at hS9
                    have ht1 := run_str (P := Try.prog) (c := c9) Try.under_bs Try.under8 Try.underS hS9 (pl64_len _)
                    have ht2 := run_str (P := Try.prog) (c := ca) Try.under_bs Try.under8 Try.underS hOa.sl (pl64_len _)
                    clear hS9 hOa
                    go_wp2_with fail
                    go_roundw
                    case rel => exact ⟨j + 1, by omega, by go_num, h8⟩
                    case measure => simp [Go.RowKit.intOf]; omega)
        · have hm1 : min (k : Int) (R : Int) = (R : Int) := by omega
          have hm2 : min (S : Int) ((k : Int) + (R : Int)) = (S : Int) := by omega
          have hRk : ((R : Int) == (k : Int)) = false := beq_eq_false_iff_ne.2 (by omega)
          -- R b, (R : Int) b as an Int, if_neg (fun h => by omega) the error, (S : Int) how the slab stands behind the burning
          go_wp2_with fail
          refine (soburn w g gl _ wr hS2 (Slv.fit_up (Slv.cnt_fit (by omega) hS80) (by omega))).mono ?_
          rintro e w6 ⟨rfl, h6, -⟩
          rw [HbB.out] at h6
          rw [HbE.out, if_neg (fun h => by omega)]
          have hst : (Slv.cnt S (min k S) (min k (S - k))).strokes = (S : Int) := by show ((min k S : Nat) : Int) + ((min k (S - k) : Nat) : Int) = _; omega
          clear hS2
          go_wp2_with fail
          refine (sostrokes w g gl _ w6 h6).mono ?_
          rintro e w7 ⟨rfl, rfl⟩
          rw [hst]
          go_wp2_with fail
          refine (sowake0 w g gl _ w7 h6).mono ?_
          rintro e w8 ⟨rfl, h8, -⟩
          have hbb : Hid (min k (S - k) = R) := hide (by omega)
          clear h6 hst
          obtain ⟨X, hX⟩ : ∃ X, X = (Slv.cnt S (min k S) (min k (S - k))).woken [] := ⟨_, rfl⟩
          rw [← hX] at h8
          have hXl : X.secs.length = 64 := by rw [hX]; exact cnt_woken_len _ _ _
          have hXe : X.endless = true := by rw [hX]; rfl
          have hXf : ∀ j, j < 64 → faceOf (gat X.secs j) = if j < R then pl64 (BitVec.ofNat 8 (j + 1)) else pl64 0 := fun j hj => by rw [hX, cnt_woken_face _ _ _ hj, hbb.out]
          have hXt : X.fit 80 := by rw [hX]; exact Slv.woken_fit (Slv.cnt_fit (by omega) hS80) []
          have HX := hide (And.intro hXl (And.intro hXe (And.intro hXf hXt)))
          clear hX hXl hXe hXf hXt hbb
          go_wp2_with fail
          go_loopw [89] (fun i wr => ∃ j : Nat, j ≤ k ∧ i = .int .i64 (j : Int) ∧ SlO w wr g gl X) (fun i _ => k - (Go.RowKit.intOf i).toNat)
          case atStart => exact ⟨0, Nat.zero_le _, rfl, h8⟩
          case round =>
            clear h8
            obtain ⟨j, hj, rfl, h8⟩ := hrel
            by_cases hjk : j < k
            case neg =>
              obtain rfl : j = k := by omega
              have hjkI : ¬ ((j : Int) < (j : Int)) := by omega
              go_wp2_with fail
              refine (soout w g gl _ wr h8).mono ?_
              rintro e w9 ⟨rfl, rfl⟩
              rw [Slv.out_endless HX.out.2.1]
              go_wp2_with fail
              refine (splain_any 9 _ rfl w9).mono ?_
              rintro e wa ⟨Aa, ca, rfl, hOa, hEa⟩
              replace h8 := h8.keep hEa
              go_wp2_with fail
              refine (soink w g gl _ 1 Aa 64 ca (pl64 9) wa h8 (Slv.fit_up HX.out.2.2.2 (by omega)) hOa.sl (pl64_len _) (by omega)).mono ?_
              rintro e wb ⟨rfl, hb, -⟩
              rw [Slv.inkE_endless HX.out.2.1 (by omega) (by rw [HX.out.1]; omega)]
              have hEf := hb.ext
              clear h8 hOa hEa hb
              go_wp2_with fail
              go_ret
              exact ⟨rfl, hEf⟩
            case pos =>
              have hjkI : (j : Int) < (k : Int) := by omega
              have hlk : X.look (j : Int) = 0 := Slv.look_endless HX.out.2.1 (by omega) (by rw [HX.out.1]; omega)
              have Hlk := hide hlk
              have hfc := HX.out.2.2.1 j (by omega)
              have Hfc := hide hfc
              clear hlk hfc
              go_wp2_with fail
              refine (soface w g gl X j wr h8).mono ?_
              rintro e w9 ⟨hE9, -, h9⟩
              obtain ⟨A9, c9, rfl, hO9⟩ := h9 Hlk.out
              rw [show (j : Int).toNat = j from rfl, Hfc.out] at hO9
              replace h8 := h8.keep hE9
              clear h9 hE9
              go_wp2_with fail
              refine (splain_any 0 _ rfl w9).mono ?_
              rintro e wa ⟨Aa, ca, rfl, hOa, hEa⟩
              replace h8 := h8.keep hEa
              have hS9 := hO9.sl.ext hEa
              clear hO9 hEa
              by_cases hjb : j < R
              · have hjbI : (j : Int) < (R : Int) := by omega
                have hw8 : IntKind.u8.wrap ((j : Int) + 1) = (j : Int) + 1 := by simp [IntKind.wrap, IntKind.signed, IntKind.bits]; omega
                rw [if_pos hjb] at hS9
                clear hOa
                go_wp2_with fail
                refine (splain_any (BitVec.ofNat 8 (j + 1)) _ (by unfold by8; rw [n8_ofNat (by omega)]; congr 1) wa).mono ?_
                rintro e wb ⟨Ab, cb, rfl, hOb, hEb⟩
                replace h8 := h8.keep hEb
                have ht1 := run_str (P := Try.prog) (c := c9) Try.under_bs Try.under8 Try.underS (hS9.ext hEb) (pl64_len _)
                have ht2 := run_str (P := Try.prog) (c := cb) Try.under_bs Try.under8 Try.underS hOb.sl (pl64_len _)
                clear hS9 hOb hEb
                go_wp2_with fail
                go_roundw
                case rel => exact ⟨j + 1, by omega, by go_num, h8⟩
                case measure => simp [Go.RowKit.intOf]; omega
              · (first | exact absurd hjk (by omega) | skip) <;> (
                  have hjbI : ¬ (j : Int) < (R : Int) := by omega
                  rw [if_neg hjb] at hS9
                  have ht1 := run_str (P := Try.prog) (c := c9) Try.under_bs Try.under8 Try.underS hS9 (pl64_len _)
                  have ht2 := run_str (P := Try.prog) (c := ca) Try.under_bs Try.under8 Try.underS hOa.sl (pl64_len _)
                  clear hS9 hOa
                  go_wp2_with fail
                  go_roundw
                  case rel => exact ⟨j + 1, by omega, by go_num, h8⟩
                  case measure => simp [Go.RowKit.intOf]; omega)
end Go.Proofs.Ytjdodhooojjldaa
