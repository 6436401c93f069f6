/- Small primes and what is known, walked: Small, known, power, long. -/
import Derived.Test.YtoekbomfepedcaaExpL
import Derived.Test.YtoekbomfepedcaaPock
namespace Go.Proofs.Ytoekbomfepedcaa
set_option linter.unusedSimpArgs false
set_option linter.unusedVariables false
open Go.RowKit
open Nt
attribute [local go_sem] steady steadyUpon Cls same_cell
attribute [local irreducible] wpHead wpTree

/-- a prime below 2^16, by trying -/
def smallB (n : Nat) : Bool := decide (2 ≤ n) && (decide (n < 65536) && (List.range 256).all fun d => !(decide (2 ≤ d) && (decide (d * d ≤ n) && decide (n % d = 0))))
theorem smallB_iff {n : Nat} : smallB n = true ↔ 2 ≤ n ∧ n < 65536 ∧ ∀ d, 2 ≤ d → d * d ≤ n → n % d ≠ 0 := by
  unfold smallB
  simp only [Bool.and_eq_true, decide_eq_true_iff, List.all_eq_true, List.mem_range, Bool.not_eq_true', Bool.and_eq_false_iff, decide_eq_false_iff_not]
  have h : ∀ d : Nat, (¬ 2 ≤ d ∨ ¬ d * d ≤ n ∨ ¬ n % d = 0) ↔ (2 ≤ d → d * d ≤ n → n % d ≠ 0) := fun d =>
    ⟨fun h h1 h2 => h.elim (fun h => absurd h1 h) (fun h => h.elim (fun h => absurd h2 h) id), fun h => by
      by_cases h1 : 2 ≤ d
      · by_cases h2 : d * d ≤ n
        · exact .inr (.inr (h h1 h2))
        · exact .inr (.inl h2)
      · exact .inl h1⟩
  simp only [h]
  refine ⟨fun ⟨h1, h2, h3⟩ => ⟨h1, h2, fun d hd hdd => h3 d ?_ hd hdd⟩, fun ⟨h1, h2, h3⟩ => ⟨h1, h2, fun d _ hd hdd => h3 d hd hdd⟩⟩
  refine Nat.lt_of_not_ge fun h => ?_
  have := Nat.mul_le_mul h h
  omega
theorem smallB_pr {n : Nat} (h : smallB n = true) : Pk.Pr n := by
  obtain ⟨h1, -, h3⟩ := smallB_iff.1 h
  exact Pk.pr_of_small h1 h3
theorem smallB_false {n : Nat} (h : n < 2 ∨ 65536 ≤ n) : smallB n = false := by
  cases e : smallB n with
  | false => rfl
  | true => obtain ⟨h1, h2, -⟩ := smallB_iff.1 e; omega
theorem smallB_div {n d : Nat} (h1 : 2 ≤ d) (h2 : d * d ≤ n) (h3 : n % d = 0) : smallB n = false := by
  cases e : smallB n with
  | false => rfl
  | true => exact absurd h3 ((smallB_iff.1 e).2.2 d h1 h2)
set_option maxRecDepth 100000 in
set_option maxHeartbeats 2000000 in
theorem csmall_any (v : Value) (n : Nat) (w : World) (hV : NatV w v n) : Calls Try.prog 99 #[v] w fun e w' => e = .returned (.bool (smallB n)) ∧ Ext w w' := by
  obtain ⟨A, la, ca, xs, rfl, -⟩ := hV.open_
  obtain ⟨t, ht⟩ : ∃ t, t = smallB n := ⟨_, rfl⟩
  rw [← ht]
  have Ht := hide ht
  clear ht
  go_enter Try.func99, Try.ntmps99
  go_wp2_with fail
  refine name_c (fun W hW => ?_)
  have hE : Ext w W := by rw [hW]; exact (Upd.refl _ w).alloc _
  clear hW
  refine (uint_any _ n _ (hV.ext hE)).mono ?_
  rintro e w1 ⟨rfl, hU⟩
  replace hE := hE.trans hU
  clear hU hV
  by_cases hbig : n < 18446744073709551616
  · rw [if_pos hbig, decide_eq_true hbig]
    clear hbig
    by_cases h2 : n < 2
    · obtain rfl : t = false := Ht.out.trans (smallB_false (.inl h2))
      have h2I : (n : Int) < 2 := by omega
      go_wp2_with fail
      go_ret
      exact ⟨rfl, hE⟩
    · by_cases h16 : n < 65536
      · have h2I : ¬ (n : Int) < 2 := by omega
        have h16I : decide ((65536 : Int) ≤ (n : Int)) = false := decide_eq_false (by omega)
        have H16 := hide h16
        clear h16 h2
        go_wp2_with fail
        go_loopw [5] (fun dv wr => ∃ d : Nat, 2 ≤ d ∧ d ≤ 256 ∧ dv = .int .u64 (d : Int) ∧ (∀ e, 2 ≤ e → e < d → n % e ≠ 0) ∧ Ext w wr) (fun dv _ => 257 - (intOf dv).toNat)
        case atStart => exact ⟨2, by omega, by omega, rfl, fun e h1 h2 => by omega, hE⟩
        case round =>
          clear hE
          obtain ⟨d, hd2, hd, rfl, hno, hE⟩ := hrel
          obtain ⟨s, hs⟩ : ∃ s, s = d * d := ⟨_, rfl⟩
          have hsI : (d : Int) * (d : Int) = (s : Int) := by rw [hs]; push_cast; rfl
          have hsb : s ≤ 65536 := by rw [hs]; exact Nat.mul_le_mul hd hd
          have Hno := hide hno
          have Hs := hide hs
          clear hno hs
          by_cases hle : s ≤ n
          · have hleI : (s : Int) ≤ (n : Int) := by omega
            have hd255 : d ≤ 255 := Nat.le_of_lt_succ (Nat.lt_of_le_of_ne hd fun e => by have := Hs.out; have := H16.out; rw [e] at *; omega)
            obtain ⟨r, hr⟩ : ∃ r, r = n % d := ⟨_, rfl⟩
            have hr1 : (n : Int).tmod (d : Int) = (r : Int) := by rw [Int.tmod_eq_emod_of_nonneg (by omega), hr]; rfl
            have hr2 : (n : Int) % (d : Int) = (r : Int) := by rw [hr]; rfl
            have hrb : r ≤ 65536 := by rw [hr]; exact Nat.le_trans (Nat.mod_le _ _) (Nat.le_of_lt H16.out)
            have Hr := hide hr
            have hd0 : ¬ (d : Int) = 0 := by omega
            clear hr
            by_cases hr0 : r = 0
            · have hr0I : (r : Int) = 0 := by omega
              obtain rfl : t = false := Ht.out.trans (smallB_div hd2 (by rw [← Hs.out]; exact hle) (by rw [← Hr.out]; exact hr0))
              go_wp2_with fail
              go_ret
              exact ⟨rfl, hE⟩
            · have hr0I : ¬ (r : Int) = 0 := by omega
              go_wp2_with fail
              go_roundw
              case rel => exact ⟨d + 1, by omega, by omega, by go_num, fun e h1 h2 => by
                  by_cases h : e = d
                  · subst h; rw [← Hr.out]; exact hr0
                  · exact Hno.out e h1 (by omega), hE⟩
              case measure => simp [intOf]; omega
          · have hleI : ¬ (s : Int) ≤ (n : Int) := by omega
            obtain rfl : t = true := Ht.out.trans (smallB_iff.2 ⟨by omega, H16.out, fun e h1 h2 => Hno.out e h1 (Nat.lt_of_not_ge fun h => by
              have h3 := Nat.mul_le_mul h h
              rw [← Hs.out] at h3
              omega)⟩)
            go_wp2_with fail
            go_ret
            exact ⟨rfl, hE⟩
      · obtain rfl : t = false := Ht.out.trans (smallB_false (.inr (by omega)))
        have h2I : ¬ (n : Int) < 2 := by omega
        have h16I : (65536 : Int) ≤ (n : Int) := by omega
        go_wp2_with fail
        go_ret
        exact ⟨rfl, hE⟩
  · rw [if_neg hbig, decide_eq_false hbig]
    obtain rfl : t = false := Ht.out.trans (smallB_false (.inr (by omega)))
    clear hbig
    go_wp2_with fail
    go_ret
    exact ⟨rfl, hE⟩
theorem clong_any (v : Value) (n k : Nat) (w : World) (hV : NatV w v n) (hF : Fit k n) (hk : k ≤ 1000000) : Calls Try.prog 122 #[v] w fun e w' => e = .returned (.bool (decide (1024 < blen n))) ∧ Ext w w' := by
  obtain ⟨A, la, ca, xs, rfl, -⟩ := hV.open_
  obtain ⟨t, ht⟩ : ∃ t, t = decide (1024 < blen n) := ⟨_, rfl⟩
  rw [← ht]
  have Ht := hide ht
  clear ht
  go_enter Try.func122, Try.ntmps122
  go_wp2_with fail
  refine name_c (fun W hW => ?_)
  have hE : Ext w W := by rw [hW]; exact (Upd.refl _ w).alloc _
  clear hW
  refine (bits_any _ n k _ (hV.ext hE) hF hk).mono ?_
  rintro e w1 ⟨rfl, hU⟩
  replace hE := hE.trans hU
  by_cases h : 1024 < blen n
  · obtain rfl : t = true := Ht.out.trans (decide_eq_true h)
    have hI : (1024 : Int) < (blen n : Int) := by omega
    go_wp2_with fail
    go_ret
    exact ⟨rfl, hE⟩
  · obtain rfl : t = false := Ht.out.trans (decide_eq_false h)
    have hI : decide ((1024 : Int) < (blen n : Int)) = false := decide_eq_false (by omega)
    go_wp2_with fail
    go_ret
    exact ⟨rfl, hE⟩
end Go.Proofs.Ytoekbomfepedcaa
