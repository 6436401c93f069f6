/- The document's constants, walked: root, prime. -/
import Derived.Test.YtjdodhooojjldaaShaJ
namespace Go.Proofs.Ytjdodhooojjldaa
set_option linter.unusedSimpArgs false
set_option linter.unusedVariables false
open Go.RowKit
open Sha
attribute [local go_sem] steady steadyUpon Cls same_cell
attribute [local irreducible] wpHead wpTree wpHeadR fitsL
def bitR (k : Nat) : Nat := 68719476736 / 2 ^ k
def rootL (p e : Nat) : Nat → Nat
  | 0 => 0
  | k + 1 => if fitsL ((rootL p e k + bitR k) % M64) p e then (rootL p e k + bitR k) % M64 else rootL p e k
theorem bitR_zero : ∀ k, k ≤ 37 → (bitR k = 0 ↔ k = 37) := by decide
theorem bitR_le : ∀ k, k ≤ 37 → bitR k ≤ 68719476736 := fun k _ => Nat.div_le_self _ _
theorem bitR_succ (k : Nat) : bitR (k + 1) = bitR k / 2 := by unfold bitR; rw [Nat.pow_succ, Nat.div_div_eq_div_mul]
theorem u32w (x : Nat) : IntKind.u32.wrap (x : Int) = ((x % H32 : Nat) : Int) := by rw [IntKind.wrap_u32]; unfold H32; omega
theorem M64_pos : 0 < M64 := by decide
set_option maxRecDepth 100000 in
set_option maxHeartbeats 2000000 in
theorem root_any (p e : Nat) (w : World) (he : e ≤ 3) :
    Calls Try.prog 68 #[.int .u64 (p : Int), .int .i64 (e : Int)] w fun en w' => en = .returned (.int .u32 ((rootL p e 37 % H32 : Nat) : Int)) ∧ Ext w w' := by
  obtain ⟨z, hz⟩ : ∃ z, z = rootL p e 37 % H32 := ⟨_, rfl⟩
  rw [← hz]
  have Hz := hide hz
  clear hz
  go_enter Try.func68, Try.ntmps68
  go_wp2_with fail
  go_loopw [5, 6] (fun xv bv wr => ∃ (k x b : Nat), k ≤ 37 ∧ xv = .int .u64 (x : Int) ∧ bv = .int .u64 (b : Int) ∧ x = rootL p e k ∧ b = bitR k ∧ Ext w wr) (fun _ b _ => (intOf b).toNat)
  case atStart => exact ⟨0, 0, 68719476736, by omega, rfl, rfl, rfl, by decide, Upd.refl _ _⟩
  case round =>
    obtain ⟨k, x, b, hk, rfl, rfl, hx, hb, hE⟩ := hrel
    have Hx := hide hx
    have hble : b ≤ 68719476736 := by rw [hb]; exact bitR_le k hk
    have Hb := hide hb
    have HE := hide hE
    clear hx hb hE
    by_cases hb0 : 0 < b
    · have hbI : (0 : Int) < (b : Int) := by omega
      have hbI2 : (b : Int) ≤ 68719476736 := by omega
      have hk37 : k + 1 ≤ 37 := by
        have := (bitR_zero k hk)
        rw [← Hb.out] at this
        omega
      obtain ⟨y, hy⟩ : ∃ y, y = (x + b) % M64 := ⟨_, rfl⟩
      have hyM : y < M64 := by rw [hy]; exact Nat.mod_lt _ M64_pos
      have e1 : IntKind.u64.wrap ((x : Int) + (b : Int)) = (y : Int) := by rw [← Int.natCast_add, u64w, hy]
      obtain ⟨b2, hb2⟩ : ∃ b2, b2 = b / 2 := ⟨_, rfl⟩
      have e2 : (b : Int) / (2 : Int) = (b2 : Int) := by rw [hb2]; omega
      have e2' : (b : Int).tdiv (2 : Int) = (b2 : Int) := by rw [Int.tdiv_eq_ediv_of_nonneg (by omega)]; exact e2
      have hb2l : b2 < b := by omega
      have hb2s : b2 = bitR (k + 1) := by rw [bitR_succ, ← Hb.out, hb2]
      have hb2I : (b2 : Int) ≤ 68719476736 := by omega
      obtain ⟨ft, hft⟩ : ∃ ft, ft = fitsL y p e := ⟨_, rfl⟩
      have hst : (if ft then y else x) = rootL p e (k + 1) := by
        show _ = if fitsL ((rootL p e k + bitR k) % M64) p e then (rootL p e k + bitR k) % M64 else rootL p e k
        rw [← Hx.out, ← Hb.out, ← hy, ← hft]
      have Hst := hide hst
      have Hft := hide hft
      have Hb2 := hide hb2s
      have HyM := hide hyM
      clear hst hft hb2s hb2 hy hyM
      go_wp2_with fail
      refine (fits_any y p e wr HyM.out he).mono ?_
      rintro en w1 ⟨rfl, hU⟩
      rw [← Hft.out]
      cases ft with
      | true =>
        go_wp2_with fail
        go_roundw
        case rel => exact ⟨k + 1, y, b2, hk37, rfl, rfl, Hst.out, Hb2.out, HE.out.trans hU⟩
        case measure => simp [intOf]; omega
      | false =>
        go_wp2_with fail
        go_roundw
        case rel => exact ⟨k + 1, x, b2, hk37, rfl, rfl, Hst.out, Hb2.out, HE.out.trans hU⟩
        case measure => simp [intOf]; omega
    · obtain rfl : b = 0 := by omega
      have hk37 : k = 37 := (bitR_zero k hk).1 Hb.out.symm
      have hxe : x = rootL p e 37 := by rw [Hx.out, hk37]
      have e1 : IntKind.u32.wrap (x : Int) = (z : Int) := by rw [u32w, hxe, Hz.out]
      clear hxe hk37 Hx Hb Hz
      go_wp2_with fail
      go_ret
      exact ⟨rfl, HE.out⟩
def isP (p : Nat) : Bool := (List.range 20).all fun c => decide (c < 2) || (decide (p < c * c) || !decide (p % c = 0))
def alB (p : Nat) : Nat → Bool
  | 0 => true
  | d + 1 => alB p d && (decide (d < 2) || !decide (p % d = 0))
theorem alB_iff (p : Nat) : ∀ d, alB p d = true ↔ ∀ c, c < d → 2 ≤ c → p % c ≠ 0
  | 0 => ⟨fun _ c h => by omega, fun _ => rfl⟩
  | d + 1 => by
    show (alB p d && _) = true ↔ _
    rw [Bool.and_eq_true, alB_iff p d]
    simp only [Bool.or_eq_true, decide_eq_true_eq, Bool.not_eq_true', decide_eq_false_iff_not]
    constructor
    · rintro ⟨h1, h2⟩ c hc hc2
      rcases Nat.lt_or_ge c d with h | h
      · exact h1 c h hc2
      · obtain rfl : c = d := by omega
        exact h2.resolve_left (by omega)
    · intro h
      exact ⟨fun c hc hc2 => h c (by omega) hc2, (Nat.lt_or_ge d 2).elim .inl (fun h2 => .inr (h d (by omega) h2))⟩
theorem alB_isP {p d : Nat} (hp : p < 400) (h1 : p < d * d) (h2 : d = 2 ∨ (d - 1) * (d - 1) ≤ p) : alB p d = isP p := by
  rw [Bool.eq_iff_iff, alB_iff]
  unfold isP
  rw [List.all_eq_true]
  constructor
  · intro h c hc
    rw [List.mem_range] at hc
    simp only [Bool.or_eq_true, decide_eq_true_eq, Bool.not_eq_true', decide_eq_false_iff_not]
    rcases Nat.lt_or_ge c 2 with hc2 | hc2
    · exact .inl hc2
    · rcases Nat.lt_or_ge p (c * c) with hcc | hcc
      · exact .inr (.inl hcc)
      · refine .inr (.inr (h c ?_ hc2))
        rcases Nat.lt_or_ge c d with hd | hd
        · exact hd
        · exact absurd (Nat.le_trans (Nat.mul_le_mul hd hd) hcc) (by omega)
  · intro h c hc hc2
    have hcc : c * c ≤ p := by
      rcases h2 with rfl | h2
      · omega
      · exact Nat.le_trans (Nat.mul_le_mul (by omega) (by omega)) h2
    have hc20 : c < 20 := by
      rcases Nat.lt_or_ge c 20 with h | h
      · exact h
      · have := Nat.mul_le_mul h h
        omega
    have := h c (List.mem_range.2 hc20)
    simp only [Bool.or_eq_true, decide_eq_true_eq, Bool.not_eq_true', decide_eq_false_iff_not] at this
    rcases this with h | h | h
    · omega
    · omega
    · exact h
def nthP : Nat → Nat → Nat → Nat
  | 0, _, _ => 0
  | f + 1, p, n => if 400 ≤ p then 0 else if isP p then (if n = 0 then p else nthP f (p + 1) (n - 1)) else nthP f (p + 1) n
end Go.Proofs.Ytjdodhooojjldaa
