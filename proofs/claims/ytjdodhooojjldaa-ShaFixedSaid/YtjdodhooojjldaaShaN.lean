/- The document's constants, walked: prime, Constants, First. -/
import Derived.Test.YtjdodhooojjldaaShaK
import Derived.Test.YtjdodhooojjldaaShaR
namespace Go.Proofs.Ytjdodhooojjldaa
set_option linter.unusedSimpArgs false
set_option linter.unusedVariables false
open Go.RowKit
open Sha
attribute [local go_sem] steady steadyUpon Cls same_cell
attribute [local irreducible] wpHead wpTree wpHeadR fitsL rootL isP
set_option maxRecDepth 100000 in
set_option maxHeartbeats 2000000 in
theorem prime_any (n : Nat) (w : World) (hn : n ≤ 1000) :
    Calls Try.prog 69 #[.int .i64 (n : Int)] w fun en w' => en = .returned (.int .u64 ((nthP 400 2 n : Nat) : Int)) ∧ Ext w w' := by
  obtain ⟨z, hz⟩ : ∃ z, z = nthP 400 2 n := ⟨_, rfl⟩
  rw [← hz]
  have Hz := hide hz
  clear hz
  go_enter Try.func69, Try.ntmps69
  go_wp2_with fail
  go_loopw [0, 3] (fun nv pv wr => ∃ (f p m : Nat), 2 ≤ p ∧ f + p = 402 ∧ p ≤ 400 ∧ m ≤ n ∧ nv = .int .i64 (m : Int) ∧ pv = .int .u64 (p : Int) ∧ z = nthP f p m ∧ wr = w) (fun _ p _ => 400 - (intOf p).toNat)
  case atStart => exact ⟨400, 2, n, by omega, rfl, by omega, Nat.le_refl _, rfl, rfl, Hz.out, rfl⟩
  case round =>
    obtain ⟨f, p, m, hp2, hfp, hp4, hm, rfl, rfl, hzz, rfl⟩ := hrel
    have Hzz := hide hzz
    clear hzz Hz
    by_cases hlt : p < 400
    · have hltI : (p : Int) < 400 := by omega
      obtain ⟨g, rfl⟩ : ∃ g, f = g + 1 := ⟨f - 1, by omega⟩
      have hz2 : z = if isP p then (if m = 0 then p else nthP g (p + 1) (m - 1)) else nthP g (p + 1) m := by
        rw [Hzz.out]
        show (if 400 ≤ p then 0 else _) = _
        rw [if_neg (by omega)]
      have Hz2 := hide hz2
      clear hz2 Hzz
      go_wp2_with fail
      go_loopw [4, 5] (fun bv dv wx => ∃ (d : Nat) (bl : Bool), 2 ≤ d ∧ d ≤ 20 ∧ bv = .bool bl ∧ dv = .int .u64 (d : Int) ∧ bl = alB p d ∧ (d = 2 ∨ (d - 1) * (d - 1) ≤ p) ∧ wx = wr) (fun _ d _ => 400 - (intOf d).toNat)
      case atStart => exact ⟨2, true, by omega, by omega, rfl, rfl, rfl, .inl rfl, rfl⟩
      case round =>
        obtain ⟨d, bl, hd2, hd20, rfl, rfl, hbl, hdd, rfl⟩ := hrel
        have Hbl := hide hbl
        have Hdd := hide hdd
        clear hbl hdd
        obtain ⟨s, hs⟩ : ∃ s, s = d * d := ⟨_, rfl⟩
        have hs4 : s ≤ 400 := by rw [hs]; exact Nat.mul_le_mul hd20 hd20
        have e1 : IntKind.u64.wrap ((d : Int) * (d : Int)) = (s : Int) := by
          rw [← Int.natCast_mul, ← hs, IntKind.wrap_u64]; omega
        by_cases hsp : s ≤ p
        · have hspI : (s : Int) ≤ (p : Int) := by omega
          have hd19 : d + 1 ≤ 20 := by
            rcases Nat.lt_or_ge d 20 with h | h
            · exact h
            · have := Nat.mul_le_mul h h; omega
          obtain ⟨r, hr⟩ : ∃ r, r = p % d := ⟨_, rfl⟩
          have e2 : (p : Int) % (d : Int) = (r : Int) := by rw [hr]; push_cast; rfl
          have e2' : (p : Int).tmod (d : Int) = (r : Int) := by rw [hr]; exact IntWalk.rem_in _ _ (by omega)
          have hrd : r < d := by rw [hr]; exact Nat.mod_lt _ (by omega)
          have hrdI : (r : Int) ≤ 20 := by omega
          have hdI : (0 : Int) < (d : Int) := by omega
          have hst : (bl && !decide (r = 0)) = alB p (d + 1) := by
            show _ = (alB p d && (decide (d < 2) || !decide (p % d = 0)))
            rw [← Hbl.out, ← hr, decide_eq_false (show ¬ d < 2 by omega), Bool.false_or]
          have Hst := hide hst
          have hdp : (d + 1 - 1) * (d + 1 - 1) ≤ p := by rw [Nat.add_sub_cancel, ← hs]; exact hsp
          have Hdp := hide hdp
          clear hst hr hs hdp
          by_cases hr0 : r = 0
          · subst hr0
            go_wp2_with fail
            go_roundw
            case rel => exact ⟨d + 1, false, by omega, hd19, rfl, by go_num, by rw [← Hst.out]; simp, .inr Hdp.out, trivial⟩
            case measure => simp [intOf]; omega
          · have hr0b : ((r : Int) == 0) = false := beq_eq_false_iff_ne.2 (by omega)
            have hr0I : ¬ (r : Int) = 0 := by omega
            go_wp2_with fail
            go_roundw
            case rel => exact ⟨d + 1, bl, by omega, hd19, rfl, by go_num, by rw [← Hst.out, decide_eq_false hr0]; simp, .inr Hdp.out, trivial⟩
            case measure => simp [intOf]; omega
        · have hspI : ¬ (s : Int) ≤ (p : Int) := by omega
          have hbp : bl = isP p := by rw [Hbl.out]; exact alB_isP hlt (by omega) Hdd.out
          have hz3 : z = if bl then (if m = 0 then p else nthP g (p + 1) (m - 1)) else nthP g (p + 1) m := by rw [hbp]; exact Hz2.out
          have Hz3 := hide hz3
          clear hz3 hbp Hz2 hs Hdd Hbl
          cases bl with
          | false =>
            go_wp2_with fail
            go_roundw
            case rel => exact ⟨g, p + 1, m, by omega, by omega, by omega, hm, rfl, by go_num, Hz3.out, trivial⟩
            case measure => simp [intOf]; omega
          | true =>
            by_cases hm0 : m = 0
            · have hzp : z = p := by have h := Hz3.out; rw [if_pos rfl, if_pos hm0] at h; exact h
              subst hm0
              subst hzp
              go_wp2_with fail
              go_ret
              exact ⟨rfl, Upd.refl _ _⟩
            · have hm0b : ((m : Int) == 0) = false := beq_eq_false_iff_ne.2 (by omega)
              have hm0I : ¬ (m : Int) = 0 := by omega
              obtain ⟨m', hm'⟩ : ∃ m', m = m' + 1 := ⟨m - 1, by omega⟩
              subst hm'
              have Hz4 : Hid (z = nthP g (p + 1) m') := hide (by have h := Hz3.out; rw [if_pos rfl, if_neg (by omega)] at h; exact h)
              clear Hz3 hm0 hm0I
              go_wp2_with fail
              go_roundw
              case rel => exact ⟨g, p + 1, m', by omega, by omega, by omega, by omega, by go_num, by go_num, Hz4.out, trivial⟩
              case measure => simp [intOf]; omega
    · obtain rfl : p = 400 := by omega
      have hz0 : z = 0 := by
        obtain rfl : f = 2 := by omega
        exact Hzz.out
      subst hz0
      clear Hzz
      go_wp2_with fail
      go_ret
      exact ⟨rfl, Upd.refl _ _⟩
end Go.Proofs.Ytjdodhooojjldaa
