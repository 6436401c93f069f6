/- The document's bytes, walked: in, four, text. -/
import Derived.Test.YtjdodhooojjldaaWirB
import Derived.Test.YtjdodhooojjldaaJoin
import Derived.Test.YtjdodhooojjldaaMonoL
namespace Go.Proofs.Ytjdodhooojjldaa
set_option linter.unusedSimpArgs false
set_option linter.unusedVariables false
open Go.RowKit
open Nt Sha
attribute [local go_sem] steady steadyUpon Cls same_cell anyW
attribute [local irreducible] wpHead wpTree wpHeadR
set_option maxHeartbeats 1000000 in
theorem rin_any (n least most : Int) (w : World) : Calls Try.prog 81 #[.int .i64 n, .int .i64 least, .int .i64 most] w fun e w' => e = .returned (.bool (!off n least most)) ∧ w = w' := by
  go_enter Try.func81, Try.ntmps81
  obtain ⟨t, ht⟩ : ∃ t, t = !off n least most := ⟨_, rfl⟩
  rw [← ht]
  have Ht := hide ht
  clear ht
  by_cases h1 : least ≤ n
  · by_cases h2 : n ≤ most
    · obtain rfl : t = true := Ht.out.trans (by unfold off; rw [decide_eq_false (by omega), decide_eq_false (by omega)]; rfl)
      go_wp2_with fail
      go_ret
      exact ⟨rfl, rfl⟩
    · obtain rfl : t = false := Ht.out.trans (by unfold off; rw [decide_eq_true (show most < n by omega), Bool.or_true]; rfl)
      have hd : decide (n ≤ most) = false := decide_eq_false h2
      go_wp2_with fail
      go_ret
      exact ⟨rfl, rfl⟩
  · obtain rfl : t = false := Ht.out.trans (by unfold off; rw [decide_eq_true (show n < least by omega), Bool.true_or]; rfl)
    have hd : decide (least ≤ n) = false := decide_eq_false h1
    go_wp2_with fail
    go_ret
    exact ⟨rfl, rfl⟩
theorem wby_nat (m : Nat) (hm : m < 18446744073709551616) (i : Nat) : wby (m : Int) i = BitVec.ofNat 8 (m / 2 ^ (8 * i)) := by
  unfold wby
  rw [IntKind.wrap_u64, Int.emod_eq_of_lt (by omega) (by omega)]
  rfl
theorem n8_ofNat (q : Nat) : n8 (BitVec.ofNat 8 q) = (q : Int) % (256 : Int) := by
  unfold n8
  rw [BitVec.toNat_ofNat]
  rfl
theorem by8_wby (m i : Nat) (q : Int) (hm : m < 18446744073709551616) (hq : q = ((m / 2 ^ (8 * i) : Nat) : Int) % (256 : Int)) : by8 (wby (m : Int) i) = .int .u8 q := by
  unfold by8
  rw [wby_nat m hm, n8_ofNat, hq]
set_option maxRecDepth 100000 in
set_option maxHeartbeats 1000000 in
theorem rfour_any (m : Nat) (w : World) (hm : m ≤ 2147483647) : Calls Try.prog 83 #[.int .i64 (m : Int)] w (RetS w 4 (be (m : Int) 4)) := by
  go_enter Try.func83, Try.ntmps83
  go_wp2_with fail
  go_ret
  refine ⟨some ⟨w.heap.size, 0, none⟩, 4, rfl, ?_, (Upd.refl _ _).alloc _⟩
  have e : (#[.int .u8 ((m : Int) / 16777216), .int .u8 ((m : Int) / 65536 % 256), .int .u8 ((m : Int) / 256 % 256), .int .u8 ((m : Int) % 256)] : Array Value) = ((be (m : Int) 4).map by8).toArray := by
    show _ = #[by8 (wby m 3), by8 (wby m 2), by8 (wby m 1), by8 (wby m 0)]
    rw [by8_wby m 3 ((m : Int) / 16777216) (by omega) (by show _ = ((m / 16777216 : Nat) : Int) % (256 : Int); omega), by8_wby m 2 ((m : Int) / 65536 % 256) (by omega) (by show _ = ((m / 65536 : Nat) : Int) % (256 : Int); omega), by8_wby m 1 ((m : Int) / 256 % 256) (by omega) (by show _ = ((m / 256 : Nat) : Int) % (256 : Int); omega), by8_wby m 0 ((m : Int) % 256) (by omega) (by show _ = ((m / 1 : Nat) : Int) % (256 : Int); omega)]
  rw [e]
  exact Own.lit by8 w 5 (be (m : Int) 4) (Nat.le_refl _) (by rw [be_length]; unfold maxLen; decide)
theorem rfourI_any (n : Int) (w : World) (h0 : 0 ≤ n) (hm : n ≤ 2147483647) : Calls Try.prog 83 #[.int .i64 n] w (RetS w 4 (be n 4)) := by
  obtain ⟨m, rfl⟩ := Int.eq_ofNat_of_zero_le h0
  exact rfour_any m w (by omega)
theorem by8_small (n : Int) (h0 : 0 ≤ n) (h1 : n ≤ 255) : by8 (wby n 0) = .int .u8 n := by
  obtain ⟨m, rfl⟩ := Int.eq_ofNat_of_zero_le h0
  exact by8_wby m 0 (m : Int) (by omega) (by show _ = ((m / 1 : Nat) : Int) % (256 : Int); omega)
/-- a row of two rows -/
theorem pts_two {w : World} {g : Nat} {t : TypeId} {p q : Pt} (hb : ∃ z : World, w = z.alloc (.cells #[p.val, q.val] t) ∧ z.heap.size = g) (hp : p.ok w) (hq : q.ok w) : Pts w (some ⟨g, 0, none⟩) [p, q] := by
  obtain ⟨z, hz, hg⟩ := hb
  refine ⟨by rw [hz]; exact Sl.new_at Pt.val [p, q] hg rfl, fun i hi => ?_⟩
  match i, hi with
  | 0, _ => exact hp
  | 1, _ => exact hq
set_option maxRecDepth 100000 in
set_option maxHeartbeats 1000000 in
theorem rtext_any (A : Option Addr) (n c N : Nat) (t : List B8) (w : World) (hS : Sl by8 w A t) (hn : t.length = n) (hc : n ≤ c) (hm : c ≤ maxLen) (hn2 : n ≤ 10000000) (hN : n + 2 = N) : Calls Try.prog 84 #[.slice A n c] w (RetS w N (txt t)) := by
  have Hn := hide hn
  have HS := hide hS
  clear hn hS
  go_enter Try.func84, Try.ntmps84
  go_wp2_with fail
  refine name_c' (fun W hW => ?_)
  have e : (#[.int .u8 ((n : Int) / 256 % 256), .int .u8 ((n : Int) % 256)] : Array Value) = ((be (n : Int) 2).map by8).toArray := by
    show _ = #[by8 (wby n 1), by8 (wby n 0)]
    rw [by8_wby n 1 ((n : Int) / 256 % 256) (by omega) (by show _ = ((n / 256 : Nat) : Int) % (256 : Int); omega), by8_wby n 0 ((n : Int) % 256) (by omega) (by show _ = ((n / 1 : Nat) : Int) % (256 : Int); omega)]
  rw [e] at hW
  have hE : Ext w W := by rw [hW]; exact ((Upd.refl _ _).alloc _).alloc _
  have hP : Pts W (some ⟨w.heap.size + 1, 0, none⟩) [⟨some ⟨w.heap.size, 0, none⟩, 2, 2, be (n : Int) 2⟩, ⟨A, n, c, t⟩] := pts_two ⟨_, hW, by simp⟩ ⟨by rw [hW]; exact (Sl.new by8 w 5 (be (n : Int) 2)).ext ((Upd.refl _ _).alloc _), be_length _ _, Nat.le_refl _, (show (2 : Nat) ≤ maxLen by unfold maxLen; decide)⟩ ⟨HS.out.ext hE, Hn.out, hc, hm⟩
  have hfl : flat [⟨some ⟨w.heap.size, 0, none⟩, 2, 2, be (n : Int) 2⟩, ⟨A, n, c, t⟩] = txt t := by
    unfold flat txt
    rw [Hn.out]
    simp
  have hflN : (txt t).length = N := by unfold txt; rw [List.length_append, be_length, Hn.out]; omega
  clear hW e
  refine (joinW_any _ 2 2 _ N W hP rfl (by rw [hfl]; exact hflN) (by omega) (by unfold maxLen; decide)).mono ?_
  rintro e w1 ⟨A1, c1, rfl, hO, hU⟩
  rw [hfl] at hO
  have HO := hide (hO.mono hE.size)
  clear hP hfl hflN hO
  go_wp2_with fail
  go_ret
  exact ⟨_, _, rfl, HO.out, hE.trans hU⟩
end Go.Proofs.Ytjdodhooojjldaa
