/- Numbers as small ones and as bytes, walked: Uint, FromBytes, Bytes, Least. -/
import Derived.Test.YtekpjdfgpggcnaaNatB
namespace Go.Proofs.Ytekpjdfgpggcnaa
set_option linter.unusedSimpArgs false
set_option linter.unusedVariables false
open Go.RowKit
open Nt
attribute [local go_sem] steady steadyUpon Cls same_cell by32 by8 wrap_w32

theorem or_nat (k : IntKind) (hs : k.signed = false) {a b s : Nat} (ha : a < 2 ^ s) (h : a + b * 2 ^ s < 2 ^ k.bits) : bits .or k (a : Int) ((b * 2 ^ s : Nat) : Int) = ((a + b * 2 ^ s : Nat) : Int) := by
  have e : (BitVec.ofInt k.bits (a : Int) ||| BitVec.ofInt k.bits ((b * 2 ^ s : Nat) : Int)).toNat = a + b * 2 ^ s := by
    rw [BitVec.ofInt_natCast, BitVec.ofInt_natCast, BitVec.toNat_or, BitVec.toNat_ofNat, BitVec.toNat_ofNat, Nat.mod_eq_of_lt (by omega), Nat.mod_eq_of_lt (by omega), Nat.or_comm, ← Nat.shiftLeft_eq, ← Nat.shiftLeft_add_eq_or_of_lt ha, Nat.shiftLeft_eq, Nat.add_comm]
  show k.wrap ((BitVec.ofInt k.bits (a : Int) ||| BitVec.ofInt k.bits ((b * 2 ^ s : Nat) : Int)).toNat : Int) = _
  rw [e, wrapu_nat k hs, Nat.mod_eq_of_lt h]
theorem or_nat' (k : IntKind) (hs : k.signed = false) {a b s : Nat} (ha : a < 2 ^ s) (h : a + b * 2 ^ s < 2 ^ k.bits) : bits .or k ((b * 2 ^ s : Nat) : Int) (a : Int) = ((a + b * 2 ^ s : Nat) : Int) := by
  rw [← or_nat k hs ha h]
  show k.wrap ((BitVec.ofInt k.bits _ ||| BitVec.ofInt k.bits _).toNat : Int) = k.wrap ((BitVec.ofInt k.bits _ ||| BitVec.ofInt k.bits _).toNat : Int)
  rw [BitVec.or_comm]

theorem u64_n32 (x : BitVec 32) : IntKind.u64.wrap (n32 x) = ((d32 x : Nat) : Int) := by
  rw [IntWalk.u64_in _ (by have := n32_bd x; omega)]; rfl
theorem u64_nat {a : Nat} (h : a < 18446744073709551616) : IntKind.u64.wrap (a : Int) = (a : Int) := IntWalk.u64_in _ (by omega)
theorem uint_step {xs : List (BitVec 32)} {k : Nat} (hk : k + 1 ≤ 2) : bits .or .u64 ((vf W32 (dig d32 xs) k : Nat) : Int) (IntKind.u64.wrap (IntKind.u64.wrap (n32 (gat xs k)) * 2 ^ (32 * k))) = ((vf W32 (dig d32 xs) (k + 1) : Nat) : Int) := by
  have h1 : vf W32 (dig d32 xs) k < 2 ^ (32 * k) := by
    rw [Nat.pow_mul]; exact vf_lt fun i _ => d32_lt _
  have h2 : vf W32 (dig d32 xs) (k + 1) < 2 ^ 64 := by
    have h3 : vf W32 (dig d32 xs) (k + 1) < W32 ^ (k + 1) := vf_lt fun i _ => d32_lt _
    have h4 : W32 ^ (k + 1) ≤ W32 ^ 2 := Nat.pow_le_pow_right (by decide) hk
    have e : W32 ^ 2 = 2 ^ 64 := by decide
    omega
  have e1 : vf W32 (dig d32 xs) (k + 1) = vf W32 (dig d32 xs) k + d32 (gat xs k) * 2 ^ (32 * k) := by
    rw [vf_succ, Nat.pow_mul]; rfl
  rw [u64_n32, show ((d32 (gat xs k) : Nat) : Int) * 2 ^ (32 * k) = ((d32 (gat xs k) * 2 ^ (32 * k) : Nat) : Int) by simp, u64_nat (by omega), or_nat .u64 rfl h1 (by rw [← e1]; exact h2), e1]
/-- what Uint says -/
def RetU (w : World) (n : Nat) (e : Ending) (w' : World) : Prop := e = .returned (.tuple #[.int .u64 (if n < 18446744073709551616 then (n : Int) else 0), .bool (decide (n < 18446744073709551616))]) ∧ Ext w w'
set_option maxRecDepth 100000 in
set_option maxHeartbeats 1000000 in
theorem uint_any (v : Value) (n : Nat) (w : World) (hV : NatV w v n) :
    Calls Try.prog 30 #[v] w (RetU w n) := by
  obtain ⟨A, c, xs, rfl, hc, hm, hS, hT, hn⟩ := hV.words
  have hlc : xs.length ≤ 9223372036854775807 := by unfold maxLen at hm; omega
  by_cases hl : 2 < xs.length
  · have hbig : ¬ n < 18446744073709551616 := by
      have := hT.low (β := W32) (by omega)
      have h2 : W32 ^ 2 ≤ W32 ^ (xs.length - 1) := Nat.pow_le_pow_right (by decide) (by omega)
      unfold numOf at hn
      have e : W32 ^ 2 = 18446744073709551616 := by decide
      omega
    unfold RetU
    rw [if_neg hbig, decide_eq_false hbig]
    clear hbig hn hT hS hV
    go_enter Try.func30, Try.ntmps30
    go_wp2
    go_ret2
    exact ⟨rfl, (Upd.refl _ _).alloc _⟩
  · have hsm : n < 18446744073709551616 := by
      have := numOf_lt (xs := xs) d32_lt
      have h2 : W32 ^ xs.length ≤ W32 ^ 2 := Nat.pow_le_pow_right (by decide) (by omega)
      have e : W32 ^ 2 = 18446744073709551616 := by decide
      omega
    unfold RetU
    rw [if_pos hsm, decide_eq_true hsm]
    have hn' : vf W32 (dig d32 xs) xs.length = n := hn
    have Hn := hide hn'
    clear hsm hn hT hV hn'
    have HS := hide (hS.ext ((Upd.refl _ w).alloc (.cells #[.slice A xs.length c] 26)))
    obtain ⟨L, hL⟩ : ∃ L, L = xs.length := ⟨_, rfl⟩
    rw [← hL] at hl hc HS Hn ⊢
    have HL := hide hL
    clear hL hS
    go_enter Try.func30, Try.ntmps30
    go_wp2
    go_outline
    go_loop [14, 4] (fun i r => ∃ k : Nat, k ≤ L ∧ i = .int .i64 k ∧ r = .int .u64 ((vf W32 (dig d32 xs) k : Nat) : Int)) (fun i _ => L - (intOf i).toNat)
    case atStart => exact ⟨0, Nat.zero_le _, rfl, rfl⟩
    case round =>
      obtain ⟨k, hk, rfl, rfl⟩ := hrel
      by_cases hlt : k < L
      · obtain ⟨b, o, rfl, hbl, hcells⟩ := HS.out.open_ (by rw [← HL.out]; omega)
        have hcell := hcells k (by rw [← HL.out]; omega)
        clear hcells
        go_wp2
        go_round
        case rel => exact ⟨k + 1, by omega, by go_num, by rw [uint_step (by omega)]⟩
        case measure => simp [intOf]; omega
      · obtain rfl : k = L := by omega
        rw [Hn.out]
        go_wp2
        go_ret2
        exact ⟨rfl, (Upd.refl _ _).alloc _⟩
end Go.Proofs.Ytekpjdfgpggcnaa
