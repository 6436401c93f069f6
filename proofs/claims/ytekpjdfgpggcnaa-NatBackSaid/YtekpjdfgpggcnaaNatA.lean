/- The small functions on numbers, walked: trim, New, Zero. -/
import Derived.Test.YtekpjdfgpggcnaaNum
import Derived.Test.YtekpjdfgpggcnaaProg
namespace Go.Proofs.Ytekpjdfgpggcnaa
set_option linter.unusedSimpArgs false
set_option linter.unusedVariables false
open Go.RowKit
open Nt
attribute [local go_sem] by32

/-- A number is handed back; nothing old has turned. -/
def RetN (w : World) (n : Nat) (e : Ending) (w' : World) : Prop := ∃ A l c, e = .returned (.agg #[.slice A l c]) ∧ NatV w' (.agg #[.slice A l c]) n ∧ Ext w w'

theorem dig_zero {xs : List (BitVec 32)} {k : Nat} : dig d32 xs k = 0 ↔ n32 (gat xs k) = 0 := by
  unfold dig d32 n32; omega

set_option maxRecDepth 100000 in
set_option maxHeartbeats 1000000 in
theorem trim_any (A : Option Addr) (n c : Nat) (xs : List (BitVec 32)) (w : World) (hn : xs.length = n) (hc : n ≤ c) (hm : c ≤ maxLen) (hS : Sl by32 w A xs) :
    Calls Try.prog 54 #[.slice A n c] w (RetN w (numOf W32 d32 xs)) := by
  have hm' := hm
  unfold maxLen at hm'
  have hS' := hide (hS.ext ((Upd.refl _ w).alloc (.cells #[.slice none 0 0] 26)))
  have Hn := hide hn
  have HS := hide hS
  clear hn hS
  go_enter Try.func54, Try.ntmps54
  go_wp2
  go_loop [0] (fun v => ∃ k : Nat, k ≤ n ∧ v = .slice A k c ∧ vf W32 (dig d32 xs) k = numOf W32 d32 xs) (fun v => match v with | .slice _ k _ => k | _ => 0)
  case atStart => exact ⟨n, Nat.le_refl _, rfl, by rw [← Hn.out]; rfl⟩
  case round =>
    obtain ⟨k, hk, rfl, hv⟩ := hrel
    have HV := hide hv
    clear hv
    rcases Nat.eq_zero_or_pos k with h0 | h0
    · subst h0
      go_wp2
      refine bodyPost_ret (v := .agg #[.slice A 0 c]) (by simp [results, Try.results54, go_sem]) rfl ⟨_, _, _, rfl, ⟨_, rfl, NumS.cut (HS.out.ext ((Upd.refl _ _).alloc _)) (Nat.zero_le _) (Nat.zero_le _) hm HV.out (.inl rfl)⟩, (Upd.refl _ _).alloc _⟩
    · obtain ⟨b, o, rfl, hb, hcells⟩ := hS'.out.open_ (by rw [Hn.out]; omega)
      have hcell := hcells (k - 1) (by rw [Hn.out]; omega)
      obtain ⟨k, rfl⟩ : ∃ j, k = j + 1 := ⟨k - 1, by omega⟩
      simp only [Nat.add_sub_cancel] at hcell
      clear hcells
      by_cases hz : n32 (gat xs k) = 0
      · have hzb : (n32 (gat xs k) == 0) = true := by simpa using hz
        have hd := hide (dig_zero.2 hz)
        clear hz
        go_wp2
        go_round
        case rel => exact ⟨k, by omega, rfl, by have := HV.out; rw [vf_succ, hd.out] at this; omega⟩
        case measure => simp
      · have hzb : (n32 (gat xs k) == 0) = false := by simpa using hz
        have hd := hide (fun e => hz (dig_zero.1 e))
        clear hz
        go_wp2
        refine bodyPost_ret (v := .agg #[.slice (some ⟨b, o, none⟩) (k + 1) c]) (by simp [results, Try.results54, go_sem]) rfl ⟨_, _, _, rfl, ⟨_, rfl, NumS.cut (HS.out.ext ((Upd.refl _ _).alloc _)) (by rw [Hn.out]; exact hk) (by omega) hm HV.out (.inr hd.out)⟩, (Upd.refl _ _).alloc _⟩

def w32 (x : Int) : BitVec 32 := BitVec.ofInt 32 x
theorem wrap_w32 (x : Int) : IntKind.u32.wrap x = n32 (w32 x) := by
  unfold n32 w32
  rw [IntKind.wrap_u32, BitVec.toNat_ofInt]
  omega
theorem d32_w32 (x : Nat) : d32 (w32 x) = x % W32 := by
  unfold d32 w32 W32
  rw [BitVec.toNat_ofInt]
  omega
attribute [local go_sem] wrap_w32
theorem new_words (N : Nat) (hN : N < 18446744073709551616) : numOf W32 d32 [w32 N, w32 ((N : Int) / 4294967296)] = N := by
  show 0 + d32 (w32 N) * W32 ^ 0 + d32 (w32 ((N : Int) / 4294967296)) * W32 ^ 1 = N
  rw [show (N : Int) / 4294967296 = ((N / 4294967296 : Nat) : Int) by omega, d32_w32, d32_w32]
  unfold W32
  omega
set_option maxRecDepth 100000 in
set_option maxHeartbeats 1000000 in
theorem new_any (N : Nat) (w : World) (hN : N < 18446744073709551616) :
    Calls Try.prog 29 #[.int .u64 N] w (RetN w N) := by
  have hN' : (N : Int) ≤ 18446744073709551615 := by omega
  go_enter Try.func29, Try.ntmps29
  go_wp2_with fail
  refine (trim_any _ 2 2 [w32 N, w32 ((N : Int) / 4294967296)] _ rfl (by omega) (by unfold maxLen; omega) (Sl.new_at by32 [w32 N, w32 ((N : Int) / 4294967296)] (by simp) rfl)).mono ?_
  rintro e w1 ⟨A, n, c, rfl, hV, hU⟩
  rw [new_words N hN] at hV
  obtain ⟨hc, hf, hz⟩ := ecell hU
  simp at hz
  go_wp2
  have hcell : w1.cell? ⟨w.heap.size, 0, none⟩ = some (.slice none 0 0) := by rw [hc _ _ (by simp; omega)]; go_simp
  exact bodyPost_ret (v := .agg #[.slice A n c]) (by simp [results, Try.results29, go_sem, hcell]) rfl ⟨_, _, _, rfl, hV.far hcell, (by repeat (first | (with_reducible exact Upd.refl _ _) | (with_reducible assumption) | (refine Upd.setCell ?_ (.inr (by first | exact Nat.le_refl _ | (dsimp only; omega) | (simp; done) | (simp; omega))) _) | (with_reducible refine Upd.alloc ?_ _) | (with_reducible refine Upd.drew ?_) | (with_reducible refine Upd.trans ?_ (by with_reducible assumption))))⟩
set_option maxRecDepth 100000 in
set_option maxHeartbeats 1000000 in
theorem zero_any (v : Value) (n : Nat) (w : World) (hV : NatV w v n) :
    Calls Try.prog 23 #[v] w (fun e w' => e = .returned (.bool (decide (n = 0))) ∧ Ext w w') := by
  obtain ⟨A, c, xs, rfl, hc, hm, hS, hT, hn⟩ := hV.words
  have hz : decide (n = 0) = ((xs.length : Int) == 0) := by
    rw [Bool.eq_iff_iff]
    have := Trd.zero_iff one_lt_W32 hT
    unfold numOf at hn
    simp only [decide_eq_true_eq, beq_iff_eq]
    omega
  rw [hz]
  clear hz
  go_enter Try.func23, Try.ntmps23
  go_wp2
  go_ret
  exact ⟨rfl, (Upd.refl _ _).alloc _⟩
end Go.Proofs.Ytekpjdfgpggcnaa
