/- The sum of a hash, walked. -/
import Derived.Test.YtoekbomfepedcaaShaS
namespace Go.Proofs.Ytoekbomfepedcaa
set_option linter.unusedSimpArgs false
set_option linter.unusedVariables false
open Go.RowKit
open Sha
attribute [local go_sem] steady steadyUpon Cls same_cell by8 by32 by64
attribute [local go_sem] conv_u32_u8 shr8_u32 shr16_u32 shr24_u32

def RetS (w : World) (n : Nat) (bs : List (BitVec 8)) (e : Ending) (w' : World) : Prop :=
  ∃ A c, e = .returned (.slice A n c) ∧ Own w' w.heap.size 5 A c (bs.map by8) ∧ Ext w w'
def pre (n k : Nat) : List (BitVec 8) := (0x80 :: List.replicate (zeros n) 0) ++ lens n k
theorem pre_length (n k : Nat) : (pre n k).length = 1 + zeros n + k := by simp [pre, lens_length]; omega
theorem pre_succ (n k : Nat) : pre n k ++ [len1 n (7 - k)] = pre n (k + 1) := by simp [pre, lens]
theorem pre_full (n : Nat) : pre n 8 = pad n := rfl
theorem len1_n8 (n i : Nat) (h : n ≤ 100000000) : (n : Int) * 8 / 2 ^ (8 * i) % 256 = n8 (len1 n i) := by
  unfold len1 n8
  rw [BitVec.toNat_setWidth, BitVec.toNat_ushiftRight, BitVec.toNat_mul, BitVec.toNat_ofNat, Nat.shiftRight_eq_div_pow]
  have : (8 : BitVec 64).toNat = 8 := rfl
  rw [this, Nat.mod_eq_of_lt (show n < 2 ^ 64 by omega), Nat.mod_eq_of_lt (show n * 8 < 2 ^ 64 by omega)]
  simp
theorem hcell_head (H : Nat → BitVec 32) (A : Option Addr) (l c n : Nat) : (Array.ofFn fun i : Fin 8 => hcell H A l c n i) = Array.ofFn fun i : Fin 8 => by32 (H i) :=
  ofFn_head _ H (fun j hj => if_pos hj)
theorem zeros_lt (n : Nat) : zeros n < 64 := by unfold zeros; omega

set_option maxRecDepth 100000 in
set_option maxHeartbeats 1000000 in
theorem hsum_any (B g : Nat) (T : Nat → Prop) (msg : List (BitVec 8)) (w : World) (hH : Hsh w B T g msg) (hl : msg.length ≤ 100000000) :
    Calls Try.prog 82 #[.pointer (some ⟨g, 0, none⟩)] w (RetS w 32 (sum msg)) := by
  have HH := hide hH
  have c9 : w.cell? ⟨g, 9, none⟩ = some (.int .i64 msg.length) := by
    obtain ⟨A, c, hA, _⟩ := hH.ex
    exact hA.cell (i := 9) (by omega)
  obtain ⟨n, hn⟩ : ∃ n, n = msg.length := ⟨_, rfl⟩
  rw [← hn] at c9 hl
  have Hn := hide hn
  clear hH hn
  go_enter Try.func82, Try.ntmps82
  go_wp2_with fail
  refine (copy_any B g T msg w HH.out (by have := Hn.out; omega)).mono ?_
  rintro e w1 ⟨g1, T1, rfl, hH1, hU1⟩
  have c9' := hU1.cellv c9
  have hz0 : (1 : Int) + (119 - (n : Int)) % 64 = ((1 + zeros n : Nat) : Int) := by unfold zeros; omega
  have hz := hide hz0
  clear hz0
  have hz2 := zeros_lt n
  have hH1' := hide hH1
  clear hH1 c9
  go_wp2_with (first
   | (at_make; go_must (refine wpList_mk _ _ _ Try.el8 rfl rfl (1 + zeros n) rfl rfl hz.out hz.out (by omega) (by unfold maxLen; omega) by8 rfl rfl (Nat.le_refl _) ?_); clear hz; rintro g2 w2 hO2 rfl hU2)
   | (refine wpList_store_own by8 one8 (i := 0) 0x80 rfl rfl Try.sz8 rfl rfl hO2 (by simp; omega) ?_; intro w3 hO3 hU3))
  have hO4 : Own w3 w1.heap.size 5 (some ⟨w1.heap.size, 0, none⟩) (1 + zeros n) ((pre n 0).map by8) := by
    have : (List.replicate (1 + zeros n) default).set 0 (0x80 : BitVec 8) = pre n 0 := by
      rw [Nat.add_comm, List.replicate_succ]; simp [pre, lens]; exact .inr rfl
    rw [← this]; exact hO3
  have hU4 : Ext w1 w3 := upd_new hU3 hU2 (fun i hi => by unfold only at hi; omega)
  have hO4' := hide hO4
  clear hO2 hU2 hO3 hU3 hO4
  go_loopw [4, 5] (fun v i wx => ∃ k A c, k ≤ 8 ∧ v = .slice A (1 + zeros n + k) c ∧ i = .int .i64 (7 - (k : Int)) ∧ Own wx w1.heap.size 5 A c ((pre n k).map by8) ∧ Ext w1 wx) (fun _ i _ => (intOf i + 1).toNat)
  case atStart => exact ⟨0, _, _, by omega, rfl, rfl, hO4'.out, hU4⟩
  case round =>
    clear hO4' hU4
    obtain ⟨k, A, c, hk, rfl, rfl, hO, hU⟩ := hrel
    have hO' := hide hO
    clear hO
    have c9x := hU.cellv c9'
    by_cases hlt : k < 8
    · have hd : decide (0 ≤ 7 - (k : Int)) = true := decide_eq_true (by omega)
      have hval := len1_n8 n (7 - k) hl
      go_wp2_with (at_builtin; go_must (refine wpList_apd by8 one8 Try.el8 (pre n k) [len1 n (7 - k)] (pre n (k + 1)) (1 + zeros n + (k + 1)) (pre_succ n k) (pre_length n (k + 1)) (by omega) (by unfold maxLen; omega) rfl rfl rfl (pre_length n k) (Own.ext hO'.out ((Upd.refl _ _).alloc _)) rfl rfl (Sl.new by8 _ _ [len1 n (7 - k)]) (Nat.le_trans hU.size (by simp)) ?_); intro A2 c2 w2 hO2 hU2 hin2)
      go_roundw
      case rel => exact ⟨k + 1, A2, c2, by omega, rfl, by go_num, hO2, upd_new hU2 (hU.alloc _) (fun i hi => (hO'.out.in_ hi).1)⟩
      case measure => simp [intOf]; omega
    · obtain rfl : k = 8 := by omega
      clear hk hlt
      go_wp2_with fail
      refine (hadd_any w.heap.size g1 T1 msg (pad n) (msg ++ pad n) _ _ _ _ (hH1'.out.ext hU) (Nat.le_trans hU1.size hU.size) hO'.out.sl (pre_length n 8) rfl (by have := Hn.out; rw [List.length_append, pad_length]; omega)).mono ?_
      rintro e w5 ⟨T2, rfl, hH5, hU5, hin5⟩
      obtain ⟨A5, c5, hA5, hO5, hT5⟩ := hH5.ex
      have hU6 : Ext w w5 := upd_new hU5 (hU1.trans hU) (fun i hi => (hH1'.out.in_ hi).1)
      obtain ⟨H, hHe⟩ : ∃ H, H = hs (msg ++ pad n) ((msg ++ pad n).length / 64) := ⟨_, rfl⟩
      rw [← hHe] at hA5
      have HHe := hide hHe
      clear hHe hU5 hin5 hO5 hT5 hH5 hU c9x c9'
      go_wp2_with (first
        | (refine wpList_load_head rfl rfl rfl hA5 (n := 8) (by omega) Try.under_state Try.sz_state ?_; go_must (rw [hcell_head]); clear hA5))
      go_loopw [48, 6] (fun i v wx => ∃ k A c, k ≤ 8 ∧ i = .int .i64 (k : Nat) ∧ v = .slice A (4 * k) c ∧ Own wx w.heap.size 5 A c ((out H k).map by8) ∧ Ext w wx) (fun i _ _ => 8 - (intOf i).toNat)
      case atStart => exact ⟨0, none, 0, by omega, rfl, rfl, Own.nil, hU6⟩
      case round =>
        clear hU6 hO'
        obtain ⟨k, A, c', hk, rfl, rfl, hO, hU⟩ := hrel
        have hO' := hide hO
        clear hO
        by_cases hlt : k < 8
        · have hlti : (k : Int) < 8 := by omega
          have hd : decide ((k : Int) < 8) = true := decide_eq_true (by omega)
          have hix := fun (w : World) => run_index_arr (P := Try.prog) Try.under_state Try.sz32 Try.under32 rfl (fun j => .int .u32 (n32 (H j))) hlt .i64 w
          go_wp2_with (at_builtin; go_must (refine wpList_apd by8 one8 Try.el8 (out H k) (be32 (H k)) (out H (k + 1)) (4 * (k + 1)) rfl (out_length H (k + 1)) (by omega) (by unfold maxLen; omega) rfl rfl rfl (out_length H k) (Own.ext hO'.out ((Upd.refl _ _).alloc _)) rfl rfl (Sl.new by8 _ _ (be32 (H k))) (Nat.le_trans hU.size (by simp)) ?_); intro A2 c2 w2 hO2 hU2 hin2)
          go_roundw
          case rel => exact ⟨k + 1, A2, c2, by omega, by go_num, rfl, hO2, upd_new hU2 (hU.alloc _) (fun i hi => (hO'.out.in_ hi).1)⟩
          case measure => simp [intOf]; omega
        · obtain rfl : k = 8 := by omega
          clear hk hlt
          go_wp2_with fail
          go_ret
          refine ⟨A, c', rfl, ?_, hU⟩
          have e : out H 8 = sum msg := by
            rw [HHe.out, Hn.out, List.length_append]
            rfl
          rw [← e]
          exact hO'.out
end Go.Proofs.Ytoekbomfepedcaa
