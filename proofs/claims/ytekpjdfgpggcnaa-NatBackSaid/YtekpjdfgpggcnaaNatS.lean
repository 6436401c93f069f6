/- A row of words shifted, walked: shift. -/
import Derived.Test.YtekpjdfgpggcnaaNatE
namespace Go.Proofs.Ytekpjdfgpggcnaa
set_option linter.unusedSimpArgs false
set_option linter.unusedVariables false
open Go.RowKit
open Nt
attribute [local go_sem] by32 wrap_w32 or_u32

theorem quo_cast' {s : Nat} : (s : Int) / 4294967296 = ((s / W32 : Nat) : Int) := rfl
theorem shl_val {x : BitVec 32} {n : Nat} (hn : n < 32) : IntKind.u64.wrap (n32 x * 2 ^ n) = ((d32 x * 2 ^ n : Nat) : Int) := by
  have h1 : d32 x * 2 ^ n < 18446744073709551616 := by
    have h2 : d32 x * 2 ^ n ≤ 4294967295 * 2 ^ 31 := Nat.mul_le_mul (by have := d32_lt x; unfold W32 at this; omega) (Nat.pow_le_pow_right (by omega) (by omega))
    omega
  rw [n32_d, show ((d32 x : Nat) : Int) * 2 ^ n = ((d32 x * 2 ^ n : Nat) : Int) by simp, u64_nat h1]
theorem w_split {n : Nat} (hn : n < 32) : W32 = 2 ^ n * 2 ^ (32 - n) := by
  rw [← Nat.pow_add, show n + (32 - n) = 32 by omega]
theorem shift_top {x : BitVec 32} {n : Nat} (hn : n < 32) : d32 (w32 (IntKind.u64.wrap (n32 x * 2 ^ n) / 4294967296)) < 2 ^ n := by
  rw [shl_val hn, quo_cast', d32_w32]
  refine Nat.lt_of_le_of_lt (Nat.mod_le _ _) (shl_lt (w_split hn) (by decide) (d32_lt x))
theorem shift_next {xs zs : List (BitVec 32)} {l j n : Nat} (hn : n < 32) (hz : zs.length = l + 1) (hj : j < l) (hv : vf W32 (dig d32 zs) (l + 1) = vf W32 (dig d32 xs) j * 2 ^ n) (h0 : dig d32 zs (j + 1) = 0) (hlt : dig d32 zs j < 2 ^ n) :
    vf W32 (dig d32 ((zs.set j (gat zs j ||| w32 (IntKind.u64.wrap (n32 (gat xs j) * 2 ^ n)))).set (j + 1) (w32 (IntKind.u64.wrap (n32 (gat xs j) * 2 ^ n) / 4294967296)))) (l + 1) = vf W32 (dig d32 xs) (j + 1) * 2 ^ n := by
  refine shl_step (out := dig d32 zs) (a := dig d32 xs) (i := j) (by omega) hv h0 ?_
  intro q hq
  have hy : d32 (gat zs j ||| w32 (IntKind.u64.wrap (n32 (gat xs j) * 2 ^ n))) = dig d32 zs j + d32 (gat xs j) * 2 ^ n % W32 := by
    have h1 : d32 (gat xs j) * 2 ^ n % W32 = d32 (gat xs j) % 2 ^ (32 - n) * 2 ^ n := by
      rw [w_split hn, Nat.mul_comm (2 ^ n), Nat.mul_mod_mul_right]
    rw [h1]
    refine d32_or rfl ?_ hlt
    rw [shl_val hn, d32_w32, h1]
  have hy2 : d32 (w32 (IntKind.u64.wrap (n32 (gat xs j) * 2 ^ n) / 4294967296)) = d32 (gat xs j) * 2 ^ n / W32 := by
    rw [shl_val hn, quo_cast', d32_w32, Nat.mod_eq_of_lt]
    exact Nat.lt_trans (shl_lt (w_split hn) (by decide) (d32_lt _)) (Nat.pow_lt_pow_right (by omega) hn)
  rw [dig_set (by rw [List.length_set]; omega)]
  by_cases e : q = j + 1
  · rw [if_pos e, hy2, if_neg (by omega), if_pos e]; rfl
  · rw [if_neg e, dig_set (by omega)]
    by_cases e2 : q = j
    · rw [if_pos e2, if_pos e2, hy]; rfl
    · rw [if_neg e2, if_neg e2, if_neg e]
set_option maxRecDepth 100000 in
set_option maxHeartbeats 1000000 in
theorem shift_any (A : Option Addr) (l c n : Nat) (xs : List (BitVec 32)) (w : World) (hl : xs.length = l) (hS : Sl by32 w A xs) (hlb : l ≤ 1000000) (hn : n < 32) :
    Calls Try.prog 60 #[.slice A l c, .int .i64 n] w fun e w' => ∃ g zs, e = .returned (.slice (some ⟨g, 0, none⟩) (l + 1) (l + 1)) ∧ zs.length = l + 1 ∧ Own w' w.heap.size 75 (some ⟨g, 0, none⟩) (l + 1) (zs.map by32) ∧ numOf W32 d32 zs = numOf W32 d32 xs * 2 ^ n ∧ Ext w w' := by
  have HL := hide hl
  have HS := hide hS
  clear hl hS
  go_enter Try.func60, Try.ntmps60
  go_wp2_with (at_make; go_must (refine wpList_mk _ _ _ Try.n_el32 rfl rfl (l + 1) rfl rfl rfl rfl (by omega) (by unfold maxLen; omega) by32 rfl rfl (B := w.heap.size) (by simp) ?_); intro g w2 hO hg hU)
  subst hg
  go_loopw [15] (fun i wr => ∃ (j : Nat) (zs : List (BitVec 32)), j ≤ l ∧ i = .int .i64 j ∧ zs.length = l + 1 ∧ Own wr w.heap.size 75 (some ⟨w.heap.size, 0, none⟩) (l + 1) (zs.map by32) ∧ vf W32 (dig d32 zs) (l + 1) = vf W32 (dig d32 xs) j * 2 ^ n ∧ (∀ q, j < q → dig d32 zs q = 0) ∧ dig d32 zs j < 2 ^ n ∧ Ext w wr) (fun i _ => l - (intOf i).toNat)
  case atStart => exact ⟨0, _, Nat.zero_le _, rfl, List.length_replicate, hO, by rw [vf_zeros (f0 := fun _ => 0)]; show 0 = 0 * _; rw [Nat.zero_mul], fun q _ => dig_zeros _ _, by rw [dig_zeros]; exact Nat.pow_pos (by omega), hU⟩
  case round =>
    clear hO hU
    obtain ⟨j, zs, hj, rfl, hzl, hO, hv, hz, hz2, hE⟩ := hrel
    have Hzl := hide hzl
    have Hv := hide hv
    have Hz := hide hz
    clear hzl hv hz
    by_cases hjl : j < l
    · obtain ⟨hx1, hx2⟩ := n32_bd (gat xs j)
      obtain ⟨b1, o1, rfl, hbl1, hcells⟩ := (HS.out.ext hE).open_ (by rw [HL.out]; omega)
      have hcell := hcells j (by rw [HL.out]; omega)
      have hcz := hO.row.cell (i := j) (by rw [Hzl.out]; omega)
      have hcz2 := hO.row.cell (i := j + 1) (by rw [Hzl.out]; omega)
      clear hcells
      go_wp2_with (first
        | (have hO' := hO; clear hO; refine wpList_store_own by32 one32 (gat zs j ||| w32 (IntKind.u64.wrap (n32 (gat xs j) * 2 ^ n))) rfl rfl Try.n_sz32 rfl rfl hO' (by rw [Hzl.out]; omega) ?_; intro w3 hO3 hU3; clear hcz hcz2 hO')
        | (have hO' := hO3; clear hO3; refine wpList_store_own by32 one32 (w32 (IntKind.u64.wrap (n32 (gat xs j) * 2 ^ n) / 4294967296)) rfl rfl Try.n_sz32 rfl rfl hO' (by rw [List.length_set, Hzl.out]; omega) ?_; intro w4 hO4 hU4; clear hO'))
      go_roundw
      case rel => exact ⟨j + 1, _, by omega, by go_num, by rw [List.length_set, List.length_set]; exact Hzl.out, hO4, shift_next hn Hzl.out hjl Hv.out (Hz.out _ (by omega)) hz2, fun q hq => by rw [dig_set (by rw [List.length_set, Hzl.out]; omega), if_neg (by omega), dig_set (by rw [Hzl.out]; omega), if_neg (by omega)]; exact Hz.out q (by omega), by rw [dig_set (by rw [List.length_set, Hzl.out]; omega), if_pos rfl]; exact shift_top hn, Upd.fresh hU4 (Upd.fresh hU3 hE (fun i hi => by unfold only at hi; omega)) (fun i hi => by unfold only at hi; omega)⟩
      case measure => simp [intOf]; omega
    · obtain rfl : j = l := by omega
      go_wp2
      go_ret
      exact ⟨_, zs, rfl, Hzl.out, hO, by unfold numOf; rw [Hzl.out, Hv.out, HL.out], hE⟩
end Go.Proofs.Ytekpjdfgpggcnaa
