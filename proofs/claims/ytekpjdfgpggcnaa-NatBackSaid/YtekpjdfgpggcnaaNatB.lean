/- Bits of numbers, walked: Bits, Bit, Uint. -/
import Derived.Test.YtekpjdfgpggcnaaNatA
import Derived.Test.YtekpjdfgpggcnaaShelf
namespace Go.Proofs.Ytekpjdfgpggcnaa
set_option linter.unusedSimpArgs false
set_option linter.unusedVariables false
open Go.RowKit
open Nt
attribute [local go_sem] steady steadyUpon Cls same_cell by32 wrap_w32

/-- below so many words -/
def Fit (k n : Nat) : Prop := n < W32 ^ k
theorem Fit.mono {j k n : Nat} (h : Fit j n) (hk : j ≤ k) : Fit k n := Nat.lt_of_lt_of_le h (Nat.pow_le_pow_right (by decide) hk)
theorem Fit.le {k m n : Nat} (h : Fit k n) (hm : m ≤ n) : Fit k m := Nat.lt_of_le_of_lt hm h
theorem Fit.len {xs : List (BitVec 32)} {k n : Nat} (ht : Trd (dig d32 xs) xs.length) (hn : numOf W32 d32 xs = n) (h : Fit k n) : xs.length ≤ k := by
  rcases Nat.eq_zero_or_pos xs.length with e | e
  · omega
  · have h1 := ht.low (β := W32) e
    have h2 : W32 ^ (xs.length - 1) < W32 ^ k := Nat.lt_of_le_of_lt h1 (by subst hn; exact h)
    have := (Nat.pow_lt_pow_iff_right (by decide : 1 < W32)).1 h2
    omega
theorem Fit.add {k a b : Nat} (ha : Fit k a) (hb : Fit k b) : Fit (k + 1) (a + b) := by
  unfold Fit at *
  rw [Nat.pow_succ]
  unfold W32 at *
  omega
theorem Fit.mul {j k a b : Nat} (ha : Fit j a) (hb : Fit k b) : Fit (j + k) (a * b) := by
  unfold Fit at *
  rw [Nat.pow_add]
  exact Nat.mul_lt_mul'' ha hb
theorem Fit.len_of {xs : List (BitVec 32)} {k : Nat} (h : xs.length ≤ k) : Fit k (numOf W32 d32 xs) := Fit.mono (numOf_lt d32_lt) h

theorem blen_bitLen : ∀ (f x : Nat), x < 2 ^ f → Lib.bitLenAux f x = blen x
  | 0, x, h => by
    have : x = 0 := by simpa using h
    subst this; rfl
  | f + 1, x, h => by
    unfold Lib.bitLenAux
    split
    · subst_vars; rfl
    · rename_i h0
      rw [blen_bitLen f (x / 2) (by rw [Nat.pow_succ] at h; omega)]
      have h1 := blen_lt (x / 2)
      refine (blen_uniq (.inr ?_) ?_).symm
      · rw [Nat.add_sub_cancel_left]
        by_cases e : x / 2 = 0
        · rw [e]; simp [blen_zero]; omega
        · obtain ⟨a, b⟩ := blen_le e
          obtain ⟨L, hL⟩ : ∃ L, blen (x / 2) = L + 1 := ⟨blen (x / 2) - 1, by omega⟩
          rw [hL] at b ⊢
          simp at b
          rw [Nat.pow_succ]; omega
      · rw [Nat.add_comm, Nat.pow_succ]; omega
theorem bits_val {xs : List (BitVec 32)} (ht : Trd (dig d32 xs) xs.length) (h0 : 0 < xs.length) : blen (numOf W32 d32 xs) = 32 * (xs.length - 1) + blen (d32 (gat xs (xs.length - 1))) := by
  obtain ⟨m, hm⟩ : ∃ m, xs.length = m + 1 := ⟨xs.length - 1, by omega⟩
  have hne : dig d32 xs m ≠ 0 := by
    rcases ht with e | e
    · omega
    · rwa [hm] at e
  unfold numOf
  rw [hm, Nat.add_sub_cancel, vf_succ]
  have hl : vf W32 (dig d32 xs) m < W32 ^ m := vf_lt fun i _ => d32_lt _
  have ht1 := blen_lt (dig d32 xs m)
  obtain ⟨ht2, ht3⟩ := blen_le hne
  have e : W32 ^ m = 2 ^ (32 * m) := by rw [Nat.pow_mul]
  show blen _ = 32 * m + blen (dig d32 xs m)
  refine blen_uniq (.inr ?_) ?_
  · rw [show 32 * m + blen (dig d32 xs m) - 1 = 32 * m + (blen (dig d32 xs m) - 1) by omega, Nat.pow_add, ← e, Nat.mul_comm]
    exact Nat.le_trans (Nat.mul_le_mul_right _ ht3) (Nat.le_add_left _ _)
  · rw [Nat.pow_add, ← e, Nat.mul_comm (W32 ^ m)]
    have : (dig d32 xs m + 1) * W32 ^ m ≤ 2 ^ blen (dig d32 xs m) * W32 ^ m := Nat.mul_le_mul_right _ ht1
    rw [Nat.add_mul, Nat.one_mul] at this
    omega

theorem len32_any (x : BitVec 32) (w : World) : Calls Try.prog 56 #[.int .u32 (n32 x)] w fun e w' => e = .returned (.int .i64 (blen (d32 x))) ∧ w = w' := by
  have hb := n32_bd x
  refine (Try.bits_Len32 (n32 x) w hb.1 hb.2).mono ?_
  rintro e w' ⟨rfl, rfl⟩
  refine ⟨?_, rfl⟩
  have : (n32 x).toNat = d32 x := by unfold n32 d32; omega
  rw [this]
  unfold Lib.bitLen
  rw [blen_bitLen 64 _ (Nat.lt_trans (d32_lt x) (by decide))]
theorem lead32_any (x : BitVec 32) (w : World) : Calls Try.prog 59 #[.int .u32 (n32 x)] w fun e w' => e = .returned (.int .i64 ((32 - blen (d32 x) : Nat) : Int)) ∧ w = w' := by
  have hb := n32_bd x
  refine (Try.bits_LeadingZeros32 (n32 x) w hb.1 hb.2).mono ?_
  rintro e w' ⟨rfl, rfl⟩
  refine ⟨?_, rfl⟩
  have h1 : (n32 x).toNat = d32 x := by unfold n32 d32; omega
  have h2 : blen (d32 x) ≤ 32 := blen_le_iff.2 (show d32 x < 2 ^ 32 from d32_lt x)
  rw [h1]
  unfold Lib.bitLen
  rw [blen_bitLen 64 _ (Nat.lt_trans (d32_lt x) (by decide))]
  rw [Int.ofNat_sub h2]
  rfl

set_option maxRecDepth 100000 in
set_option maxHeartbeats 1000000 in
theorem bits_any (v : Value) (n k : Nat) (w : World) (hV : NatV w v n) (hF : Fit k n) (hk : k ≤ 1000000) :
    Calls Try.prog 21 #[v] w (fun e w' => e = .returned (.int .i64 (blen n)) ∧ Ext w w') := by
  obtain ⟨A, c, xs, rfl, hc, hm, hS, hT, hn⟩ := hV.words
  have hl := Fit.len hT hn hF
  clear hV hF
  rcases Nat.eq_zero_or_pos xs.length with h0 | h0
  · have hx : xs = [] := List.eq_nil_of_length_eq_zero h0
    subst hx
    have hb : blen n = 0 := by rw [← hn]; rfl
    rw [hb]
    clear hb hn h0 hT hS
    simp only [List.length_nil]
    go_enter Try.func21, Try.ntmps21
    go_wp2
    go_ret
    exact ⟨rfl, (Upd.refl _ _).alloc _⟩
  · have hb := bits_val hT h0
    rw [hn] at hb
    obtain ⟨m, hm'⟩ : ∃ m, xs.length = m + 1 := ⟨xs.length - 1, by omega⟩
    rw [hm', Nat.add_sub_cancel] at hb
    obtain ⟨b, o, rfl, hbl, hcells⟩ := hS.open_ h0
    have hbx := blen_le_iff.2 (show d32 (gat xs m) < 2 ^ 32 from d32_lt _)
    rw [hb]
    have hcell : (w.alloc (.cells #[.slice (some ⟨b, o, none⟩) (m + 1) c] 26)).drew.cell? ⟨b, o + m, none⟩ = some (.int .u32 (n32 (gat xs m))) := by
      have := hcells m (by omega)
      go_simp
    clear hb hn hT hS hcells h0
    rw [hm'] at hl hc ⊢
    clear hm'
    go_enter Try.func21, Try.ntmps21
    go_wp2
    have e1 : IntKind.i64.wrap (m : Int) = m := IntWalk.i64_in _ (by omega)
    have e2 : IntKind.i64.wrap (32 * (m : Int)) = 32 * m := IntWalk.i64_in _ (by omega)
    have e3 : IntKind.i64.wrap (32 * (m : Int) + (blen (d32 (gat xs m)) : Int)) = 32 * m + (blen (d32 (gat xs m)) : Int) := IntWalk.i64_in _ (by omega)
    have p1 : (0 : Int) ≤ m := by omega
    have p2 : (m : Int) < (m : Int) + 1 := by omega
    refine wp_region_plan (Same _) 15 [(false,0), (false,1), (false,2), (false,3), (false,4), (false,5), (false,6), (false,7), (false,8), (false,9), (false,10), (false,11), (false,12), (true,13), (false,14)] (by kernel_rfl) (by kernel_rfl) rfl (fun hne => ?_)
    repeat (refine head_q rfl (fun K hK => ?_); have hK2 := hide hK; clear hK; go_simp; refine hK2.out _ ?_; clear hK2 K)
    refine head_l rfl ?_
    go_wp2_with (go_at_call 56; refine (len32_any _ _).mono ?_; rintro e w' ⟨rfl, rfl⟩)
    refine ⟨_, fun _ h => h, ⟨⟨_, rfl⟩, rfl⟩, ?_⟩
    repeat (refine head_q rfl (fun K hK => ?_); have hK2 := hide hK; clear hK; go_simp; refine hK2.out _ ?_; clear hK2 K)
    refine head_nil ?_
    try simp only [List.drop_succ_cons, List.drop_zero]
    go_wp2
    go_ret
    exact ⟨by go_num, ((Upd.refl _ _).alloc _).drew⟩
theorem and1_u32 (x : BitVec 32) : bits .and .u32 (n32 x) 1 = ((d32 x % 2 : Nat) : Int) := by
  have h := and_u32 x 1
  have e : n32 (1 : BitVec 32) = 1 := rfl
  rw [e] at h
  rw [h]
  unfold n32 d32
  rw [BitVec.toNat_and]
  show ((x.toNat &&& 1 : Nat) : Int) = _
  rw [Nat.and_one_is_mod]
theorem bit_val {xs : List (BitVec 32)} {n j : Nat} (hn : numOf W32 d32 xs = n) (h : j / 32 < xs.length) : d32 (gat xs (j / 32)) / 2 ^ (j % 32) % 2 = n / 2 ^ j % 2 := by
  have h1 := vf_digit one_lt_W32 (f := dig d32 xs) (fun i _ => d32_lt _) h
  rw [show vf W32 (dig d32 xs) xs.length = n from hn] at h1
  rw [show d32 (gat xs (j / 32)) = n / W32 ^ (j / 32) % W32 from h1.symm]
  exact digit_digit (γ := 2) (m := 32) W32_pow (by omega)
set_option maxRecDepth 100000 in
set_option maxHeartbeats 1000000 in
theorem bit_any (v : Value) (n k : Nat) (i : Int) (w : World) (hV : NatV w v n) (hF : Fit k n) (hk : k ≤ 1000000) (hi : -9223372036854775808 ≤ i ∧ i ≤ 9223372036854775807) :
    Calls Try.prog 22 #[v, .int .i64 i] w (fun e w' => e = .returned (.int .i64 (if 0 ≤ i then (n / 2 ^ i.toNat % 2 : Nat) else (0 : Int))) ∧ Ext w w') := by
  obtain ⟨A, c, xs, rfl, hc, hm, hS, hT, hn⟩ := hV.words
  have hl := Fit.len hT hn hF
  obtain ⟨hi1, hi2⟩ := hi
  clear hV hF
  by_cases h0 : i < 0
  · rw [if_neg (by omega)]
    clear hT hS hn
    go_enter Try.func22, Try.ntmps22
    go_wp2
    go_ret
    exact ⟨rfl, (Upd.refl _ _).alloc _⟩
  · rw [if_pos (by omega)]
    obtain ⟨j, rfl⟩ := Int.eq_ofNat_of_zero_le (show 0 ≤ i by omega)
    rw [Int.toNat_natCast]
    by_cases h1 : xs.length ≤ j / 32
    · have hz : n / 2 ^ j % 2 = 0 := by
        rw [Nat.div_eq_of_lt, Nat.zero_mod]
        have h2 := numOf_lt (xs := xs) d32_lt
        rw [hn, W32_pow, ← Nat.pow_mul] at h2
        exact Nat.lt_of_lt_of_le h2 (Nat.pow_le_pow_right (by omega) (by omega))
      rw [hz]
      clear hz hT hS hn h0
      go_enter Try.func22, Try.ntmps22
      go_wp2
      go_ret
      exact ⟨by go_num, (Upd.refl _ _).alloc _⟩
    · obtain ⟨b, o, rfl, hbl, hcells⟩ := hS.open_ (by omega)
      have hcell := hcells (j / 32) (by omega)
      clear hcells hS
      have hq : ((j / 32 : Nat) : Int) < xs.length := by omega
      clear h0 h1
      go_enter Try.func22, Try.ntmps22
      go_wp2
      go_ret
      refine ⟨?_, (Upd.refl _ _).alloc _⟩
      rw [shr_u32', and1_u32]
      have e1 : d32 (gat xs (j / 32) >>> (j % 32)) = d32 (gat xs (j / 32)) / 2 ^ (j % 32) := by
        unfold d32; rw [BitVec.toNat_ushiftRight, Nat.shiftRight_eq_div_pow]
      rw [e1, bit_val hn (by omega), IntWalk.wrap64_in _ (by omega)]
      rfl
end Go.Proofs.Ytekpjdfgpggcnaa
