/- Numbers written as bytes, walked: Bytes, Least. -/
import Derived.Test.YtekpjdfgpggcnaaNatD
namespace Go.Proofs.Ytekpjdfgpggcnaa
set_option linter.unusedSimpArgs false
set_option linter.unusedVariables false
open Go.RowKit
open Nt

def w8 (x : Int) : BitVec 8 := BitVec.ofInt 8 x
theorem wrap_w8 (x : Int) : IntKind.u8.wrap x = n8 (w8 x) := by
  unfold n8 w8
  rw [IntKind.wrap_u8, BitVec.toNat_ofInt]
  omega
theorem d8_w8 (x : Nat) : d8 (w8 x) = x % 256 := by
  unfold d8 w8
  rw [BitVec.toNat_ofInt]
  omega
attribute [local go_sem] steady steadyUpon Cls same_cell by32 by8 wrap_w32 wrap_w8

/-- the byte of 256 ^ i -/
def byteOf (n i : Nat) : BitVec 8 := BitVec.ofNat 8 (n / 256 ^ i)
theorem d8_byteOf (n i : Nat) : d8 (byteOf n i) = n / 256 ^ i % 256 := by unfold d8 byteOf; rw [BitVec.toNat_ofNat]
/-- so many bytes of a number, the highest first -/
def toB (n size : Nat) : List (BitVec 8) := (List.range size).map fun j => byteOf n (size - 1 - j)
theorem toB_length (n size : Nat) : (toB n size).length = size := by simp [toB]
def toBk (n size k : Nat) : List (BitVec 8) := (List.range size).map fun j => if size - 1 - j < k then byteOf n (size - 1 - j) else 0
theorem toBk_length (n size k : Nat) : (toBk n size k).length = size := by simp [toBk]
theorem toBk_zero (n size : Nat) : toBk n size 0 = List.replicate size 0 := by
  apply List.ext_getElem
  · simp [toBk]
  · intro i h1 h2; simp [toBk]
theorem toBk_succ (n size k : Nat) (hk : k < size) : (toBk n size k).set (size - 1 - k) (byteOf n k) = toBk n size (k + 1) := by
  apply List.ext_getElem
  · simp [toBk]
  · intro i h1 h2
    simp only [toBk, List.length_set, List.length_map, List.length_range] at h1
    rw [List.getElem_set]
    simp only [toBk, List.getElem_map, List.getElem_range]
    by_cases e : size - 1 - k = i
    · have e2 : size - 1 - i = k := by omega
      rw [if_pos e, e2, if_pos (by omega)]
    · rw [if_neg e]
      by_cases h : size - 1 - i < k
      · rw [if_pos h, if_pos (by omega)]
      · rw [if_neg h, if_neg (by omega)]
theorem toBk_all (n size k : Nat) (hk : n < 256 ^ k) : toBk n size k = toB n size := by
  apply List.ext_getElem
  · simp [toBk, toB]
  · intro i h1 h2
    simp only [toBk, toB, List.getElem_map, List.getElem_range]
    split
    · rfl
    · rename_i h
      have : n / 256 ^ (size - 1 - i) = 0 := Nat.div_eq_of_lt (Nat.lt_of_lt_of_le hk (Nat.pow_le_pow_right (by omega) (by omega)))
      unfold byteOf
      rw [this]; rfl
theorem ofB_toB (n size : Nat) (h : n < 256 ^ size) : ofB (toB n size) = n := by
  unfold ofB
  rw [toB_length]
  have key : ∀ k, k ≤ size → vf 256 (bdig (toB n size)) k = n % 256 ^ k := by
    intro k
    induction k with
    | zero => intro _; simp [vf, Nat.mod_one]
    | succ k ih =>
      intro hk
      rw [vf_succ, ih (by omega), Nat.mod_pow_succ]
      have : bdig (toB n size) k = n / 256 ^ k % 256 := by
        unfold bdig dig
        rw [toB_length, gat_lt (by rw [toB_length]; omega)]
        simp only [toB, List.getElem_map, List.getElem_range]
        rw [d8_byteOf, show size - 1 - (size - 1 - k) = k by omega]
      rw [this, Nat.mul_comm (256 ^ k)]
  rw [key size (Nat.le_refl _), Nat.mod_eq_of_lt h]
theorem byte_word {xs : List (BitVec 32)} {n k : Nat} (hn : numOf W32 d32 xs = n) (h : k / 4 < xs.length) : w8 (n32 (gat xs (k / 4)) / 2 ^ (8 * (k % 4))) = byteOf n k := by
  have h1 := vf_digit one_lt_W32 (f := dig d32 xs) (fun i _ => d32_lt _) h
  rw [show vf W32 (dig d32 xs) xs.length = n from hn] at h1
  have e : n32 (gat xs (k / 4)) / 2 ^ (8 * (k % 4)) = ((d32 (gat xs (k / 4)) / 2 ^ (8 * (k % 4)) : Nat) : Int) := by
    rw [n32_d]; simp
  have e2 : d8 (w8 (n32 (gat xs (k / 4)) / 2 ^ (8 * (k % 4)))) = d8 (byteOf n k) := by
    rw [e, d8_w8, d8_byteOf, ← pow256, show d32 (gat xs (k / 4)) = n / W32 ^ (k / 4) % W32 from h1.symm]
    exact digit_digit (γ := 256) (m := 4) (by decide) (by decide)
  exact BitVec.eq_of_toNat_eq e2

/-- Fresh bytes and a mark are handed back. -/
def RetB (w : World) (l : Nat) (bs : List (BitVec 8)) (m : Int) (e : Ending) (w' : World) : Prop :=
  ∃ A c, e = .returned (.tuple #[.slice A l c, .int .i64 m]) ∧ bs.length = l ∧ Own w' w.heap.size 5 A c (bs.map by8) ∧ Ext w w'

set_option maxRecDepth 100000 in
set_option maxHeartbeats 1000000 in
theorem bytes_neg (v : Value) (n : Nat) (size : Int) (w : World) (hV : NatV w v n) (hs : size < 0) :
    Calls Try.prog 17 #[v, .int .i64 size] w (RetB w 0 [] 1) := by
  obtain ⟨A, c, xs, rfl, hc, hm, hS, hT, hn⟩ := hV.words
  clear hV hS hT hn
  go_enter Try.func17, Try.ntmps17
  go_wp2
  go_ret2
  exact ⟨_, _, rfl, rfl, Own.nil, (by repeat (first | (with_reducible exact Upd.refl _ _) | (with_reducible assumption) | (refine Upd.setCell ?_ (.inr (by first | exact Nat.le_refl _ | (dsimp only; omega) | (simp; done) | (simp; omega))) _) | (with_reducible refine Upd.alloc ?_ _) | (with_reducible refine Upd.drew ?_) | (with_reducible refine Upd.trans ?_ (by with_reducible assumption))))⟩
set_option maxRecDepth 100000 in
set_option maxHeartbeats 1000000 in
theorem bytes_short (v : Value) (n k size : Nat) (w : World) (hV : NatV w v n) (hF : Fit k n) (hk : k ≤ 1000000) (hs : size < bytelen n) :
    Calls Try.prog 17 #[v, .int .i64 size] w (RetB w 0 [] 2) := by
  obtain ⟨A, c, xs, rfl, hc, hm, hS, hT, hn⟩ := hV.words
  clear hS hT hn
  have hb : blen n ≤ 32 * k := blen_le_iff.2 (by unfold Fit at hF; rw [W32_pow, ← Nat.pow_mul] at hF; exact hF)
  have hs' : ¬ ((blen n : Int) + 7) / 8 ≤ (size : Int) := by unfold bytelen at hs; omega
  clear hs
  have hB := hide ((bits_any _ n k (w.alloc (.cells #[.slice A xs.length c] 26)) (hV.ext ((Upd.refl _ _).alloc _)) hF hk))
  clear hV
  go_enter Try.func17, Try.ntmps17
  go_wp2_with (go_at_call 21; refine hB.out.mono ?_; rintro e w1 ⟨rfl, hU⟩)
  go_ret2
  exact ⟨_, _, rfl, rfl, Own.nil, (by repeat (first | (with_reducible exact Upd.refl _ _) | (with_reducible assumption) | (refine Upd.setCell ?_ (.inr (by first | exact Nat.le_refl _ | (dsimp only; omega) | (simp; done) | (simp; omega))) _) | (with_reducible refine Upd.alloc ?_ _) | (with_reducible refine Upd.drew ?_) | (with_reducible refine Upd.trans ?_ (by with_reducible assumption))))⟩
set_option maxRecDepth 100000 in
set_option maxHeartbeats 1000000 in
theorem bytes_any (v : Value) (n k size : Nat) (w : World) (hV : NatV w v n) (hF : Fit k n) (hk : k ≤ 1000000) (hs : bytelen n ≤ size) (hs2 : size ≤ 100000000) :
    Calls Try.prog 17 #[v, .int .i64 size] w (RetB w size (toB n size) 0) := by
  obtain ⟨A, c, xs, rfl, hc, hm, hS, hT, hn⟩ := hV.words
  have hxl := words_len hT
  rw [hn] at hxl
  have hlb := hide (lt_bytelen n)
  obtain ⟨L, hL⟩ : ∃ L, L = bytelen n := ⟨_, rfl⟩
  rw [← hL] at hs hlb
  have hLb : ((blen n : Int) + 7) / 8 = (L : Int) := by rw [hL]; unfold bytelen; omega
  have hbl2 : blen n ≤ 8 * L := by rw [hL]; unfold bytelen; omega
  have hLx : ∀ i, i < L → i / 4 < xs.length := fun i hi => by rw [hxl]; rw [hL] at hi; unfold bytelen at hi; omega
  have HLx := hide hLx
  have HLb := hide hLb
  have HS := hide (hS.ext ((Upd.refl _ w).alloc (.cells #[.slice A xs.length c] 26)))
  have Hn := hide hn
  clear hT hn hL hS hxl hLx hLb
  have hB := hide ((bits_any _ n k (w.alloc (.cells #[.slice A xs.length c] 26)) (hV.ext ((Upd.refl _ _).alloc _)) hF hk))
  clear hV
  go_enter Try.func17, Try.ntmps17
  go_wp2_with (first
    | (go_at_call 21; refine hB.out.mono ?_; rintro e w1 ⟨rfl, hU⟩; have hL2 := HLb.out)
    | (at_make; clear hL2; go_must (refine wpList_mk _ _ _ Try.n_el8 rfl rfl size rfl rfl rfl rfl (by omega) (by unfold maxLen; omega) by8 rfl rfl (B := w1.heap.size) (Nat.le_refl _) ?_); intro g w2 hO hg hU2))
  subst hg
  rw [HLb.out]
  have hBx := (Box.new w 26 (.slice A xs.length c)).ext (hU.trans hU2)
  have hUw : Ext w w1 := (by repeat (first | (with_reducible exact Upd.refl _ _) | (with_reducible assumption) | (refine Upd.setCell ?_ (.inr (by first | exact Nat.le_refl _ | (dsimp only; omega) | (simp; done) | (simp; omega))) _) | (with_reducible refine Upd.alloc ?_ _) | (with_reducible refine Upd.drew ?_) | (with_reducible refine Upd.trans ?_ (by with_reducible assumption))))
  have hw1 : w.heap.size < w1.heap.size := by have := hU.size; simp at this; omega
  have HSw := hide (HS.out.ext hU)
  rw [show (default : BitVec 8) = 0 from rfl, ← toBk_zero n size] at hO
  clear hU hB
  go_loopw [21] (fun i wr => ∃ k : Nat, k ≤ L ∧ i = .int .i64 k ∧ Own wr w1.heap.size 5 (some ⟨w1.heap.size, 0, none⟩) size ((toBk n size k).map by8) ∧ Box wr w.heap.size 26 (.slice A xs.length c) ∧ Ext w1 wr) (fun i _ => L - (intOf i).toNat)
  case atStart => exact ⟨0, Nat.zero_le _, rfl, hO, hBx, hU2⟩
  case round =>
    clear hO hBx hU2
    obtain ⟨k, hk', rfl, hO, hBx, hU⟩ := hrel
    by_cases hlt : k < L
    · obtain ⟨b, o, rfl, hbl, hcells⟩ := (HSw.out.ext hU).open_ (by have := HLx.out k hlt; omega)
      have hcell := hcells (k / 4) (HLx.out k hlt)
      have hq : (((k / 4 : Nat) : Int)) < (xs.length : Int) := by have := HLx.out k hlt; omega
      have hcx := hBx.cell
      clear hcells
      go_wp2_with (refine wpList_store_own by8 one8 (w8 (n32 (gat xs (k / 4)) / 2 ^ (8 * (k % 4)))) rfl rfl Try.n_sz8 rfl rfl hO (by rw [toBk_length]; omega) ?_; intro w3 hO3 hU3)
      go_roundw
      case rel => exact ⟨k + 1, by omega, by go_num, by rw [← toBk_succ n size k (by omega), ← byte_word Hn.out (HLx.out k hlt)]; exact hO3, hBx.upd hU3 (fun h => by unfold only at h; omega), Upd.fresh hU3 hU (fun i hi => by unfold only at hi; omega)⟩
      case measure => simp [intOf]; omega
    · obtain rfl : k = L := by omega
      go_wp2
      go_ret2
      exact ⟨_, _, rfl, toB_length _ _, by rw [← toBk_all n size k hlb.out]; exact hO.mono (by omega), hUw.trans hU⟩

theorem bytelen_int (n : Nat) : ((blen n : Int) + 7) / 8 = (bytelen n : Int) := by unfold bytelen; omega
theorem bytelen_le {k n : Nat} (hF : Fit k n) : bytelen n ≤ 4 * k := by
  rw [bytelen_le_iff]
  unfold Fit at hF
  rw [Nat.pow_mul]; exact hF
/-- Fresh bytes are handed back. -/
def RetL (w : World) (l : Nat) (bs : List (BitVec 8)) (e : Ending) (w' : World) : Prop :=
  ∃ A c, e = .returned (.slice A l c) ∧ bs.length = l ∧ Own w' w.heap.size 5 A c (bs.map by8) ∧ Ext w w'
set_option maxRecDepth 100000 in
set_option maxHeartbeats 1000000 in
theorem least_any (v : Value) (n k : Nat) (w : World) (hV : NatV w v n) (hF : Fit k n) (hk : k ≤ 1000000) :
    Calls Try.prog 36 #[v] w (RetL w (bytelen n) (toB n (bytelen n))) := by
  obtain ⟨A, c, xs, hv, -⟩ := hV.words
  subst hv
  have hLb := bytelen_int n
  have hLe := bytelen_le hF
  obtain ⟨L, hL⟩ : ∃ L, L = bytelen n := ⟨_, rfl⟩
  have hls : bytelen n ≤ L := by omega
  have Hls := hide hls
  rw [← hL] at hLb hLe ⊢
  clear hls
  have hbl2 : blen n ≤ 8 * L := by omega
  have e1 : IntKind.i64.wrap ((blen n : Int) + 7) = (blen n : Int) + 7 := IntWalk.i64_in _ (by omega)
  have e2 : IntKind.i64.wrap (((blen n : Int) + 7) / 8) = (L : Int) := by rw [hLb]; exact IntWalk.i64_in _ (by omega)
  have e2t : IntKind.i64.wrap (((blen n : Int) + 7).tdiv 8) = (L : Int) := by rw [Int.tdiv_eq_ediv_of_nonneg (by omega)]; exact e2
  have HL := hide hL
  have H2 := hide (And.intro e2 e2t)
  have H1 := hide e1
  have HV := hide hV
  clear hL e1 e2 e2t hLb hV
  go_enter Try.func36, Try.ntmps36
  go_wp2
  have c0 := fun x : Wd (Ext (w.alloc (.cells #[.slice A xs.length c] 26)).drew) => Upd.cellv x.ok (p := ⟨w.heap.size, 0, none⟩) (v := .slice A xs.length c) (by go_simp)
  have hVb : NatV (w.alloc (.cells #[.slice A xs.length c] 26)).drew (.agg #[.slice A xs.length c]) n := HV.out.ext (by repeat (first | (with_reducible exact Upd.refl _ _) | (with_reducible assumption) | (refine Upd.setCell ?_ (.inr (by first | exact Nat.le_refl _ | (dsimp only; omega) | (simp; done) | (simp; omega))) _) | (with_reducible refine Upd.alloc ?_ _) | (with_reducible refine Upd.drew ?_) | (with_reducible refine Upd.trans ?_ (by with_reducible assumption))))
  have HVb := hide hVb
  clear hVb HV
  have hz : (w.alloc (.cells #[.slice A xs.length c] 26)).drew.heap.size = w.heap.size + 1 := by simp
  obtain ⟨W, hW⟩ : ∃ W, W = (w.alloc (.cells #[.slice A xs.length c] 26)).drew := ⟨_, rfl⟩
  have hWE : Ext w W := by rw [hW]; exact (by repeat (first | (with_reducible exact Upd.refl _ _) | (with_reducible assumption) | (refine Upd.setCell ?_ (.inr (by first | exact Nat.le_refl _ | (dsimp only; omega) | (simp; done) | (simp; omega))) _) | (with_reducible refine Upd.alloc ?_ _) | (with_reducible refine Upd.drew ?_) | (with_reducible refine Upd.trans ?_ (by with_reducible assumption))))
  refine wp_region_plan (Ext _) 10 [(false,0), (false,1), (true,2), (false,3), (false,4), (true,5), (false,6), (false,7), (false,8), (false,9)] (by kernel_rfl) (by kernel_rfl) (Upd.refl _ _) (fun hne => ?_)
  repeat (refine head_q rfl (fun K hK => ?_); have hK2 := hide hK; clear hK; go_simp; refine hK2.out _ ?_; clear hK2 K)
  rw [← hW] at HVb c0 hz ⊢
  clear hW
  refine head_l rfl ?_
  go_wp2_with fail
  refine (bits_any _ n k _ HVb.out hF hk).mono ?_
  rintro e w1 ⟨rfl, hU⟩
  go_wp2_with fail
  refine ⟨Cls (Ext W), fun _ h => h, ⟨⟨_, hU⟩, rfl⟩, ?_⟩
  have e1 := H1.out
  have e2 := H2.out.1
  have e2t := H2.out.2
  repeat (refine head_q rfl (fun K hK => ?_); have hK2 := hide hK; clear hK; go_simp; refine hK2.out _ ?_; clear hK2 K)
  clear e1 e2 e2t
  refine head_l rfl ?_
  go_wp2_with fail
  refine (bytes_any _ n k L _ (HVb.out.ext hU) hF hk Hls.out (by omega)).mono ?_
  rintro e w2 ⟨A2, c2, rfl, hl2, hO2, hU2⟩
  clear hl2
  go_wp2_with fail
  refine ⟨Cls (Ext W), fun _ h => h, ⟨⟨_, hU.trans hU2⟩, rfl⟩, ?_⟩
  repeat (refine head_q rfl (fun K hK => ?_); have hK2 := hide hK; clear hK; go_simp; refine hK2.out _ ?_; clear hK2 K)
  refine head_nil ?_
  try simp only [List.drop_succ_cons, List.drop_zero]
  go_wp2
  go_ret
  exact ⟨_, _, rfl, toB_length _ _, hO2.mono (by have := hU.size; omega), (by repeat (first | (with_reducible exact Upd.refl _ _) | (with_reducible assumption) | (refine Upd.setCell ?_ (.inr (by first | exact Nat.le_refl _ | (dsimp only; omega) | (simp; done) | (simp; omega))) _) | (with_reducible refine Upd.alloc ?_ _) | (with_reducible refine Upd.drew ?_) | (with_reducible refine Upd.trans ?_ (by with_reducible assumption))))⟩
end Go.Proofs.Ytekpjdfgpggcnaa
