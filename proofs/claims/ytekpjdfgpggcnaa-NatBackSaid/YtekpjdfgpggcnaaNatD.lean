/- Numbers out of bytes, walked: FromBytes. -/
import Derived.Test.YtekpjdfgpggcnaaNatC
import Derived.Test.YtekpjdfgpggcnaaBox
namespace Go.Proofs.Ytekpjdfgpggcnaa
set_option linter.unusedSimpArgs false
set_option linter.unusedVariables false
open Go.RowKit
open Nt
attribute [local go_sem] steady steadyUpon Cls same_cell by32 by8 wrap_w32 or_u32

/-- bytes, the highest first, as a number -/
def bdig (bs : List (BitVec 8)) : Nat → Nat := fun i => dig d8 bs (bs.length - 1 - i)
def ofB (bs : List (BitVec 8)) : Nat := vf 256 (bdig bs) bs.length
theorem ofB_lt (bs : List (BitVec 8)) : ofB bs < 256 ^ bs.length := vf_lt fun i _ => d8_lt _

theorem gat_replicate {α : Type} [Inhabited α] {x : α} {N i : Nat} (h : i < N) : gat (List.replicate N x) i = x := by
  simp [gat, h]
theorem dig_zeros (N i : Nat) : dig d32 (List.replicate N default) i = 0 := by
  unfold dig gat
  rw [List.getD_eq_getElem?_getD, List.getElem?_replicate]
  split <;> rfl
theorem vf_zeros {β N : Nat} {f0 : Nat → Nat} : vf β (dig d32 (List.replicate N default)) N = vf 256 f0 0 := by
  rw [vf_zero_tail (Nat.zero_le N) (fun i _ h => by unfold dig; rw [gat_replicate h]; rfl)]; rfl
theorem w32_nat {N : Nat} (h : N < W32) : d32 (w32 (N : Int)) = N := by rw [d32_w32, Nat.mod_eq_of_lt h]
theorem n32_w32 {N : Nat} (h : N < W32) : n32 (w32 (N : Int)) = (N : Int) := congrArg Int.ofNat (w32_nat h)
theorem d32_or {x y : BitVec 32} {a b s : Nat} (hx : d32 x = a) (hy : d32 y = b * 2 ^ s) (ha : a < 2 ^ s) : d32 (x ||| y) = a + b * 2 ^ s := by
  unfold d32 at *
  rw [BitVec.toNat_or, hx, hy, Nat.or_comm, ← Nat.shiftLeft_eq, ← Nat.shiftLeft_add_eq_or_of_lt ha, Nat.add_comm]
theorem or_byte (x : BitVec 32) (y : BitVec 8) {r : Nat} (hr : r < 4) (hx : d32 x < 256 ^ r) : d32 (x ||| w32 (n32 (w32 (n8 y)) * 2 ^ (8 * (r : Int)).toNat)) = d32 x + d8 y * 256 ^ r := by
  have e0 : (8 * (r : Int)).toNat = 8 * r := by omega
  have h1 : n8 y = ((d8 y : Nat) : Int) := rfl
  have h2 : d8 y * 2 ^ (8 * r) < W32 := by
    have := d8_lt y
    have h3 : (d8 y + 1) * 2 ^ (8 * r) ≤ 2 ^ 8 * 2 ^ (8 * r) := Nat.mul_le_mul_right _ (by omega)
    have h4 : 2 ^ 8 * 2 ^ (8 * r) ≤ 2 ^ 32 := by rw [← Nat.pow_add]; exact Nat.pow_le_pow_right (by omega) (by omega)
    have h5 : 0 < 2 ^ (8 * r) := Nat.pow_pos (by omega)
    rw [Nat.add_mul, Nat.one_mul] at h3
    unfold W32
    omega
  rw [pow256] at hx ⊢
  rw [e0, h1, n32_w32 (by have := d8_lt y; unfold W32; omega), show ((d8 y : Nat) : Int) * 2 ^ (8 * r) = ((d8 y * 2 ^ (8 * r) : Nat) : Int) by simp]
  exact d32_or rfl (w32_nat h2) hx
/-- A number and a mark are handed back. -/
def RetE (w : World) (n : Nat) (m : Int) (e : Ending) (w' : World) : Prop := ∃ A l c, e = .returned (.tuple #[.agg #[.slice A l c], .int .i64 m]) ∧ NatV w' (.agg #[.slice A l c]) n ∧ Ext w w'

set_option maxRecDepth 100000 in
set_option maxHeartbeats 1000000 in
theorem from_long (A : Option Addr) (n c : Nat) (w : World) (hn : 128 < n) :
    Calls Try.prog 14 #[.slice A n c] w (RetE w 0 4) := by
  go_enter Try.func14, Try.ntmps14
  go_wp2
  exact bodyPost_ret (v := .tuple #[.agg #[.slice none 0 0], .int .i64 4]) (by simp [results, Try.results14, go_sem]) rfl ⟨_, _, _, rfl, NatV.nil _, (by repeat (first | (with_reducible exact Upd.refl _ _) | (with_reducible assumption) | (refine Upd.setCell ?_ (.inr (by first | exact Nat.le_refl _ | (dsimp only; omega) | (simp; done) | (simp; omega))) _) | (with_reducible refine Upd.alloc ?_ _) | (with_reducible refine Upd.drew ?_) | (with_reducible refine Upd.trans ?_ (by with_reducible assumption))))⟩

theorem from_step {xs xs' : List (BitVec 32)} {bs : List (BitVec 8)} {n N k q r : Nat} (hn : bs.length = n) (hx : xs.length = N) (hv : vf W32 (dig d32 xs) N = vf 256 (bdig bs) k) (hk : k < n) (hN : N = (n + 3) / 4) (hq : q = k / 4) (hr : r = k % 4)
    (hxs : xs' = xs.set q (gat xs q ||| w32 (n32 (w32 (n8 (gat bs (n - 1 - k)))) * 2 ^ (8 * (r : Int)).toNat))) : vf W32 (dig d32 xs') N = vf 256 (bdig bs) (k + 1) := by
  subst hq hr
  have hlt : k / 4 < N := by omega
  have hsm : dig d32 xs (k / 4) < 256 ^ (k % 4) := part_digit (β := W32) (γ := 256) (m := 4) (by decide) (by decide) (by decide) (l := dig d32 xs) (fun j _ => d32_lt _) hv (vf_lt fun i _ => d8_lt _) hlt
  refine part_step (γ := 256) (m := 4) (l := dig d32 xs) (f := bdig bs) (d := d8 (gat bs (n - 1 - k))) (by decide) hv hlt (by unfold bdig dig; rw [hn]) ?_
  funext j
  rw [hxs, dig_set (by omega)]
  by_cases e : j = k / 4
  · subst e
    rw [if_pos rfl, if_pos rfl, or_byte _ _ (Nat.mod_lt _ (by omega)) hsm]
    rfl
  · rw [if_neg e, if_neg e]
theorem from_end {xs : List (BitVec 32)} {bs : List (BitVec 8)} {n N : Nat} (hn : bs.length = n) (hx : xs.length = N) (hv : vf W32 (dig d32 xs) N = vf 256 (bdig bs) n) : numOf W32 d32 xs = ofB bs := by
  unfold numOf ofB; rw [hx, hv, hn]
set_option maxRecDepth 100000 in
set_option maxHeartbeats 1000000 in
theorem from_any (A : Option Addr) (n c : Nat) (bs : List (BitVec 8)) (w : World) (hn : bs.length = n) (hl : n ≤ 128) (hS : Sl by8 w A bs) :
    Calls Try.prog 14 #[.slice A n c] w (RetE w (ofB bs) 0) := by
  have Hn := hide hn
  have HS := hide hS
  clear hn hS
  go_enter Try.func14, Try.ntmps14
  go_wp2_with (at_make; go_must (refine wpList_mk _ _ _ Try.n_el32 rfl rfl ((n + 3) / 4) rfl rfl (by omega) (by omega) (by omega) (by unfold maxLen; omega) by32 rfl rfl (B := w.heap.size + 1) (by simp) ?_); intro g w2 hO hg hU)
  obtain rfl : g = w.heap.size + 1 := by rw [hg]; simp
  clear hg
  have hBx := (Box.new w 26 (.slice none 0 0)).ext hU
  have hUw : Ext w w2 := ((Upd.refl _ _).alloc _).trans hU
  clear hU
  obtain ⟨N, hN⟩ : ∃ N, N = (n + 3) / 4 := ⟨_, rfl⟩
  have HN := hide hN
  rw [← hN] at hO ⊢
  clear hN
  go_loopw [18] (fun i wr => ∃ (k : Nat) (xs : List (BitVec 32)), k ≤ n ∧ i = .int .i64 k ∧ xs.length = N ∧ vf W32 (dig d32 xs) N = vf 256 (bdig bs) k ∧ Own wr (w.heap.size + 1) 75 (some ⟨w.heap.size + 1, 0, none⟩) N (xs.map by32) ∧ Box wr w.heap.size 26 (.slice none 0 0) ∧ Ext w wr) (fun i _ => n - (intOf i).toNat)
  case atStart => exact ⟨0, _, Nat.zero_le _, rfl, List.length_replicate, vf_zeros, hO, hBx, hUw⟩
  case round =>
    clear hO hBx hUw
    obtain ⟨k, xs, hk, rfl, hxl, hv, hO, hBx, hU⟩ := hrel
    have Hxl := hide hxl
    have Hv := hide hv
    clear hxl hv
    by_cases hlt : k < n
    · obtain ⟨b, o, rfl, hbl, hcells⟩ := (HS.out.ext hU).open_ (by rw [Hn.out]; omega)
      have hcell := hcells (n - 1 - k) (by rw [Hn.out]; omega)
      have hq : ((k / 4 : Nat) : Int) < (N : Int) := by have := HN.out; omega
      have hcx := (hO.row.ext (Upd.refl _ _).drew).cell (i := k / 4) (by rw [Hxl.out]; omega)
      clear hcells
      have HO := hide hO
      clear hO
      go_wp2_with fail
      have e1 : IntKind.i64.wrap ((k : Int) / 4) = ((k / 4 : Nat) : Int) := IntWalk.i64_in _ (by omega)
      have e2 : (k : Int).tmod 4 = ((k % 4 : Nat) : Int) := IntWalk.rem_in _ _ (by omega)
      have e2' : (k : Int) % 4 = ((k % 4 : Nat) : Int) := rfl
      obtain ⟨q, hqd⟩ : ∃ q, q = k / 4 := ⟨_, rfl⟩
      obtain ⟨r, hr⟩ : ∃ r, r = k % 4 := ⟨_, rfl⟩
      have hr4 : r < 4 := by omega
      have e3 : IntKind.i64.wrap (8 * (r : Int)) = ((8 * r : Nat) : Int) := IntWalk.i64_in _ (by omega)
      have p0 : (0 : Int) ≤ (q : Int) := by omega
      have p1 : (0 : Int) ≤ ((8 * r : Nat) : Int) := by omega
      rw [← hqd] at hq hcx e1
      rw [← hr] at e2 e2'
      have Hqr := hide (And.intro hqd hr)
      clear hqd hr
      refine wp_region_plan (Same _) 13 [(false,0), (false,1), (false,2), (false,3), (false,4), (false,5), (false,6), (false,7), (false,8), (false,9), (false,10), (false,11), (false,12)] (by kernel_rfl) (by kernel_rfl) rfl (fun hne => ?_)
      repeat (refine head_q rfl (fun K hK => ?_); have hK2 := hide hK; clear hK; go_simp; refine hK2.out _ ?_; clear hK2 K)
      refine head_nil ?_
      try simp only [List.drop_succ_cons, List.drop_zero]
      go_wp2_with (refine wpList_store_own by32 one32 (gat xs q ||| w32 (n32 (w32 (n8 (gat bs (n - 1 - k)))) * 2 ^ (8 * (r : Int)).toNat)) rfl rfl Try.n_sz32 rfl rfl (HO.out.ext (Upd.refl _ _).drew) (by rw [Hxl.out]; omega) ?_; intro w3 hO3 hU3)
      have Hx := HO.out
      have hne : w.heap.size ≠ w.heap.size + 1 := by omega
      go_roundw
      case rel => exact ⟨k + 1, _, by omega, by go_num, by rw [List.length_set]; exact Hxl.out, from_step Hn.out Hxl.out Hv.out hlt HN.out Hqr.out.1 Hqr.out.2 rfl, hO3, hBx.upd hU3.undrew hne, Upd.fresh hU3.undrew hU (fun i hi => by unfold only at hi; omega)⟩
      case measure => simp [intOf]; omega
    · obtain rfl : k = n := by omega
      have hcc : wr.cell? ⟨w.heap.size, 0, none⟩ = some (.slice none 0 0) := hBx.cell
      have hff := hBx.frozen
      go_wp2_with (go_at_call 54; refine (trim_any _ N N xs _ Hxl.out (Nat.le_refl _) (by have := HN.out; unfold maxLen; omega) hO.sl).mono ?_; rintro e w3 ⟨A3, l3, c3, rfl, hV3, hU3⟩; have hb3 := hBx.ext hU3; have hc3 := hb3.cell; have hf3 := hb3.frozen)
      exact bodyPost_ret (v := .tuple #[.agg #[.slice A3 l3 c3], .int .i64 0]) (by simp [results, Try.results14, go_sem, hc3]) rfl ⟨_, _, _, rfl, (hV3.of_eq (by rw [← from_end Hn.out Hxl.out Hv.out])).far hc3, (by repeat (first | (with_reducible exact Upd.refl _ _) | (with_reducible assumption) | (refine Upd.setCell ?_ (.inr (by first | exact Nat.le_refl _ | (dsimp only; omega) | (simp; done) | (simp; omega))) _) | (with_reducible refine Upd.alloc ?_ _) | (with_reducible refine Upd.drew ?_) | (with_reducible refine Upd.trans ?_ (by with_reducible assumption))))⟩
end Go.Proofs.Ytekpjdfgpggcnaa
