/- Merged: RefA RefB RefC RefD RefE RefF LawA LawB. -/
import Derived.Test.YtjdodhooojjldaaNatW
namespace Go.Proofs.Ytjdodhooojjldaa
set_option linter.unusedSimpArgs false
set_option linter.unusedVariables false
/- The document's numbers, rows of truths, walked: Trim, at, Cmp, Shift. -/
section
open Go.RowKit
open Nt
attribute [local go_sem] steady steadyUpon Cls same_cell

/-- A number of the document's is handed back; nothing old has turned. -/
def RetR (w : World) (n : Nat) (e : Ending) (w' : World) : Prop := ∃ A l c, e = .returned (.slice A l c) ∧ RefV w' (.slice A l c) n ∧ Ext w w'
/-- A number of the document's is handed back, where it lay. -/
def RetT (w : World) (A : Option Addr) (c n : Nat) (e : Ending) (w' : World) : Prop := ∃ l, e = .returned (.slice A l c) ∧ RefV w' (.slice A l c) n ∧ Ext w w'
/-- A number of the document's is handed back, in new memory. -/
def RetN1 (w : World) (n : Nat) (e : Ending) (w' : World) : Prop := ∃ A l c, e = .returned (.slice A l c) ∧ RefV w' (.slice A l c) n ∧ Ext w w' ∧ ∀ k, inA A k → w.heap.size ≤ k
theorem RefV.upd {w w' : World} {A : Option Addr} {l c n : Nat} {T : Nat → Prop} (h : RefV w (.slice A l c) n) (hu : Upd T w w') (hT : ∀ k, inA A k → ¬ T k) : RefV w' (.slice A l c) n := by
  obtain ⟨A', c', xs, e, h2, h3, h4, h5⟩ := h
  cases e
  exact ⟨A, c, xs, rfl, h2, h3, h4.upd hu (fun b o hb => hT b (by rw [hb]; simp [inA])), h5⟩
theorem Try.n_el1 : ElemI Try.prog 155 4 (.bool false) 1 := ⟨by kernel_rfl, by kernel_rfl, rfl⟩
theorem one1 (x : Bool) : (Value.bool x).oneCell' = true := rfl
theorem d1_true : d1 true = 1 := rfl
theorem d1_false : d1 false = 0 := rfl
theorem d1_le (x : Bool) : d1 x ≤ 1 := by cases x <;> decide
theorem dig1_out {xs : List Bool} {i : Nat} (h : xs.length ≤ i) : dig d1 xs i = 0 := dig_out rfl h

set_option maxRecDepth 100000 in
set_option maxHeartbeats 1000000 in
theorem rtrim_at (A : Option Addr) (n c : Nat) (xs : List Bool) (w : World) (hn : xs.length = n) (hc : n ≤ c) (hm : c ≤ maxLen) (hS : Sl Value.bool w A xs) :
    Calls Try.prog 126 #[.slice A n c] w (RetT w A c (numOf 2 d1 xs)) := by
  have hm' := hm
  unfold maxLen at hm'
  have Hn := hide hn
  have HS := hide hS
  clear hn hS
  go_enter Try.func126, Try.ntmps126
  go_wp2
  go_loop [0] (fun v => ∃ k : Nat, k ≤ n ∧ v = .slice A k c ∧ vf 2 (dig d1 xs) k = numOf 2 d1 xs) (fun v => match v with | .slice _ k _ => k | _ => 0)
  case atStart => exact ⟨n, Nat.le_refl _, rfl, by rw [← Hn.out]; rfl⟩
  case round =>
    obtain ⟨k, hk, rfl, hv⟩ := hrel
    have HV := hide hv
    clear hv
    rcases Nat.eq_zero_or_pos k with h0 | h0
    · subst h0
      go_wp2
      go_ret
      exact ⟨_, rfl, NumS.cut HS.out (Nat.zero_le _) (Nat.zero_le _) hm HV.out (.inl rfl), Upd.refl _ _⟩
    · obtain ⟨b, o, rfl, hb, hcells⟩ := HS.out.open_ (by rw [Hn.out]; omega)
      have hcell := hcells (k - 1) (by rw [Hn.out]; omega)
      obtain ⟨k, rfl⟩ : ∃ j, k = j + 1 := ⟨k - 1, by omega⟩
      simp only [Nat.add_sub_cancel] at hcell
      clear hcells
      obtain ⟨x, hx⟩ : ∃ x, gat xs k = x := ⟨_, rfl⟩
      rw [hx] at hcell
      have hxd : dig d1 xs k = d1 x := by unfold dig; rw [hx]
      have Hx := hide hxd
      clear hx hxd
      cases x with
      | false =>
        have hd1 : dig d1 xs k = 0 := Hx.out
        have hd := hide hd1
        clear hd1
        go_wp2
        go_round
        case rel => exact ⟨k, by omega, rfl, by have := HV.out; rw [vf_succ, hd.out] at this; omega⟩
        case measure => simp
      | true =>
        have hd1 : dig d1 xs k ≠ 0 := by rw [Hx.out]; decide
        have hd := hide hd1
        clear hd1
        go_wp2
        go_ret
        exact ⟨_, rfl, NumS.cut HS.out (by rw [Hn.out]; exact hk) (by omega) hm HV.out (.inr hd.out), Upd.refl _ _⟩

theorem rtrim_any (A : Option Addr) (n c : Nat) (xs : List Bool) (w : World) (hn : xs.length = n) (hc : n ≤ c) (hm : c ≤ maxLen) (hS : Sl Value.bool w A xs) :
    Calls Try.prog 126 #[.slice A n c] w (RetR w (numOf 2 d1 xs)) :=
  (rtrim_at A n c xs w hn hc hm hS).mono fun _ _ ⟨l, h1, h2, h3⟩ => ⟨A, l, c, h1, h2, h3⟩

end
/- The document's sums, differences and order of rows of truths, walked: Add, Sub, Cmp. -/
section
open Go.RowKit
open Nt
attribute [local go_sem] steady steadyUpon Cls same_cell

theorem bit_mod {s : Nat} {b : Bool} (h : s % 2 = d1 b) : d1 b = s % 2 := h.symm
theorem radd_next {xs ys zs : List Bool} {k c s : Nat} {b : Bool} (hz : zs.length = k) (h : vf 2 (dig d1 zs) k + c * 2 ^ k = vf 2 (dig d1 xs) k + vf 2 (dig d1 ys) k) (hs : c + dig d1 xs k + dig d1 ys k = s) (hb : d1 b = s % 2) :
    vf 2 (dig d1 (zs ++ [b])) (k + 1) + s / 2 * 2 ^ (k + 1) = vf 2 (dig d1 xs) (k + 1) + vf 2 (dig d1 ys) (k + 1) := by
  subst hs
  refine add_step (c := c) ?_ ?_
  · rw [vf_append_left (by omega)]; exact h
  · rw [dig_append_right (by omega), hz, Nat.sub_self]
    exact hb
theorem radd_end {xs ys zs : List Bool} {k : Nat} (hz : zs.length = k) (h : vf 2 (dig d1 zs) k + 0 * 2 ^ k = vf 2 (dig d1 xs) k + vf 2 (dig d1 ys) k) (hx : xs.length ≤ k) (hy : ys.length ≤ k) : numOf 2 d1 zs = numOf 2 d1 xs + numOf 2 d1 ys := by
  unfold numOf
  rw [Nat.zero_mul, Nat.add_zero, vf_out rfl hx, vf_out rfl hy] at h
  rw [hz, h]; rfl
theorem par_int {x y c : Nat} {r : Nat} (h : (c + x + y) % 2 = r) : ((x : Int) + (y : Int) + (c : Int)) % 2 = (r : Int) := by omega

end
/- The document's differences and order of rows of truths, walked: Sub, Cmp. -/
section
open Go.RowKit
open Nt
attribute [local go_sem] steady steadyUpon Cls same_cell

theorem rsub_next {xs ys zs : List Bool} {k c c' : Nat} {b : Bool} (hz : zs.length = k) (h : vf 2 (dig d1 zs) k + vf 2 (dig d1 ys) k = vf 2 (dig d1 xs) k + c * 2 ^ k) (hs : d1 b + dig d1 ys k + c = dig d1 xs k + c' * 2) :
    vf 2 (dig d1 (zs ++ [b])) (k + 1) + vf 2 (dig d1 ys) (k + 1) = vf 2 (dig d1 xs) (k + 1) + c' * 2 ^ (k + 1) := by
  refine sub_step (w := c) ?_ ?_
  · rw [vf_append_left (by omega)]; exact h
  · rw [dig_append_right (by omega), hz, Nat.sub_self]
    exact hs
theorem rsub_end {xs ys zs : List Bool} {k c : Nat} (hz : zs.length = k) (h : vf 2 (dig d1 zs) k + vf 2 (dig d1 ys) k = vf 2 (dig d1 xs) k + c * 2 ^ k) (hx : xs.length = k) (hab : numOf 2 d1 ys ≤ numOf 2 d1 xs) (hyl : ys.length ≤ k) : numOf 2 d1 zs = numOf 2 d1 xs - numOf 2 d1 ys := by
  have hy : vf 2 (dig d1 ys) k = numOf 2 d1 ys := vf_out rfl hyl
  have hx' : vf 2 (dig d1 xs) k = numOf 2 d1 xs := by unfold numOf; rw [hx]
  have hc := sub_end h (fun i _ => d1_lt _) (by rw [hy, hx']; exact hab)
  rw [hc, Nat.zero_mul, Nat.add_zero, hy, hx'] at h
  have : numOf 2 d1 zs = vf 2 (dig d1 zs) k := by unfold numOf; rw [hz]
  omega
theorem len_le_of {xs ys : List Bool} (hT : Trd (dig d1 ys) ys.length) (h : numOf 2 d1 ys ≤ numOf 2 d1 xs) : ys.length ≤ xs.length := by
  rcases Nat.lt_or_ge xs.length ys.length with h1 | h1
  · have := Trd.len_lt (β := 2) (f := dig d1 xs) (g := dig d1 ys) (by decide) (fun i _ => d1_lt _) hT h1
    unfold numOf at h
    omega
  · exact h1

theorem rcmp_same {xs ys : List Bool} {l : Nat} (hx : xs.length = l) (hy : ys.length = l) (h : ∀ i, i < l → gat ys i = gat xs i) : cmpI (numOf 2 d1 xs) (numOf 2 d1 ys) = 0 := by
  have : numOf 2 d1 xs = numOf 2 d1 ys := by
    unfold numOf; rw [hx, hy]; exact vf_congr fun i hi => by unfold dig; rw [h i hi]
  unfold cmpI; rw [this, if_neg (Nat.lt_irrefl _), if_pos rfl]
theorem rcmp_less {xs ys : List Bool} {l j : Nat} (hx : xs.length = l) (hy : ys.length = l) (hj : j < l) (h : ∀ i, j + 1 ≤ i → i < l → gat ys i = gat xs i) (h1 : gat xs j = false) (h2 : gat ys j = true) : cmpI (numOf 2 d1 xs) (numOf 2 d1 ys) = -1 := by
  have : numOf 2 d1 xs < numOf 2 d1 ys := by
    unfold numOf; rw [hx, hy]
    exact vf_lt_of_digit hj (fun i _ => d1_lt _) (fun i a b => by unfold dig; rw [h i a b]) (by unfold dig; rw [h1, h2]; decide)
  unfold cmpI; rw [if_pos this]
theorem rcmp_more {xs ys : List Bool} {l j : Nat} (hx : xs.length = l) (hy : ys.length = l) (hj : j < l) (h : ∀ i, j + 1 ≤ i → i < l → gat ys i = gat xs i) (h1 : gat xs j = true) (h2 : gat ys j = false) : cmpI (numOf 2 d1 xs) (numOf 2 d1 ys) = 1 := by
  have : numOf 2 d1 ys < numOf 2 d1 xs := by
    unfold numOf; rw [hx, hy]
    exact vf_lt_of_digit hj (fun i _ => d1_lt _) (fun i a b => by unfold dig; rw [h i a b]) (by unfold dig; rw [h1, h2]; decide)
  unfold cmpI; rw [if_neg (by omega), if_neg (by omega)]

end
/- The document's numbers out of bytes and small numbers, and back, walked: Of, Small, Bytes, Get. -/
section
open Go.RowKit
open Nt
attribute [local go_sem] steady steadyUpon Cls same_cell by8 wrap_w8

theorem par_nat {v : Nat} {r : Nat} (h : v % 2 = r) : (v : Int) % 2 = (r : Int) := by omega
theorem small_bd {v j N : Nat} (h : v * 2 ^ j ≤ N) (hN : N < 18446744073709551616) (hv : 0 < v) : j < 64 := by
  have h1 : 2 ^ j ≤ v * 2 ^ j := Nat.le_mul_of_pos_left _ hv
  have h2 : 2 ^ j < 2 ^ 64 := by omega
  exact (Nat.pow_lt_pow_iff_right (by omega)).1 h2
theorem rsmall_next {zs : List Bool} {v j N : Nat} {b : Bool} (hz : zs.length = j) (h : v * 2 ^ j + vf 2 (dig d1 zs) j = N) (hb : d1 b = v % 2) : v / 2 * 2 ^ (j + 1) + vf 2 (dig d1 (zs ++ [b])) (j + 1) = N := by
  rw [vf_succ, vf_append_left (by omega), dig_append_right (by omega), hz, Nat.sub_self, ← h]
  show _ + (_ + d1 b * 2 ^ j) = _
  rw [hb, Nat.pow_succ]
  have e := congrArg (· * 2 ^ j) (Nat.div_add_mod v 2)
  simp only [Nat.add_mul] at e
  have e2 : v / 2 * (2 ^ j * 2) = 2 * (v / 2) * 2 ^ j := by ac_rfl
  omega
theorem rof_bit {zs : List Bool} {x : BitVec 8} {q m V : Nat} {b : Bool} (hz : zs.length = 8 * q + m) (h : vf 2 (dig d1 zs) (8 * q + m) = V + d8 x % 2 ^ m * 2 ^ (8 * q)) (hb : d1 b = d8 x / 2 ^ m % 2) :
    vf 2 (dig d1 (zs ++ [b])) (8 * q + m + 1) = V + d8 x % 2 ^ (m + 1) * 2 ^ (8 * q) := by
  rw [vf_succ, vf_append_left (by omega), dig_append_right (by omega), hz, Nat.sub_self, h]
  show _ + d1 b * 2 ^ (8 * q + m) = _
  rw [hb, bits_step (d := d8 x) (k := m), Nat.add_mul, Nat.pow_add]
  have e : d8 x / 2 ^ m % 2 * (2 ^ (8 * q) * 2 ^ m) = d8 x / 2 ^ m % 2 * 2 ^ m * 2 ^ (8 * q) := by ac_rfl
  omega
theorem rof_byte {zs : List Bool} {bs : List (BitVec 8)} {n q : Nat} (hn : bs.length = n) (hq : q < n) (h : vf 2 (dig d1 zs) (8 * q + 8) = vf 256 (bdig bs) q + d8 (gat bs (n - 1 - q)) % 2 ^ 8 * 2 ^ (8 * q)) : vf 2 (dig d1 zs) (8 * (q + 1)) = vf 256 (bdig bs) (q + 1) := by
  rw [show 8 * (q + 1) = 8 * q + 8 by omega, h, vf_succ, pow256, Nat.mod_eq_of_lt (d8_lt _)]
  unfold bdig dig
  rw [hn]
theorem bit_int {x : BitVec 8} {m r : Nat} (h : d8 x / 2 ^ m % 2 = r) : (n8 x / 2 ^ m).tmod 2 = (r : Int) := by
  rw [n8_d, show ((d8 x : Nat) : Int) / 2 ^ m = ((d8 x / 2 ^ m : Nat) : Int) by simp, Int.tmod_eq_emod_of_nonneg (Int.natCast_nonneg _)]
  omega
set_option maxRecDepth 100000 in
set_option maxHeartbeats 1000000 in
theorem rof_any (A : Option Addr) (n c : Nat) (bs : List (BitVec 8)) (w : World) (hn : bs.length = n) (hl : n ≤ 1000000) (hS : Sl by8 w A bs) :
    Calls Try.prog 111 #[.slice A n c] w (RetR w (ofB bs)) := by
  have Hn := hide hn
  have HS := hide hS
  clear hn hS
  go_enter Try.func111, Try.ntmps111
  go_wp2
  go_loopw [4, 3] (fun i o wr => ∃ (j q l : Nat) (cc : Int) (zs : List Bool) (Z : Option Addr) (cz : Nat), j + q = n ∧ cc = (j : Int) - 1 ∧ i = .int .i64 cc ∧ l = 8 * q ∧ o = .slice Z l cz ∧ zs.length = l ∧ Own wr w.heap.size 4 Z cz (zs.map Value.bool) ∧ vf 2 (dig d1 zs) (8 * q) = vf 256 (bdig bs) q ∧ Ext w wr) (fun i _ _ => (intOf i + 1).toNat)
  case atStart => exact ⟨n, 0, 0, _, [], _, _, by omega, by omega, rfl, rfl, rfl, rfl, ⟨rfl, .inr ⟨w.heap.size, 0, #[], rfl, Nat.le_refl _, heap_alloc_new w _, Nat.le_refl _, Nat.zero_le _, rfl, rfl⟩⟩, rfl, (Upd.refl _ _).alloc _⟩
  case round =>
    obtain ⟨j, q, l, cc, zs, Z, cz, hj, hcc, rfl, hlq, rfl, hzl, hO, hv, hE⟩ := hrel
    subst hlq
    have Hzl := hide hzl
    have Hv := hide hv
    clear hzl hv
    rcases j with _ | j
    · obtain rfl : cc = -1 := by omega
      obtain rfl : q = n := by omega
      clear hcc
      go_wp2_with fail
      refine (rtrim_any Z (8 * q) cz zs _ Hzl.out (by have := hO.cap.1; rw [List.length_map, Hzl.out] at this; exact this) hO.cap.2 hO.sl).mono ?_
      rintro e w4 ⟨A4, l4, c4, rfl, hV4, hU4⟩
      go_wp2
      go_ret
      exact ⟨_, _, _, rfl, hV4.of_eq (by unfold numOf ofB; rw [Hzl.out, Hv.out, Hn.out]), hE.trans hU4⟩
    · obtain rfl : cc = (j : Int) := by omega
      clear hcc
      have hj0 : (0 : Int) ≤ (j : Int) := by omega
      obtain ⟨V, hV⟩ : ∃ V, V = vf 256 (bdig bs) q := ⟨_, rfl⟩
      have hHV := hide hV
      have hv0 := Hv.out
      rw [← hV] at hv0
      have Hv0 := hide hv0
      clear hV hv0 Hv
      obtain ⟨x, hx⟩ : ∃ x, gat bs j = x := ⟨_, rfl⟩
      have Hx := hide hx
      clear hx
      go_wp2_with fail
      go_loopw [5, 3] (fun i o wr => ∃ (m l : Nat) (zs : List Bool) (Z : Option Addr) (cz : Nat), m ≤ 8 ∧ i = .int .i64 (m : Nat) ∧ l = 8 * q + m ∧ o = .slice Z l cz ∧ zs.length = 8 * q + m ∧ Own wr w.heap.size 4 Z cz (zs.map Value.bool) ∧ vf 2 (dig d1 zs) (8 * q + m) = V + d8 x % 2 ^ m * 2 ^ (8 * q) ∧ Ext w wr) (fun i _ _ => 8 - (intOf i).toNat)
      case atStart => exact ⟨0, _, zs, Z, cz, by omega, rfl, rfl, rfl, Hzl.out, hO, by rw [Nat.pow_zero, Nat.mod_one, Nat.zero_mul]; exact Hv0.out, hE⟩
      case round =>
        clear hO hE Hzl Hv0
        obtain ⟨m, l, zs, Z, cz, hm, rfl, hlm, rfl, hzl, hO, hv, hE⟩ := hrel
        subst hlm
        have Hzl := hide hzl
        have Hv := hide hv
        clear hzl hv
        by_cases hm8 : m < 8
        · obtain ⟨b1, o1, rfl, hbl1, hcells⟩ := (HS.out.ext hE).open_ (by rw [Hn.out]; omega)
          have hcell := hcells j (by rw [Hn.out]; omega)
          rw [Hx.out] at hcell
          obtain ⟨hx1, hx2⟩ := n8_bd x
          clear hcells
          rcases Nat.mod_two_eq_zero_or_one (d8 x / 2 ^ m) with hp | hp
          · skip
            -- false the bit
            have hs := hide (rof_bit (b := false) Hzl.out Hv.out (by rw [hp]; rfl))
            have hpi := bit_int hp
            clear hp
            go_wp2_with (at_builtin; go_must (refine wpList_apd Value.bool one1 Try.n_el1 zs [false] (zs ++ [false]) (8 * q + m + 1) rfl (by rw [List.length_append, Hzl.out]; rfl) (by omega) (by unfold maxLen; omega) rfl rfl rfl Hzl.out (hO.ext ((Upd.refl _ _).alloc _)) rfl rfl (Sl.new Value.bool _ _ [false]) (by have := hE.size; simp; omega) ?_); intro Z2 c2 w3 hO3 hU3 hin3)
            go_roundw
            case rel => exact ⟨m + 1, _, zs ++ [false], _, _, by omega, by go_num, rfl, rfl, by rw [List.length_append, Hzl.out]; rfl, hO3, hs.out, Upd.fresh hU3 (hE.alloc _) (fun i hi => (hO.in_ hi).1)⟩
            case measure => simp [intOf]; omega
          · skip
            -- true the bit
            have hs := hide (rof_bit (b := true) Hzl.out Hv.out (by rw [hp]; rfl))
            have hpi := bit_int hp
            clear hp
            go_wp2_with (at_builtin; go_must (refine wpList_apd Value.bool one1 Try.n_el1 zs [true] (zs ++ [true]) (8 * q + m + 1) rfl (by rw [List.length_append, Hzl.out]; rfl) (by omega) (by unfold maxLen; omega) rfl rfl rfl Hzl.out (hO.ext ((Upd.refl _ _).alloc _)) rfl rfl (Sl.new Value.bool _ _ [true]) (by have := hE.size; simp; omega) ?_); intro Z2 c2 w3 hO3 hU3 hin3)
            go_roundw
            case rel => exact ⟨m + 1, _, zs ++ [true], _, _, by omega, by go_num, rfl, rfl, by rw [List.length_append, Hzl.out]; rfl, hO3, hs.out, Upd.fresh hU3 (hE.alloc _) (fun i hi => (hO.in_ hi).1)⟩
            case measure => simp [intOf]; omega
        · obtain rfl : m = 8 := by omega
          have hfin := rof_byte (zs := zs) (bs := bs) Hn.out (show q < n by omega) (by rw [Hv.out, hHV.out, ← Hx.out, show n - 1 - q = j by omega])
          have Hfin := hide hfin
          clear hfin
          go_wp2_with fail
          go_roundw
          case rel => exact ⟨j, q + 1, _, _, zs, _, _, by omega, rfl, rfl, rfl, rfl, Hzl.out, hO, Hfin.out, hE⟩
          case measure => simp [intOf]

def bval (zs : List (BitVec 8)) (size : Nat) : Nat := vf 256 (fun i => dig d8 zs (size - 1 - i)) size
theorem ofB_inj {bs cs : List (BitVec 8)} (hl : bs.length = cs.length) (h : ofB bs = ofB cs) : bs = cs := by
  have hd : ∀ i, i < bs.length → bdig bs i = bdig cs i := fun i hi => vf_inj (β := 256) (f := bdig bs) (g := bdig cs) (by decide) (n := bs.length) (fun i _ => d8_lt _) (fun i _ => d8_lt _) (by unfold ofB at h; rw [h, hl]) hi
  apply List.ext_getElem hl
  intro i h1 h2
  have := hd (bs.length - 1 - i) (by omega)
  unfold bdig dig at this
  rw [← hl, show bs.length - 1 - (bs.length - 1 - i) = i by omega, gat_lt h1, gat_lt h2] at this
  exact BitVec.eq_of_toNat_eq this
theorem rbytes_step {zs : List (BitVec 8)} {xs : List Bool} {size i : Nat} (hz : zs.length = size) (hi : i / 8 < size) (h : ofB zs = vf 2 (dig d1 xs) i) (hx : dig d1 xs i = 1) :
    ofB (zs.set (size - 1 - i / 8) (w8 (n8 (gat zs (size - 1 - i / 8)) + n8 (w8 (2 ^ (i % 8)))))) = vf 2 (dig d1 xs) (i + 1) := by
  unfold ofB at h ⊢
  rw [List.length_set, hz]
  rw [hz] at h
  have hp := part_digit (β := 256) (γ := 2) (m := 8) (N := size) (i := i) (l := bdig zs) (by decide) (by decide) (by decide) (fun j _ => d8_lt _) h (vf_lt fun i _ => d1_lt _) hi
  have hb : bdig zs (i / 8) = d8 (gat zs (size - 1 - i / 8)) := by unfold bdig dig; rw [hz]
  have h8 : 2 ^ (i % 8) ≤ 2 ^ 7 := Nat.pow_le_pow_right (by omega) (by omega)
  have h28 : (2 : Nat) ^ 7 = 128 := rfl
  have hc : vf 256 (bdig (zs.set (size - 1 - i / 8) (w8 (n8 (gat zs (size - 1 - i / 8)) + n8 (w8 (2 ^ (i % 8))))))) size = vf 256 (fun j => if j = i / 8 then bdig zs j + 1 * 2 ^ (i % 8) else bdig zs j) size := vf_congr fun j hj => by
    have hd : bdig (zs.set (size - 1 - i / 8) (w8 (n8 (gat zs (size - 1 - i / 8)) + n8 (w8 (2 ^ (i % 8)))))) j = if size - 1 - j = size - 1 - i / 8 then d8 (w8 (n8 (gat zs (size - 1 - i / 8)) + n8 (w8 (2 ^ (i % 8))))) else dig d8 zs (size - 1 - j) := by
      unfold bdig
      rw [List.length_set, hz, dig_set (by omega)]
    rw [hd]
    by_cases e : j = i / 8
    · subst e
      rw [if_pos rfl, if_pos rfl]
      have e1 : n8 (w8 ((2 : Int) ^ (i % 8))) = ((2 ^ (i % 8) : Nat) : Int) := by
        rw [show (2 : Int) ^ (i % 8) = ((2 ^ (i % 8) : Nat) : Int) by simp, n8_d, d8_w8, Nat.mod_eq_of_lt (by omega)]
      have hlt : d8 (gat zs (size - 1 - i / 8)) + 2 ^ (i % 8) < 256 := by
        rw [hb] at hp
        have h9 : i % 8 + 1 ≤ 8 := by omega
        have h10 : 2 ^ (i % 8 + 1) ≤ 2 ^ 8 := Nat.pow_le_pow_right (by omega) h9
        rw [Nat.pow_succ] at h10
        omega
      rw [e1, n8_d, show (((d8 (gat zs (size - 1 - i / 8)) : Nat) : Int) + ((2 ^ (i % 8) : Nat) : Int)) = ((d8 (gat zs (size - 1 - i / 8)) + 2 ^ (i % 8) : Nat) : Int) by omega, d8_w8, Nat.mod_eq_of_lt hlt, Nat.one_mul, hb]
    · rw [if_neg e, if_neg (by omega)]
      unfold bdig
      rw [hz]
  rw [hc]
  exact part_step (γ := 2) (m := 8) (l := bdig zs) (f := dig d1 xs) (d := 1) (by decide) h hi hx rfl
theorem toB_of {zs : List (BitVec 8)} {n size : Nat} (hz : zs.length = size) (h : ofB zs = n) : zs = toB n size := by
  refine ofB_inj (by rw [hz, toB_length]) ?_
  rw [ofB_toB n size (by rw [← h, ← hz]; exact ofB_lt zs), h]
theorem ofB_zeros (size : Nat) : ofB (List.replicate size (default : BitVec 8)) = 0 := by
  unfold ofB
  rw [vf_zero_tail (Nat.zero_le _) (fun i _ hi => by
    unfold bdig dig
    rw [List.length_replicate] at hi ⊢
    rw [gat_replicate (by omega)]; rfl)]
  rfl
/-- Fresh bytes, or none, and whether there are some. -/
def RetBo (w : World) (l : Nat) (bs : List (BitVec 8)) (m : Bool) (e : Ending) (w' : World) : Prop :=
  ∃ A c, e = .returned (.tuple #[.slice A l c, .bool m]) ∧ bs.length = l ∧ Own w' w.heap.size 5 A c (bs.map by8) ∧ Ext w w'
set_option maxRecDepth 100000 in
set_option maxHeartbeats 1000000 in
theorem rbytes_short (v : Value) (n k size : Nat) (w : World) (hV : RefV w v n) (hF : blen n ≤ k) (hk : k ≤ 10000000) (hs : size < bytelen n) :
    Calls Try.prog 113 #[v, .int .i64 size] w (RetBo w 0 [] false) := by
  obtain ⟨A, la, ca, xs, rfl, hlx, hca, hma, hSa, hTa, hna⟩ := hV.open_
  have hla : la = blen n := by have := bits_len (hlx ▸ hTa); rw [hna, hlx] at this; exact this
  have hs' : (size : Int) < ((la : Int) + 7) / 8 := by unfold bytelen at hs; omega
  have hlk : la ≤ k := by omega
  clear hV hTa hSa hlx hna hs hF hla
  go_enter Try.func113, Try.ntmps113
  go_wp2
  go_ret2
  exact ⟨none, 0, rfl, rfl, Own.nil, Upd.refl _ _⟩
set_option maxRecDepth 100000 in
set_option maxHeartbeats 1000000 in
theorem rbytes_any (v : Value) (n k size : Nat) (w : World) (hV : RefV w v n) (hF : blen n ≤ k) (hk : k ≤ 10000000) (hs : bytelen n ≤ size) (hs2 : size ≤ 100000000) :
    Calls Try.prog 113 #[v, .int .i64 size] w (RetBo w size (toB n size) true) := by
  obtain ⟨A, la, ca, xs, rfl, hlx, hca, hma, hSa, hTa, hna⟩ := hV.open_
  have hla : la = blen n := by have := bits_len (hlx ▸ hTa); rw [hna, hlx] at this; exact this
  have hs' : ¬ (size : Int) < ((la : Int) + 7) / 8 := by unfold bytelen at hs; omega
  have hlk : la ≤ k := by omega
  have hl8 : la ≤ 8 * size := by unfold bytelen at hs; omega
  have HSa := hide hSa
  have Hna := hide hna
  have Hlx := hide hlx
  clear hV hTa hSa hlx hna hs hF hla
  go_enter Try.func113, Try.ntmps113
  go_wp2_with (at_make; go_must (refine wpList_mk _ _ _ Try.n_el8 rfl rfl size rfl rfl rfl rfl (by omega) (by unfold maxLen; omega) by8 rfl rfl (B := w.heap.size) (by simp) ?_); intro g w2 hO hg hU)
  subst hg
  go_loopw [19] (fun i wr => ∃ (j : Nat) (zs : List (BitVec 8)), j ≤ la ∧ i = .int .i64 j ∧ zs.length = size ∧ Own wr w.heap.size 5 (some ⟨w.heap.size, 0, none⟩) size (zs.map by8) ∧ ofB zs = vf 2 (dig d1 xs) j ∧ Ext w wr) (fun i _ => la - (intOf i).toNat)
  case atStart => exact ⟨0, _, Nat.zero_le _, rfl, List.length_replicate, hO, ofB_zeros _, hU⟩
  case round =>
    clear hO hU
    obtain ⟨j, zs, hj, rfl, hzl, hO, hv, hE⟩ := hrel
    have Hzl := hide hzl
    have Hv := hide hv
    clear hzl hv
    by_cases hjl : j < la
    · obtain ⟨b1, o1, rfl, hbl1, hcells⟩ := (HSa.out.ext hE).open_ (by rw [Hlx.out]; omega)
      have hcell := hcells j (by rw [Hlx.out]; omega)
      obtain ⟨x, hx⟩ : ∃ x, gat xs j = x := ⟨_, rfl⟩
      rw [hx] at hcell
      have hxd : dig d1 xs j = d1 x := by unfold dig; rw [hx]
      have Hx := hide hxd
      clear hcells hx hxd
      cases x with
      | false =>
        have hnx : ofB zs = vf 2 (dig d1 xs) (j + 1) := by rw [vf_succ, Hx.out, Hv.out]; show _ = _ + 0 * _; omega
        have Hnx := hide hnx
        clear hnx
        go_wp2_with fail
        go_roundw
        case rel => exact ⟨j + 1, zs, by omega, by go_num, Hzl.out, hO, Hnx.out, hE⟩
        case measure => simp [intOf]; omega
      | true =>
        have hnx := rbytes_step (xs := xs) (i := j) Hzl.out (by omega) Hv.out Hx.out
        obtain ⟨q, hqd⟩ : ∃ q, q = j / 8 := ⟨_, rfl⟩
        obtain ⟨r, hr⟩ : ∃ r, r = j % 8 := ⟨_, rfl⟩
        obtain ⟨I, hI⟩ : ∃ I, I = size - 1 - q := ⟨_, rfl⟩
        have hIs : I < size := by omega
        have hcx := (hO.row.ext (Upd.refl _ _).drew).cell (i := I) (by rw [Hzl.out]; omega)
        go_wp2_with fail
        have e1 : IntKind.i64.wrap ((j : Int) / 8) = (q : Int) := by rw [hqd]; exact IntWalk.i64_in _ (by omega)
        have e2 : (j : Int).tmod 8 = (r : Int) := by rw [hr]; exact IntWalk.rem_in _ _ (by omega)
        have e2' : (j : Int) % 8 = (r : Int) := by rw [hr]; rfl
        have e3 : IntKind.i64.wrap ((size : Int) - 1) = (size : Int) - 1 := IntWalk.i64_in _ (by omega)
        have e4 : IntKind.i64.wrap ((size : Int) - 1 - (q : Int)) = (I : Int) := by rw [show (size : Int) - 1 - (q : Int) = (I : Int) by omega]; exact IntWalk.i64_in _ (by omega)
        have p0 : (0 : Int) ≤ (I : Int) := by omega
        have p1 : (I : Int) < (size : Int) := by omega
        have p2 : (0 : Int) ≤ (r : Int) := by omega
        rw [← hqd, ← hr, ← hI] at hnx
        have Hnx := hide hnx
        have c1 := fun x : Wd (Same wr.drew) => (same_cell x ⟨w.heap.size, I, none⟩).trans hcx
        clear hqd hr hI hnx
        refine wp_region_plan (Same _) 13 [(false,0), (false,1), (false,2), (false,3), (false,4), (false,5), (false,6), (false,7), (false,8), (false,9), (false,10), (false,11), (false,12)] (by kernel_rfl) (by kernel_rfl) rfl (fun hne => ?_)
        repeat (refine head_q rfl (fun K hK => ?_); have hK2 := hide hK; clear hK; go_simp; refine hK2.out _ ?_; clear hK2 K)
        clear e1 e2 e2' e3 e4 c1
        refine head_nil ?_
        try simp only [List.drop_succ_cons, List.drop_zero]
        refine wpList_store_own by8 one8 (w8 (n8 (gat zs I) + n8 (w8 (2 ^ r)))) rfl rfl Try.n_sz8 rfl rfl (hO.ext (Upd.refl _ _).drew) (by rw [Hzl.out]; exact hIs) ?_
        intro w3 hO3 hU3
        go_wp2_with fail
        go_roundw
        case rel => exact ⟨j + 1, _, by omega, by go_num, by rw [List.length_set]; exact Hzl.out, hO3, Hnx.out, Upd.fresh hU3.undrew hE (fun i hi => by unfold only at hi; omega)⟩
        case measure => simp [intOf]; omega
    · obtain rfl : j = la := by omega
      have hfin : zs = toB n size := toB_of Hzl.out (by rw [Hv.out, ← Hna.out]; unfold numOf; rw [Hlx.out])
      subst hfin
      go_wp2_with fail
      go_ret2
      exact ⟨_, _, rfl, toB_length _ _, hO, hE⟩

end
/- The document's products of rows of truths, walked: Shift, Mul. -/
section
open Go.RowKit
open Nt
attribute [local go_sem] steady steadyUpon Cls same_cell

theorem numOf_shift {xs : List Bool} {n : Nat} : numOf 2 d1 (List.replicate n (default : Bool) ++ xs) = numOf 2 d1 xs * 2 ^ n := by
  unfold numOf
  rw [List.length_append, List.length_replicate, vf_split]
  have h0 : vf 2 (dig d1 (List.replicate n (default : Bool) ++ xs)) n = 0 := by
    rw [vf_zero_tail (Nat.zero_le _) (fun i _ hi => by rw [dig_append_left (by rw [List.length_replicate]; exact hi)]; unfold dig; rw [gat_replicate hi]; rfl)]; rfl
  rw [h0, Nat.zero_add]
  congr 1
  exact vf_congr fun i hi => by rw [dig_append_right (by rw [List.length_replicate]; omega), List.length_replicate, Nat.add_sub_cancel_left]
theorem blen_mul {a b m n : Nat} (ha : blen a ≤ m) (hb : blen b ≤ n) : blen (a * b) ≤ m + n := by
  rw [blen_le_iff] at *
  rw [Nat.pow_add]
  exact Nat.mul_lt_mul'' ha hb
end
/- The document's quotients and greatest divisors of rows of truths, walked: Div, Gcd. -/
section
open Go.RowKit
open Nt
attribute [local go_sem] steady steadyUpon Cls same_cell

theorem Own.one {α : Type} (f : α → Value) (w : World) (t : TypeId) (x : α) {B : Nat} (hB : B ≤ w.heap.size) : Own (w.alloc (.cells #[f x] t)) B t (some ⟨w.heap.size, 0, none⟩) 1 ([x].map f) :=
  ⟨rfl, .inr ⟨w.heap.size, 1, #[f x], rfl, hB, heap_alloc_new w _, Nat.le_refl _, by decide, rfl, rfl⟩⟩
theorem RefV.uniq {w : World} {v : Value} {n m : Nat} (h : RefV w v n) (h' : RefV w v m) : n = m := by
  obtain ⟨A, l, c, xs, rfl, hl, _, _, hS, _, hn⟩ := h.open_
  obtain ⟨A', l', c', ys, e, hl', _, _, hS', _, hn'⟩ := h'.open_
  cases e
  rw [← hn, ← hn']
  unfold numOf
  rw [hl, hl']
  refine vf_congr fun i hi => ?_
  obtain ⟨b, o, rfl, h1⟩ := hS i (by omega)
  obtain ⟨b', o', e, h2⟩ := hS' i (by omega)
  cases e
  rw [h1] at h2
  unfold dig
  injection h2 with h2
  injection h2 with h2
  rw [h2]
noncomputable def refOf (w : World) (v : Value) : Nat := by
  classical
  exact if h : ∃ n, RefV w v n then Classical.choose h else 0
theorem refOf_eq {w : World} {v : Value} {n : Nat} (h : RefV w v n) : refOf w v = n := by
  have hex : ∃ n, RefV w v n := ⟨n, h⟩
  unfold refOf
  rw [dif_pos hex]
  exact (Classical.choose_spec hex).uniq h
/-- Two numbers are handed back. -/
def RetQ (w : World) (q r : Nat) (e : Ending) (w' : World) : Prop := ∃ A1 l1 c1 A2 l2 c2, e = .returned (.tuple #[.slice A1 l1 c1, .slice A2 l2 c2]) ∧ RefV w' (.slice A1 l1 c1) q ∧ RefV w' (.slice A2 l2 c2) r ∧ Ext w w'
theorem numOf_cons {x : Bool} {xs : List Bool} : numOf 2 d1 ([x] ++ xs) = d1 x + 2 * numOf 2 d1 xs := by
  unfold numOf
  rw [List.length_append, List.length_singleton, vf_split]
  have h0 : vf 2 (dig d1 ([x] ++ xs)) 1 = d1 x := by
    rw [vf_succ]
    show 0 + d1 x * 2 ^ 0 = _
    omega
  rw [h0, Nat.pow_one, Nat.mul_comm]
  congr 2
  exact vf_congr fun i hi => by rw [dig_append_right (by simp), List.length_singleton, Nat.add_sub_cancel_left]
theorem half {a j x : Nat} (h : a / 2 ^ j % 2 = x) : a / 2 ^ j = 2 * (a / 2 ^ (j + 1)) + x := by
  rw [Nat.pow_succ, ← Nat.div_div_eq_div_mul]
  have := Nat.div_add_mod (a / 2 ^ j) 2
  omega
theorem rdiv_yes {X b x R : Nat} (hb : 0 < b) (hR : R = x + 2 * (X % b)) (hx : x ≤ 1) (h : b ≤ R) : (2 * X + x) / b = 2 * (X / b) + 1 ∧ (2 * X + x) % b = R - b := by
  have h1 := Nat.div_add_mod X b
  have h2 := Nat.mod_lt X hb
  refine divmod_of ?_ (by omega)
  have h3 : (2 * (X / b) + 1) * b = 2 * (b * (X / b)) + b := by rw [Nat.add_mul, Nat.one_mul, Nat.mul_assoc, Nat.mul_comm (X / b)]
  rw [h3]
  omega
theorem rdiv_no {X b x R : Nat} (hb : 0 < b) (hR : R = x + 2 * (X % b)) (h : R < b) : (2 * X + x) / b = 2 * (X / b) ∧ (2 * X + x) % b = R := by
  have h1 := Nat.div_add_mod X b
  refine divmod_of ?_ h
  have h3 : 2 * (X / b) * b = 2 * (b * (X / b)) := by rw [Nat.mul_assoc, Nat.mul_comm (X / b)]
  rw [h3]
  omega
theorem rq_set {qs : List Bool} {l j Y : Nat} (hl : qs.length = l) (hj : j < l) (h : vf 2 (dig d1 qs) l = Y * 2 ^ (j + 1)) (h0 : dig d1 qs j = 0) : vf 2 (dig d1 (qs.set j true)) l = (2 * Y + 1) * 2 ^ j := by
  have h1 := vf_set (β := 2) (f := dig d1 qs) (v := 1) hj
  rw [h0, Nat.zero_mul, Nat.add_zero, Nat.one_mul, h] at h1
  have h2 : vf 2 (dig d1 (qs.set j true)) l = vf 2 (fun i => if i = j then 1 else dig d1 qs i) l := vf_congr fun i hi => by rw [dig_set (by omega)]; rfl
  rw [h2, h1, Nat.add_mul, Nat.one_mul, Nat.pow_succ]
  have : Y * (2 ^ j * 2) = 2 * Y * 2 ^ j := by ac_rfl
  omega
theorem rq_keep {Y V j : Nat} (h : V = Y * 2 ^ (j + 1)) : V = 2 * Y * 2 ^ j := by
  rw [h, Nat.pow_succ]; ac_rfl
theorem blen_mod {a b k : Nat} (h : blen b ≤ k) (hb : 0 < b) : blen (a % b) ≤ k := Nat.le_trans (blen_mono (Nat.le_of_lt (Nat.mod_lt _ hb))) h
end
/- The helpers of the laws on numbers, walked: Same, Num, ref, lives. -/
section
open Go.RowKit
open Nt
attribute [local go_sem] steady steadyUpon Cls same_cell by8 str_eq

/-- Bytes that can be read in a world give the same string in every later one. -/
theorem nstr_cls {W : World} {A : Option Addr} {n c : Nat} {bs : List (BitVec 8)} (hS : Sl by8 W A bs) (hn : bs.length = n) (x : Wd (Ext W)) :
    (convert 25 9 (.slice A n c)).run Try.prog x.w = .ok (.string (str bs)) x.w :=
  run_str Try.n_under_bs Try.n_under8 Try.n_underS (hS.ext x.ok) hn
theorem nstr_run {W : World} {A : Option Addr} {n c : Nat} {bs : List (BitVec 8)} (hS : Sl by8 W A bs) (hn : bs.length = n) :
    (convert 25 9 (.slice A n c)).run Try.prog W = .ok (.string (str bs)) W :=
  run_str Try.n_under_bs Try.n_under8 Try.n_underS hS hn
theorem toB_eq (x y : Nat) : decide (toB x (bytelen x) = toB y (bytelen y)) = decide (x = y) := by
  rw [Bool.eq_iff_iff]
  simp only [decide_eq_true_eq]
  constructor
  · intro h
    have := congrArg ofB h
    rwa [ofB_toB x _ (lt_bytelen x), ofB_toB y _ (lt_bytelen y)] at this
  · intro h; rw [h]
theorem Fit.blen {k n : Nat} (h : Fit k n) : blen n ≤ 32 * k := by
  rw [blen_le_iff, Nat.pow_mul]; exact h

theorem num_cut (A : Option Addr) (n c m : Nat) (bs : List (BitVec 8)) (w : World) (hmin : min (n : Int) 48 = (m : Int)) (hlen : (bs.take 48).length = m) (hm48 : m ≤ 48) (hmc : m ≤ c) (hc : n ≤ 9223372036854775807) (hS : Sl by8 w A bs) :
    Calls Try.prog 85 #[.slice A n c] w (RetN w (ofB (bs.take 48))) := by
  have hs1 : ∀ w, (Instr.sliceAt 25 (.slice A n c) none (some (.int .i64 (m : Int))) none).run Try.prog w = .ok (.slice A m c) w := fun w => run_cut_h Try.n_el8.under Try.n_sz8 A n c m .i64 (by omega) w
  have Hlen := hide hlen
  have HS := hide hS
  clear hlen hS
  go_enter Try.func85, Try.ntmps85
  go_wp2_with fail
  refine (from_any A m c (bs.take 48) _ Hlen.out (by omega) (((HS.out.take 48)).ext (by repeat (first | (with_reducible exact Upd.refl _ _) | (with_reducible assumption) | (refine Upd.setCell ?_ (.inr (by first | exact Nat.le_refl _ | (dsimp only; omega) | (simp; done) | (simp; omega))) _) | (with_reducible refine Upd.alloc ?_ _) | (with_reducible refine Upd.drew ?_) | (with_reducible refine Upd.trans ?_ (by with_reducible assumption)))))).mono ?_
  rintro e w1 ⟨A1, l1, c1, rfl, hV, hU⟩
  have hE : Ext w w1 := (by repeat (first | (with_reducible exact Upd.refl _ _) | (with_reducible assumption) | (refine Upd.setCell ?_ (.inr (by first | exact Nat.le_refl _ | (dsimp only; omega) | (simp; done) | (simp; omega))) _) | (with_reducible refine Upd.alloc ?_ _) | (with_reducible refine Upd.drew ?_) | (with_reducible refine Upd.trans ?_ (by with_reducible assumption))))
  have hB := (Box.new w 153 (.slice none 0 0)).ext hU
  have q1 := hB.cell
  have q2 := hB.frozen
  have q3 := hB.lt
  clear hU
  go_wp2
  have q4 := ((hB.set (.slice A1 l1 c1)).alloc (.cells #[.slice A1 l1 c1] 153)).cell
  exact bodyPost_ret (v := .agg #[.slice A1 l1 c1]) (by simp [results, Try.results85, go_sem, q4]) rfl ⟨_, _, _, rfl, (hV.far (v := .slice A1 l1 c1) hB.cell).ext ((Upd.refl _ _).alloc _), (hE.setCell (p := ⟨w.heap.size, 0, none⟩) (.inr (by simp)) _).alloc _⟩
/-- Bytes that came in. -/
def In8 (w : World) (A : Option Addr) (n c : Nat) (bs : List (BitVec 8)) : Prop := bs.length = n ∧ n ≤ c ∧ c ≤ maxLen ∧ Sl by8 w A bs
theorem In8.ext {w w' : World} {A : Option Addr} {n c : Nat} {bs : List (BitVec 8)} (h : In8 w A n c bs) (hu : Ext w w') : In8 w' A n c bs := ⟨h.1, h.2.1, h.2.2.1, h.2.2.2.ext hu⟩
theorem cut_min {n : Nat} {bs : List (BitVec 8)} (hl : bs.length = n) : min (n : Int) 48 = ((min n 48 : Nat) : Int) ∧ (bs.take 48).length = min n 48 ∧ min n 48 ≤ 48 ∧ min n 48 ≤ n := by
  refine ⟨by omega, by rw [List.length_take]; omega, by omega, by omega⟩
theorem num_any (A : Option Addr) (n c : Nat) (bs : List (BitVec 8)) (w : World) (h : In8 w A n c bs) :
    Calls Try.prog 85 #[.slice A n c] w (RetN w (ofB (bs.take 48))) := by
  obtain ⟨h1, h2, h3, h4⟩ := cut_min h.1
  have := h.2.2.1
  unfold maxLen at this
  exact num_cut A n c _ bs w h1 h2 h3 (Nat.le_trans h4 h.2.1) (by have := h.2.1; omega) h.2.2.2
theorem fit_48 (bs : List (BitVec 8)) : Fit 12 (ofB (bs.take 48)) := by
  have h1 := ofB_lt (bs.take 48)
  unfold Fit
  refine Nat.lt_of_lt_of_le h1 ?_
  rw [show W32 ^ 12 = 256 ^ 48 by decide]
  exact Nat.pow_le_pow_right (by omega) (by rw [List.length_take]; omega)

end
/- Words for the laws on numbers. -/
section
open Go.RowKit
open Nt

theorem name_c {P : Program} {K : Nat} {args : Array Value} {Q : Ending → World → Prop} {W : World} (h : ∀ W', W' = W → Calls P K args W' Q) : Calls P K args W Q := h W rfl
theorem cmpI_ge {a b : Nat} (h : b ≤ a) : 0 ≤ cmpI a b := by
  rcases Int.lt_or_le (cmpI a b) 0 with h1 | h1
  · rw [cmpI_neg] at h1; omega
  · exact h1
theorem cmpI_lt {a b : Nat} (h : a < b) : cmpI a b = -1 := by unfold cmpI; rw [if_pos h]
theorem cmpI_eq {a : Nat} : cmpI a a = 0 := by unfold cmpI; rw [if_neg (Nat.lt_irrefl a), if_pos rfl]
theorem cmpI_gt {a b : Nat} (h : b < a) : cmpI a b = 1 := by unfold cmpI; rw [if_neg (by omega), if_neg (by omega)]
theorem cmp_shift {x y z : Nat} : cmpI (x + z) (y + z) = cmpI x y := by
  unfold cmpI
  by_cases h1 : x < y
  · rw [if_pos h1, if_pos (by omega)]
  · rw [if_neg h1, if_neg (by omega)]
    by_cases h2 : x = y
    · rw [if_pos h2, if_pos (by omega)]
    · rw [if_neg h2, if_neg (by omega)]
theorem cmp_scale {x y z : Nat} (hz : 0 < z) : cmpI (x * z) (y * z) = cmpI x y := by
  unfold cmpI
  by_cases h1 : x < y
  · rw [if_pos h1, if_pos (Nat.mul_lt_mul_of_pos_right h1 hz)]
  · rw [if_neg h1, if_neg (by have := Nat.mul_le_mul_right z (show y ≤ x by omega); omega)]
    by_cases h2 : x = y
    · rw [if_pos h2, if_pos (by rw [h2])]
    · rw [if_neg h2, if_neg (by have := Nat.mul_lt_mul_of_pos_right (show y < x by omega) hz; omega)]
end
end Go.Proofs.Ytjdodhooojjldaa
