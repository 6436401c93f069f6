/- The document's numbers out of bytes and small numbers, and back, walked: Of, Small, Bytes, Get. -/
import Derived.Test.YtekpjdfgpggcnaaRefB
namespace Go.Proofs.Ytekpjdfgpggcnaa
set_option linter.unusedSimpArgs false
set_option linter.unusedVariables false
open Go.RowKit
open Nt
attribute [local go_sem] steady steadyUpon Cls same_cell by8 wrap_w8

theorem par_nat {v : Nat} {r : Nat} (h : v % 2 = r) : (v : Int) % 2 = (r : Int) := by omega
theorem small_bd {v j N : Nat} (h : v * 2 ^ j ≤ N) (hN : N < 18446744073709551616) (hv : 0 < v) : j < 64 := by
  have h1 : 2 ^ j ≤ v * 2 ^ j := Nat.le_mul_of_pos_left _ hv
  have h2 : 2 ^ j < 2 ^ 64 := by omega
  exact (Nat.pow_lt_pow_iff_right (by omega)).1 h2
theorem rsmall_next {zs : List Bool} {v j N : Nat} {b : Bool} (hz : zs.length = j) (h : v * 2 ^ j + vf 2 (dig d1 zs) j = N) (hb : d1 b = v % 2) : v / 2 * 2 ^ (j + 1) + vf 2 (dig d1 (zs ++ [b])) (j + 1) = N := by
  rw [vf_succ, vf_append_left (by omega), dig_append_right (by omega), hz, Nat.sub_self, ← h]
  show _ + (_ + d1 b * 2 ^ j) = _
  rw [hb, Nat.pow_succ]
  have e := congrArg (· * 2 ^ j) (Nat.div_add_mod v 2)
  simp only [Nat.add_mul] at e
  have e2 : v / 2 * (2 ^ j * 2) = 2 * (v / 2) * 2 ^ j := by ac_rfl
  omega
set_option maxRecDepth 100000 in
set_option maxHeartbeats 1000000 in
theorem rsmall_any (N : Nat) (w : World) (hN : N < 18446744073709551616) :
    Calls Try.prog 31 #[.int .u64 N] w (RetR w N) := by
  have HN := hide hN
  clear hN
  go_enter Try.func31, Try.ntmps31
  go_wp2
  go_loopw [0, 3] (fun u o wr => ∃ (j v : Nat) (zs : List Bool) (Z : Option Addr) (cz : Nat), j ≤ 64 ∧ u = .int .u64 (v : Nat) ∧ o = .slice Z j cz ∧ zs.length = j ∧ Own wr w.heap.size 4 Z cz (zs.map Value.bool) ∧ v * 2 ^ j + vf 2 (dig d1 zs) j = N ∧ (v = 0 → j = 0 ∨ dig d1 zs (j - 1) ≠ 0) ∧ Ext w wr) (fun u _ _ => (intOf u).toNat)
  case atStart => exact ⟨0, N, [], _, _, Nat.zero_le _, rfl, rfl, rfl, ⟨rfl, .inr ⟨w.heap.size, 0, #[], rfl, Nat.le_refl _, heap_alloc_new w _, Nat.le_refl _, Nat.zero_le _, rfl, rfl⟩⟩, by rw [Nat.pow_zero, Nat.mul_one]; rfl, fun _ => .inl rfl, (Upd.refl _ _).alloc _⟩
  case round =>
    obtain ⟨j, v, zs, Z, cz, hj, rfl, rfl, hzl, hO, hv, ht, hE⟩ := hrel
    have hvb : v ≤ 18446744073709551615 := by
      have h1 : v * 1 ≤ v * 2 ^ j := Nat.mul_le_mul_left _ (Nat.pow_pos (by omega))
      have := HN.out
      omega
    have hj64 : 0 < v → j < 64 := fun h => small_bd (N := N) (by omega) HN.out h
    have Hzl := hide hzl
    have Hv := hide hv
    have Ht := hide ht
    clear hzl hv ht
    by_cases h0 : 0 < v
    · have hj' := hj64 h0
      clear hj64
      have hvi : (0 : Int) < (v : Int) := by omega
      have hvi2 : (v : Int) ≤ 18446744073709551615 := by omega
      clear hvb
      rcases Nat.mod_two_eq_zero_or_one v with hp | hp
      · skip
        -- false the bit
        have hs := hide (rsmall_next (b := false) Hzl.out Hv.out (by rw [hp]; rfl))
        have hpi := par_nat hp
        clear hp
        go_wp2_with (at_builtin; go_must (refine wpList_apd Value.bool one1 Try.n_el1 zs [false] (zs ++ [false]) (j + 1) rfl (by rw [List.length_append, Hzl.out]; rfl) (by omega) (by unfold maxLen; omega) rfl rfl rfl Hzl.out (hO.ext ((Upd.refl _ _).alloc _)) rfl rfl (Sl.new Value.bool _ _ [false]) (by have := hE.size; simp; omega) ?_); intro Z2 c2 w3 hO3 hU3 hin3)
        go_roundw
        case rel => exact ⟨j + 1, v / 2, zs ++ [false], _, _, by omega, (by congr 1), rfl, by rw [List.length_append, Hzl.out]; rfl, hO3, hs.out, (fun h0 => by
          have h1 : v = 1 := by omega
          subst h1
          right
          rw [Nat.add_sub_cancel, dig_append_right (by rw [Hzl.out]; exact Nat.le_refl _), Hzl.out, Nat.sub_self]
          first | (exact absurd hpi (by decide)) | decide), Upd.fresh hU3 (hE.alloc _) (fun i hi => (hO.in_ hi).1)⟩
        case measure => simp [intOf]; omega
      · skip
        -- true the bit
        have hs := hide (rsmall_next (b := true) Hzl.out Hv.out (by rw [hp]; rfl))
        have hpi := par_nat hp
        clear hp
        go_wp2_with (at_builtin; go_must (refine wpList_apd Value.bool one1 Try.n_el1 zs [true] (zs ++ [true]) (j + 1) rfl (by rw [List.length_append, Hzl.out]; rfl) (by omega) (by unfold maxLen; omega) rfl rfl rfl Hzl.out (hO.ext ((Upd.refl _ _).alloc _)) rfl rfl (Sl.new Value.bool _ _ [true]) (by have := hE.size; simp; omega) ?_); intro Z2 c2 w3 hO3 hU3 hin3)
        go_roundw
        case rel => exact ⟨j + 1, v / 2, zs ++ [true], _, _, by omega, (by congr 1), rfl, by rw [List.length_append, Hzl.out]; rfl, hO3, hs.out, (fun h0 => by
          have h1 : v = 1 := by omega
          subst h1
          right
          rw [Nat.add_sub_cancel, dig_append_right (by rw [Hzl.out]; exact Nat.le_refl _), Hzl.out, Nat.sub_self]
          first | (exact absurd hpi (by decide)) | decide), Upd.fresh hU3 (hE.alloc _) (fun i hi => (hO.in_ hi).1)⟩
        case measure => simp [intOf]; omega
    · obtain rfl : v = 0 := by omega
      have Ht2 := hide (Ht.out rfl)
      clear hj64 hvb Ht
      go_wp2_with fail
      go_ret
      refine ⟨_, _, _, rfl, NumS.cut hO.sl (by rw [Hzl.out]; exact Nat.le_refl _) (by have := hO.cap.1; rw [List.length_map, Hzl.out] at this; exact this) hO.cap.2 (by have := Hv.out; rwa [Nat.zero_mul, Nat.zero_add] at this) Ht2.out, hE⟩

theorem rof_bit {zs : List Bool} {x : BitVec 8} {q m V : Nat} {b : Bool} (hz : zs.length = 8 * q + m) (h : vf 2 (dig d1 zs) (8 * q + m) = V + d8 x % 2 ^ m * 2 ^ (8 * q)) (hb : d1 b = d8 x / 2 ^ m % 2) :
    vf 2 (dig d1 (zs ++ [b])) (8 * q + m + 1) = V + d8 x % 2 ^ (m + 1) * 2 ^ (8 * q) := by
  rw [vf_succ, vf_append_left (by omega), dig_append_right (by omega), hz, Nat.sub_self, h]
  show _ + d1 b * 2 ^ (8 * q + m) = _
  rw [hb, bits_step (d := d8 x) (k := m), Nat.add_mul, Nat.pow_add]
  have e : d8 x / 2 ^ m % 2 * (2 ^ (8 * q) * 2 ^ m) = d8 x / 2 ^ m % 2 * 2 ^ m * 2 ^ (8 * q) := by ac_rfl
  omega
theorem rof_byte {zs : List Bool} {bs : List (BitVec 8)} {n q : Nat} (hn : bs.length = n) (hq : q < n) (h : vf 2 (dig d1 zs) (8 * q + 8) = vf 256 (bdig bs) q + d8 (gat bs (n - 1 - q)) % 2 ^ 8 * 2 ^ (8 * q)) : vf 2 (dig d1 zs) (8 * (q + 1)) = vf 256 (bdig bs) (q + 1) := by
  rw [show 8 * (q + 1) = 8 * q + 8 by omega, h, vf_succ, pow256, Nat.mod_eq_of_lt (d8_lt _)]
  unfold bdig dig
  rw [hn]
theorem bit_int {x : BitVec 8} {m r : Nat} (h : d8 x / 2 ^ m % 2 = r) : (n8 x / 2 ^ m).tmod 2 = (r : Int) := by
  rw [n8_d, show ((d8 x : Nat) : Int) / 2 ^ m = ((d8 x / 2 ^ m : Nat) : Int) by simp, Int.tmod_eq_emod_of_nonneg (Int.natCast_nonneg _)]
  omega
set_option maxRecDepth 100000 in
set_option maxHeartbeats 1000000 in
theorem rof_any (A : Option Addr) (n c : Nat) (bs : List (BitVec 8)) (w : World) (hn : bs.length = n) (hl : n ≤ 1000000) (hS : Sl by8 w A bs) :
    Calls Try.prog 55 #[.slice A n c] w (RetR w (ofB bs)) := by
  have Hn := hide hn
  have HS := hide hS
  clear hn hS
  go_enter Try.func55, Try.ntmps55
  go_wp2
  go_loopw [4, 3] (fun i o wr => ∃ (j q l : Nat) (cc : Int) (zs : List Bool) (Z : Option Addr) (cz : Nat), j + q = n ∧ cc = (j : Int) - 1 ∧ i = .int .i64 cc ∧ l = 8 * q ∧ o = .slice Z l cz ∧ zs.length = l ∧ Own wr w.heap.size 4 Z cz (zs.map Value.bool) ∧ vf 2 (dig d1 zs) (8 * q) = vf 256 (bdig bs) q ∧ Ext w wr) (fun i _ _ => (intOf i + 1).toNat)
  case atStart => exact ⟨n, 0, 0, _, [], _, _, by omega, by omega, rfl, rfl, rfl, rfl, ⟨rfl, .inr ⟨w.heap.size, 0, #[], rfl, Nat.le_refl _, heap_alloc_new w _, Nat.le_refl _, Nat.zero_le _, rfl, rfl⟩⟩, rfl, (Upd.refl _ _).alloc _⟩
  case round =>
    obtain ⟨j, q, l, cc, zs, Z, cz, hj, hcc, rfl, hlq, rfl, hzl, hO, hv, hE⟩ := hrel
    subst hlq
    have Hzl := hide hzl
    have Hv := hide hv
    clear hzl hv
    rcases j with _ | j
    · obtain rfl : cc = -1 := by omega
      obtain rfl : q = n := by omega
      clear hcc
      go_wp2_with fail
      refine (rtrim_any Z (8 * q) cz zs _ Hzl.out (by have := hO.cap.1; rw [List.length_map, Hzl.out] at this; exact this) hO.cap.2 hO.sl).mono ?_
      rintro e w4 ⟨A4, l4, c4, rfl, hV4, hU4⟩
      go_wp2
      go_ret
      exact ⟨_, _, _, rfl, hV4.of_eq (by unfold numOf ofB; rw [Hzl.out, Hv.out, Hn.out]), hE.trans hU4⟩
    · obtain rfl : cc = (j : Int) := by omega
      clear hcc
      have hj0 : (0 : Int) ≤ (j : Int) := by omega
      obtain ⟨V, hV⟩ : ∃ V, V = vf 256 (bdig bs) q := ⟨_, rfl⟩
      have hHV := hide hV
      have hv0 := Hv.out
      rw [← hV] at hv0
      have Hv0 := hide hv0
      clear hV hv0 Hv
      obtain ⟨x, hx⟩ : ∃ x, gat bs j = x := ⟨_, rfl⟩
      have Hx := hide hx
      clear hx
      go_wp2_with fail
      go_loopw [5, 3] (fun i o wr => ∃ (m l : Nat) (zs : List Bool) (Z : Option Addr) (cz : Nat), m ≤ 8 ∧ i = .int .i64 (m : Nat) ∧ l = 8 * q + m ∧ o = .slice Z l cz ∧ zs.length = 8 * q + m ∧ Own wr w.heap.size 4 Z cz (zs.map Value.bool) ∧ vf 2 (dig d1 zs) (8 * q + m) = V + d8 x % 2 ^ m * 2 ^ (8 * q) ∧ Ext w wr) (fun i _ _ => 8 - (intOf i).toNat)
      case atStart => exact ⟨0, _, zs, Z, cz, by omega, rfl, rfl, rfl, Hzl.out, hO, by rw [Nat.pow_zero, Nat.mod_one, Nat.zero_mul]; exact Hv0.out, hE⟩
      case round =>
        clear hO hE Hzl Hv0
        obtain ⟨m, l, zs, Z, cz, hm, rfl, hlm, rfl, hzl, hO, hv, hE⟩ := hrel
        subst hlm
        have Hzl := hide hzl
        have Hv := hide hv
        clear hzl hv
        by_cases hm8 : m < 8
        · obtain ⟨b1, o1, rfl, hbl1, hcells⟩ := (HS.out.ext hE).open_ (by rw [Hn.out]; omega)
          have hcell := hcells j (by rw [Hn.out]; omega)
          rw [Hx.out] at hcell
          obtain ⟨hx1, hx2⟩ := n8_bd x
          clear hcells
          rcases Nat.mod_two_eq_zero_or_one (d8 x / 2 ^ m) with hp | hp
          · skip
            -- false the bit
            have hs := hide (rof_bit (b := false) Hzl.out Hv.out (by rw [hp]; rfl))
            have hpi := bit_int hp
            clear hp
            go_wp2_with (at_builtin; go_must (refine wpList_apd Value.bool one1 Try.n_el1 zs [false] (zs ++ [false]) (8 * q + m + 1) rfl (by rw [List.length_append, Hzl.out]; rfl) (by omega) (by unfold maxLen; omega) rfl rfl rfl Hzl.out (hO.ext ((Upd.refl _ _).alloc _)) rfl rfl (Sl.new Value.bool _ _ [false]) (by have := hE.size; simp; omega) ?_); intro Z2 c2 w3 hO3 hU3 hin3)
            go_roundw
            case rel => exact ⟨m + 1, _, zs ++ [false], _, _, by omega, by go_num, rfl, rfl, by rw [List.length_append, Hzl.out]; rfl, hO3, hs.out, Upd.fresh hU3 (hE.alloc _) (fun i hi => (hO.in_ hi).1)⟩
            case measure => simp [intOf]; omega
          · skip
            -- true the bit
            have hs := hide (rof_bit (b := true) Hzl.out Hv.out (by rw [hp]; rfl))
            have hpi := bit_int hp
            clear hp
            go_wp2_with (at_builtin; go_must (refine wpList_apd Value.bool one1 Try.n_el1 zs [true] (zs ++ [true]) (8 * q + m + 1) rfl (by rw [List.length_append, Hzl.out]; rfl) (by omega) (by unfold maxLen; omega) rfl rfl rfl Hzl.out (hO.ext ((Upd.refl _ _).alloc _)) rfl rfl (Sl.new Value.bool _ _ [true]) (by have := hE.size; simp; omega) ?_); intro Z2 c2 w3 hO3 hU3 hin3)
            go_roundw
            case rel => exact ⟨m + 1, _, zs ++ [true], _, _, by omega, by go_num, rfl, rfl, by rw [List.length_append, Hzl.out]; rfl, hO3, hs.out, Upd.fresh hU3 (hE.alloc _) (fun i hi => (hO.in_ hi).1)⟩
            case measure => simp [intOf]; omega
        · obtain rfl : m = 8 := by omega
          have hfin := rof_byte (zs := zs) (bs := bs) Hn.out (show q < n by omega) (by rw [Hv.out, hHV.out, ← Hx.out, show n - 1 - q = j by omega])
          have Hfin := hide hfin
          clear hfin
          go_wp2_with fail
          go_roundw
          case rel => exact ⟨j, q + 1, _, _, zs, _, _, by omega, rfl, rfl, rfl, rfl, Hzl.out, hO, Hfin.out, hE⟩
          case measure => simp [intOf]

def bval (zs : List (BitVec 8)) (size : Nat) : Nat := vf 256 (fun i => dig d8 zs (size - 1 - i)) size
theorem ofB_inj {bs cs : List (BitVec 8)} (hl : bs.length = cs.length) (h : ofB bs = ofB cs) : bs = cs := by
  have hd : ∀ i, i < bs.length → bdig bs i = bdig cs i := fun i hi => vf_inj (β := 256) (f := bdig bs) (g := bdig cs) (by decide) (n := bs.length) (fun i _ => d8_lt _) (fun i _ => d8_lt _) (by unfold ofB at h; rw [h, hl]) hi
  apply List.ext_getElem hl
  intro i h1 h2
  have := hd (bs.length - 1 - i) (by omega)
  unfold bdig dig at this
  rw [← hl, show bs.length - 1 - (bs.length - 1 - i) = i by omega, gat_lt h1, gat_lt h2] at this
  exact BitVec.eq_of_toNat_eq this
theorem rbytes_step {zs : List (BitVec 8)} {xs : List Bool} {size i : Nat} (hz : zs.length = size) (hi : i / 8 < size) (h : ofB zs = vf 2 (dig d1 xs) i) (hx : dig d1 xs i = 1) :
    ofB (zs.set (size - 1 - i / 8) (w8 (n8 (gat zs (size - 1 - i / 8)) + n8 (w8 (2 ^ (i % 8)))))) = vf 2 (dig d1 xs) (i + 1) := by
  unfold ofB at h ⊢
  rw [List.length_set, hz]
  rw [hz] at h
  have hp := part_digit (β := 256) (γ := 2) (m := 8) (N := size) (i := i) (l := bdig zs) (by decide) (by decide) (by decide) (fun j _ => d8_lt _) h (vf_lt fun i _ => d1_lt _) hi
  have hb : bdig zs (i / 8) = d8 (gat zs (size - 1 - i / 8)) := by unfold bdig dig; rw [hz]
  have h8 : 2 ^ (i % 8) ≤ 2 ^ 7 := Nat.pow_le_pow_right (by omega) (by omega)
  have h28 : (2 : Nat) ^ 7 = 128 := rfl
  have hc : vf 256 (bdig (zs.set (size - 1 - i / 8) (w8 (n8 (gat zs (size - 1 - i / 8)) + n8 (w8 (2 ^ (i % 8))))))) size = vf 256 (fun j => if j = i / 8 then bdig zs j + 1 * 2 ^ (i % 8) else bdig zs j) size := vf_congr fun j hj => by
    have hd : bdig (zs.set (size - 1 - i / 8) (w8 (n8 (gat zs (size - 1 - i / 8)) + n8 (w8 (2 ^ (i % 8)))))) j = if size - 1 - j = size - 1 - i / 8 then d8 (w8 (n8 (gat zs (size - 1 - i / 8)) + n8 (w8 (2 ^ (i % 8))))) else dig d8 zs (size - 1 - j) := by
      unfold bdig
      rw [List.length_set, hz, dig_set (by omega)]
    rw [hd]
    by_cases e : j = i / 8
    · subst e
      rw [if_pos rfl, if_pos rfl]
      have e1 : n8 (w8 ((2 : Int) ^ (i % 8))) = ((2 ^ (i % 8) : Nat) : Int) := by
        rw [show (2 : Int) ^ (i % 8) = ((2 ^ (i % 8) : Nat) : Int) by simp, n8_d, d8_w8, Nat.mod_eq_of_lt (by omega)]
      have hlt : d8 (gat zs (size - 1 - i / 8)) + 2 ^ (i % 8) < 256 := by
        rw [hb] at hp
        have h9 : i % 8 + 1 ≤ 8 := by omega
        have h10 : 2 ^ (i % 8 + 1) ≤ 2 ^ 8 := Nat.pow_le_pow_right (by omega) h9
        rw [Nat.pow_succ] at h10
        omega
      rw [e1, n8_d, show (((d8 (gat zs (size - 1 - i / 8)) : Nat) : Int) + ((2 ^ (i % 8) : Nat) : Int)) = ((d8 (gat zs (size - 1 - i / 8)) + 2 ^ (i % 8) : Nat) : Int) by omega, d8_w8, Nat.mod_eq_of_lt hlt, Nat.one_mul, hb]
    · rw [if_neg e, if_neg (by omega)]
      unfold bdig
      rw [hz]
  rw [hc]
  exact part_step (γ := 2) (m := 8) (l := bdig zs) (f := dig d1 xs) (d := 1) (by decide) h hi hx rfl
theorem toB_of {zs : List (BitVec 8)} {n size : Nat} (hz : zs.length = size) (h : ofB zs = n) : zs = toB n size := by
  refine ofB_inj (by rw [hz, toB_length]) ?_
  rw [ofB_toB n size (by rw [← h, ← hz]; exact ofB_lt zs), h]
theorem ofB_zeros (size : Nat) : ofB (List.replicate size (default : BitVec 8)) = 0 := by
  unfold ofB
  rw [vf_zero_tail (Nat.zero_le _) (fun i _ hi => by
    unfold bdig dig
    rw [List.length_replicate] at hi ⊢
    rw [gat_replicate (by omega)]; rfl)]
  rfl
/-- Fresh bytes, or none, and whether there are some. -/
def RetBo (w : World) (l : Nat) (bs : List (BitVec 8)) (m : Bool) (e : Ending) (w' : World) : Prop :=
  ∃ A c, e = .returned (.tuple #[.slice A l c, .bool m]) ∧ bs.length = l ∧ Own w' w.heap.size 5 A c (bs.map by8) ∧ Ext w w'
set_option maxRecDepth 100000 in
set_option maxHeartbeats 1000000 in
theorem rbytes_short (v : Value) (n k size : Nat) (w : World) (hV : RefV w v n) (hF : blen n ≤ k) (hk : k ≤ 10000000) (hs : size < bytelen n) :
    Calls Try.prog 18 #[v, .int .i64 size] w (RetBo w 0 [] false) := by
  obtain ⟨A, la, ca, xs, rfl, hlx, hca, hma, hSa, hTa, hna⟩ := hV.open_
  have hla : la = blen n := by have := bits_len (hlx ▸ hTa); rw [hna, hlx] at this; exact this
  have hs' : (size : Int) < ((la : Int) + 7) / 8 := by unfold bytelen at hs; omega
  have hlk : la ≤ k := by omega
  clear hV hTa hSa hlx hna hs hF hla
  go_enter Try.func18, Try.ntmps18
  go_wp2
  go_ret2
  exact ⟨none, 0, rfl, rfl, Own.nil, Upd.refl _ _⟩
set_option maxRecDepth 100000 in
set_option maxHeartbeats 1000000 in
theorem rbytes_any (v : Value) (n k size : Nat) (w : World) (hV : RefV w v n) (hF : blen n ≤ k) (hk : k ≤ 10000000) (hs : bytelen n ≤ size) (hs2 : size ≤ 100000000) :
    Calls Try.prog 18 #[v, .int .i64 size] w (RetBo w size (toB n size) true) := by
  obtain ⟨A, la, ca, xs, rfl, hlx, hca, hma, hSa, hTa, hna⟩ := hV.open_
  have hla : la = blen n := by have := bits_len (hlx ▸ hTa); rw [hna, hlx] at this; exact this
  have hs' : ¬ (size : Int) < ((la : Int) + 7) / 8 := by unfold bytelen at hs; omega
  have hlk : la ≤ k := by omega
  have hl8 : la ≤ 8 * size := by unfold bytelen at hs; omega
  have HSa := hide hSa
  have Hna := hide hna
  have Hlx := hide hlx
  clear hV hTa hSa hlx hna hs hF hla
  go_enter Try.func18, Try.ntmps18
  go_wp2_with (at_make; go_must (refine wpList_mk _ _ _ Try.n_el8 rfl rfl size rfl rfl rfl rfl (by omega) (by unfold maxLen; omega) by8 rfl rfl (B := w.heap.size) (by simp) ?_); intro g w2 hO hg hU)
  subst hg
  go_loopw [19] (fun i wr => ∃ (j : Nat) (zs : List (BitVec 8)), j ≤ la ∧ i = .int .i64 j ∧ zs.length = size ∧ Own wr w.heap.size 5 (some ⟨w.heap.size, 0, none⟩) size (zs.map by8) ∧ ofB zs = vf 2 (dig d1 xs) j ∧ Ext w wr) (fun i _ => la - (intOf i).toNat)
  case atStart => exact ⟨0, _, Nat.zero_le _, rfl, List.length_replicate, hO, ofB_zeros _, hU⟩
  case round =>
    clear hO hU
    obtain ⟨j, zs, hj, rfl, hzl, hO, hv, hE⟩ := hrel
    have Hzl := hide hzl
    have Hv := hide hv
    clear hzl hv
    by_cases hjl : j < la
    · obtain ⟨b1, o1, rfl, hbl1, hcells⟩ := (HSa.out.ext hE).open_ (by rw [Hlx.out]; omega)
      have hcell := hcells j (by rw [Hlx.out]; omega)
      obtain ⟨x, hx⟩ : ∃ x, gat xs j = x := ⟨_, rfl⟩
      rw [hx] at hcell
      have hxd : dig d1 xs j = d1 x := by unfold dig; rw [hx]
      have Hx := hide hxd
      clear hcells hx hxd
      cases x with
      | false =>
        have hnx : ofB zs = vf 2 (dig d1 xs) (j + 1) := by rw [vf_succ, Hx.out, Hv.out]; show _ = _ + 0 * _; omega
        have Hnx := hide hnx
        clear hnx
        go_wp2_with fail
        go_roundw
        case rel => exact ⟨j + 1, zs, by omega, by go_num, Hzl.out, hO, Hnx.out, hE⟩
        case measure => simp [intOf]; omega
      | true =>
        have hnx := rbytes_step (xs := xs) (i := j) Hzl.out (by omega) Hv.out Hx.out
        obtain ⟨q, hqd⟩ : ∃ q, q = j / 8 := ⟨_, rfl⟩
        obtain ⟨r, hr⟩ : ∃ r, r = j % 8 := ⟨_, rfl⟩
        obtain ⟨I, hI⟩ : ∃ I, I = size - 1 - q := ⟨_, rfl⟩
        have hIs : I < size := by omega
        have hcx := (hO.row.ext (Upd.refl _ _).drew).cell (i := I) (by rw [Hzl.out]; omega)
        go_wp2_with fail
        have e1 : IntKind.i64.wrap ((j : Int) / 8) = (q : Int) := by rw [hqd]; exact IntWalk.i64_in _ (by omega)
        have e2 : (j : Int).tmod 8 = (r : Int) := by rw [hr]; exact IntWalk.rem_in _ _ (by omega)
        have e2' : (j : Int) % 8 = (r : Int) := by rw [hr]; rfl
        have e3 : IntKind.i64.wrap ((size : Int) - 1) = (size : Int) - 1 := IntWalk.i64_in _ (by omega)
        have e4 : IntKind.i64.wrap ((size : Int) - 1 - (q : Int)) = (I : Int) := by rw [show (size : Int) - 1 - (q : Int) = (I : Int) by omega]; exact IntWalk.i64_in _ (by omega)
        have p0 : (0 : Int) ≤ (I : Int) := by omega
        have p1 : (I : Int) < (size : Int) := by omega
        have p2 : (0 : Int) ≤ (r : Int) := by omega
        rw [← hqd, ← hr, ← hI] at hnx
        have Hnx := hide hnx
        have c1 := fun x : Wd (Same wr.drew) => (same_cell x ⟨w.heap.size, I, none⟩).trans hcx
        clear hqd hr hI hnx
        refine wp_region_plan (Same _) 13 [(false,0), (false,1), (false,2), (false,3), (false,4), (false,5), (false,6), (false,7), (false,8), (false,9), (false,10), (false,11), (false,12)] (by kernel_rfl) (by kernel_rfl) rfl (fun hne => ?_)
        repeat (refine head_q rfl (fun K hK => ?_); have hK2 := hide hK; clear hK; go_simp; refine hK2.out _ ?_; clear hK2 K)
        clear e1 e2 e2' e3 e4 c1
        refine head_nil ?_
        try simp only [List.drop_succ_cons, List.drop_zero]
        refine wpList_store_own by8 one8 (w8 (n8 (gat zs I) + n8 (w8 (2 ^ r)))) rfl rfl Try.n_sz8 rfl rfl (hO.ext (Upd.refl _ _).drew) (by rw [Hzl.out]; exact hIs) ?_
        intro w3 hO3 hU3
        go_wp2_with fail
        go_roundw
        case rel => exact ⟨j + 1, _, by omega, by go_num, by rw [List.length_set]; exact Hzl.out, hO3, Hnx.out, Upd.fresh hU3.undrew hE (fun i hi => by unfold only at hi; omega)⟩
        case measure => simp [intOf]; omega
    · obtain rfl : j = la := by omega
      have hfin : zs = toB n size := toB_of Hzl.out (by rw [Hv.out, ← Hna.out]; unfold numOf; rw [Hlx.out])
      subst hfin
      go_wp2_with fail
      go_ret2
      exact ⟨_, _, rfl, toB_length _ _, hO, hE⟩

/-- A number and a mark are handed back. -/
def RetG (w : World) (n : Nat) (m : Int) (e : Ending) (w' : World) : Prop := ∃ A l c, e = .returned (.tuple #[.slice A l c, .int .i64 m]) ∧ RefV w' (.slice A l c) n ∧ Ext w w'
theorem rget_long (A : Option Addr) (n c : Nat) (w : World) (hn : 128 < n) (hm : n ≤ maxLen) :
    Calls Try.prog 15 #[.slice A n c] w (RetG w 0 4) := by
  unfold maxLen at hm
  go_enter Try.func15, Try.ntmps15
  go_wp2
  go_ret2
  exact ⟨_, _, _, rfl, NumS.cut (xs := []) Sl.nil (Nat.le_refl 0) (Nat.le_refl 0) (Nat.zero_le _) rfl (.inl rfl), (Upd.refl _ _).alloc _⟩
theorem rget_any (A : Option Addr) (n c : Nat) (bs : List (BitVec 8)) (w : World) (hn : bs.length = n) (hl : n ≤ 128) (hS : Sl by8 w A bs) :
    Calls Try.prog 15 #[.slice A n c] w (RetG w (ofB bs) 0) := by
  have Hn := hide hn
  have HS := hide hS
  clear hn hS
  go_enter Try.func15, Try.ntmps15
  go_wp2_with fail
  refine (rof_any A n c bs _ Hn.out (by omega) HS.out).mono ?_
  rintro e w1 ⟨A1, l1, c1, rfl, hV, hU⟩
  go_wp2
  go_ret2
  exact ⟨_, _, _, rfl, hV, hU⟩
end Go.Proofs.Ytekpjdfgpggcnaa
