/- The document's sums, differences and order of rows of truths, walked: Add, Sub, Cmp. -/
import Derived.Test.YtekpjdfgpggcnaaRefA
namespace Go.Proofs.Ytekpjdfgpggcnaa
set_option linter.unusedSimpArgs false
set_option linter.unusedVariables false
open Go.RowKit
open Nt
attribute [local go_sem] steady steadyUpon Cls same_cell

theorem bit_mod {s : Nat} {b : Bool} (h : s % 2 = d1 b) : d1 b = s % 2 := h.symm
theorem radd_next {xs ys zs : List Bool} {k c s : Nat} {b : Bool} (hz : zs.length = k) (h : vf 2 (dig d1 zs) k + c * 2 ^ k = vf 2 (dig d1 xs) k + vf 2 (dig d1 ys) k) (hs : c + dig d1 xs k + dig d1 ys k = s) (hb : d1 b = s % 2) :
    vf 2 (dig d1 (zs ++ [b])) (k + 1) + s / 2 * 2 ^ (k + 1) = vf 2 (dig d1 xs) (k + 1) + vf 2 (dig d1 ys) (k + 1) := by
  subst hs
  refine add_step (c := c) ?_ ?_
  · rw [vf_append_left (by omega)]; exact h
  · rw [dig_append_right (by omega), hz, Nat.sub_self]
    exact hb
theorem radd_end {xs ys zs : List Bool} {k : Nat} (hz : zs.length = k) (h : vf 2 (dig d1 zs) k + 0 * 2 ^ k = vf 2 (dig d1 xs) k + vf 2 (dig d1 ys) k) (hx : xs.length ≤ k) (hy : ys.length ≤ k) : numOf 2 d1 zs = numOf 2 d1 xs + numOf 2 d1 ys := by
  unfold numOf
  rw [Nat.zero_mul, Nat.add_zero, vf_out rfl hx, vf_out rfl hy] at h
  rw [hz, h]; rfl
theorem par_int {x y c : Nat} {r : Nat} (h : (c + x + y) % 2 = r) : ((x : Int) + (y : Int) + (c : Int)) % 2 = (r : Int) := by omega

set_option maxRecDepth 100000 in
set_option maxHeartbeats 1000000 in
theorem radd_any (va vb : Value) (a b k : Nat) (w : World) (hVa : RefV w va a) (hVb : RefV w vb b) (hFa : blen a ≤ k) (hFb : blen b ≤ k) (hk : k ≤ 10000000) :
    Calls Try.prog 39 #[va, vb] w (RetR w (a + b)) := by
  obtain ⟨A, la, ca, xs, rfl, hlx, hca, hma, hSa, hTa, hna⟩ := hVa.open_
  obtain ⟨B, lb, cb, ys, rfl, hly, hcb, hmb, hSb, hTb, hnb⟩ := hVb.open_
  have hla : la ≤ k := by have := bits_len (hlx ▸ hTa); rw [hna, hlx] at this; omega
  have hlb : lb ≤ k := by have := bits_len (hly ▸ hTb); rw [hnb, hly] at this; omega
  have HSa := hide hSa
  have HSb := hide hSb
  have Hna := hide hna
  have Hnb := hide hnb
  have Hlx := hide hlx
  have Hly := hide hly
  clear hVa hVb hTa hTb hSa hSb hna hnb hFa hFb hlx hly
  go_enter Try.func39, Try.ntmps39
  go_wp2
  go_loopw [5, 6, 7] (fun o cr i wr => ∃ (j cy : Nat) (zs : List Bool) (Z : Option Addr) (cz : Nat), j ≤ k + 1 ∧ i = .int .i64 j ∧ cr = .int .i64 (cy : Nat) ∧ cy ≤ 1 ∧ o = .slice Z j cz ∧ zs.length = j ∧ Own wr w.heap.size 4 Z cz (zs.map Value.bool) ∧ vf 2 (dig d1 zs) j + cy * 2 ^ j = vf 2 (dig d1 xs) j + vf 2 (dig d1 ys) j ∧ (j ≤ la ∨ j ≤ lb ∨ cy = 0) ∧ Ext w wr) (fun _ _ i _ => k + 1 - (intOf i).toNat)
  case atStart => exact ⟨0, 0, [], _, _, Nat.zero_le _, rfl, rfl, Nat.zero_le _, rfl, rfl, ⟨rfl, .inr ⟨w.heap.size, 0, #[], rfl, Nat.le_refl _, heap_alloc_new w _, Nat.le_refl _, Nat.zero_le _, rfl, rfl⟩⟩, rfl, .inl (Nat.zero_le _), (Upd.refl _ _).alloc _⟩
  case round =>
    obtain ⟨j, cy, zs, Z, cz, hj, rfl, rfl, hcy, rfl, hzl, hO, hv, hside, hE⟩ := hrel
    have Hzl := hide hzl
    have Hv := hide hv
    clear hzl hv
    obtain ⟨x, hx⟩ : ∃ x, dig d1 xs j = x := ⟨_, rfl⟩
    obtain ⟨y, hy⟩ : ∃ y, dig d1 ys j = y := ⟨_, rfl⟩
    have hx1 : x ≤ 1 := by rw [← hx]; exact d1_le _
    have hy1 : y ≤ 1 := by rw [← hy]; exact d1_le _
    have Hx := hide hx
    have Hy := hide hy
    clear hx hy
    have hcap := hO.cap
    by_cases h1 : j < la
    · skip
      rcases Nat.mod_two_eq_zero_or_one (cy + x + y) with hp | hp
      · have hpi := par_int hp
        have hs := hide (radd_next (b := false) Hzl.out Hv.out (by rw [Hx.out, Hy.out]) (by rw [hp]; rfl))
        clear hp
        go_wp2_with fail
        refine (at_any A la ca xs j _ Hlx.out (by omega) (by omega) (HSa.out.ext hE)).mono ?_
        rintro e w' ⟨rfl, rfl⟩
        rw [Hx.out]
        go_wp2_with fail
        refine (at_any B lb cb ys j _ Hly.out (by omega) (by omega) (HSb.out.ext hE)).mono ?_
        rintro e w' ⟨rfl, rfl⟩
        rw [Hy.out]
        go_wp2_with (at_builtin; go_must (refine wpList_apd Value.bool one1 Try.n_el1 zs [false] (zs ++ [false]) (j + 1) rfl (by rw [List.length_append, Hzl.out]; rfl) (by omega) (by unfold maxLen; omega) rfl rfl rfl Hzl.out (hO.ext ((Upd.refl _ _).alloc _)) rfl rfl (Sl.new Value.bool _ _ [false]) (by have := hE.size; simp; omega) ?_); intro Z2 c2 w3 hO3 hU3 hin3)
        go_roundw
        case rel => exact ⟨j + 1, (cy + x + y) / 2, zs ++ [false], _, _, by omega, by go_num, (by congr 1; omega), by omega, rfl, by rw [List.length_append, Hzl.out]; rfl, hO3, hs.out, (by first | omega | (have h1 := Hx.out; have h2 := Hy.out; rw [dig1_out (by rw [Hlx.out]; omega)] at h1; rw [dig1_out (by rw [Hly.out]; omega)] at h2; omega)), Upd.fresh hU3 (hE.alloc _) (fun i hi => (hO.in_ hi).1)⟩
        case measure => simp [intOf]; omega
      · have hpi := par_int hp
        have hs := hide (radd_next (b := true) Hzl.out Hv.out (by rw [Hx.out, Hy.out]) (by rw [hp]; rfl))
        clear hp
        go_wp2_with fail
        refine (at_any A la ca xs j _ Hlx.out (by omega) (by omega) (HSa.out.ext hE)).mono ?_
        rintro e w' ⟨rfl, rfl⟩
        rw [Hx.out]
        go_wp2_with fail
        refine (at_any B lb cb ys j _ Hly.out (by omega) (by omega) (HSb.out.ext hE)).mono ?_
        rintro e w' ⟨rfl, rfl⟩
        rw [Hy.out]
        go_wp2_with (at_builtin; go_must (refine wpList_apd Value.bool one1 Try.n_el1 zs [true] (zs ++ [true]) (j + 1) rfl (by rw [List.length_append, Hzl.out]; rfl) (by omega) (by unfold maxLen; omega) rfl rfl rfl Hzl.out (hO.ext ((Upd.refl _ _).alloc _)) rfl rfl (Sl.new Value.bool _ _ [true]) (by have := hE.size; simp; omega) ?_); intro Z2 c2 w3 hO3 hU3 hin3)
        go_roundw
        case rel => exact ⟨j + 1, (cy + x + y) / 2, zs ++ [true], _, _, by omega, by go_num, (by congr 1; omega), by omega, rfl, by rw [List.length_append, Hzl.out]; rfl, hO3, hs.out, (by first | omega | (have h1 := Hx.out; have h2 := Hy.out; rw [dig1_out (by rw [Hlx.out]; omega)] at h1; rw [dig1_out (by rw [Hly.out]; omega)] at h2; omega)), Upd.fresh hU3 (hE.alloc _) (fun i hi => (hO.in_ hi).1)⟩
        case measure => simp [intOf]; omega
    · by_cases h2 : j < lb
      · skip
        rcases Nat.mod_two_eq_zero_or_one (cy + x + y) with hp | hp
        · have hpi := par_int hp
          have hs := hide (radd_next (b := false) Hzl.out Hv.out (by rw [Hx.out, Hy.out]) (by rw [hp]; rfl))
          clear hp
          go_wp2_with fail
          refine (at_any A la ca xs j _ Hlx.out (by omega) (by omega) (HSa.out.ext hE)).mono ?_
          rintro e w' ⟨rfl, rfl⟩
          rw [Hx.out]
          go_wp2_with fail
          refine (at_any B lb cb ys j _ Hly.out (by omega) (by omega) (HSb.out.ext hE)).mono ?_
          rintro e w' ⟨rfl, rfl⟩
          rw [Hy.out]
          go_wp2_with (at_builtin; go_must (refine wpList_apd Value.bool one1 Try.n_el1 zs [false] (zs ++ [false]) (j + 1) rfl (by rw [List.length_append, Hzl.out]; rfl) (by omega) (by unfold maxLen; omega) rfl rfl rfl Hzl.out (hO.ext ((Upd.refl _ _).alloc _)) rfl rfl (Sl.new Value.bool _ _ [false]) (by have := hE.size; simp; omega) ?_); intro Z2 c2 w3 hO3 hU3 hin3)
          go_roundw
          case rel => exact ⟨j + 1, (cy + x + y) / 2, zs ++ [false], _, _, by omega, by go_num, (by congr 1; omega), by omega, rfl, by rw [List.length_append, Hzl.out]; rfl, hO3, hs.out, (by first | omega | (have h1 := Hx.out; have h2 := Hy.out; rw [dig1_out (by rw [Hlx.out]; omega)] at h1; rw [dig1_out (by rw [Hly.out]; omega)] at h2; omega)), Upd.fresh hU3 (hE.alloc _) (fun i hi => (hO.in_ hi).1)⟩
          case measure => simp [intOf]; omega
        · have hpi := par_int hp
          have hs := hide (radd_next (b := true) Hzl.out Hv.out (by rw [Hx.out, Hy.out]) (by rw [hp]; rfl))
          clear hp
          go_wp2_with fail
          refine (at_any A la ca xs j _ Hlx.out (by omega) (by omega) (HSa.out.ext hE)).mono ?_
          rintro e w' ⟨rfl, rfl⟩
          rw [Hx.out]
          go_wp2_with fail
          refine (at_any B lb cb ys j _ Hly.out (by omega) (by omega) (HSb.out.ext hE)).mono ?_
          rintro e w' ⟨rfl, rfl⟩
          rw [Hy.out]
          go_wp2_with (at_builtin; go_must (refine wpList_apd Value.bool one1 Try.n_el1 zs [true] (zs ++ [true]) (j + 1) rfl (by rw [List.length_append, Hzl.out]; rfl) (by omega) (by unfold maxLen; omega) rfl rfl rfl Hzl.out (hO.ext ((Upd.refl _ _).alloc _)) rfl rfl (Sl.new Value.bool _ _ [true]) (by have := hE.size; simp; omega) ?_); intro Z2 c2 w3 hO3 hU3 hin3)
          go_roundw
          case rel => exact ⟨j + 1, (cy + x + y) / 2, zs ++ [true], _, _, by omega, by go_num, (by congr 1; omega), by omega, rfl, by rw [List.length_append, Hzl.out]; rfl, hO3, hs.out, (by first | omega | (have h1 := Hx.out; have h2 := Hy.out; rw [dig1_out (by rw [Hlx.out]; omega)] at h1; rw [dig1_out (by rw [Hly.out]; omega)] at h2; omega)), Upd.fresh hU3 (hE.alloc _) (fun i hi => (hO.in_ hi).1)⟩
          case measure => simp [intOf]; omega
      · by_cases h3 : 0 < cy
        · skip
          rcases Nat.mod_two_eq_zero_or_one (cy + x + y) with hp | hp
          · have hpi := par_int hp
            have hs := hide (radd_next (b := false) Hzl.out Hv.out (by rw [Hx.out, Hy.out]) (by rw [hp]; rfl))
            clear hp
            go_wp2_with fail
            refine (at_any A la ca xs j _ Hlx.out (by omega) (by omega) (HSa.out.ext hE)).mono ?_
            rintro e w' ⟨rfl, rfl⟩
            rw [Hx.out]
            go_wp2_with fail
            refine (at_any B lb cb ys j _ Hly.out (by omega) (by omega) (HSb.out.ext hE)).mono ?_
            rintro e w' ⟨rfl, rfl⟩
            rw [Hy.out]
            go_wp2_with (at_builtin; go_must (refine wpList_apd Value.bool one1 Try.n_el1 zs [false] (zs ++ [false]) (j + 1) rfl (by rw [List.length_append, Hzl.out]; rfl) (by omega) (by unfold maxLen; omega) rfl rfl rfl Hzl.out (hO.ext ((Upd.refl _ _).alloc _)) rfl rfl (Sl.new Value.bool _ _ [false]) (by have := hE.size; simp; omega) ?_); intro Z2 c2 w3 hO3 hU3 hin3)
            go_roundw
            case rel => exact ⟨j + 1, (cy + x + y) / 2, zs ++ [false], _, _, by omega, by go_num, (by congr 1; omega), by omega, rfl, by rw [List.length_append, Hzl.out]; rfl, hO3, hs.out, (by first | omega | (have h1 := Hx.out; have h2 := Hy.out; rw [dig1_out (by rw [Hlx.out]; omega)] at h1; rw [dig1_out (by rw [Hly.out]; omega)] at h2; omega)), Upd.fresh hU3 (hE.alloc _) (fun i hi => (hO.in_ hi).1)⟩
            case measure => simp [intOf]; omega
          · have hpi := par_int hp
            have hs := hide (radd_next (b := true) Hzl.out Hv.out (by rw [Hx.out, Hy.out]) (by rw [hp]; rfl))
            clear hp
            go_wp2_with fail
            refine (at_any A la ca xs j _ Hlx.out (by omega) (by omega) (HSa.out.ext hE)).mono ?_
            rintro e w' ⟨rfl, rfl⟩
            rw [Hx.out]
            go_wp2_with fail
            refine (at_any B lb cb ys j _ Hly.out (by omega) (by omega) (HSb.out.ext hE)).mono ?_
            rintro e w' ⟨rfl, rfl⟩
            rw [Hy.out]
            go_wp2_with (at_builtin; go_must (refine wpList_apd Value.bool one1 Try.n_el1 zs [true] (zs ++ [true]) (j + 1) rfl (by rw [List.length_append, Hzl.out]; rfl) (by omega) (by unfold maxLen; omega) rfl rfl rfl Hzl.out (hO.ext ((Upd.refl _ _).alloc _)) rfl rfl (Sl.new Value.bool _ _ [true]) (by have := hE.size; simp; omega) ?_); intro Z2 c2 w3 hO3 hU3 hin3)
            go_roundw
            case rel => exact ⟨j + 1, (cy + x + y) / 2, zs ++ [true], _, _, by omega, by go_num, (by congr 1; omega), by omega, rfl, by rw [List.length_append, Hzl.out]; rfl, hO3, hs.out, (by first | omega | (have h1 := Hx.out; have h2 := Hy.out; rw [dig1_out (by rw [Hlx.out]; omega)] at h1; rw [dig1_out (by rw [Hly.out]; omega)] at h2; omega)), Upd.fresh hU3 (hE.alloc _) (fun i hi => (hO.in_ hi).1)⟩
            case measure => simp [intOf]; omega
        · obtain rfl : cy = 0 := by omega
          go_wp2_with fail
          refine (rtrim_any Z j cz zs _ Hzl.out (by have := hO.cap.1; rw [List.length_map, Hzl.out] at this; exact this) hO.cap.2 hO.sl).mono ?_
          rintro e w4 ⟨A4, l4, c4, rfl, hV4, hU4⟩
          go_wp2
          go_ret
          exact ⟨_, _, _, rfl, hV4.of_eq (by rw [radd_end Hzl.out Hv.out (by rw [Hlx.out]; omega) (by rw [Hly.out]; omega), Hna.out, Hnb.out]), hE.trans hU4⟩
end Go.Proofs.Ytekpjdfgpggcnaa
