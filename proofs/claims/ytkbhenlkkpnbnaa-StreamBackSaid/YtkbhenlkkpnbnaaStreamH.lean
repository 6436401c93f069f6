/- The law that the stream put twice is nothing done, and that one byte changes one byte, walked. -/
import Derived.Test.YtkbhenlkkpnbnaaStreamK
namespace Go.Proofs.Ytkbhenlkkpnbnaa
open Go.RowKit
open Strm
attribute [local go_sem] steady steadyUpon Cls by8 by32 by64 str_eq inc_u32 xor_u8

set_option maxHeartbeats 1000000 in
theorem back_long (A B D : Option Addr) (n c m d l f : Nat) (ctr : BitVec 32) (a y : Int) (w : World) (hl : 3000 < l) (hl2 : l ≤ maxLen) :
    Calls Try.prog 5 #[.slice A n c, .int .u32 (n32 ctr), .slice B m d, .slice D l f, .int .i64 a, .int .u8 y] w fun e w' => e = .returned (.bool true) ∧ Ext w w' := by
  unfold maxLen at hl2
  have d1 : decide ((3000 : Int) < (l : Int)) = true := decide_eq_true (by omega)
  go_enter Try.func5, Try.ntmps5
  go_wp2_with fail
  refine (lives_any _).mono ?_
  rintro e w1 ⟨rfl, hU1⟩
  go_wp2_with fail
  refine (lives_any _).mono ?_
  rintro e w2 ⟨rfl, hU2⟩
  go_wp2_with fail
  go_ret
  exact ⟨rfl, hU1.trans hU2⟩

set_option maxHeartbeats 1000000 in
theorem back_wrong (A B D : Option Addr) (n c m d l f : Nat) (ctr : BitVec 32) (a y : Int) (w : World) (hl : l ≤ 3000) (hn2 : n ≤ maxLen) (hm2 : m ≤ maxLen) (h : n ≠ 32 ∨ m ≠ 12) :
    Calls Try.prog 5 #[.slice A n c, .int .u32 (n32 ctr), .slice B m d, .slice D l f, .int .i64 a, .int .u8 y] w fun e w' => e = .returned (.bool true) ∧ Ext w w' := by
  unfold maxLen at hn2 hm2
  have d1 : decide ((3000 : Int) < (l : Int)) = false := decide_eq_false (by omega)
  have h1 : wrongB n m = true := by
    simp only [wrongB, Bool.not_eq_true', Bool.and_eq_false_iff, beq_eq_false_iff_ne]
    exact h
  by_cases h3 : n = 32
  · subst h3
    have d3 : ((m : Int) != 12) = true := by rw [bne_iff_ne]; omega
    clear h
    go_enter Try.func5, Try.ntmps5
    go_wp2_with (first
      | (go_at_call 7; refine (lives_any _).mono ?_; rintro e w1 ⟨rfl, hU1⟩)
      | (go_at_call 11; go_must (refine (xor_wrong _ _ _ _ _ _ _ _ _ _ _ h1).mono ?_); rintro e w3 ⟨rfl, hU3⟩))
    go_ret
    exact ⟨rfl, hU1.trans hU3⟩
  · have d3 : ((n : Int) != 32) = true := by rw [bne_iff_ne]; omega
    clear h h3
    go_enter Try.func5, Try.ntmps5
    go_wp2_with (first
      | (go_at_call 7; refine (lives_any _).mono ?_; rintro e w1 ⟨rfl, hU1⟩)
      | (go_at_call 11; go_must (refine (xor_wrong _ _ _ _ _ _ _ _ _ _ _ h1).mono ?_); rintro e w3 ⟨rfl, hU3⟩))
    go_ret
    exact ⟨rfl, hU1.trans hU3⟩

set_option maxRecDepth 100000 in
set_option maxHeartbeats 2000000 in
theorem back_right (A B D : Option Addr) (c d l f : Nat) (key nonce b : List (BitVec 8)) (ctr : BitVec 32) (a : Int) (y : BitVec 8) (k : Nat) (w : World) (hkl : key.length = 32) (hnl : nonce.length = 12) (hc : 32 ≤ c) (hd : 12 ≤ d)
    (hK : Sl by8 w A key) (hN : Sl by8 w B nonce) (hl : l ≤ 3000) (hl0 : 0 < l) (hbl : b.length = l) (hD : Sl by8 w D b) (hk : k < l) (hak : (IntKind.u64.wrap a).tmod (l : Int) = (k : Int)) :
    Calls Try.prog 5 #[.slice A 32 c, .int .u32 (n32 ctr), .slice B 12 d, .slice D l f, .int .i64 a, .int .u8 (n8 y)] w fun e w' => e = .returned (.bool true) ∧ Ext w w' := by
  have hD' := hide hD
  clear hD
  have Hbl := hide hbl
  clear hbl
  have hK' := hide hK
  clear hK
  have hN' := hide hN
  clear hN
  have Hkl := hide hkl
  clear hkl
  have Hnl := hide hnl
  clear hnl
  have d1 : decide ((3000 : Int) < (l : Int)) = false := decide_eq_false (by omega)
  have d2 : ((l : Int) == 0) = false := by rw [beq_eq_false_iff_ne]; omega
  have d4 : (k : Int) < (l : Int) := by omega
  have d5 : ((l : Int) != (l : Int)) = false := by simp
  go_enter Try.func5, Try.ntmps5
  go_wp2_with fail
  refine (lives_any _).mono ?_
  rintro e w1 ⟨rfl, hU1⟩
  go_wp2_with fail
  refine (xor_any _ _ _ _ _ _ _ key nonce b _ _ Hkl.out Hnl.out hc hd (hK'.out.ext hU1) (hN'.out.ext hU1) Hbl.out.symm (by omega) (hD'.out.ext hU1)).mono ?_
  rintro e w2 ⟨A2, c2, rfl, -, hO2, hU2⟩
  have hU12 := hU1.trans hU2
  have hxl := (xors_length key ctr nonce b).trans Hbl.out
  have Hxl := hide hxl
  clear hxl
  obtain ⟨g2, rfl, hg2, hg2'⟩ := hO2.open_ (by rw [List.length_map, Hxl.out]; exact hl0)
  have hO2' := hide hO2
  clear hO2
  go_wp2_with fail
  refine (xor_any _ _ _ _ _ _ _ key nonce (xors key ctr nonce b) _ _ Hkl.out Hnl.out hc hd (hK'.out.ext hU12) (hN'.out.ext hU12) Hxl.out.symm (by omega) hO2'.out.sl).mono ?_
  rintro e w3 ⟨A3, c3, rfl, -, hO3, hU3⟩
  rw [xors_back] at hO3
  have hU13 := hU12.trans hU3
  have hc1 := run_str (P := Try.prog) (c := c3) Try.underB Try.under8 Try.underS hO3.sl Hbl.out
  have hc2 := run_str (P := Try.prog) (c := f) Try.underB Try.under8 Try.underS (hD'.out.ext hU13) Hbl.out
  have hO3' := hide hO3
  clear hO3
  have hl2 := Hbl.out
  have Hkb := hide (show k < b.length by omega)
  clear hl2
  go_wp2_with (first
    | (at_builtin; go_must (refine wpList_apd by8 one8 Try.el8 [] b b l rfl Hbl.out (by omega) (by unfold maxLen; omega) rfl rfl rfl rfl (rep_nil _ (Nat.le_refl _)) rfl Hbl.out (hD'.out.ext (hU13.alloc _)) (by simp) ?_); intro A4 c4 w4 hO4 hU4 hin4; obtain ⟨g4, rfl, hg4, hg4'⟩ := hO4.open_ (by rw [List.length_map, Hbl.out]; exact hl0); have k4 := Own.at_ hO4 (i := k) (by rw [Hbl.out]; exact hk); have hO4' := hide hO4; clear hO4 hc1 hc2)
    | (refine wpList_store_own by8 one8 (gat b k ^^^ y) rfl rfl Try.sz8 rfl rfl hO4'.out Hkb.out ?_; intro w5 hO5 hU5; have hO5' := hide hO5; clear hO5))
  have hU4' := upd_new hU4 (hU13.alloc _) (fun i hi => by simp [inA] at hi; have := hU13.size; omega)
  have hU5' := upd_new hU5 hU4' (fun i hi => by unfold only at hi; have := hU13.size; omega)
  have hU45 := upd_new (w0 := w3) hU5 (upd_new (w0 := w3) hU4 ((Upd.refl _ _).alloc _) (fun i hi => by simp [inA] at hi; omega)) (fun i hi => by unfold only at hi; omega)
  clear k4
  have hbs : (b.set k (gat b k ^^^ y)).length = l := by rw [List.length_set]; exact Hbl.out
  have Hbs := hide hbs
  clear hbs
  refine (xor_any _ _ _ _ _ _ _ key nonce (b.set k (gat b k ^^^ y)) _ _ Hkl.out Hnl.out hc hd (hK'.out.ext hU5') (hN'.out.ext hU5') Hbs.out.symm (by omega) hO5'.out.sl).mono ?_
  rintro e w6 ⟨A6, c6, rfl, -, hO6, hU6⟩
  rw [xors_set key ctr nonce b k y Hkb.out] at hO6
  have hO6' := hide hO6
  clear hO6
  have hOx := hO2'.out.ext ((hU3.trans hU45).trans hU6)
  have Hkx := hide (show k < (xors key ctr nonce b).length by have := Hxl.out; omega)
  have kx := Own.at_ hOx Hkx.out
  have hOx' := hide hOx
  clear hOx
  have hn6 : ∀ b o, A6 = some ⟨b, o, none⟩ → ¬ only g2 b := fun b o e h => by
    unfold only at h
    have h1 := hO6'.out.in_ (k := b) (by rw [e]; rfl)
    have h2 := hU3.size
    have h3 := hU45.size
    omega
  go_wp2_with (refine wpList_store_own by8 one8 (gat (xors key ctr nonce b) k ^^^ y) rfl rfl Try.sz8 rfl rfl hOx'.out Hkx.out ?_; go_must (intro w7 hO7 hU7; have hO7' := hide hO7; clear hO7; clear kx); go_must (have hc1 := run_str (P := Try.prog) (n := l) (c := c6) Try.underB Try.under8 Try.underS (hO6'.out.sl.upd hU7 hn6) (by rw [List.length_set]; exact Hxl.out)); go_must (have hc2 := run_str (P := Try.prog) (n := l) (c := c2) Try.underB Try.under8 Try.underS hO7'.out.sl (by rw [List.length_set]; exact Hxl.out)))
  go_ret
  exact ⟨rfl, upd_new hU7 (hU5'.trans hU6) (fun i hi => by unfold only at hi; have := hU1.size; omega)⟩

set_option maxRecDepth 100000 in
set_option maxHeartbeats 2000000 in
theorem back_empty (A B D : Option Addr) (c d f : Nat) (key nonce : List (BitVec 8)) (ctr : BitVec 32) (a y : Int) (w : World) (hkl : key.length = 32) (hnl : nonce.length = 12) (hc : 32 ≤ c) (hd : 12 ≤ d)
    (hK : Sl by8 w A key) (hN : Sl by8 w B nonce) :
    Calls Try.prog 5 #[.slice A 32 c, .int .u32 (n32 ctr), .slice B 12 d, .slice D 0 f, .int .i64 a, .int .u8 y] w fun e w' => e = .returned (.bool true) ∧ Ext w w' := by
  have hK' := hide hK
  clear hK
  have hN' := hide hN
  clear hN
  have Hkl := hide hkl
  clear hkl
  have Hnl := hide hnl
  clear hnl
  have d5 : ((0 : Int) != (0 : Int)) = false := by simp
  go_enter Try.func5, Try.ntmps5
  go_wp2_with fail
  refine (lives_any _).mono ?_
  rintro e w1 ⟨rfl, hU1⟩
  go_wp2_with fail
  refine (xor_any _ _ _ _ _ _ _ key nonce [] _ _ Hkl.out Hnl.out hc hd (hK'.out.ext hU1) (hN'.out.ext hU1) rfl (Nat.zero_le _) Sl.nil).mono ?_
  rintro e w2 ⟨A2, c2, rfl, -, hO2, hU2⟩
  have hU12 := hU1.trans hU2
  go_wp2_with fail
  refine (xor_any _ _ _ _ _ _ _ key nonce [] _ _ Hkl.out Hnl.out hc hd (hK'.out.ext hU12) (hN'.out.ext hU12) rfl (Nat.zero_le _) Sl.nil).mono ?_
  rintro e w3 ⟨A3, c3, rfl, -, hO3, hU3⟩
  have hc1 := run_str (P := Try.prog) (w := w3) (A := A3) (n := 0) (c := c3) (bs := []) Try.underB Try.under8 Try.underS Sl.nil rfl
  have hc2 := run_str (P := Try.prog) (w := w3) (A := D) (n := 0) (c := f) (bs := []) Try.underB Try.under8 Try.underS Sl.nil rfl
  go_wp2
  go_ret
  exact ⟨rfl, hU12.trans hU3⟩

theorem back_any (A B D : Option Addr) (c d f n m l : Nat) (key nonce b : List (BitVec 8)) (ctr : BitVec 32) (a : Int) (y : BitVec 8) (w : World) (hkl : key.length = n) (hnl : nonce.length = m) (hbl : b.length = l) (hc : n ≤ c) (hd : m ≤ d) (hlf : l ≤ f) (hc2 : c ≤ maxLen) (hd2 : d ≤ maxLen) (hf : f ≤ maxLen)
    (hK : Sl by8 w A key) (hN : Sl by8 w B nonce) (hD : Sl by8 w D b) :
    Calls Try.prog 5 #[.slice A n c, .int .u32 (n32 ctr), .slice B m d, .slice D l f, .int .i64 a, .int .u8 (n8 y)] w fun e w' => e = .returned (.bool true) ∧ Ext w w' := by
  by_cases hl : l ≤ 3000
  · by_cases h : n = 32 ∧ m = 12
    · obtain ⟨rfl, rfl⟩ := h
      rcases Nat.eq_zero_or_pos l with h0 | h0
      · subst h0
        exact back_empty A B D c d f key nonce ctr a (n8 y) w hkl hnl hc hd hK hN
      · have hw0 : 0 ≤ IntKind.u64.wrap a := by
          unfold IntKind.wrap
          simp [IntKind.signed, IntKind.bits]
          omega
        obtain ⟨x, hx⟩ := Int.eq_ofNat_of_zero_le hw0
        refine back_right A B D c d l f key nonce b ctr a y (x % l) w hkl hnl hc hd hK hN hl h0 hbl hD (Nat.mod_lt _ h0) ?_
        rw [hx, Int.tmod_eq_emod_of_nonneg (by omega)]
        rfl
    · exact back_wrong A B D n c m d l f ctr a (n8 y) w hl (by omega) (by omega) (by omega)
  · exact back_long A B D n c m d l f ctr a (n8 y) w (by omega) (by omega)
end Go.Proofs.Ytkbhenlkkpnbnaa
