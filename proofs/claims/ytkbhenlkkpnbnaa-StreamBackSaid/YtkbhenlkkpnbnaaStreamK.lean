/- The law on bytes with the stream, walked. -/
import Derived.Test.YtkbhenlkkpnbnaaStreamL
namespace Go.Proofs.Ytkbhenlkkpnbnaa
open Go.RowKit
open Strm
attribute [local go_sem] steady steadyUpon Cls by8 by32 by64 str_eq

set_option maxHeartbeats 1000000 in
theorem xors_long (A B D : Option Addr) (n c m d l f : Nat) (ctr : BitVec 32) (w : World) (hl : 1000 < l) (hl2 : l ≤ maxLen) :
    Calls Try.prog 4 #[.slice A n c, .int .u32 (n32 ctr), .slice B m d, .slice D l f] w fun e w' => e = .returned (.bool true) ∧ Ext w w' := by
  unfold maxLen at hl2
  have hlt : (1000 : Int) < (l : Int) := by omega
  go_enter Try.func4, Try.ntmps4
  go_wp2_with fail
  refine (lives_any _).mono ?_
  rintro e w1 ⟨rfl, hU1⟩
  go_wp2_with fail
  refine (lives_any _).mono ?_
  rintro e w2 ⟨rfl, hU2⟩
  go_wp2_with fail
  go_ret
  exact ⟨rfl, hU1.trans hU2⟩

theorem rep_nil (w : World) {B : Nat} (hB : B ≤ w.heap.size) : Own (w.alloc (.cells #[] 5)) B 5 (some ⟨w.heap.size, 0, none⟩) 0 (([] : List (BitVec 8)).map by8) :=
  Own.lit by8 w 5 [] hB (Nat.zero_le _)

set_option maxRecDepth 100000 in
set_option maxHeartbeats 1000000 in
theorem xors_wrong (A B D : Option Addr) (n c m d l f : Nat) (b : List (BitVec 8)) (ctr : BitVec 32) (w : World) (h1 : wrongB n m = true) (h2 : rightB n m = false) (hl : l ≤ 1000) (hbl : b.length = l) (hD : Sl by8 w D b) :
    Calls Try.prog 4 #[.slice A n c, .int .u32 (n32 ctr), .slice B m d, .slice D l f] w fun e w' => e = .returned (.bool true) ∧ Ext w w' := by
  have hD' := hide hD
  clear hD
  have Hbl := hide hbl
  clear hbl
  have hlt : ¬ (1000 : Int) < (l : Int) := by omega
  go_enter Try.func4, Try.ntmps4
  go_wp2_with fail
  refine (lives_any _).mono ?_
  rintro e w1 ⟨rfl, hU1⟩
  have hRefl := Upd.refl (fun _ => False) w
  go_wp2_with (first
    | (at_builtin; go_must (refine wpList_apd by8 one8 Try.el8 [] b b l rfl Hbl.out (by omega) (by unfold maxLen; omega) rfl rfl rfl rfl (rep_nil _ (Nat.le_refl _)) rfl Hbl.out (hD'.out.ext (hU1.alloc _)) (by simp) ?_); intro A2 c2 w2 hO2 hU2 hin2; have hU2' := upd_new (w0 := w1) hU2 ((Upd.refl _ _).alloc _) (fun i hi => by simp [inA] at hi; omega))
    | (go_at_call 11; go_must (refine (xor_wrong _ _ _ _ _ _ _ _ _ _ _ h1).mono ?_); rintro e w3 ⟨rfl, hU3⟩; have hc1 := run_str (P := Try.prog) (c := c2) Try.underB Try.under8 Try.underS (hO2.sl.ext hU3) Hbl.out; have hc2 := run_str (P := Try.prog) (c := f) Try.underB Try.under8 Try.underS (hD'.out.ext ((hU1.trans hU2').trans hU3)) Hbl.out)
    | (go_at_call 9; refine (right_any _ _ _ _ _ _ _).mono ?_; rintro e w' ⟨rfl, rfl⟩))
  go_ret
  exact ⟨rfl, (hU1.trans hU2').trans hU3⟩

set_option maxRecDepth 100000 in
set_option maxHeartbeats 1000000 in
theorem xors_right (A B D : Option Addr) (c d l f : Nat) (key nonce b : List (BitVec 8)) (ctr : BitVec 32) (w : World) (hkl : key.length = 32) (hnl : nonce.length = 12) (hc : 32 ≤ c) (hd : 12 ≤ d)
    (hK : Sl by8 w A key) (hN : Sl by8 w B nonce) (hl : l ≤ 1000) (hbl : b.length = l) (hD : Sl by8 w D b) :
    Calls Try.prog 4 #[.slice A 32 c, .int .u32 (n32 ctr), .slice B 12 d, .slice D l f] w fun e w' => e = .returned (.bool true) ∧ Ext w w' := by
  have hD' := hide hD
  clear hD
  have Hbl := hide hbl
  clear hbl
  have hK' := hide hK
  clear hK
  have hN' := hide hN
  clear hN
  have Hkl := hide hkl
  clear hkl
  have Hnl := hide hnl
  clear hnl
  have hlt : ¬ (1000 : Int) < (l : Int) := by omega
  have hr : rightB 32 12 = true := rfl
  go_enter Try.func4, Try.ntmps4
  go_wp2_with fail
  refine (lives_any _).mono ?_
  rintro e w1 ⟨rfl, hU1⟩
  have hRefl := Upd.refl (fun _ => False) w
  go_wp2_with (first
    | (at_builtin; go_must (refine wpList_apd by8 one8 Try.el8 [] b b l rfl Hbl.out (by omega) (by unfold maxLen; omega) rfl rfl rfl rfl (rep_nil _ (Nat.le_refl _)) rfl Hbl.out (hD'.out.ext (hU1.alloc _)) (by simp) ?_); intro A2 c2 w2 hO2 hU2 hin2; have hU2' := upd_new (w0 := w1) hU2 ((Upd.refl _ _).alloc _) (fun i hi => by simp [inA] at hi; omega))
    | (go_at_call 11; go_must (refine (xor_any _ _ _ _ _ _ _ key nonce b _ _ Hkl.out Hnl.out hc hd (hK'.out.ext (hU1.trans hU2')) (hN'.out.ext (hU1.trans hU2')) Hbl.out.symm (by omega) hO2.sl).mono ?_); rintro e w3 ⟨A3, c3, rfl, -, hO3, hU3⟩; have hc1 := run_str (P := Try.prog) (c := c2) Try.underB Try.under8 Try.underS (hO2.sl.ext hU3) Hbl.out; have hc2 := run_str (P := Try.prog) (c := f) Try.underB Try.under8 Try.underS (hD'.out.ext ((hU1.trans hU2').trans hU3)) Hbl.out)
    | (go_at_call 9; refine (right_any _ _ _ _ _ _ _).mono ?_; rintro e w' ⟨rfl, rfl⟩))
  have hUU := (hU1.trans hU2').trans hU3
  have hcv := fun x : Wd (Ext w3.drew) => run_str (P := Try.prog) (c := c3) Try.underB Try.under8 Try.underS ((hO3.sl.ext (Upd.refl _ _).drew).ext x.ok) ((xors_length key ctr nonce b).trans Hbl.out)
  clear hc1 hc2
  refine wp_region_plan (Ext _) 13 [(false,0), (false,1), (false,2), (false,3), (false,4), (false,5), (false,6), (false,7), (false,8), (true,9), (false,10), (false,11), (false,12)] (by kernel_rfl) (by kernel_rfl) (Upd.refl _ _) (fun hne => ?_)
  repeat (refine head_q rfl (fun K hK => ?_); go_simp; refine hK _ ?_; clear hK K)
  refine head_l rfl ?_
  go_wp2_with (go_at_call 12; go_must (refine (refxor_any _ _ _ _ _ _ _ key nonce b _ _ Hkl.out Hnl.out hc hd (hK'.out.ext hUU.drew) (hN'.out.ext hUU.drew) Hbl.out.symm (by omega) (hD'.out.ext hUU.drew)).mono ?_); rintro e w4 ⟨A4, c4, rfl, -, hO4, hU4⟩)
  refine ⟨Cls (Ext _), cls_narrow hU4, ⟨⟨_, Upd.refl _ _⟩, rfl⟩, ?_⟩
  have hcv4 := fun x : Wd (Ext w4) => run_str (P := Try.prog) (c := c4) Try.underB Try.under8 Try.underS (hO4.sl.ext x.ok) ((xors_length key ctr nonce b).trans Hbl.out)
  repeat (refine head_q rfl (fun K hK => ?_); go_simp; refine hK _ ?_; clear hK K)
  refine head_nil ?_
  simp only [List.drop_succ_cons, List.drop_zero]
  go_wp2
  go_ret
  exact ⟨rfl, hUU.trans hU4.undrew⟩

theorem xors_any (A B D : Option Addr) (c d f n m l : Nat) (key nonce b : List (BitVec 8)) (ctr : BitVec 32) (w : World) (hkl : key.length = n) (hnl : nonce.length = m) (hbl : b.length = l) (hc : n ≤ c) (hd : m ≤ d) (hl2 : l ≤ maxLen)
    (hK : Sl by8 w A key) (hN : Sl by8 w B nonce) (hD : Sl by8 w D b) :
    Calls Try.prog 4 #[.slice A n c, .int .u32 (n32 ctr), .slice B m d, .slice D l f] w fun e w' => e = .returned (.bool true) ∧ Ext w w' := by
  by_cases hl : l ≤ 1000
  · by_cases h : n = 32 ∧ m = 12
    · obtain ⟨rfl, rfl⟩ := h
      exact xors_right A B D c d l f key nonce b ctr w hkl hnl hc hd hK hN hl hbl hD
    · have h1 : wrongB n m = true := by
        simp only [wrongB, Bool.not_eq_true', Bool.and_eq_false_iff, beq_eq_false_iff_ne]
        omega
      exact xors_wrong A B D n c m d l f b ctr w h1 (by rw [right_wrong, h1]; rfl) hl hbl hD
  · exact xors_long A B D n c m d l f ctr w (by omega) hl2
end Go.Proofs.Ytkbhenlkkpnbnaa
