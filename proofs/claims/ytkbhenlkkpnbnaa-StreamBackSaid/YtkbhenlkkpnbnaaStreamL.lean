/- The laws of the stream, walked: the example lives. -/
import Derived.Test.YtkbhenlkkpnbnaaStreamX
import Derived.Test.YtkbhenlkkpnbnaaStreamT
import Derived.Test.YtkbhenlkkpnbnaaStreamE
import Derived.Test.YtkbhenlkkpnbnaaStr
namespace Go.Proofs.Ytkbhenlkkpnbnaa
open Go.RowKit
open Strm
attribute [local go_sem] steady steadyUpon Cls by8 by32 by64 str_eq

theorem Try.under8 : Try.prog.underlying 5 = some (.int .u8) := by kernel_rfl
theorem Try.underB : Try.prog.underlying 22 = some (.slice 5) := by kernel_rfl
theorem Try.underS : Try.prog.underlying 9 = some .string := by kernel_rfl

def exTo (k : Nat) : List (BitVec 8) := (List.range 32).map fun i => if i < k then BitVec.ofNat 8 i else 0
theorem exTo_step (k : Nat) (h : k < 32) : (exTo k).set k (BitVec.ofNat 8 k) = exTo (k + 1) := by
  apply List.ext_getElem?; intro j
  rw [List.getElem?_set]
  by_cases hj : k = j
  · subst hj
    simp [exTo, h]
  · rw [if_neg hj]
    simp only [exTo, List.getElem?_map]
    by_cases hjl : j < 32
    · simp only [List.getElem?_range hjl, Option.map_some]
      by_cases h3 : j < k
      · rw [if_pos h3, if_pos (by omega)]
      · rw [if_neg h3, if_neg (by omega)]
    · rw [List.getElem?_eq_none (by simp; omega)]
      rfl
theorem n8_ofNat (k : Nat) (hk : k < 256) : IntKind.u8.wrap (k : Int) = n8 (BitVec.ofNat 8 k) := by
  rw [IntWalk.u8_in _ (by omega)]
  unfold n8
  rw [BitVec.toNat_ofNat, Nat.mod_eq_of_lt hk]

set_option maxRecDepth 100000 in
set_option maxHeartbeats 1000000 in
theorem lives_any (w : World) : Calls Try.prog 7 #[] w fun e w' => e = .returned (.bool true) ∧ Ext w w' := by
  go_enter Try.func7, Try.ntmps7
  go_wp2_with (at_make; go_must (refine wpList_mk _ _ _ Try.el8 rfl rfl 32 rfl rfl rfl rfl (by decide) (by decide) by8 rfl rfl (Nat.le_refl _) ?_); rintro g w1 hO rfl hU)
  go_loopw [8] (fun i wr => ∃ k : Nat, k ≤ 32 ∧ i = .int .i64 k ∧ Own wr w.heap.size 5 (some ⟨w.heap.size, 0, none⟩) 32 ((exTo k).map by8) ∧ Ext w wr) (fun i _ => 32 - (intOf i).toNat)
  case atStart => exact ⟨0, by omega, rfl, hO, hU⟩
  case round =>
    clear hO hU
    obtain ⟨k, hk, rfl, hO, hU⟩ := hrel
    by_cases hlt : k < 32
    · have hq := n8_ofNat k (by omega)
      have hO' := hide hO
      clear hO
      go_wp2_with (refine wpList_store_own by8 one8 (BitVec.ofNat 8 k) rfl rfl Try.sz8 rfl rfl hO'.out (by simp [exTo]; omega) ?_; intro w3 hO3 hU3)
      go_roundw
      case rel => exact ⟨k + 1, by omega, by go_num, by rw [exTo_step k hlt] at hO3; exact hO3, upd_new hU3 hU (fun i hi => Nat.le_of_eq hi.symm)⟩
      case measure => simp [intOf]; omega
    · obtain rfl : k = 32 := by omega
      clear hk hlt
      have hO' := hide hO
      clear hO
      go_wp2_with (go_at_call 8; go_must (refine (block_any _ _ _ _ exKey exNonce 1 _ rfl rfl (Nat.le_refl _) (Nat.le_refl _) (hO'.out.sl.ext ((Upd.refl _ _).alloc _)) (Sl.new by8 _ _ exNonce)).mono ?_); rintro e w2 ⟨A1, c1, rfl, -, hOk, hU2⟩; obtain ⟨gb, rfl, hgb1, hgb2⟩ := hOk.open_ (by simp [block_length]); have k0 : w2.cell? ⟨gb, 0, none⟩ = some (.int .u8 16) := (Own.at_ hOk (by rw [block_length]; omega)).trans (by rw [ex_bytes.1]; rfl); have k1 : w2.cell? ⟨gb, 1, none⟩ = some (.int .u8 241) := (Own.at_ hOk (by rw [block_length]; omega)).trans (by rw [ex_bytes.2.1]; rfl); have k7 : w2.cell? ⟨gb, 7, none⟩ = some (.int .u8 21) := (Own.at_ hOk (by rw [block_length]; omega)).trans (by rw [ex_bytes.2.2]; rfl); have hOk' := hide hOk; clear hOk)
      go_ret
      exact ⟨rfl, (hU.alloc _).trans hU2⟩

set_option maxRecDepth 100000 in
set_option maxHeartbeats 1000000 in
theorem blocks_right (A B : Option Addr) (c d : Nat) (key nonce : List (BitVec 8)) (ctr : BitVec 32) (w : World) (hkl : key.length = 32) (hnl : nonce.length = 12) (hc : 32 ≤ c) (hd : 12 ≤ d)
    (hK : Sl by8 w A key) (hN : Sl by8 w B nonce) :
    Calls Try.prog 3 #[.slice A 32 c, .int .u32 (n32 ctr), .slice B 12 d] w fun e w' => e = .returned (.bool true) ∧ Ext w w' := by
  have hK' := hide hK
  clear hK
  have hN' := hide hN
  clear hN
  have Hkl := hide hkl
  clear hkl
  have Hnl := hide hnl
  clear hnl
  have hr : rightB 32 12 = true := rfl
  go_enter Try.func3, Try.ntmps3
  go_wp2_with (first
    | (go_at_call 7; refine (lives_any _).mono ?_; rintro e w1 ⟨rfl, hU1⟩)
    | (go_at_call 8; go_must (refine (block_any _ _ _ _ key nonce _ _ Hkl.out Hnl.out hc hd (hK'.out.ext hU1) (hN'.out.ext hU1)).mono ?_); rintro e w2 ⟨A1, c1, rfl, -, hO1, hU2⟩)
    | (go_at_call 9; refine (right_any _ _ _ _ _ _ _).mono ?_; rintro e w' ⟨rfl, rfl⟩))
  have hO1' := hide hO1
  clear hO1
  have hcv := fun x : Wd (Ext w2.drew) => run_str (P := Try.prog) (c := c1) Try.underB Try.under8 Try.underS ((hO1'.out.sl.ext (Upd.refl _ _).drew).ext x.ok) (block_length key ctr nonce)
  refine wp_region_plan (Ext _) 12 [(false,0), (false,1), (false,2), (false,3), (false,4), (false,5), (false,6), (false,7), (true,8), (false,9), (false,10), (false,11)] (by kernel_rfl) (by kernel_rfl) (Upd.refl _ _) (fun hne => ?_)
  repeat (refine head_q rfl (fun K hK => ?_); go_simp; refine hK _ ?_; clear hK K)
  refine head_l rfl ?_
  go_wp2_with (go_at_call 10; go_must (refine (refblock_any _ _ _ _ key nonce _ _ Hkl.out Hnl.out hc hd (hK'.out.ext ((hU1.trans hU2).trans (Upd.refl _ _).drew)) (hN'.out.ext ((hU1.trans hU2).trans (Upd.refl _ _).drew))).mono ?_); rintro e w3 ⟨A3, c3, rfl, -, hO3, hU3⟩)
  refine ⟨Cls (Ext _), cls_narrow hU3, ⟨⟨_, Upd.refl _ _⟩, rfl⟩, ?_⟩
  have hcv3 := fun x : Wd (Ext w3) => run_str (P := Try.prog) (c := c3) Try.underB Try.under8 Try.underS (hO3.sl.ext x.ok) (block_length key ctr nonce)
  repeat (refine head_q rfl (fun K hK => ?_); go_simp; refine hK _ ?_; clear hK K)
  refine head_nil ?_
  simp only [List.drop_succ_cons, List.drop_zero]
  go_wp2
  go_ret
  exact ⟨rfl, (hU1.trans hU2).trans hU3.undrew⟩

set_option maxHeartbeats 1000000 in
theorem blocks_wrong (A B : Option Addr) (n m c d : Nat) (ctr : BitVec 32) (w : World) (h1 : wrongB n m = true) (h2 : rightB n m = false) :
    Calls Try.prog 3 #[.slice A n c, .int .u32 (n32 ctr), .slice B m d] w fun e w' => e = .returned (.bool true) ∧ Ext w w' := by
  go_enter Try.func3, Try.ntmps3
  go_wp2_with (first
    | (go_at_call 7; refine (lives_any _).mono ?_; rintro e w1 ⟨rfl, hU1⟩)
    | (go_at_call 8; go_must (refine (block_wrong _ _ _ _ _ _ _ _ h1).mono ?_); rintro e w2 ⟨rfl, hU2⟩)
    | (go_at_call 9; refine (right_any _ _ _ _ _ _ _).mono ?_; rintro e w' ⟨rfl, rfl⟩))
  go_ret
  exact ⟨rfl, hU1.trans hU2⟩

theorem right_wrong (n m : Nat) : rightB n m = !wrongB n m := by simp [rightB, wrongB]
theorem blocks_any (A B : Option Addr) (c d n m : Nat) (key nonce : List (BitVec 8)) (ctr : BitVec 32) (w : World) (hkl : key.length = n) (hnl : nonce.length = m) (hc : n ≤ c) (hd : m ≤ d)
    (hK : Sl by8 w A key) (hN : Sl by8 w B nonce) :
    Calls Try.prog 3 #[.slice A n c, .int .u32 (n32 ctr), .slice B m d] w fun e w' => e = .returned (.bool true) ∧ Ext w w' := by
  by_cases h : n = 32 ∧ m = 12
  · obtain ⟨rfl, rfl⟩ := h
    exact blocks_right A B c d key nonce ctr w hkl hnl hc hd hK hN
  · have h1 : wrongB n m = true := by
      simp only [wrongB, Bool.not_eq_true', Bool.and_eq_false_iff, beq_eq_false_iff_ne]
      omega
    exact blocks_wrong A B n m c d ctr w h1 (by rw [right_wrong, h1]; rfl)
end Go.Proofs.Ytkbhenlkkpnbnaa
