/- A block of the stream, walked. -/
import Derived.Test.YtkbhenlkkpnbnaaStreamQ
namespace Go.Proofs.Ytkbhenlkkpnbnaa
open Go.RowKit
open Strm
attribute [local go_sem] steady steadyUpon Cls same_cell by8 by32 by64
attribute [local go_sem] add_u32 xor_u32 or_u32 and_u32 shl_u32 shr_u32 conv_u8_u32 conv_u32_u8 shr_u32' shl8_u32 shl16_u32 shl24_u32 shr8_u32 shr16_u32 shr24_u32

/-- The call hands back fresh bytes, and OK; nothing old has turned. -/
def RetOK (w : World) (n : Nat) (bs : List (BitVec 8)) (e : Ending) (w' : World) : Prop :=
  ∃ A c, e = .returned (.tuple #[.slice A n c, .int .i64 0]) ∧ n = bs.length ∧ Own w' w.heap.size 5 A c (bs.map by8) ∧ Ext w w'

theorem Try.under_state : Try.prog.underlying 37 = some (.array 16 23) := by kernel_rfl
theorem Try.under32 : Try.prog.underlying 23 = some (.int .u32) := by kernel_rfl
theorem Try.sz_state : (Try.prog.info? 37).map (·.size) = some 16 := by kernel_rfl

theorem upd_new {w0 w w' : World} {T : Nat → Prop} (h : Upd T w w') (h0 : Ext w0 w) (hT : ∀ k, T k → w0.heap.size ≤ k) : Ext w0 w' :=
  h0.trans' h (fun i hi ht => absurd (hT i ht) (by omega))

theorem zero16 (i : Nat) (hi : i < 16) : (#[Value.int .u32 0, .int .u32 0, .int .u32 0, .int .u32 0, .int .u32 0, .int .u32 0, .int .u32 0, .int .u32 0, .int .u32 0, .int .u32 0, .int .u32 0, .int .u32 0, .int .u32 0, .int .u32 0, .int .u32 0, .int .u32 0] : Array Value)[i]? = some (by32 0) := by
  show (Array.replicate 16 (Value.int .u32 0))[i]? = _
  simp [hi, by32]; rfl
set_option maxRecDepth 100000 in
set_option maxHeartbeats 1000000 in
theorem block_any (A B : Option Addr) (c d : Nat) (key nonce : List (BitVec 8)) (ctr : BitVec 32) (w : World) (hkl : key.length = 32) (hnl : nonce.length = 12) (hc : 32 ≤ c) (hd : 12 ≤ d)
    (hK : Sl by8 w A key) (hN : Sl by8 w B nonce) :
    Calls Try.prog 8 #[.slice A 32 c, .int .u32 (n32 ctr), .slice B 12 d] w (RetOK w 64 (block key ctr nonce)) := by
  obtain ⟨kb, ko, rfl, hkb, hkc⟩ := hK.open_ (by omega)
  obtain ⟨nb, no, rfl, hnb, hnc⟩ := hN.open_ (by omega)
  have hK' := hide hK
  clear hK hkc
  have hN' := hide hN
  clear hN hnc
  have Hkl := hide hkl
  clear hkl
  have Hnl := hide hnl
  clear hnl
  have hw : wrongB 32 12 = false := rfl
  go_enter Try.func8, Try.ntmps8
  go_wp2_with (go_at_call 13; refine (wrong_any _ _ _ _ _ _ _).mono ?_; rintro e w' ⟨rfl, rfl⟩)
  clear hw
  go_loopw [21] (fun i wr => ∃ k : Nat, k ≤ 8 ∧ i = .int .i64 k ∧ Arr wr w.heap.size 37 16 (fun j => by32 (init1 key k j)) ∧ Ext w wr) (fun i _ => 8 - (intOf i).toNat)
  case atStart => exact ⟨0, by omega, rfl, Arr.new w _ _ 16 _ rfl (fun i hi => init1_zero key i hi), (Upd.refl _ _).alloc _⟩
  case round =>
    obtain ⟨k, hk, rfl, hA, hU⟩ := hrel
    by_cases hlt : k < 8
    · have hKr := hide (hK'.out.ext hU)
      go_wp2_with (first
        | (go_at_call 14; refine (word_any kb (ko + 4 * k) _ _ key (4 * k) wr (by omega) (hKr.out.cells (4 * k) (by rw [Hkl.out]; omega)) (hKr.out.cells (4 * k + 1) (by rw [Hkl.out]; omega)) (hKr.out.cells (4 * k + 2) (by rw [Hkl.out]; omega)) (hKr.out.cells (4 * k + 3) (by rw [Hkl.out]; omega))).mono ?_; rintro e w1 ⟨rfl, hU1⟩)
        | (refine wpList_store_enc by32 one32 (_) rfl rfl Try.sz32 rfl rfl (hA.ext hU1) (by omega) ?_; intro w2 hA2 hU2))
      go_roundw
      case rel => exact ⟨k + 1, by omega, by go_num, hA2.congr (fun j _ => congrArg by32 (init1_step key k j)), upd_new hU2 (hU.trans hU1) (fun i hi => Nat.le_of_eq hi.symm)⟩
      case measure => simp [intOf]; omega
    · obtain rfl : k = 8 := by omega
      clear hk hlt
      go_wp2_with (refine wpList_store_enc by32 one32 (_) rfl rfl Try.sz32 rfl rfl hA (by omega) ?_; intro w2 hA2 hU2)
      have hU2' := upd_new hU2 hU (fun i hi => Nat.le_of_eq hi.symm)
      have hA3 := hA2.congr (f' := fun j => by32 (init2 key ctr nonce 0 j)) (fun j _ => congrArg by32 (init2_zero key ctr nonce j))
      clear hA hU hU2 hA2
      go_loopw [35] (fun i wx => ∃ k : Nat, k ≤ 3 ∧ i = .int .i64 k ∧ Arr wx w.heap.size 37 16 (fun j => by32 (init2 key ctr nonce k j)) ∧ Ext w wx) (fun i _ => 3 - (intOf i).toNat)
      case atStart => exact ⟨0, by omega, rfl, hA3, hU2'⟩
      case round =>
        clear hA3 hU2'
        obtain ⟨k, hk, rfl, hA, hU⟩ := hrel
        by_cases hlt : k < 3
        · have hNr := hide (hN'.out.ext hU)
          go_wp2_with (first
            | (go_at_call 14; refine (word_any nb (no + 4 * k) _ _ nonce (4 * k) _ (by omega) (hNr.out.cells (4 * k) (by rw [Hnl.out]; omega)) (hNr.out.cells (4 * k + 1) (by rw [Hnl.out]; omega)) (hNr.out.cells (4 * k + 2) (by rw [Hnl.out]; omega)) (hNr.out.cells (4 * k + 3) (by rw [Hnl.out]; omega))).mono ?_; rintro e w1 ⟨rfl, hU1⟩)
            | (refine wpList_store_enc by32 one32 (_) rfl rfl Try.sz32 rfl rfl (hA.ext hU1) (by omega) ?_; intro w2 hA2 hU2))
          go_roundw
          case rel => exact ⟨k + 1, by omega, by go_num, hA2.congr (fun j _ => congrArg by32 (init2_step key ctr nonce k j)), upd_new hU2 (hU.trans hU1) (fun i hi => Nat.le_of_eq hi.symm)⟩
          case measure => simp [intOf]; omega
        · obtain rfl : k = 3 := by omega
          clear hk hlt
          go_wp2_with (first
            | (refine wpList_load_arr rfl rfl rfl hA Try.under_state Try.sz_state ?_)
            | (refine wpList_store_whole (n := 16) (f := fun j => by32 (init2 key ctr nonce 3 j)) rfl rfl rfl rfl (fun _ => rfl) (Arr.new _ _ _ 16 (fun _ => by32 0) rfl zero16) Try.sz_state ?_; intro w3 hA3 hU3))
          have hA0 := hA.alloc (.cells #[Value.int .u32 0, .int .u32 0, .int .u32 0, .int .u32 0, .int .u32 0, .int .u32 0, .int .u32 0, .int .u32 0, .int .u32 0, .int .u32 0, .int .u32 0, .int .u32 0, .int .u32 0, .int .u32 0, .int .u32 0, .int .u32 0] 37)
          have hlt := hA.lt
          have hAs := hA0.upd hU3 (fun h => by unfold only at h; omega)
          have hUs := upd_new hU3 (hU.alloc _) (fun i hi => by unfold only at hi; have := hU.size; omega)
          have hgw : w.heap.size < wr.heap.size := hlt
          clear hA hA0 hU hU3 hlt
          obtain ⟨g2, hg2⟩ : ∃ g2, g2 = wr.heap.size := ⟨_, rfl⟩
          rw [← hg2] at hA3 hgw ⊢
          clear hg2
          obtain ⟨S0, hS0⟩ : ∃ S0, S0 = Strm.start key ctr nonce := ⟨_, rfl⟩
          rw [show init2 key ctr nonce 3 = S0 from hS0.symm] at hAs hA3 ⊢
          have HS0 := hide hS0
          clear hS0
          go_loopw [48] (fun i wx => ∃ k : Nat, k ≤ 10 ∧ i = .int .i64 k ∧ Arr wx w.heap.size 37 16 (fun j => by32 (steps dround S0 k j)) ∧ Arr wx g2 37 16 (fun j => by32 (S0 j)) ∧ Ext w wx) (fun i _ => 10 - (intOf i).toNat)
          case atStart => exact ⟨0, by omega, rfl, hAs, hA3, hUs⟩
          case round =>
            clear hAs hA3 hUs
            obtain ⟨k, hk, rfl, hA, hB, hU⟩ := hrel
            by_cases hlt : k < 10
            · obtain ⟨wo, rfl⟩ : ∃ wo : World, wo = wr := ⟨_, rfl⟩
              obtain ⟨R0, hR0⟩ : ∃ R0, R0 = steps dround S0 k := ⟨_, rfl⟩
              rw [← hR0] at hA
              have HR0 := hide hR0
              clear hR0
              have hd : decide ((k : Int) < 10) = true := decide_eq_true (by omega)
              go_wp2_with fail
              go_loopw [50] (fun i wx => ∃ k : Nat, k ≤ 4 ∧ i = .int .i64 k ∧ Arr wx w.heap.size 37 16 (fun j => by32 (steps half1 R0 k j)) ∧ Arr wx g2 37 16 (fun j => by32 (S0 j)) ∧ Ext w wx) (fun i _ => 4 - (intOf i).toNat)
              case atStart => exact ⟨0, by omega, rfl, hA, hB, hU⟩
              case round =>
                clear hA hB hU
                obtain ⟨j, hj, rfl, hA, hB, hU⟩ := hrel
                by_cases hjl : j < 4
                · go_wp2_with (go_at_call 15; refine (quarter_at _ j (4 + j) (8 + j) (12 + j) _ _ _ _ (by omega) (by omega) (by omega) (by omega) (steps half1 R0 j) _ (by omega) (by omega) (by omega) (by omega) hA).mono ?_; rintro e w2 ⟨rfl, hA2, hU2⟩)
                  go_roundw
                  case rel => exact ⟨j + 1, by omega, by go_num, hA2, hB.upd hU2 (fun h => by unfold only at h; omega), upd_new hU2 hU (fun i hi => Nat.le_of_eq hi.symm)⟩
                  case measure => simp [intOf]; omega
                · obtain rfl : j = 4 := by omega
                  clear hj hjl
                  go_wp2_with fail
                  rw [show ((4 : Nat) : Int) = 4 from rfl]
                  go_loopw [62] (fun i wx => ∃ k : Nat, k ≤ 4 ∧ i = .int .i64 k ∧ Arr wx w.heap.size 37 16 (fun j => by32 (steps half2 (steps half1 R0 4) k j)) ∧ Arr wx g2 37 16 (fun j => by32 (S0 j)) ∧ Ext w wx) (fun i _ => 4 - (intOf i).toNat)
                  case atStart => exact ⟨0, by omega, rfl, hA, hB, hU⟩
                  case round =>
                    clear hA hB hU
                    obtain ⟨j, hj, rfl, hA, hB, hU⟩ := hrel
                    by_cases hjl : j < 4
                    · go_wp2_with (go_at_call 15; refine (quarter_at _ j (4 + (j + 1) % 4) (8 + (j + 2) % 4) (12 + (j + 3) % 4) _ _ _ _ (by omega) (by omega) (by omega) (by omega) (steps half2 (steps half1 R0 4) j) _ (by omega) (by omega) (by omega) (by omega) hA).mono ?_; rintro e w2 ⟨rfl, hA2, hU2⟩)
                      go_roundw
                      case rel => exact ⟨j + 1, by omega, by go_num, hA2, hB.upd hU2 (fun h => by unfold only at h; omega), upd_new hU2 hU (fun i hi => Nat.le_of_eq hi.symm)⟩
                      case measure => simp [intOf]; omega
                    · obtain rfl : j = 4 := by omega
                      clear hj hjl
                      go_wp2_with fail
                      go_roundw
                      case rel => exact ⟨k + 1, by omega, by go_num, by rw [HR0.out] at hA; exact hA, hB, hU⟩
                      case measure => simp [intOf]; omega
            · obtain rfl : k = 10 := by omega
              clear hk hlt
              go_wp2_with (refine wpList_load_arr rfl rfl rfl hA Try.under_state Try.sz_state ?_)
              clear hA
              obtain ⟨R, hR⟩ : ∃ R, R = steps dround S0 10 := ⟨_, rfl⟩
              rw [← hR]
              have HR := hide hR
              clear hR
              go_loopw [82, 14] (fun i v wx => ∃ k A c, k ≤ 16 ∧ i = .int .i64 (k : Nat) ∧ v = .slice A (4 * k) c ∧ Own wx w.heap.size 5 A c ((outs R S0 k).map by8) ∧ Arr wx g2 37 16 (fun j => by32 (S0 j)) ∧ Ext w wx) (fun i _ _ => 16 - (intOf i).toNat)
              case atStart => exact ⟨0, none, 0, by omega, rfl, rfl, Own.nil, hB, hU⟩
              case round =>
                clear hB hU
                obtain ⟨k, A, c', hk, rfl, rfl, hO, hB, hU⟩ := hrel
                by_cases hlt : k < 16
                · have hcb := hB.cell hlt
                  have hix := fun (w : World) => run_index_arr (P := Try.prog) Try.under_state Try.sz32 Try.under32 rfl (fun j => .int .u32 (n32 (R j))) hlt .i64 w
                  have hO' := hide hO
                  clear hO
                  go_wp2_with (at_builtin; go_must (refine wpList_app _ by8 one8 _ _ Try.el8 rfl rfl (xs := outs R S0 k) (ys := bytes4 (R k + S0 k)) rfl (outs_length R S0 k).symm (Own.ext hO'.out ((Upd.refl _ _).alloc _)) rfl rfl (Sl.new by8 _ _ (bytes4 (R k + S0 k))) (by rw [outs_length]; show (4 * k + 4) * 1 ≤ _; omega) (by rw [outs_length]; show 4 * k + 4 ≤ _; unfold maxLen; omega) (Nat.le_trans hU.size (by simp)) ?_); intro A2 c2 w2 hO2 hU2 hin2)
                  have hB2 := (hB.alloc (.cells #[Value.int .u8 (n8 ((R k + S0 k).setWidth 8)), .int .u8 (n8 ((R k + S0 k) >>> 8 |>.setWidth 8)), .int .u8 (n8 ((R k + S0 k) >>> 16 |>.setWidth 8)), .int .u8 (n8 ((R k + S0 k) >>> 24 |>.setWidth 8))] 5)).upd hU2 (hO'.out.ne_arr hB (by decide))
                  go_roundw
                  case rel => exact ⟨k + 1, A2, c2, by omega, by go_num, by rw [outs_length]; rfl, hO2, hB2, upd_new hU2 (hU.alloc _) (fun i hi => (hO'.out.in_ hi).1)⟩
                  case measure => simp [intOf]; omega
                · obtain rfl : k = 16 := by omega
                  clear hk hlt
                  go_wp2
                  go_ret2
                  refine ⟨A, c', rfl, ?_, ?_, hU⟩
                  · rw [block_length]
                  · rw [HR.out, HS0.out] at hO
                    exact hO
end Go.Proofs.Ytkbhenlkkpnbnaa
