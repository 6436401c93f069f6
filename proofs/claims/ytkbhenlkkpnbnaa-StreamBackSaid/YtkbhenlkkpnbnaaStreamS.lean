/- The document's block of the stream, walked. -/
import Derived.Test.YtkbhenlkkpnbnaaStreamR
namespace Go.Proofs.Ytkbhenlkkpnbnaa
open Go.RowKit
open Strm
attribute [local go_sem] steady steadyUpon Cls same_cell by8 by32 by64
attribute [local go_sem] add_u32 conv_u32_u8 rem256_u32 quo256_u32

def RetB (w : World) (n : Nat) (bs : List (BitVec 8)) (e : Ending) (w' : World) : Prop :=
  ∃ A c, e = .returned (.slice A n c) ∧ n = bs.length ∧ Own w' w.heap.size 5 A c (bs.map by8) ∧ Ext w w'

theorem gat32_row {w : World} {g : Nat} {t : TypeId} {xs : List (BitVec 32)} {S : Nat → BitVec 32} {n : Nat} (h : Row w g t n (fun i => by32 (gat xs i))) (e : ∀ i, i < n → gat xs i = S i) : Row w g t n (fun i => by32 (S i)) :=
  h.congr fun i hi => by rw [e i hi]

set_option maxRecDepth 100000 in
set_option maxHeartbeats 2000000 in
theorem refblock_any (A B : Option Addr) (c d : Nat) (key nonce : List (BitVec 8)) (ctr : BitVec 32) (w : World) (hkl : key.length = 32) (hnl : nonce.length = 12) (hc : 32 ≤ c) (hd : 12 ≤ d)
    (hK : Sl by8 w A key) (hN : Sl by8 w B nonce) :
    Calls Try.prog 10 #[.slice A 32 c, .int .u32 (n32 ctr), .slice B 12 d] w (RetB w 64 (block key ctr nonce)) := by
  obtain ⟨kb, ko, rfl, hkb, hkc⟩ := hK.open_ (by omega)
  obtain ⟨nb, no, rfl, hnb, hnc⟩ := hN.open_ (by omega)
  have hK' := hide hK
  clear hK hkc
  have hN' := hide hN
  clear hN hnc
  have Hkl := hide hkl
  clear hkl
  have Hnl := hide hnl
  clear hnl
  go_enter Try.func10, Try.ntmps10
  go_wp2_with fail
  go_loopw [8, 7] (fun i v wr => ∃ k A c, k ≤ 8 ∧ i = .int .i64 (4 * k : Nat) ∧ v = .slice A (4 + k) c ∧ Own wr w.heap.size 23 A c ((refA key k).map by32) ∧ Ext w wr) (fun i _ _ => 32 - (intOf i).toNat)
  case atStart => exact ⟨0, _, _, by omega, rfl, rfl, Own.lit by32 w _ sig4 (Nat.le_refl _) (by simp [sig4, maxLen]), (Upd.refl _ _).alloc _⟩
  case round =>
    obtain ⟨k, A, cw, hk, rfl, rfl, hO, hU⟩ := hrel
    have hO' := hide hO
    clear hO
    by_cases hlt : k < 8
    · have hKr := hide (hK'.out.ext hU)
      go_wp2_with (first
        | (go_at_call 16; go_must (refine (refword_any kb (ko + 4 * k) _ _ key (4 * k) _ (by omega) (hKr.out.cells (4 * k) (by rw [Hkl.out]; omega)) (hKr.out.cells (4 * k + 1) (by rw [Hkl.out]; omega)) (hKr.out.cells (4 * k + 2) (by rw [Hkl.out]; omega)) (hKr.out.cells (4 * k + 3) (by rw [Hkl.out]; omega))).mono ?_); rintro e w1 ⟨rfl, hU1⟩)
        | (at_builtin; go_must (refine wpList_apd by32 one32 Try.el32 (refA key k) [wordAt key (4 * k)] (refA key (k + 1)) (4 + (k + 1)) (refA_succ key k) (refA_length key (k + 1)) (by omega) (by unfold maxLen; omega) rfl rfl rfl (refA_length key k) (Own.ext hO'.out (hU1.alloc _)) rfl rfl (Sl.new by32 _ _ [wordAt key (4 * k)]) (Nat.le_trans (hU.trans hU1).size (by simp)) ?_); intro A2 c2 w2 hO2 hU2 hin2))
      go_roundw
      case rel => exact ⟨k + 1, A2, c2, by omega, by go_num, rfl, hO2, upd_new hU2 ((hU.trans hU1).alloc _) (fun i hi => (hO'.out.in_ hi).1)⟩
      case measure => simp [intOf]; omega
    · obtain rfl : k = 8 := by omega
      clear hk hlt
      go_wp2_with (at_builtin; go_must (refine wpList_apd by32 one32 Try.el32 (refA key 8) [ctr] (refB key ctr nonce 0) 13 (by simp [refB]) (refB_length key ctr nonce 0) (by decide) (by decide) rfl rfl rfl (refA_length key 8) (Own.ext hO'.out ((Upd.refl _ _).alloc _)) rfl rfl (Sl.new by32 _ _ [ctr]) (Nat.le_trans hU.size (by simp)) ?_); intro A2 c2 w2 hO2 hU2 hin2)
      have hU3 := upd_new hU2 (hU.alloc _) (fun i hi => (hO'.out.in_ hi).1)
      have hO3 := hide hO2
      clear hO2 hU2 hin2 hU hO'
      go_loopw [9, 7] (fun i v wr => ∃ k A c, k ≤ 3 ∧ i = .int .i64 (4 * k : Nat) ∧ v = .slice A (13 + k) c ∧ Own wr w.heap.size 23 A c ((refB key ctr nonce k).map by32) ∧ Ext w wr) (fun i _ _ => 32 - (intOf i).toNat)
      case atStart => exact ⟨0, _, _, by omega, rfl, rfl, hO3.out, hU3⟩
      case round =>
        clear hU3
        obtain ⟨k, A, cw, hk, rfl, rfl, hO, hU⟩ := hrel
        have hO' := hide hO
        clear hO
        by_cases hlt : k < 3
        · have hNr := hide (hN'.out.ext hU)
          go_wp2_with (first
            | (go_at_call 16; go_must (refine (refword_any nb (no + 4 * k) _ _ nonce (4 * k) _ (by omega) (hNr.out.cells (4 * k) (by rw [Hnl.out]; omega)) (hNr.out.cells (4 * k + 1) (by rw [Hnl.out]; omega)) (hNr.out.cells (4 * k + 2) (by rw [Hnl.out]; omega)) (hNr.out.cells (4 * k + 3) (by rw [Hnl.out]; omega))).mono ?_); rintro e w1 ⟨rfl, hU1⟩)
            | (at_builtin; go_must (refine wpList_apd by32 one32 Try.el32 (refB key ctr nonce k) [wordAt nonce (4 * k)] (refB key ctr nonce (k + 1)) (13 + (k + 1)) (refB_succ key ctr nonce k) (refB_length key ctr nonce (k + 1)) (by omega) (by unfold maxLen; omega) rfl rfl rfl (refB_length key ctr nonce k) (Own.ext hO'.out (hU1.alloc _)) rfl rfl (Sl.new by32 _ _ [wordAt nonce (4 * k)]) (Nat.le_trans (hU.trans hU1).size (by simp)) ?_); intro A2 c2 w2 hO2 hU2 hin2))
          go_roundw
          case rel => exact ⟨k + 1, A2, c2, by omega, by go_num, rfl, hO2, upd_new hU2 ((hU.trans hU1).alloc _) (fun i hi => (hO'.out.in_ hi).1)⟩
          case measure => simp [intOf]; omega
        · obtain rfl : k = 3 := by omega
          clear hk hlt
          obtain ⟨g1, rfl, hg1, hg1'⟩ := hO'.out.open_ (by simp [refB_length])
          go_wp2_with (at_builtin; go_must (refine wpList_apd by32 one32 Try.el32 [] (refB key ctr nonce 3) (refB key ctr nonce 3) 16 rfl (refB_length key ctr nonce 3) (by decide) (by decide) rfl rfl rfl rfl (Own.lit by32 _ _ [] hU.size (by simp [maxLen])) rfl (refB_length key ctr nonce 3) (hO'.out.sl.ext ((Upd.refl _ _).alloc _)) (Nat.le_trans hU.size (by simp)) ?_); intro A2 c2 w2 hO2 hU2 hin2)
          obtain ⟨g2, rfl, hg2, hg2'⟩ := hO2.open_ (by simp [refB_length])
          have hgg : g1 < g2 := by
            rcases hin2 g2 rfl with h | h
            · simp [inA] at h; omega
            · simp at h; omega
          have hR2 : Row w2 g2 23 16 (fun i => by32 (Strm.start key ctr nonce i)) := gat32_row (by have := hO2.row; rw [refB_length] at this; exact this) (fun i hi => refB_start key ctr nonce i hi)
          have hR1 : Row w2 g1 23 16 (fun i => by32 (Strm.start key ctr nonce i)) := by
            have h1 := hO'.out.row
            rw [refB_length] at h1
            exact gat32_row ((h1.ext ((Upd.refl _ _).alloc _)).upd hU2 (fun h => by simp [inA] at h; omega)) (fun i hi => refB_start key ctr nonce i hi)
          have hU3 := upd_new hU2 (hU.alloc _) (fun i hi => by simp [inA] at hi; have := hU.size; omega)
          clear hO2 hU2 hin2 hU hO' hg1' hg2' hK' hN'
          obtain ⟨S0, hS0⟩ : ∃ S0, S0 = Strm.start key ctr nonce := ⟨_, rfl⟩
          rw [← hS0] at hR1 hR2
          have HS0 := hide hS0
          clear hS0
          go_loopw [11] (fun i wx => ∃ k : Nat, k ≤ 10 ∧ i = .int .i64 k ∧ Row wx g1 23 16 (fun j => by32 (steps dround S0 k j)) ∧ Row wx g2 23 16 (fun j => by32 (S0 j)) ∧ Ext w wx) (fun i _ => 10 - (intOf i).toNat)
          case atStart => exact ⟨0, by omega, rfl, hR1, hR2, hU3⟩
          case round =>
            clear hR1 hR2 hU3
            obtain ⟨k, hk, rfl, hA, hB, hU⟩ := hrel
            by_cases hlt : k < 10
            · have hd1 : decide ((k : Int) < 10) = true := decide_eq_true (by omega)
              go_wp2_with fail
              refine (refquarter_any g1 cw 0 4 8 12 _ _ _ _ rfl rfl rfl rfl _ _ (by omega) (by omega) (by omega) (by omega) hA).mono ?_
              clear hA
              rintro e v0 ⟨rfl, hA, V0⟩
              go_wp2_with fail
              refine (refquarter_any g1 cw 1 5 9 13 _ _ _ _ rfl rfl rfl rfl _ _ (by omega) (by omega) (by omega) (by omega) hA).mono ?_
              clear hA
              rintro e v1 ⟨rfl, hA, V1⟩
              go_wp2_with fail
              refine (refquarter_any g1 cw 2 6 10 14 _ _ _ _ rfl rfl rfl rfl _ _ (by omega) (by omega) (by omega) (by omega) hA).mono ?_
              clear hA
              rintro e v2 ⟨rfl, hA, V2⟩
              go_wp2_with fail
              refine (refquarter_any g1 cw 3 7 11 15 _ _ _ _ rfl rfl rfl rfl _ _ (by omega) (by omega) (by omega) (by omega) hA).mono ?_
              clear hA
              rintro e v3 ⟨rfl, hA, V3⟩
              go_wp2_with fail
              refine (refquarter_any g1 cw 0 5 10 15 _ _ _ _ rfl rfl rfl rfl _ _ (by omega) (by omega) (by omega) (by omega) hA).mono ?_
              clear hA
              rintro e v4 ⟨rfl, hA, V4⟩
              go_wp2_with fail
              refine (refquarter_any g1 cw 1 6 11 12 _ _ _ _ rfl rfl rfl rfl _ _ (by omega) (by omega) (by omega) (by omega) hA).mono ?_
              clear hA
              rintro e v5 ⟨rfl, hA, V5⟩
              go_wp2_with fail
              refine (refquarter_any g1 cw 2 7 8 13 _ _ _ _ rfl rfl rfl rfl _ _ (by omega) (by omega) (by omega) (by omega) hA).mono ?_
              clear hA
              rintro e v6 ⟨rfl, hA, V6⟩
              go_wp2_with fail
              refine (refquarter_any g1 cw 3 4 9 14 _ _ _ _ rfl rfl rfl rfl _ _ (by omega) (by omega) (by omega) (by omega) hA).mono ?_
              clear hA
              rintro e v7 ⟨rfl, hA, V7⟩
              have hV := ((((((V0.trans V1).trans V2).trans V3).trans V4).trans V5).trans V6).trans V7
              have hB' := hB.upd hV (fun h => by unfold only at h; omega)
              have hU' := upd_new hV hU (fun i hi => by unfold only at hi; omega)
              clear V0 V1 V2 V3 V4 V5 V6 V7 hV hB hU
              go_wp2
              go_roundw
              case rel => exact ⟨k + 1, by omega, by go_num, by show Row _ _ _ _ (fun j => by32 (dround (steps dround S0 k) k j)); rw [dround_eq]; exact hA, hB', hU'⟩
              case measure => simp [intOf]; omega
            · obtain rfl : k = 10 := by omega
              clear hk hlt
              go_wp2_with fail
              obtain ⟨R, hR⟩ : ∃ R, R = steps dround S0 10 := ⟨_, rfl⟩
              rw [← hR] at hA
              have HR := hide hR
              clear hR
              rw [show ((10 : Nat) : Int) = 10 from rfl]
              go_loopw [69, 12] (fun i v wx => ∃ k A c, k ≤ 16 ∧ i = .int .i64 (k : Nat) ∧ v = .slice A (4 * k) c ∧ Own wx w.heap.size 5 A c ((outs R S0 k).map by8) ∧ Row wx g1 23 16 (fun j => by32 (R j)) ∧ Row wx g2 23 16 (fun j => by32 (S0 j)) ∧ Ext w wx) (fun i _ _ => 16 - (intOf i).toNat)
              case atStart => exact ⟨0, _, _, by omega, rfl, rfl, Own.lit by8 _ _ [] hU.size (by simp [maxLen]), hA.ext ((Upd.refl _ _).alloc _), hB.ext ((Upd.refl _ _).alloc _), hU.alloc _⟩
              case round =>
                clear hA hB hU
                obtain ⟨k, A, ca, hk, rfl, rfl, hO, hA, hB, hU⟩ := hrel
                by_cases hlt : k < 16
                · have hd1 : decide ((k : Int) < 16) = true := decide_eq_true (by omega)
                  have hlti : (k : Int) < 16 := by omega
                  have c1 := hA.cell hlt
                  have c2 := hB.cell hlt
                  have hO' := hide hO
                  have hA' := hide hA
                  have hB' := hide hB
                  clear hO hA hB
                  go_wp2_with fail
                  refine wp_region_plan (Same _) 9 [(false,0), (false,1), (false,2), (false,3), (false,4), (false,5), (false,6), (false,7), (false,8)] (by kernel_rfl) (by kernel_rfl) rfl (fun hne => ?_)
                  repeat (refine head_q rfl (fun K hK => ?_); go_simp; refine hK _ ?_; clear hK K)
                  refine head_nil ?_
                  simp only [List.drop_succ_cons, List.drop_zero]
                  go_wp2_with fail
                  clear c1 c2 hne
                  obtain ⟨X, hX⟩ : ∃ X, X = R k + S0 k := ⟨_, rfl⟩
                  rw [← hX]
                  have HX := hide hX
                  clear hX
                  obtain ⟨wo, rfl⟩ : ∃ wo : World, wo = wr := ⟨_, rfl⟩
                  go_loopw [15, 12, 14] (fun i v x wx => ∃ j A c, j ≤ 4 ∧ i = .int .i64 (j : Nat) ∧ v = .slice A (4 * k + j) c ∧ x = .int .u32 (n32 (X >>> (8 * j))) ∧ Own wx w.heap.size 5 A c ((outs R S0 k ++ (bytes4 X).take j).map by8) ∧ Row wx g1 23 16 (fun j => by32 (R j)) ∧ Row wx g2 23 16 (fun j => by32 (S0 j)) ∧ Ext w wx) (fun i _ _ _ => 4 - (intOf i).toNat)
                  case atStart => exact ⟨0, _, _, by omega, rfl, rfl, by simp, by rw [List.take_zero, List.append_nil]; exact hO'.out, hA'.out, hB'.out, hU.drew⟩
                  case round =>
                    clear hA' hB' hU hO'
                    obtain ⟨j, A, ca, hj, rfl, rfl, rfl, hO, hA, hB, hU⟩ := hrel
                    have hO' := hide hO
                    have hA' := hide hA
                    have hB' := hide hB
                    clear hO hA hB
                    have hlen : ∀ j, j ≤ 4 → (outs R S0 k ++ (bytes4 X).take j).length = 4 * k + j := fun j hj => by rw [List.length_append, outs_length, List.length_take]; simp [bytes4]; omega
                    have Hlen := hide hlen
                    clear hlen
                    by_cases hjl : j < 4
                    · go_wp2_with (at_builtin; go_must (refine wpList_apd by8 one8 Try.el8 _ [((X >>> (8 * j)) % 256).setWidth 8] (outs R S0 k ++ (bytes4 X).take (j + 1)) (4 * k + (j + 1)) (by rw [← bytes4_take X j hjl, List.append_assoc]) (Hlen.out (j + 1) (by omega)) (by omega) (by unfold maxLen; omega) rfl rfl rfl (Hlen.out j (by omega)) (Own.ext hO'.out ((Upd.refl _ _).alloc _)) rfl rfl (Sl.new by8 _ _ [((X >>> (8 * j)) % 256).setWidth 8]) (Nat.le_trans hU.size (by simp)) ?_); intro A2 c2 w2 hO2 hU2 hin2)
                      have hA2 := (hA'.out.ext ((Upd.refl _ _).alloc _)).upd hU2 (hO'.out.ne_row hA'.out (by decide))
                      have hB2 := (hB'.out.ext ((Upd.refl _ _).alloc _)).upd hU2 (hO'.out.ne_row hB'.out (by decide))
                      have hU3 := upd_new hU2 (hU.alloc _) (fun i hi => (hO'.out.in_ hi).1)
                      clear hO' hA' hB' hU2 hin2 hU
                      go_roundw
                      case rel => exact ⟨j + 1, A2, c2, by omega, by go_num, rfl, by rw [shr_shr], hO2, hA2, hB2, hU3⟩
                      case measure => simp [intOf]; omega
                    · obtain rfl : j = 4 := by omega
                      clear hj hjl
                      go_wp2_with fail
                      go_roundw
                      case rel => exact ⟨k + 1, A, ca, by omega, by go_num, rfl, by have h := hO'.out; rw [HX.out] at h; exact h, hA'.out, hB'.out, hU⟩
                      case measure => simp [intOf]; omega
                · obtain rfl : k = 16 := by omega
                  clear hk hlt
                  go_wp2
                  go_ret
                  refine ⟨A, ca, rfl, ?_, ?_, hU⟩
                  · rw [block_length]
                  · rw [HR.out, HS0.out] at hO
                    exact hO
end Go.Proofs.Ytkbhenlkkpnbnaa
