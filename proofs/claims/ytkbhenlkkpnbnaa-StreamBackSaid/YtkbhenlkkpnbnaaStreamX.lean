/- Bytes with the stream, walked. -/
import Derived.Test.YtkbhenlkkpnbnaaStreamB
namespace Go.Proofs.Ytkbhenlkkpnbnaa
open Go.RowKit
open Strm
attribute [local go_sem] steady steadyUpon Cls same_cell by8 by32 by64
attribute [local go_sem] add_u32 xor_u32 xor_u8 inc_u32

theorem ctr_step (x : BitVec 32) (m : Nat) : x + BitVec.ofNat 32 m + 1 = x + BitVec.ofNat 32 (m + 1) := by
  rw [BitVec.add_assoc]; congr 1; apply BitVec.eq_of_toNat_eq; simp [BitVec.toNat_add]

def RetArg (w : World) (e : Ending) (w' : World) : Prop := e = .returned (.tuple #[.slice none 0 0, .int .i64 1]) ∧ Ext w w'

set_option maxHeartbeats 1000000 in
theorem block_wrong (A B : Option Addr) (n c m d : Nat) (ctr : BitVec 32) (w : World) (h : wrongB n m = true) :
    Calls Try.prog 8 #[.slice A n c, .int .u32 (n32 ctr), .slice B m d] w (RetArg w) := by
  go_enter Try.func8, Try.ntmps8
  go_wp2_with (go_at_call 13; refine (wrong_any _ _ _ _ _ _ _).mono ?_; rintro e w' ⟨rfl, rfl⟩)
  go_ret2
  exact ⟨rfl, Upd.refl _ _⟩
set_option maxHeartbeats 1000000 in
theorem xor_wrong (A B D : Option Addr) (n c m d l f : Nat) (ctr : BitVec 32) (w : World) (h : wrongB n m = true) :
    Calls Try.prog 11 #[.slice A n c, .int .u32 (n32 ctr), .slice B m d, .slice D l f] w (RetArg w) := by
  go_enter Try.func11, Try.ntmps11
  go_wp2_with (go_at_call 13; refine (wrong_any _ _ _ _ _ _ _).mono ?_; rintro e w' ⟨rfl, rfl⟩)
  go_ret2
  exact ⟨rfl, Upd.refl _ _⟩

set_option maxRecDepth 100000 in
set_option maxHeartbeats 1000000 in
theorem xor_any (A B D : Option Addr) (c d n f : Nat) (key nonce b : List (BitVec 8)) (ctr : BitVec 32) (w : World) (hkl : key.length = 32) (hnl : nonce.length = 12) (hc : 32 ≤ c) (hd : 12 ≤ d)
    (hK : Sl by8 w A key) (hN : Sl by8 w B nonce) (hn : n = b.length) (hn2 : n ≤ 100000000) (hS : Sl by8 w D b) :
    Calls Try.prog 11 #[.slice A 32 c, .int .u32 (n32 ctr), .slice B 12 d, .slice D n f] w (RetOK w n (xors key ctr nonce b)) := by
  have hK' := hide hK
  clear hK
  have hN' := hide hN
  clear hN
  have hS' := hide hS
  clear hS
  have Hkl := hide hkl
  clear hkl
  have Hnl := hide hnl
  clear hnl
  have Hn := hide hn
  clear hn
  have hw : wrongB 32 12 = false := rfl
  go_enter Try.func11, Try.ntmps11
  go_wp2_with (first
    | (go_at_call 13; refine (wrong_any _ _ _ _ _ _ _).mono ?_; rintro e w' ⟨rfl, rfl⟩)
    | (at_make; go_must (refine wpList_mk _ _ _ Try.el8 rfl rfl n rfl rfl rfl rfl (by omega) (by unfold maxLen; omega) by8 rfl rfl (Nat.le_refl _) ?_); rintro g w1 hO rfl hU))
  clear hw
  go_loopw [11, 1] (fun i x wr => ∃ a m : Nat, a ≤ n + 63 ∧ Hid (a = 64 * m) ∧ i = .int .i64 a ∧ x = .int .u32 (n32 (ctr + BitVec.ofNat 32 m)) ∧ Own wr w.heap.size 5 (some ⟨w.heap.size, 0, none⟩) n ((xorTo key ctr nonce b a).map by8) ∧ Ext w wr) (fun i _ _ => n + 64 - (intOf i).toNat)
  case atStart => exact ⟨0, 0, by omega, rfl, rfl, by simp, by rw [xorTo_zero, ← Hn.out]; exact hO, hU⟩
  case round =>
    clear hO hU
    obtain ⟨a, m, ha, Ham, rfl, rfl, hO, hU⟩ := hrel
    by_cases hlt : a < n
    · have hO1 := hide hO
      clear hO
      go_wp2_with (go_at_call 8; go_must (refine (block_any _ _ _ _ key nonce _ _ Hkl.out Hnl.out hc hd (hK'.out.ext hU) (hN'.out.ext hU)).mono ?_); rintro e w2 ⟨A1, c1, rfl, -, hOk, hU2⟩)
      obtain ⟨gk, rfl, hgk1, hgk2⟩ := hOk.open_ (by simp [block_length])
      obtain ⟨K, hK⟩ : ∃ K, K = block key (ctr + BitVec.ofNat 32 m) nonce := ⟨_, rfl⟩
      have hKl : K.length = 64 := by rw [hK]; exact block_length _ _ _
      rw [← hK] at hOk
      have HK := hide hK
      clear hK
      have HKl := hide hKl
      clear hKl
      have hKs := hide hOk.sl
      clear hOk
      have hO2 := hO1.out.ext hU2
      have hU3 := hU.trans hU2
      have hgb : w.heap.size < gk := by have := hO1.out.in_ (k := w.heap.size) rfl; omega
      have hg2 := hide hgk2
      clear hgk1 hgk2 hU hU2 hO1
      obtain ⟨wo, rfl⟩ : ∃ wo : World, wo = wr := ⟨_, rfl⟩
      go_loopw [14] (fun i wx => ∃ j : Nat, a ≤ j ∧ j ≤ a + 64 ∧ j ≤ n ∧ i = .int .i64 j ∧ Own wx w.heap.size 5 (some ⟨w.heap.size, 0, none⟩) n ((xorTo key ctr nonce b j).map by8) ∧ Sl by8 wx (some ⟨gk, 0, none⟩) K ∧ Ext w wx) (fun i _ => n + 64 - (intOf i).toNat)
      case atStart => exact ⟨a, by omega, by omega, by omega, rfl, hO2, hKs.out, hU3⟩
      case round =>
        clear hO2 hKs hU3 hg2
        obtain ⟨j, hj1, hj2, hj3, rfl, hO, hKs, hU⟩ := hrel
        by_cases hjn : j < n
        · by_cases hja : j < a + 64
          · have e0 : IntKind.i64.wrap ((j : Int) - (a : Int)) = ((j - a : Nat) : Int) := by rw [IntWalk.i64_in _ (by omega)]; omega
            have e1 : ((j - a : Nat) : Int) < 64 := by omega
            have e2 : (j : Int) < (n : Int) := by omega
            have hja' : (j : Int) < (a : Int) + 64 := by omega
            have c1 := (hS'.out.ext hU).open_ (by have := Hn.out; omega)
            obtain ⟨sb, so, rfl, hsb, hsc⟩ := c1
            have c2 := hsc j (by have := Hn.out; omega)
            have c3 := hKs.cells (j - a) (by rw [HKl.out]; omega)
            rw [Nat.zero_add] at c3
            have hO' := hide hO
            have hKs' := hide hKs
            clear hsc hO hKs hsb
            go_wp2_with fail
            refine wp_region_plan (Same _) 14 [(false,0), (false,1), (false,2), (false,3), (false,4), (false,5), (false,6), (false,7), (false,8), (false,9), (false,10), (false,11), (false,12), (false,13)] (by kernel_rfl) (by kernel_rfl) rfl (fun hne => ?_)
            repeat (refine head_q rfl (fun K hK => ?_); go_simp; refine hK _ ?_; clear hK K)
            refine head_nil ?_
            simp only [List.drop_succ_cons, List.drop_zero]
            refine wpList_store_own by8 one8 (gat b j ^^^ gat K (j - a)) rfl rfl Try.sz8 rfl rfl hO'.out (by rw [xorTo_length, ← Hn.out]; exact hjn) ?_
            intro w3 hO3 hU3
            have hU3 := hU3.undrew
            have hO4 : Own w3 w.heap.size 5 (some ⟨w.heap.size, 0, none⟩) n ((xorTo key ctr nonce b (j + 1)).map by8) := by
              have h5 := Ham.out
              have h6 := Hn.out
              subst h5
              rw [HK.out, xorTo_step key ctr nonce b m j hj1 (by omega) (by omega)] at hO3
              exact hO3
            have hKs3 := hKs'.out.upd hU3 (fun b o e => by injection e with e; injection e with e; unfold only; omega)
            have hU4 := upd_new hU3 hU (fun i hi => Nat.le_of_eq hi.symm)
            clear e0 e1 e2 c2 c3 hne hO3 hU3 hU hO' hKs'
            go_wp2
            go_roundw
            case rel => exact ⟨j + 1, by omega, by omega, by omega, by go_num, hO4, hKs3, hU4⟩
            case measure => simp [intOf]; omega
          · have hja' : ¬ (j : Int) < (a : Int) + 64 := by omega
            go_wp2
            go_roundw
            case rel => exact ⟨a + 64, m + 1, by omega, by have := Ham.out; unfold Hid; omega, by go_num, congrArg (fun x => Value.int .u32 (n32 x)) (ctr_step ctr m), by rw [show a + 64 = j by omega]; exact hO, hU⟩
            case measure => simp [intOf]; omega
        · have hjn' : ¬ (j : Int) < (n : Int) := by omega
          go_wp2
          go_roundw
          case rel => exact ⟨a + 64, m + 1, by omega, by have := Ham.out; unfold Hid; omega, by go_num, congrArg (fun x => Value.int .u32 (n32 x)) (ctr_step ctr m), by rw [xorTo_full key ctr nonce b (a + 64) (by have := Hn.out; omega), ← xorTo_full key ctr nonce b j (by have := Hn.out; omega)]; exact hO, hU⟩
          case measure => simp [intOf]; omega
    · have hlt' : ¬ (a : Int) < (n : Int) := by omega
      go_wp2
      go_ret2
      refine ⟨some ⟨w.heap.size, 0, none⟩, n, rfl, ?_, ?_, hU⟩
      · rw [xors_length]; exact Hn.out
      · rw [xorTo_full key ctr nonce b a (by have := Hn.out; omega)] at hO
        exact hO
end Go.Proofs.Ytkbhenlkkpnbnaa
