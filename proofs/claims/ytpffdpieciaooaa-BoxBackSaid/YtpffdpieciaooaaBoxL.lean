/- The laws of the box: the chapter's example lives. -/
import Derived.Test.YtpffdpieciaooaaBoxE
import Derived.Great.BuildSlice
namespace Go.Proofs.Ytpffdpieciaooaa
set_option linter.unusedSimpArgs false
set_option linter.unusedVariables false
open Go.RowKit
open Nt Strm
attribute [local go_sem] steady steadyUpon Cls same_cell by8
attribute [local irreducible] wpHead wpTree
/-- a row under way: the first k are told -/
def rowK (f : Nat → BitVec 8) (n k : Nat) : List (BitVec 8) := (List.range k).map f ++ nul (n - k)
theorem rowK_length (f : Nat → BitVec 8) {n k : Nat} (h : k ≤ n) : (rowK f n k).length = n := by unfold rowK; rw [List.length_append, List.length_map, List.length_range, nul_length]; omega
theorem rowK_set (f : Nat → BitVec 8) {n k : Nat} (h : k < n) : (rowK f n k).set k (f k) = rowK f n (k + 1) := by
  unfold rowK
  rw [List.set_append_right k (f k) (by simp), List.length_map, List.length_range, Nat.sub_self, show n - k = n - (k + 1) + 1 by omega]
  unfold nul
  rw [List.replicate_succ, List.set_cons_zero, List.range_succ, List.map_append, List.append_assoc]
  rfl
theorem rowK_zero (f : Nat → BitVec 8) (n : Nat) : rowK f n 0 = nul n := rfl
theorem rowK_full (f : Nat → BitVec 8) (n : Nat) : rowK f n n = (List.range n).map f := by unfold rowK nul; rw [Nat.sub_self]; simp
def bkMsgZ : List Int := [76, 97, 100, 105, 101, 115, 32, 97, 110, 100, 32, 71, 101, 110, 116, 108, 101, 109, 101, 110, 32, 111, 102, 32, 116, 104, 101, 32, 99, 108, 97, 115, 115, 32, 111, 102, 32, 39, 57, 57, 58, 32, 73, 102, 32, 73, 32, 99, 111, 117, 108, 100, 32, 111, 102, 102, 101, 114, 32, 121, 111, 117, 32, 111, 110, 108, 121, 32, 111, 110, 101, 32, 116, 105, 112, 32, 102, 111, 114, 32, 116, 104, 101, 32, 102, 117, 116, 117, 114, 101, 44, 32, 115, 117, 110, 115, 99, 114, 101, 101, 110, 32, 119, 111, 117, 108, 100, 32, 98, 101, 32, 105, 116, 46]
theorem name_l {P : Program} {ops : Array Oper} {l : List Oper} {Q : Exit → Act → World → Prop} {a : Act} {W : World} (h : ∀ W', W' = W → wpList P ops Q l a W') : wpList P ops Q l a W := h W rfl
def kb (i : Nat) : BitVec 8 := BitVec.ofNat 8 (128 + i)
set_option maxRecDepth 100000 in
set_option maxHeartbeats 2000000 in
theorem blives_any (w : World) : Calls Try.prog 51 #[] w fun e w' => e = .returned (.bool true) ∧ Ext w w' := by
  go_enter Try.func51, Try.ntmps51
  go_wp2_with (at_make; go_must (refine wpList_mk _ _ _ Try.n_el8 rfl rfl 32 rfl rfl rfl rfl (by omega) (by unfold maxLen; omega) by8 rfl rfl (B := w.heap.size) (by simp) ?_); intro g w1 hO hg hU1)
  subst hg
  go_loopw [10] (fun i wr => ∃ k : Nat, k ≤ 32 ∧ i = .int .i64 (k : Int) ∧ Own wr w.heap.size 5 (some ⟨w.heap.size, 0, none⟩) 32 ((rowK kb 32 k).map by8) ∧ Ext w wr) (fun i _ => 32 - (intOf i).toNat)
  case atStart => exact ⟨0, Nat.zero_le _, rfl, hO, hU1⟩
  case round =>
    clear hO hU1
    obtain ⟨k, hk, rfl, hO, hU⟩ := hrel
    by_cases hk8 : k < 32
    · have hkI : (k : Int) < 32 := by omega
      have ck := hO.row.cell (i := k) (by rw [rowK_length kb hk]; omega)
      have fk := hO.row.frozen k
      have hO2 := hO.set (i := k) (by rw [rowK_length kb hk]; omega) (kb k) rfl
      rw [rowK_set kb hk8] at hO2
      have hU2 : Ext w (wr.setCell ⟨w.heap.size, k, none⟩ (by8 (kb k))) := Upd.fresh ((Upd.refl _ _).setCell (T := only w.heap.size) (p := ⟨w.heap.size, k, none⟩) (.inl rfl) _) hU (fun i hi => by unfold only at hi; omega)
      have HO2 := hide hO2
      have HU2 := hide hU2
      have hv : (128 : Int) + (k : Int) = n8 (kb k) := by unfold n8 kb; rw [BitVec.toNat_ofNat]; omega
      have hv2 : IntKind.u8.wrap (n8 (kb k)) = n8 (kb k) := wrapu_toNat .u8 rfl _
      clear hO2 hU2 hO hU
      go_wp2_with fail
      go_roundw
      case rel => exact ⟨k + 1, by omega, by go_num, HO2.out, HU2.out⟩
      case measure => simp [intOf]; omega
    · have hkI : ¬ (k : Int) < 32 := by omega
      obtain rfl : k = 32 := by omega
      have hO' : Own wr w.heap.size 5 (some ⟨w.heap.size, 0, none⟩) 32 (bkKey.map by8) := hO
      have hc2 := fun w => Joins.run_convert_bytes_const_at (P := Try.prog) w 22 5 (bkMsgZ.map (Value.int .u8)).toArray 114 114 w.heap.size rfl Try.n_el8.under Try.n_under8
      clear hO
      go_wp2_with (refine name_l (fun W2 hW2 => ?_); refine wpList_buildFlat rfl 22 5 114 _ rfl .u8 bkMsgZ ?_ ?_ ?_ ?_ ?_ ?_ ?_ ?_; go_must (exact Try.n_el8.under); go_must (kernel_rfl); go_must (kernel_rfl); go_must (rfl); go_must (decide); go_must (omega); go_must (kernel_rfl); have hc3 := hc2 W2; clear hc2; have HW2 := hide hW2; clear hW2)
      have hW2 := HW2.out
      clear HW2
      refine name_c (fun W3 hW3 => ?_)
      have hEw : Ext w W2 := by rw [hW2]; exact (hU.alloc _).alloc _
      have hE23 : Ext W2 W3 := by rw [hW3]; exact (Upd.refl _ _).alloc _
      have hSn : Sl by8 W3 (some ⟨wr.heap.size, 0, none⟩) bkNonce := Sl.ext (by rw [hW2]; exact (Sl.new_at by8 bkNonce rfl (by kernel_rfl)).ext ((Upd.refl _ _).alloc _)) hE23
      have hSs : Sl by8 W3 (some ⟨wr.heap.size + 1, 0, none⟩) bkSide := Sl.ext (by rw [hW2]; exact Sl.new_at by8 bkSide (by simp) (by kernel_rfl)) hE23
      have hSm : Sl by8 W3 (some ⟨W2.heap.size, 0, none⟩) bkMsg := by
        rw [hW3]
        have h := Sl.mark8 W2 5 (114, 115) bkMsg
        exact h
      have hSk : Sl by8 W3 (some ⟨w.heap.size, 0, none⟩) bkKey := (hO'.sl.ext (by rw [hW2]; exact (by repeat (first | (with_reducible exact Upd.refl _ _) | (with_reducible assumption) | (refine Upd.setCell ?_ (.inr (by first | exact Nat.le_refl _ | (dsimp only; omega) | (simp; done) | (simp; omega))) _) | (with_reducible refine Upd.alloc ?_ _) | (with_reducible refine Upd.drew ?_) | (with_reducible refine Upd.trans ?_ (by with_reducible assumption)))))).ext hE23
      clear hW3 hW2 hO' hc3
      refine (bseal_any _ _ _ _ 32 12 12 12 114 114 bkKey bkNonce bkSide bkMsg _ ⟨rfl, rfl, by omega, by omega, hSk, hSn, rfl, by omega, hSs, rfl, by omega, hSm⟩).mono ?_
      rintro e w4 ⟨A4, c4, rfl, -, hO4, hU4⟩
      have hE4 := (hEw.trans hE23).trans hU4
      obtain ⟨b, o, rfl, hc⟩ := hO4.sl.at0 (by rw [bxS_length]; omega)
      have c0 := hc 0 (by rw [bxS_length]; omega)
      have c114 := hc 114 (by rw [bxS_length]; decide)
      have c129 := hc 129 (by rw [bxS_length]; decide)
      rw [bk_0] at c0
      rw [bk_114] at c114
      rw [bk_129] at c129
      have d0 : w4.cell? ⟨b, o, none⟩ = some (.int .u8 211) := c0
      have d114 : w4.cell? ⟨b, o + 114, none⟩ = some (.int .u8 26) := c114
      have d129 : w4.cell? ⟨b, o + 129, none⟩ = some (.int .u8 145) := c129
      clear hc c0 c114 c129 hO4 hSk hSn hSs hSm hU4 hE23
      go_wp2_with fail
      go_ret
      exact ⟨rfl, hE4⟩
end Go.Proofs.Ytpffdpieciaooaa
