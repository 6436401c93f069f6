/- The law TagAdds, walked: two messages of one byte, and how their tags differ. -/
import Derived.Test.YtpffdpieciaooaaTagN
import Derived.Test.YtpffdpieciaooaaTagM
namespace Go.Proofs.Ytpffdpieciaooaa
set_option linter.unusedSimpArgs false
set_option linter.unusedVariables false
open Go.RowKit
open Nt
attribute [local go_sem] steady steadyUpon Cls same_cell by8 anyW
attribute [local irreducible] wpHead wpTree
theorem tadds_short (A : Option Addr) (n c : Nat) (r x y : BitVec 8) (w : World) (h : n < 16) :
    Calls Try.prog 5 #[.int .u8 (n8 r), .slice A n c, .int .u8 (n8 x), .int .u8 (n8 y)] w fun e w' => e = .returned (.bool true) ∧ Ext w w' := by
  have h1 : (n : Int) < 16 := by omega
  go_enter Try.func5, Try.ntmps5
  go_wp2_with fail
  refine (tlives_any _).mono ?_
  rintro e w1 ⟨rfl, hU1⟩
  go_wp2_with fail
  refine (tlives_any _).mono ?_
  rintro e w2 ⟨rfl, hU2⟩
  go_wp2_with fail
  go_ret
  exact ⟨rfl, hU1.trans hU2⟩
theorem diff_bd {r x y : Int} (hr : 0 ≤ r ∧ r ≤ 255) (hx : 0 ≤ x ∧ x ≤ 255) (hy : 0 ≤ y ∧ y ≤ 255) : -65025 ≤ r * (x - y) ∧ r * (x - y) ≤ 65025 := by
  have h1 : r * (x - y) ≤ 255 * 255 := by
    rcases Int.le_total (x - y) 0 with h | h
    · have := Int.mul_nonpos_of_nonneg_of_nonpos hr.1 h
      omega
    · exact Int.mul_le_mul hr.2 (by omega) h (by omega)
  have h2 : r * (y - x) ≤ 255 * 255 := by
    rcases Int.le_total (y - x) 0 with h | h
    · have := Int.mul_nonpos_of_nonneg_of_nonpos hr.1 h
      omega
    · exact Int.mul_le_mul hr.2 (by omega) h (by omega)
  rw [Int.mul_sub] at *
  omega
set_option maxRecDepth 100000 in
set_option maxHeartbeats 2000000 in
theorem tadds_main (A : Option Addr) (n c : Nat) (r x y : BitVec 8) (s : List (BitVec 8)) (w : World) (h1 : Bi w A n c s) (hn : 16 ≤ n) :
    Calls Try.prog 5 #[.int .u8 (n8 r), .slice A n c, .int .u8 (n8 x), .int .u8 (n8 y)] w fun e w' => e = .returned (.bool true) ∧ Ext w w' := by
  have H1 := hide h1
  have hs1 : ∀ w, (Instr.sliceAt 22 (.slice A n c) none (some (.int .i64 16)) none).run Try.prog w = .ok (.slice A 16 c) w := fun w => run_cut_h Try.n_el8.under Try.n_sz8 A n c 16 .i64 (by have := h1.2.1; omega) w
  clear h1
  have hn' : ¬ (n : Int) < 16 := by omega
  go_enter Try.func5, Try.ntmps5
  go_wp2_with fail
  refine (tlives_any _).mono ?_
  rintro e w1 ⟨rfl, hU1⟩
  go_wp2_with fail
  refine wp_region_plan (Ext _) 4 [(false,1), (false,2), (true,0), (true,3)] (by kernel_rfl) (by kernel_rfl) (Upd.refl _ _) (fun hne => ?_)
  repeat (refine head_q rfl (fun K hK => ?_); have hK2 := hide hK; clear hK; go_simp; refine hK2.out _ ?_; clear hK2 K)
  refine head_l rfl ?_
  refine wpList_mk _ _ _ Try.n_el8 rfl rfl 16 rfl rfl rfl rfl (by omega) (by unfold maxLen; omega) by8 rfl rfl (B := w1.heap.size) (by simp) ?_
  intro g w2 hO hg hU2
  go_wp2_with fail
  refine ⟨_, fun _ h => h, ⟨⟨_, hU2⟩, rfl⟩, ?_⟩
  have hK0 : Bi w2 A n c s := H1.out.ext ((hU1.drew).trans hU2)
  have hst : (s.take 16).length = 16 := by rw [List.length_take, hK0.1]; omega
  have Hst := hide hst
  have HK0 := hide hK0
  clear hst hK0
  repeat (refine head_q rfl (fun K hK => ?_); have hK2 := hide hK; clear hK; go_simp; refine hK2.out _ ?_; clear hK2 K)
  refine head_l rfl ?_
  refine wpList_apd by8 one8 Try.n_el8 z16 (s.take 16) (z16 ++ s.take 16) 32 rfl (by rw [List.length_append, Hst.out]; rfl) (by omega) (by unfold maxLen; omega) rfl rfl rfl rfl hO rfl Hst.out (HK0.out.2.2.2.take 16) (hU2.size) ?_
  intro A3 c3 w3 hO3 hU3 hin3
  have hU3' : Ext w1.drew w3 := Upd.fresh hU3 hU2 (fun k hk => (hO.in_ hk).1)
  clear hin3 hU3 hO HK0 hg hU2
  go_wp2_with fail
  refine ⟨_, fun _ h => h, ⟨⟨_, hU3'⟩, rfl⟩, ?_⟩
  repeat (refine head_q rfl (fun K hK => ?_); have hK2 := hide hK; clear hK; go_simp; refine hK2.out _ ?_; clear hK2 K)
  refine head_nil ?_
  try simp only [List.drop_succ_cons, List.drop_zero]
  have hE3 : Ext w w3 := hU1.trans hU3'.undrew
  obtain ⟨s16, hs16⟩ : ∃ s16, s16 = s.take 16 := ⟨_, rfl⟩
  rw [← hs16] at hO3 Hst
  have hkl : (z16 ++ s16).length = 32 := by rw [List.length_append, Hst.out]; rfl
  have hc3 := hO3.cap.1
  rw [List.length_map, hkl] at hc3
  have hw1 : w.heap.size ≤ w1.heap.size := hU1.size
  obtain ⟨g3, rfl, hg3, hg3'⟩ := hO3.open_ (by rw [List.length_map, hkl]; omega)
  have hB4 : w.heap.size ≤ g3 := Nat.le_trans hw1 hg3
  have ck := hO3.row.cell (i := 0) (by rw [hkl]; omega)
  have fk := hO3.row.frozen 0
  have hO4 := hO3.set (i := 0) (by rw [hkl]; omega) r rfl
  have hU4 : Upd (only g3) w3 (w3.setCell ⟨g3, 0, none⟩ (by8 r)) := (Upd.refl _ _).setCell (T := only g3) (p := ⟨g3, 0, none⟩) (.inl rfl) _
  have hE4 : Ext w (w3.setCell ⟨g3, 0, none⟩ (by8 r)) := Upd.fresh hU4 hE3 (fun k hk => by unfold only at hk; omega)
  rw [show (z16 ++ s16).set 0 r = z16.set 0 r ++ s16 from rfl] at hO4
  have hkl4 : (z16.set 0 r ++ s16).length = 32 := by rw [List.length_append, List.length_set, Hst.out]; rfl
  obtain ⟨key, hkey⟩ : ∃ key, key = z16.set 0 r ++ s16 := ⟨_, rfl⟩
  rw [← hkey] at hO4 hkl4
  have hS4 := hO4.sl
  have Hkey := hide hkey
  have Hkl4 := hide hkl4
  have HE4 := hide hE4
  have HS4 := hide hS4
  clear hs16 hkl hU3' hU1 hO3 hg3 hg3' hw1 hB4 hU4 hO4 hkey hkl4 hE3 hs1 hE4 hS4
  go_wp2_with fail
  refine name_c (fun W hW => ?_)
  have hEW : Ext w W := by rw [hW]; exact HE4.out.alloc _
  have hSW : Sl by8 W (some ⟨g3, 0, none⟩) key := by rw [hW]; exact HS4.out.ext ((Upd.refl _ _).alloc _)
  have hSx : Sl by8 W (some ⟨w3.heap.size, 0, none⟩) [x] := by rw [hW]; exact Sl.new_at by8 [x] (by simp) rfl
  clear hW
  refine (tag_any _ _ c3 1 1 key [x] _ Hkl4.out rfl hc3 (by omega) (by omega) hSW hSx).mono ?_
  rintro e w4 ⟨A4, rfl, hS5, hU5⟩
  have hE5 := hEW.trans hU5
  have hS5k := hSW.ext hU5
  clear hEW hSx hU5 hSW
  go_wp2_with fail
  refine name_c (fun W2 hW2 => ?_)
  have hE6 : Ext w4 W2 := by rw [hW2]; exact (Upd.refl _ _).alloc _
  have hSy : Sl by8 W2 (some ⟨w4.heap.size, 0, none⟩) [y] := by rw [hW2]; exact Sl.new_at by8 [y] (by simp) rfl
  clear hW2
  refine (tag_any _ _ c3 1 1 key [y] _ Hkl4.out rfl hc3 (by omega) (by omega) (hS5k.ext hE6) hSy).mono ?_
  rintro e w5 ⟨A5, rfl, hS6, hU6⟩
  have hE7 := hE6.trans hU6
  have hS5' := hS5.ext hE7
  have hE8 := hE5.trans hE7
  have hdf := tag_diff r x y s16 Hst.out
  rw [← Hkey.out] at hdf
  obtain ⟨b1, o1, rfl, hc1⟩ := hS5'.at0 (by rw [tagOf_length]; omega)
  obtain ⟨b2, o2, rfl, hc2⟩ := hS6.at0 (by rw [tagOf_length]; omega)
  have x0 := hc1 0 (by rw [tagOf_length]; omega)
  have x1 := hc1 1 (by rw [tagOf_length]; omega)
  have y0 := hc2 0 (by rw [tagOf_length]; omega)
  have y1 := hc2 1 (by rw [tagOf_length]; omega)
  have bx0 := n8_bd (gat (tagOf key [x]) 0)
  have bx1 := n8_bd (gat (tagOf key [x]) 1)
  have by0 := n8_bd (gat (tagOf key [y]) 0)
  have by1 := n8_bd (gat (tagOf key [y]) 1)
  unfold by8 at x0 x1 y0 y1
  generalize n8 (gat (tagOf key [x]) 0) = a0 at *
  generalize n8 (gat (tagOf key [x]) 1) = a1 at *
  generalize n8 (gat (tagOf key [y]) 0) = e0 at *
  generalize n8 (gat (tagOf key [y]) 1) = e1 at *
  have br := n8_bd r
  have bx := n8_bd x
  have by' := n8_bd y
  have bd := diff_bd br bx by'
  clear hc1 hc2 hS5 hS5' hS6 hS5k hE5 hSy hE6 hU6 hE7
  have q1 : w5.drew.cell? ⟨b1, o1, none⟩ = some (.int .u8 a0) := x0
  have q2 : w5.drew.cell? ⟨b1, o1 + 1, none⟩ = some (.int .u8 a1) := x1
  have q3 : w5.drew.cell? ⟨b2, o2, none⟩ = some (.int .u8 e0) := y0
  have q4 : w5.drew.cell? ⟨b2, o2 + 1, none⟩ = some (.int .u8 e1) := y1
  clear x0 x1 y0 y1
  go_wp2_with fail
  have k1 := fun z : Wd (Same w5.drew) => (same_cell z ⟨b1, o1, none⟩).trans q1
  have k2 := fun z : Wd (Same w5.drew) => (same_cell z ⟨b1, o1 + 1, none⟩).trans q2
  have k3 := fun z : Wd (Same w5.drew) => (same_cell z ⟨b2, o2, none⟩).trans q3
  have k4 := fun z : Wd (Same w5.drew) => (same_cell z ⟨b2, o2 + 1, none⟩).trans q4
  refine wp_region_plan (Same _) 21 [(false,0), (false,1), (false,2), (false,3), (false,4), (false,5), (false,6), (false,7), (false,8), (false,9), (false,10), (false,11), (false,12), (false,13), (false,14), (false,15), (false,16), (false,17), (false,18), (false,19), (false,20)] (by kernel_rfl) (by kernel_rfl) rfl (fun hne => ?_)
  repeat (refine head_q rfl (fun K hK => ?_); have hK2 := hide hK; clear hK; go_simp; refine hK2.out _ ?_; clear hK2 K)
  refine head_nil ?_
  try simp only [List.drop_succ_cons, List.drop_zero]
  have w0 : IntKind.i64.wrap a0 = a0 := IntWalk.i64_in _ (by omega)
  have w1' : IntKind.i64.wrap a1 = a1 := IntWalk.i64_in _ (by omega)
  have w2' : IntKind.i64.wrap e0 = e0 := IntWalk.i64_in _ (by omega)
  have w3' : IntKind.i64.wrap e1 = e1 := IntWalk.i64_in _ (by omega)
  have w4' : IntKind.i64.wrap (256 * a1) = 256 * a1 := IntWalk.i64_in _ (by omega)
  have w5' : IntKind.i64.wrap (256 * e1) = 256 * e1 := IntWalk.i64_in _ (by omega)
  have w6 : IntKind.i64.wrap (a0 + 256 * a1) = a0 + 256 * a1 := IntWalk.i64_in _ (by omega)
  have w7 : IntKind.i64.wrap (a0 + 256 * a1 - e0) = a0 + 256 * a1 - e0 := IntWalk.i64_in _ (by omega)
  have w8 : IntKind.i64.wrap (a0 + 256 * a1 - e0 - 256 * e1) = a0 + 256 * a1 - e0 - 256 * e1 := IntWalk.i64_in _ (by omega)
  simp only [w0, w1', w2', w3', w4', w5', w6, w7, w8]
  have bD : -70000 ≤ a0 + 256 * a1 - e0 - 256 * e1 ∧ a0 + 256 * a1 - e0 - 256 * e1 ≤ 70000 := by omega
  clear w0 w1' w2' w3' w4' w5' w6 w7 w8 k1 k2 k3 k4 q1 q2 q3 q4 bx0 bx1 by0 by1
  generalize a0 + 256 * a1 - e0 - 256 * e1 = D at *
  generalize n8 r = R at *
  generalize n8 x = X at *
  generalize n8 y = Y at *
  obtain ⟨M, hM⟩ : ∃ M, M = R * (X - Y) := ⟨_, rfl⟩
  rw [← hM] at hdf bd
  have hM2 : R * (X - Y) = M := hM.symm
  have hdw : IntKind.i64.wrap ((D - M).tmod 65536) = 0 := by rw [hdf]; rfl
  clear hM
  go_wp2_with fail
  go_ret
  exact ⟨rfl, hE8.drew⟩
theorem tadds_any (A : Option Addr) (n c : Nat) (r x y : BitVec 8) (s : List (BitVec 8)) (w : World) (h1 : Bi w A n c s) :
    Calls Try.prog 5 #[.int .u8 (n8 r), .slice A n c, .int .u8 (n8 x), .int .u8 (n8 y)] w fun e w' => e = .returned (.bool true) ∧ Ext w w' := by
  by_cases hn : n < 16
  · exact tadds_short A n c r x y w hn
  · exact tadds_main A n c r x y s w h1 (by omega)
end Go.Proofs.Ytpffdpieciaooaa
