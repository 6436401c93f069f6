/- The laws of the tag: the chapter's example lives. -/
import Derived.Lib.SmallJoins
import Derived.Test.YtpffdpieciaooaaTags
namespace Go.Proofs.Ytpffdpieciaooaa
set_option linter.unusedSimpArgs false
set_option linter.unusedVariables false
open Go.RowKit
open Nt
attribute [local go_sem] steady steadyUpon Cls same_cell by8
attribute [local irreducible] wpHead wpTree

def txKey : List (BitVec 8) := [0x85, 0xd6, 0xbe, 0x78, 0x57, 0x55, 0x6d, 0x33, 0x7f, 0x44, 0x52, 0xfe, 0x42, 0xd5, 0x06, 0xa8, 0x01, 0x03, 0x80, 0x8a, 0xfb, 0x0d, 0xb2, 0xfd, 0x4a, 0xbf, 0xf6, 0xaf, 0x41, 0x49, 0xf5, 0x1b]
def txMsg : List (BitVec 8) := [67, 114, 121, 112, 116, 111, 103, 114, 97, 112, 104, 105, 99, 32, 70, 111, 114, 117, 109, 32, 82, 101, 115, 101, 97, 114, 99, 104, 32, 71, 114, 111, 117, 112]
theorem ex_tag0 : gat (tagOf txKey txMsg) 0 = 168 := by decide +kernel
theorem ex_tag15 : gat (tagOf txKey txMsg) 15 = 169 := by decide +kernel
theorem tagOf_length (key b : List (BitVec 8)) : (tagOf key b).length = 16 := by unfold tagOf; rw [List.length_take, List.length_reverse, toB_length]; rfl
theorem Sl.mark8 (w : World) (t : TypeId) (fr : Nat × Nat) (xs : List (BitVec 8)) : Sl by8 (w.alloc (.cells (xs.map by8).toArray t fr)) (some ⟨w.heap.size, 0, none⟩) xs :=
  Sl.of_cells fun i hi => by
    rw [Nat.zero_add, World.cell?_alloc_mark]
    simp [gat_some hi]
theorem Sl.at0 {W : World} {A : Option Addr} {xs : List (BitVec 8)} (h : Sl by8 W A xs) (h0 : 0 < xs.length) : ∃ b o, A = some ⟨b, o, none⟩ ∧ ∀ i, i < xs.length → W.cell? ⟨b, o + i, none⟩ = some (by8 (gat xs i)) := by
  obtain ⟨b, o, e, hb, hc⟩ := h.open_ h0
  exact ⟨b, o, e, hc⟩
set_option maxRecDepth 100000 in
set_option maxHeartbeats 2000000 in
theorem tlives_any (w : World) : Calls Try.prog 15 #[] w fun e w' => e = .returned (.bool true) ∧ Ext w w' := by
  have hc2 := Joins.run_convert_bytes_const_at (P := Try.prog) (w.alloc (.cells #[.int .u8 133, .int .u8 214, .int .u8 190, .int .u8 120, .int .u8 87, .int .u8 85, .int .u8 109, .int .u8 51, .int .u8 127, .int .u8 68, .int .u8 82, .int .u8 254, .int .u8 66, .int .u8 213, .int .u8 6, .int .u8 168, .int .u8 1, .int .u8 3, .int .u8 128, .int .u8 138, .int .u8 251, .int .u8 13, .int .u8 178, .int .u8 253, .int .u8 74, .int .u8 191, .int .u8 246, .int .u8 175, .int .u8 65, .int .u8 73, .int .u8 245, .int .u8 27] 5)) 22 5 #[.int .u8 67, .int .u8 114, .int .u8 121, .int .u8 112, .int .u8 116, .int .u8 111, .int .u8 103, .int .u8 114, .int .u8 97, .int .u8 112, .int .u8 104, .int .u8 105, .int .u8 99, .int .u8 32, .int .u8 70, .int .u8 111, .int .u8 114, .int .u8 117, .int .u8 109, .int .u8 32, .int .u8 82, .int .u8 101, .int .u8 115, .int .u8 101, .int .u8 97, .int .u8 114, .int .u8 99, .int .u8 104, .int .u8 32, .int .u8 71, .int .u8 114, .int .u8 111, .int .u8 117, .int .u8 112] 34 34 (w.heap.size + 1) (by simp) Try.n_under_bs Try.n_under8
  go_enter Try.func15, Try.ntmps15
  go_wp2_with fail
  refine name_c (fun W hW => ?_)
  have hE : Ext w W := by rw [hW]; exact ((Upd.refl _ w).alloc _).alloc _
  have hS1 : Sl by8 W (some ⟨w.heap.size, 0, none⟩) txKey := by rw [hW]; exact (Sl.new_at by8 txKey rfl (by kernel_rfl)).ext ((Upd.refl _ _).alloc _)
  have hS2 : Sl by8 W (some ⟨w.heap.size + 1, 0, none⟩) txMsg := by
    rw [hW]
    have h := Sl.mark8 (w.alloc (.cells (txKey.map by8).toArray 5)) 5 (34, 35) txMsg
    rw [show (w.alloc (.cells (txKey.map by8).toArray 5)).heap.size = w.heap.size + 1 by simp] at h
    exact h
  clear hW
  refine (tag_any _ _ 32 34 34 txKey txMsg _ rfl rfl (by omega) (by omega) (by omega) hS1 hS2).mono ?_
  rintro e w2 ⟨A2, rfl, hS, hU⟩
  obtain ⟨b, o, rfl, hc⟩ := hS.at0 (by rw [tagOf_length]; omega)
  have c0 := hc 0 (by rw [tagOf_length]; omega)
  have c15 := hc 15 (by rw [tagOf_length]; omega)
  rw [ex_tag0] at c0
  rw [ex_tag15] at c15
  have d0 : w2.cell? ⟨b, o, none⟩ = some (.int .u8 168) := c0
  have d15 : w2.cell? ⟨b, o + 15, none⟩ = some (.int .u8 169) := c15
  clear hc c0 c15 hS
  replace hE := hE.trans hU
  clear hU hS1 hS2
  go_wp2_with fail
  go_ret
  exact ⟨rfl, hE⟩
end Go.Proofs.Ytpffdpieciaooaa
