/- A block of the sum, walked. -/
import Derived.Test.YtoekbomfepedcaaShaC
namespace Go.Proofs.Ytoekbomfepedcaa
set_option linter.unusedSimpArgs false
set_option linter.unusedVariables false
open Go.RowKit
open Sha
attribute [local go_sem] steady steadyUpon Cls same_cell by8 by32 by64
theorem shr3_u32 (x : BitVec 32) : n32 x / (8 : Int) = n32 (x >>> 3) := shr_u32' x 3
theorem shr10_u32 (x : BitVec 32) : n32 x / (1024 : Int) = n32 (x >>> 10) := shr_u32' x 10
theorem not_u32 (x : BitVec 32) : bits .xor .u32 IntKind.u32.max (n32 x) = n32 (~~~x) := by
  rw [show IntKind.u32.max = n32 (BitVec.allOnes 32) by decide, xor_u32, BitVec.allOnes_xor]
attribute [local go_sem] not_u32 add_u32 xor_u32 or_u32 and_u32 conv_u8_u32 shl8_u32 shl16_u32 shl24_u32 shr3_u32 shr10_u32

theorem rot_7 (x : BitVec 32) (w : World) : Calls Try.prog 129 #[.int .u32 (n32 x), .int .i64 (-7)] w fun e w' => e = .returned (.int .u32 (n32 (rotr x 7))) ∧ w = w' :=
  rotr_any x (-7) 25 7 (by decide) (by omega) (by omega) w
theorem rot_18 (x : BitVec 32) (w : World) : Calls Try.prog 129 #[.int .u32 (n32 x), .int .i64 (-18)] w fun e w' => e = .returned (.int .u32 (n32 (rotr x 18))) ∧ w = w' :=
  rotr_any x (-18) 14 18 (by decide) (by omega) (by omega) w
theorem rot_17 (x : BitVec 32) (w : World) : Calls Try.prog 129 #[.int .u32 (n32 x), .int .i64 (-17)] w fun e w' => e = .returned (.int .u32 (n32 (rotr x 17))) ∧ w = w' :=
  rotr_any x (-17) 15 17 (by decide) (by omega) (by omega) w
theorem rot_19 (x : BitVec 32) (w : World) : Calls Try.prog 129 #[.int .u32 (n32 x), .int .i64 (-19)] w fun e w' => e = .returned (.int .u32 (n32 (rotr x 19))) ∧ w = w' :=
  rotr_any x (-19) 13 19 (by decide) (by omega) (by omega) w
theorem rot_6 (x : BitVec 32) (w : World) : Calls Try.prog 129 #[.int .u32 (n32 x), .int .i64 (-6)] w fun e w' => e = .returned (.int .u32 (n32 (rotr x 6))) ∧ w = w' :=
  rotr_any x (-6) 26 6 (by decide) (by omega) (by omega) w
theorem rot_11 (x : BitVec 32) (w : World) : Calls Try.prog 129 #[.int .u32 (n32 x), .int .i64 (-11)] w fun e w' => e = .returned (.int .u32 (n32 (rotr x 11))) ∧ w = w' :=
  rotr_any x (-11) 21 11 (by decide) (by omega) (by omega) w
theorem rot_25 (x : BitVec 32) (w : World) : Calls Try.prog 129 #[.int .u32 (n32 x), .int .i64 (-25)] w fun e w' => e = .returned (.int .u32 (n32 (rotr x 25))) ∧ w = w' :=
  rotr_any x (-25) 7 25 (by decide) (by omega) (by omega) w
theorem rot_2 (x : BitVec 32) (w : World) : Calls Try.prog 129 #[.int .u32 (n32 x), .int .i64 (-2)] w fun e w' => e = .returned (.int .u32 (n32 (rotr x 2))) ∧ w = w' :=
  rotr_any x (-2) 30 2 (by decide) (by omega) (by omega) w
theorem rot_13 (x : BitVec 32) (w : World) : Calls Try.prog 129 #[.int .u32 (n32 x), .int .i64 (-13)] w fun e w' => e = .returned (.int .u32 (n32 (rotr x 13))) ∧ w = w' :=
  rotr_any x (-13) 19 13 (by decide) (by omega) (by omega) w
theorem rot_22 (x : BitVec 32) (w : World) : Calls Try.prog 129 #[.int .u32 (n32 x), .int .i64 (-22)] w fun e w' => e = .returned (.int .u32 (n32 (rotr x 22))) ∧ w = w' :=
  rotr_any x (-22) 10 22 (by decide) (by omega) (by omega) w

theorem w0_step (m : Nat → BitVec 8) (k j : Nat) : put1 (w0 m k) k (be m k) j = w0 m (k + 1) j := by
  unfold put1 w0
  by_cases h : j = k
  · subst h; rw [if_pos rfl, if_pos (by omega)]
  · rw [if_neg h]
    by_cases h4 : j < k
    · rw [if_pos h4, if_pos (by omega)]
    · rw [if_neg h4, if_neg (by omega)]
def shift (V : Nat → BitVec 32) : Nat → BitVec 32 := fun j => if j = 0 then V 0 else V (j - 1)
theorem round_put (w V : Nat → BitVec 32) (i j : Nat) : put1 (put1 (shift V) 4 (shift V 4 + tt w V i)) 0 (tt w V i + uu V) j = round w V i j := by
  unfold put1 round shift
  by_cases h : j = 0
  · rw [if_pos h, if_pos h]
  · rw [if_neg h, if_neg h]
    by_cases h4 : j = 4
    · rw [if_pos h4, if_neg h, if_pos h4]; rfl
    · rw [if_neg h4, if_neg h4, if_neg h]
theorem gat_range (V : Nat → BitVec 32) (n i : Nat) (h : i < n) : gat ((List.range n).map V) i = V i := by simp [gat, h]

theorem sched_step (m : Nat → BitVec 8) (j : Nat) (h : 16 ≤ j) : steps sstep (w0 m 16) (j + 1 - 16) =
    put1 (steps sstep (w0 m 16) (j - 16)) j (steps sstep (w0 m 16) (j - 16) (j - 16) + steps sstep (w0 m 16) (j - 16) (j - 7) + s0 (steps sstep (w0 m 16) (j - 16) (j - 15)) + s1 (steps sstep (w0 m 16) (j - 16) (j - 2))) := by
  obtain ⟨k, rfl⟩ : ∃ k, j = 16 + k := ⟨j - 16, by omega⟩
  rw [show 16 + k + 1 - 16 = k + 1 by omega, show 16 + k - 16 = k by omega, show 16 + k - 7 = 9 + k by omega, show 16 + k - 15 = 1 + k by omega, show 16 + k - 2 = 14 + k by omega]
  rfl
theorem Try.under_sl : Try.prog.underlying 31 = some (.slice 104) := by kernel_rfl
theorem zero8 (i : Nat) (hi : i < 8) : (#[Value.int .u32 0, .int .u32 0, .int .u32 0, .int .u32 0, .int .u32 0, .int .u32 0, .int .u32 0, .int .u32 0] : Array Value)[i]? = some (by32 0) := by
  show (Array.replicate 8 (Value.int .u32 0))[i]? = _
  simp [hi, by32]; rfl
theorem ofFn_head (f : Nat → Value) (H : Nat → BitVec 32) (h : ∀ j, j < 8 → f j = by32 (H j)) : (Array.ofFn fun i : Fin 8 => f i) = Array.ofFn fun i : Fin 8 => by32 (H i) :=
  congrArg Array.ofFn (funext fun i => h i i.isLt)
set_option maxRecDepth 100000 in
set_option maxHeartbeats 1000000 in
theorem block_any (g T N sb so c : Nat) (m : Nat → BitVec 8) (H : Nat → BitVec 32) (f : Nat → Value) (w : World) (hN : 8 ≤ N) (hA : Arr w g T N f) (hf : ∀ j, j < 8 → f j = by32 (H j)) (hm : ∀ j, j < 64 → w.cell? ⟨sb, so + j, none⟩ = some (by8 (m j))) :
    Calls Try.prog 117 #[.pointer (some ⟨g, 0, none⟩), .slice (some ⟨sb, so, none⟩) 64 c] w fun e w' => e = .returned (.tuple #[]) ∧ Arr w' g T N (fun j => if j < 8 then by32 (compress m H j) else f j) ∧ Upd (only g) w w' := by
  have Hm := hide hm
  have Hf := hide hf
  have HA := hide hA
  have hgl := hA.lt
  clear hm hf hA
  go_enter Try.func117, Try.ntmps117
  go_wp2_with fail
  go_loopw [17] (fun i wr => ∃ k : Nat, k ≤ 16 ∧ i = .int .i64 k ∧ Arr wr w.heap.size 169 64 (fun j => by32 (w0 m k j)) ∧ Ext w wr) (fun i _ => 16 - (intOf i).toNat)
  case atStart => exact ⟨0, by omega, rfl, Arr.new w _ _ 64 _ rfl (fun i hi => zero64 i hi), (Upd.refl _ _).alloc _⟩
  case round =>
    obtain ⟨k, hk, rfl, hA, hU⟩ := hrel
    by_cases hlt : k < 16
    · have hlti : (k : Int) < 16 := by omega
      have hd : decide ((k : Int) < 16) = true := decide_eq_true (by omega)
      have hlt64 : k < 64 := by omega
      have hlt64i : (k : Int) < 64 := by omega
      have c0 := hU.cellv (Hm.out (4 * k) (by omega))
      have c1 := hU.cellv (Hm.out (4 * k + 1) (by omega))
      have c2 := hU.cellv (Hm.out (4 * k + 2) (by omega))
      have c3 := hU.cellv (Hm.out (4 * k + 3) (by omega))
      have e0 : IntKind.i64.wrap (4 * (k : Int)) = 4 * (k : Int) := by rw [IntWalk.i64_in _ (by omega)]
      have b0 : 4 * (k : Int) < 64 := by omega
      have p0 : 0 ≤ 4 * (k : Int) := by omega
      have t0 : (4 * (k : Int)).toNat = 4 * k := by omega
      have e1 : IntKind.i64.wrap (4 * (k : Int) + 1) = 4 * (k : Int) + 1 := by rw [IntWalk.i64_in _ (by omega)]
      have b1 : 4 * (k : Int) + 1 < 64 := by omega
      have p1 : 0 ≤ 4 * (k : Int) + 1 := by omega
      have t1 : (4 * (k : Int) + 1).toNat = 4 * k + 1 := by omega
      have e2 : IntKind.i64.wrap (4 * (k : Int) + 2) = 4 * (k : Int) + 2 := by rw [IntWalk.i64_in _ (by omega)]
      have b2 : 4 * (k : Int) + 2 < 64 := by omega
      have p2 : 0 ≤ 4 * (k : Int) + 2 := by omega
      have t2 : (4 * (k : Int) + 2).toNat = 4 * k + 2 := by omega
      have e3 : IntKind.i64.wrap (4 * (k : Int) + 3) = 4 * (k : Int) + 3 := by rw [IntWalk.i64_in _ (by omega)]
      have b3 : 4 * (k : Int) + 3 < 64 := by omega
      have p3 : 0 ≤ 4 * (k : Int) + 3 := by omega
      have t3 : (4 * (k : Int) + 3).toNat = 4 * k + 3 := by omega
      have hA' := hide hA
      clear hA
      go_wp2_with fail
      refine wp_region_plan (Same _) 35 [(false,0), (false,1), (false,2), (false,3), (false,4), (false,5), (false,6), (false,7), (false,8), (false,9), (false,10), (false,11), (false,12), (false,13), (false,14), (false,15), (false,16), (false,17), (false,18), (false,19), (false,20), (false,21), (false,22), (false,23), (false,24), (false,25), (false,26), (false,27), (false,28), (false,29), (false,30), (false,31), (false,32), (false,33), (false,34)] (by kernel_rfl) (by kernel_rfl) rfl (fun hne => ?_)
      repeat (refine head_q rfl (fun K hK => ?_); have hK2 := hide hK; clear hK; go_simp; refine hK2.out _ ?_; clear hK2 K)
      refine head_nil ?_
      try simp only [List.drop_succ_cons, List.drop_zero]
      go_must (refine wpList_store_enc by32 one32 (be m k) rfl rfl Try.sz32 rfl rfl hA'.out hlt64 ?_); intro w2 hA2 hU2
      have hU2 := hU2.undrew
      go_wp2
      go_roundw
      case rel => exact ⟨k + 1, by omega, by go_num, hA2.congr (fun j _ => congrArg by32 (w0_step m k j)), upd_new hU2 hU (fun i hi => Nat.le_of_eq hi.symm)⟩
      case measure => simp [intOf]; omega
    · obtain rfl : k = 16 := by omega
      clear hk hlt
      go_wp2_with fail
      rw [show ((16 : Nat) : Int) = 16 from rfl]
      go_loopw [6] (fun i wx => ∃ j : Nat, 16 ≤ j ∧ j ≤ 64 ∧ i = .int .i64 j ∧ Arr wx w.heap.size 169 64 (fun i => by32 (steps sstep (w0 m 16) (j - 16) i)) ∧ Ext w wx) (fun i _ => 64 - (intOf i).toNat)
      case atStart => exact ⟨16, by omega, by omega, rfl, hA, hU⟩
      case round =>
        clear hA hU
        obtain ⟨j, hj1, hj2, rfl, hA, hU⟩ := hrel
        by_cases hlt : j < 64
        · have hlti : (j : Int) < 64 := by omega
          have hd : decide ((j : Int) < 64) = true := decide_eq_true (by omega)
          obtain ⟨X, hX⟩ : ∃ X, X = steps sstep (w0 m 16) (j - 16) := ⟨_, rfl⟩
          rw [← hX] at hA
          have HX := hide hX
          clear hX
          have e15 : IntKind.i64.wrap ((j : Int) - 15) = ((j - 15 : Nat) : Int) := by rw [IntWalk.i64_in _ (by omega)]; omega
          have e2 : IntKind.i64.wrap ((j : Int) - 2) = ((j - 2 : Nat) : Int) := by rw [IntWalk.i64_in _ (by omega)]; omega
          have e16 : IntKind.i64.wrap ((j : Int) - 16) = ((j - 16 : Nat) : Int) := by rw [IntWalk.i64_in _ (by omega)]; omega
          have e7 : IntKind.i64.wrap ((j : Int) - 7) = ((j - 7 : Nat) : Int) := by rw [IntWalk.i64_in _ (by omega)]; omega
          have b15 : ((j - 15 : Nat) : Int) < 64 := by omega
          have b2 : ((j - 2 : Nat) : Int) < 64 := by omega
          have b16 : ((j - 16 : Nat) : Int) < 64 := by omega
          have b7 : ((j - 7 : Nat) : Int) < 64 := by omega
          have c15 := hA.cell (i := j - 15) (by omega)
          have c2 := hA.cell (i := j - 2) (by omega)
          have c16 := hA.cell (i := j - 16) (by omega)
          have c7 := hA.cell (i := j - 7) (by omega)
          have hA' := hide hA
          clear hA
          go_wp2_with fail
          refine wp_region_plan (Same _) 9 [(false,0), (false,1), (false,2), (false,3), (false,4), (false,5), (false,6), (false,7), (false,8)] (by kernel_rfl) (by kernel_rfl) rfl (fun hne => ?_)
          repeat (refine head_q rfl (fun K hK => ?_); have hK2 := hide hK; clear hK; go_simp; refine hK2.out _ ?_; clear hK2 K)
          refine head_nil ?_
          try simp only [List.drop_succ_cons, List.drop_zero]
          go_wp2_with fail
          clear hne
          refine wp_region_plan (Same _) 29 [(false,0), (false,1), (false,2), (false,3), (false,4), (false,5), (false,6), (false,7), (false,8), (false,9), (false,10), (false,12), (false,15), (false,16), (false,19), (false,21), (false,24), (false,25), (true,11), (true,13), (false,14), (false,17), (false,18), (true,20), (true,22), (false,23), (false,26), (false,27), (false,28)] (by kernel_rfl) (by kernel_rfl) rfl (fun hne => ?_)
          repeat (refine head_q rfl (fun K hK => ?_); have hK2 := hide hK; clear hK; go_simp; refine hK2.out _ ?_; clear hK2 K)
          refine head_l rfl ?_
          go_wp2_with (go_at_call 129; refine (rot_7 _ _).mono ?_; rintro e w' ⟨rfl, rfl⟩)
          refine ⟨_, fun _ h => h, ⟨⟨_, rfl⟩, rfl⟩, ?_⟩
          repeat (refine head_q rfl (fun K hK => ?_); have hK2 := hide hK; clear hK; go_simp; refine hK2.out _ ?_; clear hK2 K)
          refine head_l rfl ?_
          go_wp2_with (go_at_call 129; refine (rot_18 _ _).mono ?_; rintro e w' ⟨rfl, rfl⟩)
          refine ⟨_, fun _ h => h, ⟨⟨_, rfl⟩, rfl⟩, ?_⟩
          repeat (refine head_q rfl (fun K hK => ?_); have hK2 := hide hK; clear hK; go_simp; refine hK2.out _ ?_; clear hK2 K)
          refine head_l rfl ?_
          go_wp2_with (go_at_call 129; refine (rot_17 _ _).mono ?_; rintro e w' ⟨rfl, rfl⟩)
          refine ⟨_, fun _ h => h, ⟨⟨_, rfl⟩, rfl⟩, ?_⟩
          repeat (refine head_q rfl (fun K hK => ?_); have hK2 := hide hK; clear hK; go_simp; refine hK2.out _ ?_; clear hK2 K)
          refine head_l rfl ?_
          go_wp2_with (go_at_call 129; refine (rot_19 _ _).mono ?_; rintro e w' ⟨rfl, rfl⟩)
          refine ⟨_, fun _ h => h, ⟨⟨_, rfl⟩, rfl⟩, ?_⟩
          repeat (refine head_q rfl (fun K hK => ?_); have hK2 := hide hK; clear hK; go_simp; refine hK2.out _ ?_; clear hK2 K)
          refine head_nil ?_
          try simp only [List.drop_succ_cons, List.drop_zero]
          go_must (refine wpList_store_enc by32 one32 (X (j - 16) + X (j - 7) + s0 (X (j - 15)) + s1 (X (j - 2))) rfl rfl Try.sz32 rfl rfl hA'.out hlt ?_); intro w2 hA2 hU2
          have hU2 := hU2.undrew
          clear e15 e2 e16 e7 b15 b2 b16 b7 c15 c2 c16 c7 hA'
          go_wp2
          go_roundw
          case rel => exact ⟨j + 1, by omega, by omega, by go_num, hA2.congr (fun i _ => congrArg by32 (by rw [sched_step m j hj1, ← HX.out])), upd_new hU2.undrew hU (fun i hi => Nat.le_of_eq hi.symm)⟩
          case measure => simp [intOf]; omega
        · obtain rfl : j = 64 := by omega
          clear hj1 hj2 hlt
          obtain ⟨X, hX⟩ : ∃ X, X = sched m := ⟨_, rfl⟩
          have hA1 : Arr wr w.heap.size 169 64 (fun i => by32 (X i)) := by rw [hX]; exact hA
          have HX := hide hX
          clear hX hA
          have hG := (HA.out.ext hU)
          go_wp2_with (first
            | (refine wpList_load_head rfl rfl rfl hG hN Try.under_state Try.sz_state ?_; rw [ofFn_head f H Hf.out])
            | (refine wpList_store_whole (n := 8) (f := fun j => by32 (H j)) rfl rfl rfl rfl (fun _ => rfl) (Arr.new _ _ _ 8 (fun _ => by32 0) rfl zero8) Try.sz_state ?_; intro w3 hA3 hU3)
            | (go_at_call 130; refine (constants_any _).mono ?_; rintro e w4 ⟨rfl, hU4⟩))
          have hvw : w.heap.size < wr.heap.size := hA1.lt
          obtain ⟨v, hv⟩ : ∃ v, v = wr.heap.size := ⟨_, rfl⟩
          have hA4 := ((hA1.alloc _).upd hU3 (fun h => by unfold only at h; omega)).ext hU4
          have hV4 := hA3.ext hU4
          have hU5 := (upd_new hU3 (hU.alloc _) (fun i hi => by unfold only at hi; have := hU.size; omega)).trans hU4
          rw [← hv] at hV4 hvw ⊢
          clear hA1 hG hA3 hU3 hU4 hU hv
          go_loopw [101] (fun i wx => ∃ k : Nat, k ≤ 64 ∧ i = .int .i64 k ∧ Arr wx w.heap.size 169 64 (fun i => by32 (X i)) ∧ Arr wx v 165 8 (fun j => by32 (steps (round X) H k j)) ∧ Ext w wx) (fun i _ => 64 - (intOf i).toNat)
          case atStart => exact ⟨0, by omega, rfl, hA4, hV4, hU5⟩
          case round =>
            clear hA4 hV4 hU5
            obtain ⟨k, hk, rfl, hA, hV, hU⟩ := hrel
            by_cases hlt : k < 64
            · have hlti : (k : Int) < 64 := by omega
              have hd : decide ((k : Int) < 64) = true := decide_eq_true (by omega)
              obtain ⟨V, hVe⟩ : ∃ V, V = steps (round X) H k := ⟨_, rfl⟩
              rw [← hVe] at hV
              have HV := hide hVe
              clear hVe
              have hix := fun (w : World) => run_index_arr (P := Try.prog) Try.under_64 Try.sz32 Try.under32 rfl (fun j => .int .u32 (n32 (kk j))) hlt .i64 w
              have d0 := hV.cell (i := 0) (by omega)
              have d1 := hV.cell (i := 1) (by omega)
              have d2 := hV.cell (i := 2) (by omega)
              have d4 := hV.cell (i := 4) (by omega)
              have d5 := hV.cell (i := 5) (by omega)
              have d6 := hV.cell (i := 6) (by omega)
              have d7 := hV.cell (i := 7) (by omega)
              have ck := hA.cell hlt
              have hA' := hide hA
              have hV' := hide hV
              clear hA hV
              go_wp2_with fail
              refine wp_region_plan (Same _) 5 [(false,0), (false,1), (false,2), (false,3), (false,4)] (by kernel_rfl) (by kernel_rfl) rfl (fun hne => ?_)
              repeat (refine head_q rfl (fun K hK => ?_); have hK2 := hide hK; clear hK; go_simp; refine hK2.out _ ?_; clear hK2 K)
              refine head_nil ?_
              try simp only [List.drop_succ_cons, List.drop_zero]
              go_wp2_with fail
              clear hne hix
              refine wp_region_plan (Same _) 28 [(false,0), (false,1), (false,2), (false,4), (false,7), (false,11), (false,12), (false,13), (false,14), (false,15), (false,16), (false,17), (false,18), (false,19), (false,20), (false,22), (false,24), (false,25), (false,26), (true,3), (true,5), (false,6), (true,8), (false,9), (false,10), (false,21), (false,23), (false,27)] (by kernel_rfl) (by kernel_rfl) rfl (fun hne => ?_)
              repeat (refine head_q rfl (fun K hK => ?_); have hK2 := hide hK; clear hK; go_simp; refine hK2.out _ ?_; clear hK2 K)
              refine head_l rfl ?_
              go_wp2_with (go_at_call 129; refine (rot_6 _ _).mono ?_; rintro e w' ⟨rfl, rfl⟩)
              refine ⟨_, fun _ h => h, ⟨⟨_, rfl⟩, rfl⟩, ?_⟩
              repeat (refine head_q rfl (fun K hK => ?_); have hK2 := hide hK; clear hK; go_simp; refine hK2.out _ ?_; clear hK2 K)
              refine head_l rfl ?_
              go_wp2_with (go_at_call 129; refine (rot_11 _ _).mono ?_; rintro e w' ⟨rfl, rfl⟩)
              refine ⟨_, fun _ h => h, ⟨⟨_, rfl⟩, rfl⟩, ?_⟩
              repeat (refine head_q rfl (fun K hK => ?_); have hK2 := hide hK; clear hK; go_simp; refine hK2.out _ ?_; clear hK2 K)
              refine head_l rfl ?_
              go_wp2_with (go_at_call 129; refine (rot_25 _ _).mono ?_; rintro e w' ⟨rfl, rfl⟩)
              refine ⟨_, fun _ h => h, ⟨⟨_, rfl⟩, rfl⟩, ?_⟩
              repeat (refine head_q rfl (fun K hK => ?_); have hK2 := hide hK; clear hK; go_simp; refine hK2.out _ ?_; clear hK2 K)
              refine head_nil ?_
              try simp only [List.drop_succ_cons, List.drop_zero]
              go_wp2_with fail
              clear hne
              refine wp_region_plan (Same _) 24 [(false,0), (false,2), (false,5), (false,8), (false,9), (false,10), (false,11), (false,12), (false,13), (false,14), (false,15), (false,16), (false,17), (false,18), (false,19), (false,20), (false,21), (false,22), (true,1), (true,3), (false,4), (true,6), (false,7), (false,23)] (by kernel_rfl) (by kernel_rfl) rfl (fun hne => ?_)
              repeat (refine head_q rfl (fun K hK => ?_); have hK2 := hide hK; clear hK; go_simp; refine hK2.out _ ?_; clear hK2 K)
              refine head_l rfl ?_
              go_wp2_with (go_at_call 129; refine (rot_2 _ _).mono ?_; rintro e w' ⟨rfl, rfl⟩)
              refine ⟨_, fun _ h => h, ⟨⟨_, rfl⟩, rfl⟩, ?_⟩
              repeat (refine head_q rfl (fun K hK => ?_); have hK2 := hide hK; clear hK; go_simp; refine hK2.out _ ?_; clear hK2 K)
              refine head_l rfl ?_
              go_wp2_with (go_at_call 129; refine (rot_13 _ _).mono ?_; rintro e w' ⟨rfl, rfl⟩)
              refine ⟨_, fun _ h => h, ⟨⟨_, rfl⟩, rfl⟩, ?_⟩
              repeat (refine head_q rfl (fun K hK => ?_); have hK2 := hide hK; clear hK; go_simp; refine hK2.out _ ?_; clear hK2 K)
              refine head_l rfl ?_
              go_wp2_with (go_at_call 129; refine (rot_22 _ _).mono ?_; rintro e w' ⟨rfl, rfl⟩)
              refine ⟨_, fun _ h => h, ⟨⟨_, rfl⟩, rfl⟩, ?_⟩
              repeat (refine head_q rfl (fun K hK => ?_); have hK2 := hide hK; clear hK; go_simp; refine hK2.out _ ?_; clear hK2 K)
              refine head_nil ?_
              try simp only [List.drop_succ_cons, List.drop_zero]
              go_wp2_with fail
              clear hne
              go_wp2_with fail
              rw [show V 7 + (rotr (V 4) 6 ^^^ rotr (V 4) 11 ^^^ rotr (V 4) 25) + (V 4 &&& V 5 ^^^ ~~~V 4 &&& V 6) + kk k + X k = tt X V k from rfl]
              rw [show (rotr (V 0) 2 ^^^ rotr (V 0) 13 ^^^ rotr (V 0) 22) + (V 0 &&& V 1 ^^^ V 0 &&& V 2 ^^^ V 1 &&& V 2) = uu V from rfl]
              clear d0 d1 d2 d4 d5 d6 d7 ck
              refine wp_region_plan (Same _) 2 [(false,0), (false,1)] (by kernel_rfl) (by kernel_rfl) rfl (fun hne => ?_)
              repeat (refine head_q rfl (fun K hK => ?_); have hK2 := hide hK; clear hK; go_simp; refine hK2.out _ ?_; clear hK2 K)
              refine head_nil ?_
              try simp only [List.drop_succ_cons, List.drop_zero]
              have hsl : Sl by32 wr (some ⟨v, 0, none⟩) ((List.range 7).map V) := Sl.of_cells fun i hi => by
                have h7 : i < 7 := by simpa using hi
                rw [Nat.zero_add, gat_range V 7 i h7]
                exact hV'.out.cell (by omega)
              refine wpList_copy_arr by32 one32 ((List.range 7).map V) rfl rfl Try.under_sl Try.sz32 rfl rfl (hsl.ext (Upd.refl _ _).drew.drew.drew.drew) (by simp) (by simp) hV'.out.drew.drew.drew.drew (by simp) ?_
              intro w2 hV2 hU2
              have hU2 := hU2.undrew.undrew.undrew.undrew
              have hV3 := hV2.congr (f' := fun j => by32 (shift V j)) (fun j hj => by
                by_cases h : 1 ≤ j
                · rw [if_pos ⟨h, by simp; omega⟩, gat_range V 7 (j - 1) (by omega)]; unfold shift; rw [if_neg (by omega)]
                · obtain rfl : j = 0 := by omega
                  rw [if_neg (by omega)]; rfl)
              have dd := hV3.cell (i := 4) (by omega)
              have hA2 := hA'.out.upd hU2 (fun h => by unfold only at h; omega)
              have hU3 := upd_new hU2 hU (fun i hi => by unfold only at hi; omega)
              clear hV2 hA' hU2 hU
              go_wp2_with (first
                | (refine wpList_store_enc by32 one32 (shift V 4 + tt X V k) rfl rfl Try.sz32 rfl rfl hV3 (by omega) ?_; clear hV3 dd; intro w3 hV3 hU4)
                | (refine wpList_store_enc by32 one32 (tt X V k + uu V) rfl rfl Try.sz32 rfl rfl hV3 (by omega) ?_; clear hV3; intro w4 hV3 hU6))
              have hA3 := hA2.upd hU4 (fun h => by unfold only at h; omega)
              have hU5 := upd_new hU4 hU3 (fun i hi => by unfold only at hi; omega)
              have hA4 := hA3.upd hU6 (fun h => by unfold only at h; omega)
              have hU7 := upd_new hU6 hU5 (fun i hi => by unfold only at hi; omega)
              go_roundw
              case rel => exact ⟨k + 1, by omega, by go_num, hA4, hV3.congr (fun j hj => congrArg by32 (by rw [round_put, HV.out]; rfl)), hU7⟩
              case measure => simp [intOf]; omega
            · obtain rfl : k = 64 := by omega
              clear hk hlt
              obtain ⟨V, hVe⟩ : ∃ V, V = steps (round X) H 64 := ⟨_, rfl⟩
              rw [← hVe] at hV
              have HV := hide hVe
              clear hVe
              have hG := HA.out.ext hU
              go_wp2_with fail
              rw [show ((64 : Nat) : Int) = 64 from rfl]
              go_loopw [174] (fun i wx => ∃ k : Nat, k ≤ 8 ∧ i = .int .i64 k ∧ Arr wx g T N (fun j => if j < k then by32 (H j + V j) else f j) ∧ Arr wx v 165 8 (fun j => by32 (V j)) ∧ Upd (only g) w wx) (fun i _ => 8 - (intOf i).toNat)
              case atStart => exact ⟨0, by omega, rfl, hG.congr (fun j _ => by rw [if_neg (by omega)]), hV, Upd.ofExt hU⟩
              case round =>
                clear hV hU hG hA
                obtain ⟨k, hk, rfl, hG, hV, hU⟩ := hrel
                by_cases hlt : k < 8
                · have hlti : (k : Int) < 8 := by omega
                  have hd : decide ((k : Int) < 8) = true := decide_eq_true (by omega)
                  have cg : wr.cell? ⟨g, k, none⟩ = some (by32 (H k)) := by rw [hG.cell (by omega), if_neg (by omega), Hf.out k hlt]
                  have cv := hV.cell hlt
                  have hG' := hide hG
                  have hV' := hide hV
                  clear hG hV
                  go_wp2_with fail
                  refine wp_region_plan (Same _) 11 [(false,0), (false,1), (false,2), (false,3), (false,4), (false,5), (false,6), (false,7), (false,8), (false,9), (false,10)] (by kernel_rfl) (by kernel_rfl) rfl (fun hne => ?_)
                  repeat (refine head_q rfl (fun K hK => ?_); have hK2 := hide hK; clear hK; go_simp; refine hK2.out _ ?_; clear hK2 K)
                  refine head_nil ?_
                  try simp only [List.drop_succ_cons, List.drop_zero]
                  refine wpList_store_arr rfl rfl Try.sz32 rfl (v := by32 (H k + V k)) rfl rfl hG'.out.drew (by omega) ?_
                  intro w2 hG2 hU2
                  have hU2 := hU2.undrew
                  have hV2 := hV'.out.upd hU2 (fun h => by unfold only at h; omega)
                  have hU3 := hU.trans hU2
                  clear cg cv hne hG' hV' hU hU2
                  go_wp2
                  go_roundw
                  case rel => exact ⟨k + 1, by omega, by go_num, hG2.congr (fun j _ => by
                    unfold put1
                    by_cases h : j = k
                    · subst h; rw [if_pos rfl, if_pos (by omega)]
                    · rw [if_neg h]
                      dsimp only
                      by_cases h2 : j < k
                      · rw [if_pos h2, if_pos (by omega)]
                      · rw [if_neg h2, if_neg (by omega)]), hV2, hU3⟩
                  case measure => simp [intOf]; omega
                · obtain rfl : k = 8 := by omega
                  clear hk hlt
                  go_wp2
                  go_end0
                  exact ⟨rfl, hG.congr (fun j _ => by rw [HV.out, HX.out]; rfl), hU⟩
end Go.Proofs.Ytoekbomfepedcaa
