/- The document's block of the sum, walked. -/
import Derived.Test.YtoekbomfepedcaaShaR
namespace Go.Proofs.Ytoekbomfepedcaa
set_option linter.unusedSimpArgs false
set_option linter.unusedVariables false
open Go.RowKit
open Sha
attribute [local go_sem] steady steadyUpon Cls same_cell by8 by32 by64
attribute [local go_sem] not_u32 add_u32 xor_u32 or_u32 and_u32 conv_u8_u32 shl8_u32 shl16_u32 shl24_u32 shr3_u32 shr10_u32

theorem Try.el32 : ElemI Try.prog 31 104 (.int .u32 0) 4 := ⟨by kernel_rfl, by kernel_rfl, rfl⟩
theorem Arr.box0 (w : World) (t : TypeId) (n : Nat) (f : Nat → Value) : Arr (w.alloc (.cells (Array.ofFn fun i : Fin n => f i) t)) w.heap.size t n f := heap_alloc_new w _
theorem Arr.box1 (w : World) (a : Obj) (t : TypeId) (n : Nat) (f : Nat → Value) : Arr ((w.alloc a).alloc (.cells (Array.ofFn fun i : Fin n => f i) t)) (w.heap.size + 1) t n f := heap_alloc2_new w a _
theorem zero8_at (w : World) (a b : Obj) (t : TypeId) : Arr (((w.alloc a).alloc b).alloc (.cells #[Value.int .u32 0, .int .u32 0, .int .u32 0, .int .u32 0, .int .u32 0, .int .u32 0, .int .u32 0, .int .u32 0] t)) (w.heap.size + 1 + 1) t 8 (fun _ => by32 0) := by
  have := Arr.new1 (w.alloc a) b t _ 8 (fun _ => by32 0) rfl zero8
  rwa [show (w.alloc a).heap.size = w.heap.size + 1 by simp] at this
theorem ofFn8 (f : Nat → Value) : (Array.ofFn fun i : Fin 8 => f i) = #[f 0, f 1, f 2, f 3, f 4, f 5, f 6, f 7] := by
  apply Array.ext
  · simp
  · intro i h1 h2
    simp at h1
    match i, h1 with
    | 0, _ | 1, _ | 2, _ | 3, _ | 4, _ | 5, _ | 6, _ | 7, _ => rw [Array.getElem_ofFn]; rfl
    | n + 8, h => exact absurd h (by omega)
theorem tt_or (X V : Nat → BitVec 32) (k : Nat) : V 7 + (rotr (V 4) 6 ^^^ rotr (V 4) 11 ^^^ rotr (V 4) 25) + (V 4 &&& V 5 ||| ~~~V 4 &&& V 6) + kk k + X k = tt X V k := by
  rw [ch_or]; rfl
theorem uu_or (V : Nat → BitVec 32) : (rotr (V 0) 2 ^^^ rotr (V 0) 13 ^^^ rotr (V 0) 22) + (V 0 &&& V 1 ||| V 0 &&& V 2 ||| V 1 &&& V 2) = uu V := by
  rw [maj_or]; rfl
theorem round_at (w V : Nat → BitVec 32) (i : Nat) : round w V i 0 = tt w V i + uu V ∧ round w V i 1 = V 0 ∧ round w V i 2 = V 1 ∧ round w V i 3 = V 2 ∧ round w V i 4 = V 3 + tt w V i ∧ round w V i 5 = V 4 ∧ round w V i 6 = V 5 ∧ round w V i 7 = V 6 :=
  ⟨rfl, rfl, rfl, rfl, rfl, rfl, rfl, rfl⟩
theorem val32 {a b : BitVec 32} (h : a = b) : Value.int .u32 (n32 a) = .int .u32 (n32 b) := by rw [h]
set_option maxRecDepth 100000 in
set_option maxHeartbeats 10000000 in
theorem rblock_any (sb so c : Nat) (m : Nat → BitVec 8) (H : Nat → BitVec 32) (w : World) (hm : ∀ j, j < 64 → w.cell? ⟨sb, so + j, none⟩ = some (by8 (m j))) :
    Calls Try.prog 120 #[.agg (Array.ofFn fun i : Fin 8 => by32 (H i)), .slice (some ⟨sb, so, none⟩) 64 c, .agg (Array.ofFn fun i : Fin 64 => by32 (kk i))] w (RetA 8 (compress m H) w) := by
  have Hm := hide hm
  clear hm
  go_enter Try.func120, Try.ntmps120
  go_wp2_with (at_make; go_must (refine wpList_mk _ _ _ Try.el32 rfl rfl 64 rfl rfl rfl rfl (by decide) (by decide) by32 rfl rfl (B := w.heap.size + 3) (by simp) ?_); rintro g w1 hO hg hU1; have Hg := hide hg; clear hg; have HO := hide hO; clear hO; have HU1 := hide hU1; clear hU1)
  have hU0 : Ext w w1 := ((((Upd.refl _ w).alloc _).alloc _).alloc _).trans HU1.out
  have hg3 : w.heap.size + 3 ≤ g := by rw [Hg.out]; simp
  have hR : Row w1 g 104 64 (fun i => by32 (w0 m 0 i)) := by
    have := HO.out.row
    rw [List.length_replicate] at this
    refine this.congr fun i hi => congrArg by32 ?_
    rw [gat_lt (by simpa using hi), List.getElem_replicate]
    rfl
  have HAH : Hid (Arr w1 w.heap.size 164 8 (fun i => by32 (H i))) := ((((Arr.box0 w _ 8 (fun i => by32 (H i))).alloc _).alloc _).ext HU1.out)
  have HAK : Hid (Arr w1 (w.heap.size + 1) 169 64 (fun i => by32 (kk i))) := (((Arr.box1 w _ _ 64 (fun i => by32 (kk i))).alloc _).ext HU1.out)
  have HAR : Hid (Arr w1 (w.heap.size + 1 + 1) 164 8 (fun _ => by32 0)) := ((zero8_at w _ _ _).ext HU1.out)
  clear Hg HO HU1
  go_loopw [8] (fun i wr => ∃ k : Nat, k ≤ 16 ∧ i = .int .i64 k ∧ Row wr g 104 64 (fun j => by32 (w0 m k j)) ∧ Upd (only g) w1 wr) (fun i _ => 16 - (intOf i).toNat)
  case atStart => exact ⟨0, by omega, rfl, hR, Upd.refl _ _⟩
  case round =>
    clear hR
    obtain ⟨k, hk, rfl, hR, hU⟩ := hrel
    have hUw := upd_new hU hU0 (fun i hi => by unfold only at hi; omega)
    by_cases hlt : k < 16
    · have hlti : (k : Int) < 16 := by omega
      have hd : decide ((k : Int) < 16) = true := decide_eq_true (by omega)
      have hlt64 : k < 64 := by omega
      have hlt64i : (k : Int) < 64 := by omega
      have c0 := hUw.cellv (Hm.out (4 * k) (by omega))
      have c1 := hUw.cellv (Hm.out (4 * k + 1) (by omega))
      have c2 := hUw.cellv (Hm.out (4 * k + 2) (by omega))
      have c3 := hUw.cellv (Hm.out (4 * k + 3) (by omega))
      have e0 : IntKind.i64.wrap (4 * (k : Int)) = 4 * (k : Int) := by rw [IntWalk.i64_in _ (by omega)]
      have b0 : 4 * (k : Int) < 64 := by omega
      have p0 : 0 ≤ 4 * (k : Int) := by omega
      have t0 : (4 * (k : Int)).toNat = 4 * k := by omega
      have e1 : IntKind.i64.wrap (4 * (k : Int) + 1) = 4 * (k : Int) + 1 := by rw [IntWalk.i64_in _ (by omega)]
      have b1 : 4 * (k : Int) + 1 < 64 := by omega
      have p1 : 0 ≤ 4 * (k : Int) + 1 := by omega
      have t1 : (4 * (k : Int) + 1).toNat = 4 * k + 1 := by omega
      have e2 : IntKind.i64.wrap (4 * (k : Int) + 2) = 4 * (k : Int) + 2 := by rw [IntWalk.i64_in _ (by omega)]
      have b2 : 4 * (k : Int) + 2 < 64 := by omega
      have p2 : 0 ≤ 4 * (k : Int) + 2 := by omega
      have t2 : (4 * (k : Int) + 2).toNat = 4 * k + 2 := by omega
      have e3 : IntKind.i64.wrap (4 * (k : Int) + 3) = 4 * (k : Int) + 3 := by rw [IntWalk.i64_in _ (by omega)]
      have b3 : 4 * (k : Int) + 3 < 64 := by omega
      have p3 : 0 ≤ 4 * (k : Int) + 3 := by omega
      have t3 : (4 * (k : Int) + 3).toNat = 4 * k + 3 := by omega
      have hR' := hide hR
      clear hR
      go_wp2_with fail
      refine wp_region_plan (Same _) 36 [(false,0), (false,1), (false,2), (false,3), (false,4), (false,5), (false,6), (false,7), (false,8), (false,9), (false,10), (false,11), (false,12), (false,13), (false,14), (false,15), (false,16), (false,17), (false,18), (false,19), (false,20), (false,21), (false,22), (false,23), (false,24), (false,25), (false,26), (false,27), (false,28), (false,29), (false,30), (false,31), (false,32), (false,33), (false,34), (false,35)] (by kernel_rfl) (by kernel_rfl) rfl (fun hne => ?_)
      repeat (refine head_q rfl (fun K hK => ?_); have hK2 := hide hK; clear hK; go_simp; refine hK2.out _ ?_; clear hK2 K)
      refine head_nil ?_
      try simp only [List.drop_succ_cons, List.drop_zero]
      go_must (refine wpList_store_row by32 one32 (be m k) rfl rfl Try.sz32 rfl rfl hR'.out hlt64 ?_); intro w2 hR2 hU2
      have hU2 := hU2.undrew
      clear c0 c1 c2 c3 e0 e1 e2 e3 t0 t1 t2 t3
      go_wp2
      go_roundw
      case rel => exact ⟨k + 1, by omega, by go_num, hR2.congr (fun j _ => congrArg by32 (w0_step m k j)), hU.trans hU2⟩
      case measure => simp [intOf]; omega
    · obtain rfl : k = 16 := by omega
      clear hk hlt
      go_wp2_with fail
      rw [show ((16 : Nat) : Int) = 16 from rfl]
      go_loopw [9, 10, 11] (fun i _ _ wx => ∃ j : Nat, 16 ≤ j ∧ j ≤ 64 ∧ i = .int .i64 j ∧ Row wx g 104 64 (fun i => by32 (steps sstep (w0 m 16) (j - 16) i)) ∧ Upd (only g) w1 wx) (fun i _ _ _ => 64 - (intOf i).toNat)
      case atStart => exact ⟨16, by omega, by omega, rfl, hR, hU⟩
      case round =>
        clear hR hU hUw
        obtain ⟨j, hj1, hj2, rfl, hR, hU⟩ := hrel
        by_cases hlt : j < 64
        · have hlti : (j : Int) < 64 := by omega
          have hd : decide ((j : Int) < 64) = true := decide_eq_true (by omega)
          obtain ⟨X, hX⟩ : ∃ X, X = steps sstep (w0 m 16) (j - 16) := ⟨_, rfl⟩
          rw [← hX] at hR
          have HX := hide hX
          clear hX
          have e15 : IntKind.i64.wrap ((j : Int) - 15) = ((j - 15 : Nat) : Int) := by rw [IntWalk.i64_in _ (by omega)]; omega
          have e2 : IntKind.i64.wrap ((j : Int) - 2) = ((j - 2 : Nat) : Int) := by rw [IntWalk.i64_in _ (by omega)]; omega
          have e16 : IntKind.i64.wrap ((j : Int) - 16) = ((j - 16 : Nat) : Int) := by rw [IntWalk.i64_in _ (by omega)]; omega
          have e7 : IntKind.i64.wrap ((j : Int) - 7) = ((j - 7 : Nat) : Int) := by rw [IntWalk.i64_in _ (by omega)]; omega
          have b15 : ((j - 15 : Nat) : Int) < 64 := by omega
          have b2 : ((j - 2 : Nat) : Int) < 64 := by omega
          have b16 : ((j - 16 : Nat) : Int) < 64 := by omega
          have b7 : ((j - 7 : Nat) : Int) < 64 := by omega
          have c15 := hR.cell (i := j - 15) (by omega)
          have c2 := hR.cell (i := j - 2) (by omega)
          have c16 := hR.cell (i := j - 16) (by omega)
          have c7 := hR.cell (i := j - 7) (by omega)
          have hR' := hide hR
          clear hR
          go_wp2_with fail
          refine wp_region_plan (Same _) 20 [(false,0), (false,1), (false,2), (false,3), (false,4), (false,6), (false,7), (false,8), (false,9), (false,10), (false,13), (false,14), (false,15), (false,16), (false,17), (false,18), (true,5), (true,11), (false,12), (false,19)] (by kernel_rfl) (by kernel_rfl) rfl (fun hne => ?_)
          repeat (refine head_q rfl (fun K hK => ?_); have hK2 := hide hK; clear hK; go_simp; refine hK2.out _ ?_; clear hK2 K)
          refine head_l rfl ?_
          go_wp2_with (go_at_call 131; refine (rturn_at _ _ 7 rfl (by omega) _).mono ?_; rintro e w' ⟨rfl, rfl⟩)
          refine ⟨_, fun _ h => h, ⟨⟨_, rfl⟩, rfl⟩, ?_⟩
          repeat (refine head_q rfl (fun K hK => ?_); have hK2 := hide hK; clear hK; go_simp; refine hK2.out _ ?_; clear hK2 K)
          refine head_l rfl ?_
          go_wp2_with (go_at_call 131; refine (rturn_at _ _ 18 rfl (by omega) _).mono ?_; rintro e w' ⟨rfl, rfl⟩)
          refine ⟨_, fun _ h => h, ⟨⟨_, rfl⟩, rfl⟩, ?_⟩
          repeat (refine head_q rfl (fun K hK => ?_); have hK2 := hide hK; clear hK; go_simp; refine hK2.out _ ?_; clear hK2 K)
          refine head_nil ?_
          try simp only [List.drop_succ_cons, List.drop_zero]
          go_wp2_with fail
          clear hne
          refine wp_region_plan (Same _) 20 [(false,0), (false,1), (false,2), (false,3), (false,4), (false,6), (false,7), (false,8), (false,9), (false,10), (false,13), (false,14), (false,15), (false,16), (false,17), (false,18), (true,5), (true,11), (false,12), (false,19)] (by kernel_rfl) (by kernel_rfl) rfl (fun hne => ?_)
          repeat (refine head_q rfl (fun K hK => ?_); have hK2 := hide hK; clear hK; go_simp; refine hK2.out _ ?_; clear hK2 K)
          refine head_l rfl ?_
          go_wp2_with (go_at_call 131; refine (rturn_at _ _ 17 rfl (by omega) _).mono ?_; rintro e w' ⟨rfl, rfl⟩)
          refine ⟨_, fun _ h => h, ⟨⟨_, rfl⟩, rfl⟩, ?_⟩
          repeat (refine head_q rfl (fun K hK => ?_); have hK2 := hide hK; clear hK; go_simp; refine hK2.out _ ?_; clear hK2 K)
          refine head_l rfl ?_
          go_wp2_with (go_at_call 131; refine (rturn_at _ _ 19 rfl (by omega) _).mono ?_; rintro e w' ⟨rfl, rfl⟩)
          refine ⟨_, fun _ h => h, ⟨⟨_, rfl⟩, rfl⟩, ?_⟩
          repeat (refine head_q rfl (fun K hK => ?_); have hK2 := hide hK; clear hK; go_simp; refine hK2.out _ ?_; clear hK2 K)
          refine head_nil ?_
          try simp only [List.drop_succ_cons, List.drop_zero]
          go_wp2_with fail
          clear hne
          refine wp_region_plan (Same _) 18 [(false,0), (false,1), (false,2), (false,3), (false,4), (false,5), (false,6), (false,7), (false,8), (false,9), (false,10), (false,11), (false,12), (false,13), (false,14), (false,15), (false,16), (false,17)] (by kernel_rfl) (by kernel_rfl) rfl (fun hne => ?_)
          repeat (refine head_q rfl (fun K hK => ?_); have hK2 := hide hK; clear hK; go_simp; refine hK2.out _ ?_; clear hK2 K)
          refine head_nil ?_
          try simp only [List.drop_succ_cons, List.drop_zero]
          go_must (refine wpList_store_row by32 one32 (s1 (X (j - 2)) + X (j - 7) + s0 (X (j - 15)) + X (j - 16)) rfl rfl Try.sz32 rfl rfl hR'.out hlt ?_); intro w2 hR2 hU2
          have hU2 := hU2.undrew.undrew.undrew
          clear e15 e2 e16 e7 b15 b2 b16 b7 c15 c2 c16 c7 hR'
          go_wp2
          go_roundw
          case rel => exact ⟨j + 1, by omega, by omega, by go_num, hR2.congr (fun i _ => congrArg by32 (by rw [sched_step' m j hj1, ← HX.out])), hU.trans hU2⟩
          case measure => simp [intOf]; omega
        · obtain rfl : j = 64 := by omega
          clear hj1 hj2 hlt
          obtain ⟨X, hX⟩ : ∃ X, X = sched m := ⟨_, rfl⟩
          have hR1 : Row wr g 104 64 (fun i => by32 (X i)) := by rw [hX]; exact hR
          have HX := hide hX
          clear hX hR
          have hR' := hide hR1
          clear hR1
          have hAH := HAH.out.upd hU (fun h => by unfold only at h; omega)
          have d0 := hAH.cell (i := 0) (by omega)
          have d1 := hAH.cell (i := 1) (by omega)
          have d2 := hAH.cell (i := 2) (by omega)
          have d3 := hAH.cell (i := 3) (by omega)
          have d4 := hAH.cell (i := 4) (by omega)
          have d5 := hAH.cell (i := 5) (by omega)
          have d6 := hAH.cell (i := 6) (by omega)
          have d7 := hAH.cell (i := 7) (by omega)
          have hAH' := hide hAH
          clear hAH
          go_wp2_with fail
          refine wp_region_plan (Same _) 23 [(false,0), (false,1), (false,2), (false,3), (false,4), (false,5), (false,6), (false,7), (false,8), (false,9), (false,10), (false,11), (false,12), (false,13), (false,14), (false,15), (false,16), (false,17), (false,18), (false,19), (false,20), (false,21), (false,22)] (by kernel_rfl) (by kernel_rfl) rfl (fun hne => ?_)
          repeat (refine head_q rfl (fun K hK => ?_); have hK2 := hide hK; clear hK; go_simp; refine hK2.out _ ?_; clear hK2 K)
          refine head_nil ?_
          try simp only [List.drop_succ_cons, List.drop_zero]
          go_wp2_with fail
          clear d0 d1 d2 d3 d4 d5 d6 d7 hAH' hne
          go_loopw [20, 12, 13, 14, 15, 16, 17, 18, 19, 21, 22] (fun i a b c d e f g' h _ _ wx => ∃ k : Nat, k ≤ 64 ∧ i = .int .i64 k ∧ a = .int .u32 (n32 (steps (round X) H k 0)) ∧ b = .int .u32 (n32 (steps (round X) H k 1)) ∧ c = .int .u32 (n32 (steps (round X) H k 2)) ∧ d = .int .u32 (n32 (steps (round X) H k 3)) ∧ e = .int .u32 (n32 (steps (round X) H k 4)) ∧ f = .int .u32 (n32 (steps (round X) H k 5)) ∧ g' = .int .u32 (n32 (steps (round X) H k 6)) ∧ h = .int .u32 (n32 (steps (round X) H k 7)) ∧ Row wx g 104 64 (fun i => by32 (X i)) ∧ Upd (only g) w1 wx) (fun i _ _ _ _ _ _ _ _ _ _ _ => 64 - (intOf i).toNat)
          case atStart => exact ⟨0, by omega, rfl, rfl, rfl, rfl, rfl, rfl, rfl, rfl, rfl, hR'.out.ext (Upd.refl _ _).drew, hU.drew⟩
          case round =>
            clear hR' hU
            obtain ⟨k, hk, rfl, rfl, rfl, rfl, rfl, rfl, rfl, rfl, rfl, hR, hU⟩ := hrel
            obtain ⟨V, hVe⟩ : ∃ V, V = steps (round X) H k := ⟨_, rfl⟩
            have HV := hide hVe
            rw [← hVe]
            clear hVe
            by_cases hlt : k < 64
            · have hlti : (k : Int) < 64 := by omega
              have hd : decide ((k : Int) < 64) = true := decide_eq_true (by omega)
              have ck := (HAK.out.upd hU (fun h => by unfold only at h; omega)).cell hlt
              have cw := hR.cell hlt
              have hR' := hide hR
              clear hR
              go_wp2_with fail
              refine wp_region_plan (Same _) 28 [(false,0), (false,1), (false,3), (false,6), (false,10), (false,11), (false,12), (false,13), (false,14), (false,15), (false,16), (false,17), (false,19), (false,20), (false,21), (false,23), (false,24), (false,25), (false,26), (true,2), (true,4), (false,5), (true,7), (false,8), (false,9), (false,18), (false,22), (false,27)] (by kernel_rfl) (by kernel_rfl) rfl (fun hne => ?_)
              repeat (refine head_q rfl (fun K hK => ?_); have hK2 := hide hK; clear hK; go_simp; refine hK2.out _ ?_; clear hK2 K)
              refine head_l rfl ?_
              go_wp2_with (go_at_call 131; refine (rturn_at _ _ 6 rfl (by omega) _).mono ?_; rintro e w' ⟨rfl, rfl⟩)
              refine ⟨_, fun _ h => h, ⟨⟨_, rfl⟩, rfl⟩, ?_⟩
              repeat (refine head_q rfl (fun K hK => ?_); have hK2 := hide hK; clear hK; go_simp; refine hK2.out _ ?_; clear hK2 K)
              refine head_l rfl ?_
              go_wp2_with (go_at_call 131; refine (rturn_at _ _ 11 rfl (by omega) _).mono ?_; rintro e w' ⟨rfl, rfl⟩)
              refine ⟨_, fun _ h => h, ⟨⟨_, rfl⟩, rfl⟩, ?_⟩
              repeat (refine head_q rfl (fun K hK => ?_); have hK2 := hide hK; clear hK; go_simp; refine hK2.out _ ?_; clear hK2 K)
              refine head_l rfl ?_
              go_wp2_with (go_at_call 131; refine (rturn_at _ _ 25 rfl (by omega) _).mono ?_; rintro e w' ⟨rfl, rfl⟩)
              refine ⟨_, fun _ h => h, ⟨⟨_, rfl⟩, rfl⟩, ?_⟩
              repeat (refine head_q rfl (fun K hK => ?_); have hK2 := hide hK; clear hK; go_simp; refine hK2.out _ ?_; clear hK2 K)
              refine head_nil ?_
              try simp only [List.drop_succ_cons, List.drop_zero]
              go_wp2_with fail
              clear hne ck cw
              rw [tt_or X V k]
              refine (rturn_at _ 2 2 rfl (by omega) _).mono ?_
              rintro e w' ⟨rfl, rfl⟩
              go_wp2_with fail
              refine (rturn_at _ 13 13 rfl (by omega) _).mono ?_
              rintro e w' ⟨rfl, rfl⟩
              go_wp2_with fail
              refine (rturn_at _ 22 22 rfl (by omega) _).mono ?_
              rintro e w' ⟨rfl, rfl⟩
              go_wp2_with fail
              rw [uu_or V]
              have hs : steps (round X) H (k + 1) = round X V k := by rw [HV.out]; rfl
              obtain ⟨r0, r1, r2, r3, r4, r5, r6, r7⟩ := round_at X V k
              rw [← hs] at r0 r1 r2 r3 r4 r5 r6 r7
              have R0 := hide r0
              have R1 := hide r1
              have R2 := hide r2
              have R3 := hide r3
              have R4 := hide r4
              have R5 := hide r5
              have R6 := hide r6
              have R7 := hide r7
              clear hs r0 r1 r2 r3 r4 r5 r6 r7
              go_roundw
              case rel => exact ⟨k + 1, by omega, by go_num, val32 R0.out.symm, val32 R1.out.symm, val32 R2.out.symm, val32 R3.out.symm, val32 R4.out.symm, val32 R5.out.symm, val32 R6.out.symm, val32 R7.out.symm, hR'.out.ext (Upd.refl _ _).drew, hU.drew⟩
              case measure => simp [intOf]; omega
            · obtain rfl : k = 64 := by omega
              clear hk hlt
              have hAH := HAH.out.upd hU (fun h => by unfold only at h; omega)
              have hAR := HAR.out.upd hU (fun h => by unfold only at h; omega)
              have d0 := hAH.cell (i := 0) (by omega)
              have d1 := hAH.cell (i := 1) (by omega)
              have d2 := hAH.cell (i := 2) (by omega)
              have d3 := hAH.cell (i := 3) (by omega)
              have d4 := hAH.cell (i := 4) (by omega)
              have d5 := hAH.cell (i := 5) (by omega)
              have d6 := hAH.cell (i := 6) (by omega)
              have d7 := hAH.cell (i := 7) (by omega)
              have hAR' := hide hAR
              have hUw := upd_new hU hU0 (fun i hi => by unfold only at hi; omega)
              clear hAH hAR hR hU
              have hv := (congrArg Value.agg (ofFn8 (fun i => by32 (H i + V i)))).symm
              have Hv := hide hv
              clear hv
              go_wp2_with (refine wpList_store_whole (o := ⟨none, .store _ _ _, _, _, _, _⟩) (n := 8) (f := fun i => by32 (H i + V i)) rfl rfl rfl Hv.out (fun _ => rfl) hAR'.out Try.sz_t8 ?_; intro w3 hA3 hU3)
              refine bodyPost_ret (results_cell_row rfl _ _ (w.heap.size + 1 + 1) _ _ _ _ rfl hA3 Try.under_t8 rfl (by simpa using Try.sz_t8)) rfl ⟨?_, upd_new hU3 hUw (fun i hi => by unfold only at hi; omega)⟩
              rw [HV.out, HX.out]
              rfl
end Go.Proofs.Ytoekbomfepedcaa
