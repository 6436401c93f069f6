/- Sums that are fixed, and the constants: the law, walked. -/
import Derived.Test.YtjdodhooojjldaaShaD
namespace Go.Proofs.Ytjdodhooojjldaa
set_option linter.unusedSimpArgs false
set_option linter.unusedVariables false
open Go.RowKit
open Sha
attribute [local go_sem] steady steadyUpon Cls same_cell by8 str_eq
attribute [local irreducible] wpHead wpTree wpHeadR sum str
theorem wpList_wanted {P : Program} {ops : Array Oper} {Q : Exit → Act → World → Prop} {rest : List Oper} {o : Oper} {a : Act} {w : World} (hw : Region.wanted o (yielded ops a.tmps) = true)
    (h : wpList P ops Q (⟨o.dst, o.op, o.type, o.pos, o.after, none⟩ :: rest) a w) : wpList P ops Q (o :: rest) a w := by
  unfold wpList at h ⊢
  rw [if_pos hw]
  exact h
theorem name_cq {P : Program} {f : Nat} {vs : Array Value} {Q : Ending → World → Prop} {W : World} (h : ∀ W', W' = W → Calls P f vs W' Q) : Calls P f vs W Q := h W rfl
theorem Try.under_u32 : Try.prog.underlying 32 = some (.int .u32) := by kernel_rfl
theorem Try.info_u32 : (Try.prog.info? 32).map (·.size) = some 1 := by kernel_rfl
theorem size_u32 (w : World) : (sizeOf 32).run Try.prog w = .ok 1 w := by
  have h := Try.info_u32
  cases hq : Try.prog.info? 32 with
  | none => simp [hq] at h
  | some i =>
    have h1 : i.size = 1 := by simpa [hq] using h
    simp [sizeOf, typeInfo, hq, h1]
def longZ : List Int := [97, 98, 99, 100, 98, 99, 100, 101, 99, 100, 101, 102, 100, 101, 102, 103, 101, 102, 103, 104, 102, 103, 104, 105, 103, 104, 105, 106, 104, 105, 106, 107, 105, 106, 107, 108, 106, 107, 108, 109, 107, 108, 109, 110, 108, 109, 110, 111, 109, 110, 111, 112, 110, 111, 112, 113]
theorem long_cells : (longZ.map (Value.int .u8)).toArray = (longL.map by8).toArray := by kernel_rfl
theorem long_length : longL.length = 56 := by kernel_rfl
theorem mark8 (w : World) (t : TypeId) (fr : Nat × Nat) (xs : List (BitVec 8)) : Sl by8 (w.alloc (.cells (xs.map by8).toArray t fr)) (some ⟨w.heap.size, 0, none⟩) xs :=
  Sl.of_cells fun i hi => by
    rw [Nat.zero_add, World.cell?_alloc_mark]
    simp [gat_some hi]
theorem name_lq {P : Program} {ops : Array Oper} {l : List Oper} {Q : Exit → Act → World → Prop} {a : Act} {W : World} (h : ∀ W', W' = W → wpList P ops Q l a W') : wpList P ops Q l a W := h W rfl
set_option maxRecDepth 100000 in
set_option maxHeartbeats 4000000 in
theorem sfixed_any (z : Int) (w : World) :
    Calls Try.prog 4 #[.int .i64 z] w fun e w' => e = .returned (.bool true) ∧ Ext w w' := by
  obtain ⟨u, hu⟩ : ∃ u : Nat, IntKind.u64.wrap z = (u : Int) := ⟨(IntKind.u64.wrap z).toNat, by rw [IntKind.wrap_u64]; omega⟩
  obtain ⟨m, hm⟩ : ∃ m, m = u % 300 := ⟨_, rfl⟩
  have hm300 : m < 300 := by rw [hm]; exact Nat.mod_lt _ (by omega)
  have hr2 : (u : Int) % (300 : Int) = (m : Int) := by rw [hm]; omega
  have hr1 : (u : Int).tmod (300 : Int) = (m : Int) := by rw [hm]; exact IntWalk.rem_in _ _ (by omega)
  clear hm
  go_enter Try.func4, Try.ntmps4
  go_wp2_with fail
  refine (table_any w).mono ?_
  rintro e w1 ⟨rfl, hU1⟩
  go_wp2_with (first
    | (refine wpList_store_whole (n := 64) (f := fun i => by32 (kk i)) rfl rfl rfl rfl (fun _ => rfl) ((Arr.new w1 _ _ 64 (fun _ => by32 0) rfl zero64).alloc _) Try.sz_64 ?_; intro w3 hA3 hU3)
    | (refine wpList_store_whole (n := 8) (f := fun i => by32 (first i)) rfl rfl rfl rfl (fun _ => rfl) ((Arr.new1 w1 _ _ _ 8 (fun _ => by32 0) rfl zero8).upd hU3 (ne_succ _)) Try.sz_t8 ?_; intro w4 hA4 hU4))
  have hA5 := hA3.upd hU4 (fun h => by unfold only at h; simp at h)
  have hE4 : Ext w w4 := upd_new hU4 (upd_new hU3 ((hU1.alloc _).alloc _) (fun i hi => by have : i = w1.heap.size := hi; have := hU1.size; omega)) (fun i hi => by have : i = w1.heap.size + 1 := hi; have := hU1.size; omega)
  have HA5 := hide hA5
  have HA4 := hide hA4
  have HE4 := hide hE4
  clear hA3 hA4 hA5 hU3 hU4 hU1 hE4
  refine wp_region_mono 7 (fun i => ([MF.eq (.agg (Array.ofFn fun i : Fin 64 => by32 (kk i))), MF.eq (.agg (Array.ofFn fun i : Fin 64 => by32 (kk i))), MF.eq (.bool false), MF.eq (.bool false), MF.eq (.agg (Array.ofFn fun i : Fin 8 => by32 (first i))), MF.eq (.agg (Array.ofFn fun i : Fin 8 => by32 (first i))), MF.eq (.bool false)] : List MF).getD i (MF.eq undef)) (by kernel_rfl) (by kernel_rfl) ?_ ?_
  · intro i hi
    match i, hi with
    | 0, _ =>
      intro u wx o ho hE hw
      injection (ho : some _ = some o) with ho
      subst ho
      have hEx : Ext w4 wx := hE.undrew
      simp only [fr, dstOf]
      go_simp
      refine wpList_load_arr rfl rfl rfl (HA5.out.ext hEx) Try.under_64 Try.sz_64 ?_
      go_wp2
      first | exact Upd.refl _ _ | exact ⟨trivial, Upd.refl _ _⟩ | exact ⟨_, rfl, Upd.refl _ _, rfl⟩ | exact ⟨Upd.refl _ _, rfl⟩
    | 1, _ =>
      intro u wx o ho hE hw
      injection (ho : some _ = some o) with ho
      subst ho
      have hEx : Ext w4 wx := hE.undrew
      simp only [fr, dstOf]
      go_simp
      go_wp2_with fail
      refine (Constants_any _).mono ?_
      rintro e wn ⟨rfl, hU⟩
      go_wp2_with fail
      first | exact hU | exact ⟨trivial, hU⟩ | exact ⟨_, rfl, hU, rfl⟩ | exact ⟨hU, rfl⟩
    | 2, _ =>
      intro u wx o ho hE hw
      injection (ho : some _ = some o) with ho
      subst ho
      have hEx : Ext w4 wx := hE.undrew
      have f0 : u 0 = .agg (Array.ofFn fun i : Fin 64 => by32 (kk i)) := hw 0 (by omega) (by kernel_rfl)
      have f1 : u 1 = .agg (Array.ofFn fun i : Fin 64 => by32 (kk i)) := hw 1 (by omega) (by kernel_rfl)
      simp only [fr, dstOf]
      go_simp
      have hne : (Op.equalIn 10000 33 (.agg (Array.ofFn fun i : Fin 64 => by32 (kk i))) (.agg (Array.ofFn fun i : Fin 64 => by32 (kk i)))).run Try.prog wx = .ok true wx := run_equalIn_same (P := Try.prog) wx 9998 33 32 64 Try.under_64 Try.under_u32 size_u32 kk
      go_wp2
      first | exact Upd.refl _ _ | exact ⟨trivial, Upd.refl _ _⟩ | exact ⟨_, rfl, Upd.refl _ _, rfl⟩ | exact ⟨Upd.refl _ _, rfl⟩
    | 3, _ =>
      intro u wx o ho hE hw
      injection (ho : some _ = some o) with ho
      subst ho
      have hEx : Ext w4 wx := hE.undrew
      have f2 : u 2 = .bool false := hw 2 (by omega) (by kernel_rfl)
      simp only [fr, dstOf]
      go_simp
      go_wp2
      first | exact Upd.refl _ _ | exact ⟨_, rfl, Upd.refl _ _, rfl⟩ | exact ⟨Upd.refl _ _, rfl⟩
    | 4, _ =>
      intro u wx o ho hE hw
      injection (ho : some _ = some o) with ho
      subst ho
      have hEx : Ext w4 wx := hE.undrew
      have f3 : u 3 = .bool false := hw 3 (by omega) (by kernel_rfl)
      simp only [fr, dstOf]
      go_simp
      refine wpList_wanted rfl ?_
      refine wpList_load_arr rfl rfl rfl (HA4.out.ext hEx) Try.under_t8 Try.sz_t8 ?_
      go_wp2
      first | exact Upd.refl _ _ | exact ⟨trivial, Upd.refl _ _⟩ | exact ⟨_, rfl, Upd.refl _ _, rfl⟩ | exact ⟨Upd.refl _ _, rfl⟩
    | 5, _ =>
      intro u wx o ho hE hw
      injection (ho : some _ = some o) with ho
      subst ho
      have hEx : Ext w4 wx := hE.undrew
      have f3 : u 3 = .bool false := hw 3 (by omega) (by kernel_rfl)
      simp only [fr, dstOf]
      go_simp
      go_wp2_with fail
      refine (First_any _).mono ?_
      rintro e wn ⟨rfl, hU⟩
      go_wp2_with fail
      first | exact hU | exact ⟨trivial, hU⟩ | exact ⟨_, rfl, hU, rfl⟩ | exact ⟨hU, rfl⟩
    | 6, _ =>
      intro u wx o ho hE hw
      injection (ho : some _ = some o) with ho
      subst ho
      have hEx : Ext w4 wx := hE.undrew
      have f3 : u 3 = .bool false := hw 3 (by omega) (by kernel_rfl)
      have f4 : u 4 = .agg (Array.ofFn fun i : Fin 8 => by32 (first i)) := hw 4 (by omega) (by kernel_rfl)
      have f5 : u 5 = .agg (Array.ofFn fun i : Fin 8 => by32 (first i)) := hw 5 (by omega) (by kernel_rfl)
      simp only [fr, dstOf]
      go_simp
      have hne : (Op.equalIn 10000 34 (.agg (Array.ofFn fun i : Fin 8 => by32 (first i))) (.agg (Array.ofFn fun i : Fin 8 => by32 (first i)))).run Try.prog wx = .ok true wx := run_equalIn_same (P := Try.prog) wx 9998 34 32 8 Try.under_t8 Try.under_u32 size_u32 first
      go_wp2
      first | exact Upd.refl _ _ | exact ⟨trivial, Upd.refl _ _⟩ | exact ⟨_, rfl, Upd.refl _ _, rfl⟩ | exact ⟨Upd.refl _ _, rfl⟩
    | k + 7, h => exact absurd h (by omega)
  · intro u wx hE hJ
    have hEx : Ext w4 wx := hE.undrew
    have f0 : u 0 = .agg (Array.ofFn fun i : Fin 64 => by32 (kk i)) := hJ 0 (by omega)
    have f1 : u 1 = .agg (Array.ofFn fun i : Fin 64 => by32 (kk i)) := hJ 1 (by omega)
    have f2 : u 2 = .bool false := hJ 2 (by omega)
    have f3 : u 3 = .bool false := hJ 3 (by omega)
    have f4 : u 4 = .agg (Array.ofFn fun i : Fin 8 => by32 (first i)) := hJ 4 (by omega)
    have f5 : u 5 = .agg (Array.ofFn fun i : Fin 8 => by32 (first i)) := hJ 5 (by omega)
    have f6 : u 6 = .bool false := hJ 6 (by omega)
    clear hJ
    simp only [fr, dstOf]
    go_simp
    try simp only [List.drop_succ_cons, List.drop_zero]
    have HEx := hide (HE4.out.trans hEx)
    obtain ⟨wx0, hwx0⟩ : ∃ W, W = wx := ⟨_, rfl⟩
    subst hwx0
    clear f0 f1 f2 f3 f4 f5 f6 hEx hE HA4 HA5
    go_upto_region 6 with (at_make; go_must (refine wpList_mk _ _ _ Try.el8 rfl rfl m rfl rfl rfl rfl (by omega) (by unfold maxLen; omega) by8 rfl rfl (B := wx0.heap.size) (by simp) ?_); rintro g w6 hO6 rfl hU6)
    have HO6 := hide hO6
    have HE6 := hide (HEx.out.trans hU6)
    clear hO6 hU6 hr1 hr2 hu
    have hc1 := Lib.run_convert_bytes_const (P := Try.prog) w6 25 5 #[.int .u8 97, .int .u8 98, .int .u8 99] 3 3 Try.under_bs Try.under8
    go_wp2_with fail
    clear hc1
    refine name_cq (fun V hV => ?_)
    have hP : Pts V (some ⟨w6.heap.size + 1, 0, none⟩) [⟨some ⟨w6.heap.size, 0, none⟩, 3, 3, abcL⟩] := by
      rw [hV]
      have h := one_part (w6.alloc (.cells #[.int .u8 97, .int .u8 98, .int .u8 99] 5 (3, 4))) (some ⟨w6.heap.size, 0, none⟩) 3 3 abcL (mark8 w6 5 (3, 4) abcL) rfl (Nat.le_refl _) (by unfold maxLen; decide)
      rw [show (w6.alloc (.cells #[.int .u8 97, .int .u8 98, .int .u8 99] 5 (3, 4))).heap.size = w6.heap.size + 1 by simp] at h
      exact h
    have hEV : Ext w6 V := by rw [hV]; exact ((Upd.refl _ _).alloc _).alloc _
    have HP := hide hP
    have HEV := hide hEV
    clear hV hP hEV
    refine (psum_any _ 1 1 _ V HP.out rfl (by rw [flat_one]; show (3 : Nat) ≤ 100000000; omega) (by unfold maxLen; decide)).mono ?_
    rintro e w7 ⟨A1, c1, rfl, hO7, hU7⟩
    rw [flat_one] at hO7
    change Own w7 _ 5 A1 c1 ((sum abcL).map by8) at hO7
    rw [sum_abc] at hO7
    have HO7 := hide hO7
    have HE7 := hide ((HE6.out.trans HEV.out).trans hU7)
    have HEV7 := hide (HEV.out.trans hU7)
    clear hO7 hU7 HP HEV
    have hc2 := fun w => Lib.run_convert_bytes_const (P := Try.prog) w 25 5 (longZ.map (Value.int .u8)).toArray 56 56 Try.under_bs Try.under8
    go_wp2_with (refine name_lq (fun W2 hW2 => ?_); refine wpList_buildFlat rfl 25 5 56 _ rfl .u8 longZ ?_ ?_ ?_ ?_ ?_ ?_ ?_ ?_; go_must (exact Try.under_bs); go_must (kernel_rfl); go_must (kernel_rfl); go_must (rfl); go_must (decide); go_must (omega); go_must (kernel_rfl); have hc3 := hc2 W2; clear hc2; have HW2 := hide hW2; clear hW2)
    have hW2 := HW2.out
    clear HW2 hc3
    subst hW2
    refine name_cq (fun V hV => ?_)
    have hP : Pts V (some ⟨W2.heap.size + 1, 0, none⟩) [⟨some ⟨W2.heap.size, 0, none⟩, 56, 56, longL⟩] := by
      rw [hV, long_cells]
      have h := one_part (W2.alloc (.cells (longL.map by8).toArray 5 (56, 57))) (some ⟨W2.heap.size, 0, none⟩) 56 56 longL (mark8 W2 5 (56, 57) longL) long_length (Nat.le_refl _) (by unfold maxLen; decide)
      rw [show (W2.alloc (.cells (longL.map by8).toArray 5 (56, 57))).heap.size = W2.heap.size + 1 by simp] at h
      exact h
    have hEV : Ext W2 V := by rw [hV]; exact ((Upd.refl _ _).alloc _).alloc _
    have HP := hide hP
    have HEV := hide hEV
    clear hV hP hEV
    refine (psum_any _ 1 1 _ V HP.out rfl (by rw [flat_one]; show longL.length ≤ 100000000; rw [long_length]; omega) (by unfold maxLen; decide)).mono ?_
    rintro e w8 ⟨A2, c2, rfl, hO8, hU8⟩
    rw [flat_one] at hO8
    change Own w8 _ 5 A2 c2 ((sum longL).map by8) at hO8
    rw [sum_long] at hO8
    have HE78 := hide (HEV.out.trans hU8)
    have HS0 := hide ((HO6.out.sl.ext HEV7.out).ext HE78.out)
    have HE8 := hide (HE7.out.trans HE78.out)
    obtain ⟨g1, rfl, -, -⟩ := HO7.out.open_ (by decide)
    obtain ⟨g2, rfl, -, -⟩ := hO8.open_ (by decide)
    have ca0 : w8.cell? ⟨g1, 0, none⟩ = some (.int .u8 186) := ((HO7.out.ext HE78.out).sl.cells 0 (by decide)).trans (by kernel_rfl)
    have ca31 : w8.cell? ⟨g1, 31, none⟩ = some (.int .u8 173) := ((HO7.out.ext HE78.out).sl.cells 31 (by decide)).trans (by kernel_rfl)
    have cb0 : w8.cell? ⟨g2, 0, none⟩ = some (.int .u8 36) := (hO8.sl.cells 0 (by decide)).trans (by kernel_rfl)
    have cb31 : w8.cell? ⟨g2, 31, none⟩ = some (.int .u8 193) := (hO8.sl.cells 31 (by decide)).trans (by kernel_rfl)
    obtain ⟨zs, hzs⟩ : ∃ zs, zs = List.replicate m (default : BitVec 8) := ⟨_, rfl⟩
    have hzl : zs.length = m := by rw [hzs, List.length_replicate]
    rw [← hzs] at HS0
    have Hzl := hide hzl
    clear hO8 hU8 HP HEV HO7 HO6 hzs hzl
    go_upto_region 8 with fail
    have HZ8 := hide (And.intro hm300 trivial)
    refine wp_region_mono 45 (fun i => ([MF.eq (.bool true), MF.eq (.bool true), MF.eq (.slice (some ⟨g1, 0, none⟩) 32 c1), MF.eq (.int .i64 32), MF.eq (.bool true), MF.eq (.bool true), MF.eq (.bool true), MF.eq (.slice (some ⟨g1, 0, none⟩) 32 c1), MF.eq (.pointer (some ⟨g1, 0, none⟩)), MF.eq (.int .u8 186), MF.eq (.bool true), MF.eq (.bool true), MF.eq (.bool true), MF.eq (.slice (some ⟨g1, 0, none⟩) 32 c1), MF.eq (.pointer (some ⟨g1, 31, none⟩)), MF.eq (.int .u8 173), MF.eq (.bool true), MF.eq (.bool true), MF.eq (.bool true), MF.eq (.slice (some ⟨g2, 0, none⟩) 32 c2), MF.eq (.int .i64 32), MF.eq (.bool true), MF.eq (.bool true), MF.eq (.bool true), MF.eq (.slice (some ⟨g2, 0, none⟩) 32 c2), MF.eq (.pointer (some ⟨g2, 0, none⟩)), MF.eq (.int .u8 36), MF.eq (.bool true), MF.eq (.bool true), MF.eq (.bool true), MF.eq (.slice (some ⟨g2, 0, none⟩) 32 c2), MF.eq (.pointer (some ⟨g2, 31, none⟩)), MF.eq (.int .u8 193), MF.eq (.bool true), MF.eq (.bool true), MF.eq (.bool true), MF.eq (.slice (some ⟨wx0.heap.size, 0, none⟩) m m), partsM (1) (zs), bytesM (32) (sum zs), MF.eq (.string (str (sum zs))), MF.eq (.slice (some ⟨wx0.heap.size, 0, none⟩) m m), bytesM (32) (sum zs), MF.eq (.string (str (sum zs))), MF.eq (.bool true), MF.eq (.bool true)] : List MF).getD i (MF.eq undef)) (by kernel_rfl) (by kernel_rfl) ?_ ?_
    · intro i hi
      match i, hi with
      | 0, _ =>
        intro u wx o ho hE hw
        injection (ho : some _ = some o) with ho
        subst ho
        have hEx : Ext w8 wx := hE.undrew
        simp only [fr, dstOf]
        go_simp
        go_wp2_with fail
        refine (lives_any _).mono ?_
        rintro e wn ⟨rfl, hU⟩
        go_wp2_with fail
        first | exact hU | exact ⟨trivial, hU⟩ | exact ⟨_, rfl, hU, rfl⟩ | exact ⟨hU, rfl⟩
      | 1, _ =>
        intro u wx o ho hE hw
        injection (ho : some _ = some o) with ho
        subst ho
        have hEx : Ext w8 wx := hE.undrew
        have f0 : u 0 = .bool true := hw 0 (by omega) (by kernel_rfl)
        simp only [fr, dstOf]
        go_simp
        go_wp2
        first | exact Upd.refl _ _ | exact ⟨_, rfl, Upd.refl _ _, rfl⟩ | exact ⟨Upd.refl _ _, rfl⟩
      | 2, _ =>
        intro u wx o ho hE hw
        injection (ho : some _ = some o) with ho
        subst ho
        have hEx : Ext w8 wx := hE.undrew
        have f1 : u 1 = .bool true := hw 1 (by omega) (by kernel_rfl)
        simp only [fr, dstOf]
        go_simp
        go_wp2
        first | exact Upd.refl _ _ | exact ⟨_, rfl, Upd.refl _ _, rfl⟩ | exact ⟨Upd.refl _ _, rfl⟩
      | 3, _ =>
        intro u wx o ho hE hw
        injection (ho : some _ = some o) with ho
        subst ho
        have hEx : Ext w8 wx := hE.undrew
        have f1 : u 1 = .bool true := hw 1 (by omega) (by kernel_rfl)
        have f2 : u 2 = .slice (some ⟨g1, 0, none⟩) 32 c1 := hw 2 (by omega) (by kernel_rfl)
        simp only [fr, dstOf]
        go_simp
        go_wp2
        first | exact Upd.refl _ _ | exact ⟨_, rfl, Upd.refl _ _, rfl⟩ | exact ⟨Upd.refl _ _, rfl⟩
      | 4, _ =>
        intro u wx o ho hE hw
        injection (ho : some _ = some o) with ho
        subst ho
        have hEx : Ext w8 wx := hE.undrew
        have f1 : u 1 = .bool true := hw 1 (by omega) (by kernel_rfl)
        have f3 : u 3 = .int .i64 32 := hw 3 (by omega) (by kernel_rfl)
        simp only [fr, dstOf]
        go_simp
        go_wp2
        first | exact Upd.refl _ _ | exact ⟨_, rfl, Upd.refl _ _, rfl⟩ | exact ⟨Upd.refl _ _, rfl⟩
      | 5, _ =>
        intro u wx o ho hE hw
        injection (ho : some _ = some o) with ho
        subst ho
        have hEx : Ext w8 wx := hE.undrew
        have f1 : u 1 = .bool true := hw 1 (by omega) (by kernel_rfl)
        have f4 : u 4 = .bool true := hw 4 (by omega) (by kernel_rfl)
        simp only [fr, dstOf]
        go_simp
        go_wp2
        first | exact Upd.refl _ _ | exact ⟨_, rfl, Upd.refl _ _, rfl⟩ | exact ⟨Upd.refl _ _, rfl⟩
      | 6, _ =>
        intro u wx o ho hE hw
        injection (ho : some _ = some o) with ho
        subst ho
        have hEx : Ext w8 wx := hE.undrew
        have f5 : u 5 = .bool true := hw 5 (by omega) (by kernel_rfl)
        simp only [fr, dstOf]
        go_simp
        go_wp2
        first | exact Upd.refl _ _ | exact ⟨_, rfl, Upd.refl _ _, rfl⟩ | exact ⟨Upd.refl _ _, rfl⟩
      | 7, _ =>
        intro u wx o ho hE hw
        injection (ho : some _ = some o) with ho
        subst ho
        have hEx : Ext w8 wx := hE.undrew
        have f6 : u 6 = .bool true := hw 6 (by omega) (by kernel_rfl)
        simp only [fr, dstOf]
        go_simp
        go_wp2
        first | exact Upd.refl _ _ | exact ⟨_, rfl, Upd.refl _ _, rfl⟩ | exact ⟨Upd.refl _ _, rfl⟩
      | 8, _ =>
        intro u wx o ho hE hw
        injection (ho : some _ = some o) with ho
        subst ho
        have hEx : Ext w8 wx := hE.undrew
        have f6 : u 6 = .bool true := hw 6 (by omega) (by kernel_rfl)
        have f7 : u 7 = .slice (some ⟨g1, 0, none⟩) 32 c1 := hw 7 (by omega) (by kernel_rfl)
        simp only [fr, dstOf]
        go_simp
        go_wp2
        first | exact Upd.refl _ _ | exact ⟨_, rfl, Upd.refl _ _, rfl⟩ | exact ⟨Upd.refl _ _, rfl⟩
      | 9, _ =>
        intro u wx o ho hE hw
        injection (ho : some _ = some o) with ho
        subst ho
        have hEx : Ext w8 wx := hE.undrew
        have f6 : u 6 = .bool true := hw 6 (by omega) (by kernel_rfl)
        have f8 : u 8 = .pointer (some ⟨g1, 0, none⟩) := hw 8 (by omega) (by kernel_rfl)
        simp only [fr, dstOf]
        go_simp
        have cx := hEx.cellv ca0
        go_wp2
        first | exact Upd.refl _ _ | exact ⟨trivial, Upd.refl _ _⟩ | exact ⟨_, rfl, Upd.refl _ _, rfl⟩ | exact ⟨Upd.refl _ _, rfl⟩
      | 10, _ =>
        intro u wx o ho hE hw
        injection (ho : some _ = some o) with ho
        subst ho
        have hEx : Ext w8 wx := hE.undrew
        have f6 : u 6 = .bool true := hw 6 (by omega) (by kernel_rfl)
        have f9 : u 9 = .int .u8 186 := hw 9 (by omega) (by kernel_rfl)
        simp only [fr, dstOf]
        go_simp
        go_wp2
        first | exact Upd.refl _ _ | exact ⟨_, rfl, Upd.refl _ _, rfl⟩ | exact ⟨Upd.refl _ _, rfl⟩
      | 11, _ =>
        intro u wx o ho hE hw
        injection (ho : some _ = some o) with ho
        subst ho
        have hEx : Ext w8 wx := hE.undrew
        have f6 : u 6 = .bool true := hw 6 (by omega) (by kernel_rfl)
        have f10 : u 10 = .bool true := hw 10 (by omega) (by kernel_rfl)
        simp only [fr, dstOf]
        go_simp
        go_wp2
        first | exact Upd.refl _ _ | exact ⟨_, rfl, Upd.refl _ _, rfl⟩ | exact ⟨Upd.refl _ _, rfl⟩
      | 12, _ =>
        intro u wx o ho hE hw
        injection (ho : some _ = some o) with ho
        subst ho
        have hEx : Ext w8 wx := hE.undrew
        have f11 : u 11 = .bool true := hw 11 (by omega) (by kernel_rfl)
        simp only [fr, dstOf]
        go_simp
        go_wp2
        first | exact Upd.refl _ _ | exact ⟨_, rfl, Upd.refl _ _, rfl⟩ | exact ⟨Upd.refl _ _, rfl⟩
      | 13, _ =>
        intro u wx o ho hE hw
        injection (ho : some _ = some o) with ho
        subst ho
        have hEx : Ext w8 wx := hE.undrew
        have f12 : u 12 = .bool true := hw 12 (by omega) (by kernel_rfl)
        simp only [fr, dstOf]
        go_simp
        go_wp2
        first | exact Upd.refl _ _ | exact ⟨_, rfl, Upd.refl _ _, rfl⟩ | exact ⟨Upd.refl _ _, rfl⟩
      | 14, _ =>
        intro u wx o ho hE hw
        injection (ho : some _ = some o) with ho
        subst ho
        have hEx : Ext w8 wx := hE.undrew
        have f12 : u 12 = .bool true := hw 12 (by omega) (by kernel_rfl)
        have f13 : u 13 = .slice (some ⟨g1, 0, none⟩) 32 c1 := hw 13 (by omega) (by kernel_rfl)
        simp only [fr, dstOf]
        go_simp
        go_wp2
        first | exact Upd.refl _ _ | exact ⟨_, rfl, Upd.refl _ _, rfl⟩ | exact ⟨Upd.refl _ _, rfl⟩
      | 15, _ =>
        intro u wx o ho hE hw
        injection (ho : some _ = some o) with ho
        subst ho
        have hEx : Ext w8 wx := hE.undrew
        have f12 : u 12 = .bool true := hw 12 (by omega) (by kernel_rfl)
        have f14 : u 14 = .pointer (some ⟨g1, 31, none⟩) := hw 14 (by omega) (by kernel_rfl)
        simp only [fr, dstOf]
        go_simp
        have cx := hEx.cellv ca31
        go_wp2
        first | exact Upd.refl _ _ | exact ⟨trivial, Upd.refl _ _⟩ | exact ⟨_, rfl, Upd.refl _ _, rfl⟩ | exact ⟨Upd.refl _ _, rfl⟩
      | 16, _ =>
        intro u wx o ho hE hw
        injection (ho : some _ = some o) with ho
        subst ho
        have hEx : Ext w8 wx := hE.undrew
        have f12 : u 12 = .bool true := hw 12 (by omega) (by kernel_rfl)
        have f15 : u 15 = .int .u8 173 := hw 15 (by omega) (by kernel_rfl)
        simp only [fr, dstOf]
        go_simp
        go_wp2
        first | exact Upd.refl _ _ | exact ⟨_, rfl, Upd.refl _ _, rfl⟩ | exact ⟨Upd.refl _ _, rfl⟩
      | 17, _ =>
        intro u wx o ho hE hw
        injection (ho : some _ = some o) with ho
        subst ho
        have hEx : Ext w8 wx := hE.undrew
        have f12 : u 12 = .bool true := hw 12 (by omega) (by kernel_rfl)
        have f16 : u 16 = .bool true := hw 16 (by omega) (by kernel_rfl)
        simp only [fr, dstOf]
        go_simp
        go_wp2
        first | exact Upd.refl _ _ | exact ⟨_, rfl, Upd.refl _ _, rfl⟩ | exact ⟨Upd.refl _ _, rfl⟩
      | 18, _ =>
        intro u wx o ho hE hw
        injection (ho : some _ = some o) with ho
        subst ho
        have hEx : Ext w8 wx := hE.undrew
        have f17 : u 17 = .bool true := hw 17 (by omega) (by kernel_rfl)
        simp only [fr, dstOf]
        go_simp
        go_wp2
        first | exact Upd.refl _ _ | exact ⟨_, rfl, Upd.refl _ _, rfl⟩ | exact ⟨Upd.refl _ _, rfl⟩
      | 19, _ =>
        intro u wx o ho hE hw
        injection (ho : some _ = some o) with ho
        subst ho
        have hEx : Ext w8 wx := hE.undrew
        have f18 : u 18 = .bool true := hw 18 (by omega) (by kernel_rfl)
        simp only [fr, dstOf]
        go_simp
        go_wp2
        first | exact Upd.refl _ _ | exact ⟨_, rfl, Upd.refl _ _, rfl⟩ | exact ⟨Upd.refl _ _, rfl⟩
      | 20, _ =>
        intro u wx o ho hE hw
        injection (ho : some _ = some o) with ho
        subst ho
        have hEx : Ext w8 wx := hE.undrew
        have f18 : u 18 = .bool true := hw 18 (by omega) (by kernel_rfl)
        have f19 : u 19 = .slice (some ⟨g2, 0, none⟩) 32 c2 := hw 19 (by omega) (by kernel_rfl)
        simp only [fr, dstOf]
        go_simp
        go_wp2
        first | exact Upd.refl _ _ | exact ⟨_, rfl, Upd.refl _ _, rfl⟩ | exact ⟨Upd.refl _ _, rfl⟩
      | 21, _ =>
        intro u wx o ho hE hw
        injection (ho : some _ = some o) with ho
        subst ho
        have hEx : Ext w8 wx := hE.undrew
        have f18 : u 18 = .bool true := hw 18 (by omega) (by kernel_rfl)
        have f20 : u 20 = .int .i64 32 := hw 20 (by omega) (by kernel_rfl)
        simp only [fr, dstOf]
        go_simp
        go_wp2
        first | exact Upd.refl _ _ | exact ⟨_, rfl, Upd.refl _ _, rfl⟩ | exact ⟨Upd.refl _ _, rfl⟩
      | 22, _ =>
        intro u wx o ho hE hw
        injection (ho : some _ = some o) with ho
        subst ho
        have hEx : Ext w8 wx := hE.undrew
        have f18 : u 18 = .bool true := hw 18 (by omega) (by kernel_rfl)
        have f21 : u 21 = .bool true := hw 21 (by omega) (by kernel_rfl)
        simp only [fr, dstOf]
        go_simp
        go_wp2
        first | exact Upd.refl _ _ | exact ⟨_, rfl, Upd.refl _ _, rfl⟩ | exact ⟨Upd.refl _ _, rfl⟩
      | 23, _ =>
        intro u wx o ho hE hw
        injection (ho : some _ = some o) with ho
        subst ho
        have hEx : Ext w8 wx := hE.undrew
        have f22 : u 22 = .bool true := hw 22 (by omega) (by kernel_rfl)
        simp only [fr, dstOf]
        go_simp
        go_wp2
        first | exact Upd.refl _ _ | exact ⟨_, rfl, Upd.refl _ _, rfl⟩ | exact ⟨Upd.refl _ _, rfl⟩
      | 24, _ =>
        intro u wx o ho hE hw
        injection (ho : some _ = some o) with ho
        subst ho
        have hEx : Ext w8 wx := hE.undrew
        have f23 : u 23 = .bool true := hw 23 (by omega) (by kernel_rfl)
        simp only [fr, dstOf]
        go_simp
        go_wp2
        first | exact Upd.refl _ _ | exact ⟨_, rfl, Upd.refl _ _, rfl⟩ | exact ⟨Upd.refl _ _, rfl⟩
      | 25, _ =>
        intro u wx o ho hE hw
        injection (ho : some _ = some o) with ho
        subst ho
        have hEx : Ext w8 wx := hE.undrew
        have f23 : u 23 = .bool true := hw 23 (by omega) (by kernel_rfl)
        have f24 : u 24 = .slice (some ⟨g2, 0, none⟩) 32 c2 := hw 24 (by omega) (by kernel_rfl)
        simp only [fr, dstOf]
        go_simp
        go_wp2
        first | exact Upd.refl _ _ | exact ⟨_, rfl, Upd.refl _ _, rfl⟩ | exact ⟨Upd.refl _ _, rfl⟩
      | 26, _ =>
        intro u wx o ho hE hw
        injection (ho : some _ = some o) with ho
        subst ho
        have hEx : Ext w8 wx := hE.undrew
        have f23 : u 23 = .bool true := hw 23 (by omega) (by kernel_rfl)
        have f25 : u 25 = .pointer (some ⟨g2, 0, none⟩) := hw 25 (by omega) (by kernel_rfl)
        simp only [fr, dstOf]
        go_simp
        have cx := hEx.cellv cb0
        go_wp2
        first | exact Upd.refl _ _ | exact ⟨trivial, Upd.refl _ _⟩ | exact ⟨_, rfl, Upd.refl _ _, rfl⟩ | exact ⟨Upd.refl _ _, rfl⟩
      | 27, _ =>
        intro u wx o ho hE hw
        injection (ho : some _ = some o) with ho
        subst ho
        have hEx : Ext w8 wx := hE.undrew
        have f23 : u 23 = .bool true := hw 23 (by omega) (by kernel_rfl)
        have f26 : u 26 = .int .u8 36 := hw 26 (by omega) (by kernel_rfl)
        simp only [fr, dstOf]
        go_simp
        go_wp2
        first | exact Upd.refl _ _ | exact ⟨_, rfl, Upd.refl _ _, rfl⟩ | exact ⟨Upd.refl _ _, rfl⟩
      | 28, _ =>
        intro u wx o ho hE hw
        injection (ho : some _ = some o) with ho
        subst ho
        have hEx : Ext w8 wx := hE.undrew
        have f23 : u 23 = .bool true := hw 23 (by omega) (by kernel_rfl)
        have f27 : u 27 = .bool true := hw 27 (by omega) (by kernel_rfl)
        simp only [fr, dstOf]
        go_simp
        go_wp2
        first | exact Upd.refl _ _ | exact ⟨_, rfl, Upd.refl _ _, rfl⟩ | exact ⟨Upd.refl _ _, rfl⟩
      | 29, _ =>
        intro u wx o ho hE hw
        injection (ho : some _ = some o) with ho
        subst ho
        have hEx : Ext w8 wx := hE.undrew
        have f28 : u 28 = .bool true := hw 28 (by omega) (by kernel_rfl)
        simp only [fr, dstOf]
        go_simp
        go_wp2
        first | exact Upd.refl _ _ | exact ⟨_, rfl, Upd.refl _ _, rfl⟩ | exact ⟨Upd.refl _ _, rfl⟩
      | 30, _ =>
        intro u wx o ho hE hw
        injection (ho : some _ = some o) with ho
        subst ho
        have hEx : Ext w8 wx := hE.undrew
        have f29 : u 29 = .bool true := hw 29 (by omega) (by kernel_rfl)
        simp only [fr, dstOf]
        go_simp
        go_wp2
        first | exact Upd.refl _ _ | exact ⟨_, rfl, Upd.refl _ _, rfl⟩ | exact ⟨Upd.refl _ _, rfl⟩
      | 31, _ =>
        intro u wx o ho hE hw
        injection (ho : some _ = some o) with ho
        subst ho
        have hEx : Ext w8 wx := hE.undrew
        have f29 : u 29 = .bool true := hw 29 (by omega) (by kernel_rfl)
        have f30 : u 30 = .slice (some ⟨g2, 0, none⟩) 32 c2 := hw 30 (by omega) (by kernel_rfl)
        simp only [fr, dstOf]
        go_simp
        go_wp2
        first | exact Upd.refl _ _ | exact ⟨_, rfl, Upd.refl _ _, rfl⟩ | exact ⟨Upd.refl _ _, rfl⟩
      | 32, _ =>
        intro u wx o ho hE hw
        injection (ho : some _ = some o) with ho
        subst ho
        have hEx : Ext w8 wx := hE.undrew
        have f29 : u 29 = .bool true := hw 29 (by omega) (by kernel_rfl)
        have f31 : u 31 = .pointer (some ⟨g2, 31, none⟩) := hw 31 (by omega) (by kernel_rfl)
        simp only [fr, dstOf]
        go_simp
        have cx := hEx.cellv cb31
        go_wp2
        first | exact Upd.refl _ _ | exact ⟨trivial, Upd.refl _ _⟩ | exact ⟨_, rfl, Upd.refl _ _, rfl⟩ | exact ⟨Upd.refl _ _, rfl⟩
      | 33, _ =>
        intro u wx o ho hE hw
        injection (ho : some _ = some o) with ho
        subst ho
        have hEx : Ext w8 wx := hE.undrew
        have f29 : u 29 = .bool true := hw 29 (by omega) (by kernel_rfl)
        have f32 : u 32 = .int .u8 193 := hw 32 (by omega) (by kernel_rfl)
        simp only [fr, dstOf]
        go_simp
        go_wp2
        first | exact Upd.refl _ _ | exact ⟨_, rfl, Upd.refl _ _, rfl⟩ | exact ⟨Upd.refl _ _, rfl⟩
      | 34, _ =>
        intro u wx o ho hE hw
        injection (ho : some _ = some o) with ho
        subst ho
        have hEx : Ext w8 wx := hE.undrew
        have f29 : u 29 = .bool true := hw 29 (by omega) (by kernel_rfl)
        have f33 : u 33 = .bool true := hw 33 (by omega) (by kernel_rfl)
        simp only [fr, dstOf]
        go_simp
        go_wp2
        first | exact Upd.refl _ _ | exact ⟨_, rfl, Upd.refl _ _, rfl⟩ | exact ⟨Upd.refl _ _, rfl⟩
      | 35, _ =>
        intro u wx o ho hE hw
        injection (ho : some _ = some o) with ho
        subst ho
        have hEx : Ext w8 wx := hE.undrew
        have f34 : u 34 = .bool true := hw 34 (by omega) (by kernel_rfl)
        simp only [fr, dstOf]
        go_simp
        go_wp2
        first | exact Upd.refl _ _ | exact ⟨_, rfl, Upd.refl _ _, rfl⟩ | exact ⟨Upd.refl _ _, rfl⟩
      | 36, _ =>
        intro u wx o ho hE hw
        injection (ho : some _ = some o) with ho
        subst ho
        have hEx : Ext w8 wx := hE.undrew
        have f35 : u 35 = .bool true := hw 35 (by omega) (by kernel_rfl)
        simp only [fr, dstOf]
        go_simp
        go_wp2
        first | exact Upd.refl _ _ | exact ⟨_, rfl, Upd.refl _ _, rfl⟩ | exact ⟨Upd.refl _ _, rfl⟩
      | 37, _ =>
        intro u wx o ho hE hw
        injection (ho : some _ = some o) with ho
        subst ho
        have hEx : Ext w8 wx := hE.undrew
        have f35 : u 35 = .bool true := hw 35 (by omega) (by kernel_rfl)
        have f36 : u 36 = .slice (some ⟨wx0.heap.size, 0, none⟩) m m := hw 36 (by omega) (by kernel_rfl)
        simp only [fr, dstOf]
        go_simp
        go_wp2
        first | exact ⟨_, rfl, (Upd.refl _ _).alloc _, partsM_mk ⟨_, _, [⟨some ⟨wx0.heap.size, 0, none⟩, m, m, zs⟩], rfl, rfl, flat_one _, one_part wx (some ⟨wx0.heap.size, 0, none⟩) m m zs (HS0.out.ext hEx) Hzl.out (Nat.le_refl _) (by unfold maxLen; omega)⟩⟩ | exact ⟨(Upd.refl _ _).alloc _, partsM_mk ⟨_, _, [⟨some ⟨wx0.heap.size, 0, none⟩, m, m, zs⟩], rfl, rfl, flat_one _, one_part wx (some ⟨wx0.heap.size, 0, none⟩) m m zs (HS0.out.ext hEx) Hzl.out (Nat.le_refl _) (by unfold maxLen; omega)⟩⟩
      | 38, _ =>
        intro u wx o ho hE hw
        injection (ho : some _ = some o) with ho
        subst ho
        have hEx : Ext w8 wx := hE.undrew
        have f35 : u 35 = .bool true := hw 35 (by omega) (by kernel_rfl)
        have hQ37 := partsM_out (hw 37 (by omega) (by kernel_rfl))
        cases hQ37; rename_i aA37 hQ37
        cases hQ37; rename_i aC37 hQ37
        cases hQ37; rename_i aP37 hQ37
        have f37 := hQ37.1
        have aN37 := hQ37.2.1
        have aF37 := hQ37.2.2.1
        have hV37 := hQ37.2.2.2
        clear hQ37
        simp only [fr, dstOf]
        go_simp
        go_wp2_with fail
        refine (psum_any aA37 1 aC37 aP37 _ hV37 aN37 (by rw [aF37, Hzl.out]; omega) (by unfold maxLen; decide)).mono ?_
        rintro e wn ⟨A5, c5, rfl, hO, hU⟩
        go_wp2_with fail
        first | exact ⟨_, rfl, hU, bytesM_mk ⟨A5, c5, rfl, (by rw [aF37] at hO; exact Own.pt hO (sum_length _))⟩⟩ | exact ⟨hU, bytesM_mk ⟨A5, c5, rfl, (by rw [aF37] at hO; exact Own.pt hO (sum_length _))⟩⟩
      | 39, _ =>
        intro u wx o ho hE hw
        injection (ho : some _ = some o) with ho
        subst ho
        have hEx : Ext w8 wx := hE.undrew
        have f35 : u 35 = .bool true := hw 35 (by omega) (by kernel_rfl)
        have hQ38 := bytesM_out (hw 38 (by omega) (by kernel_rfl))
        cases hQ38; rename_i aA38 hQ38
        cases hQ38; rename_i aC38 hQ38
        have f38 := hQ38.1
        have aN38 := hQ38.2.1
        have aX38 := hQ38.2.2.1
        have aM38 := hQ38.2.2.2.1
        have hV38 := hQ38.2.2.2.2
        clear hQ38
        simp only [fr, dstOf]
        go_simp
        have hst := run_str (P := Try.prog) (S := 9) Try.under_bs Try.under8 Try.underS (c := aC38) hV38 aN38
        go_wp2
        first | exact Upd.refl _ _ | exact ⟨trivial, Upd.refl _ _⟩ | exact ⟨_, rfl, Upd.refl _ _, rfl⟩ | exact ⟨Upd.refl _ _, rfl⟩
      | 40, _ =>
        intro u wx o ho hE hw
        injection (ho : some _ = some o) with ho
        subst ho
        have hEx : Ext w8 wx := hE.undrew
        have f35 : u 35 = .bool true := hw 35 (by omega) (by kernel_rfl)
        simp only [fr, dstOf]
        go_simp
        go_wp2
        first | exact Upd.refl _ _ | exact ⟨_, rfl, Upd.refl _ _, rfl⟩ | exact ⟨Upd.refl _ _, rfl⟩
      | 41, _ =>
        intro u wx o ho hE hw
        injection (ho : some _ = some o) with ho
        subst ho
        have hEx : Ext w8 wx := hE.undrew
        have f35 : u 35 = .bool true := hw 35 (by omega) (by kernel_rfl)
        have f40 : u 40 = .slice (some ⟨wx0.heap.size, 0, none⟩) m m := hw 40 (by omega) (by kernel_rfl)
        simp only [fr, dstOf]
        go_simp
        go_wp2_with fail
        refine (rsum_any (some ⟨wx0.heap.size, 0, none⟩) m m zs _ (HS0.out.ext hEx) Hzl.out (by omega)).mono ?_
        rintro e wn ⟨A5, c5, rfl, hO, hU⟩
        go_wp2_with fail
        first | exact ⟨_, rfl, hU, bytesM_mk ⟨A5, c5, rfl, Own.pt hO (sum_length _)⟩⟩ | exact ⟨hU, bytesM_mk ⟨A5, c5, rfl, Own.pt hO (sum_length _)⟩⟩
      | 42, _ =>
        intro u wx o ho hE hw
        injection (ho : some _ = some o) with ho
        subst ho
        have hEx : Ext w8 wx := hE.undrew
        have f35 : u 35 = .bool true := hw 35 (by omega) (by kernel_rfl)
        have hQ41 := bytesM_out (hw 41 (by omega) (by kernel_rfl))
        cases hQ41; rename_i aA41 hQ41
        cases hQ41; rename_i aC41 hQ41
        have f41 := hQ41.1
        have aN41 := hQ41.2.1
        have aX41 := hQ41.2.2.1
        have aM41 := hQ41.2.2.2.1
        have hV41 := hQ41.2.2.2.2
        clear hQ41
        simp only [fr, dstOf]
        go_simp
        have hst := run_str (P := Try.prog) (S := 9) Try.under_bs Try.under8 Try.underS (c := aC41) hV41 aN41
        go_wp2
        first | exact Upd.refl _ _ | exact ⟨trivial, Upd.refl _ _⟩ | exact ⟨_, rfl, Upd.refl _ _, rfl⟩ | exact ⟨Upd.refl _ _, rfl⟩
      | 43, _ =>
        intro u wx o ho hE hw
        injection (ho : some _ = some o) with ho
        subst ho
        have hEx : Ext w8 wx := hE.undrew
        have f35 : u 35 = .bool true := hw 35 (by omega) (by kernel_rfl)
        have f39 : u 39 = .string (str (sum zs)) := hw 39 (by omega) (by kernel_rfl)
        have f42 : u 42 = .string (str (sum zs)) := hw 42 (by omega) (by kernel_rfl)
        simp only [fr, dstOf]
        go_simp
        go_wp2
        first | exact Upd.refl _ _ | exact ⟨_, rfl, Upd.refl _ _, rfl⟩ | exact ⟨Upd.refl _ _, rfl⟩
      | 44, _ =>
        intro u wx o ho hE hw
        injection (ho : some _ = some o) with ho
        subst ho
        have hEx : Ext w8 wx := hE.undrew
        have f35 : u 35 = .bool true := hw 35 (by omega) (by kernel_rfl)
        have f43 : u 43 = .bool true := hw 43 (by omega) (by kernel_rfl)
        simp only [fr, dstOf]
        go_simp
        go_wp2
        first | exact Upd.refl _ _ | exact ⟨_, rfl, Upd.refl _ _, rfl⟩ | exact ⟨Upd.refl _ _, rfl⟩
      | k + 45, h => exact absurd h (by omega)
    · intro u wx hE hJ
      have hEx : Ext w8 wx := hE.undrew
      have f0 : u 0 = .bool true := hJ 0 (by omega)
      have f1 : u 1 = .bool true := hJ 1 (by omega)
      have f2 : u 2 = .slice (some ⟨g1, 0, none⟩) 32 c1 := hJ 2 (by omega)
      have f3 : u 3 = .int .i64 32 := hJ 3 (by omega)
      have f4 : u 4 = .bool true := hJ 4 (by omega)
      have f5 : u 5 = .bool true := hJ 5 (by omega)
      have f6 : u 6 = .bool true := hJ 6 (by omega)
      have f7 : u 7 = .slice (some ⟨g1, 0, none⟩) 32 c1 := hJ 7 (by omega)
      have f8 : u 8 = .pointer (some ⟨g1, 0, none⟩) := hJ 8 (by omega)
      have f9 : u 9 = .int .u8 186 := hJ 9 (by omega)
      have f10 : u 10 = .bool true := hJ 10 (by omega)
      have f11 : u 11 = .bool true := hJ 11 (by omega)
      have f12 : u 12 = .bool true := hJ 12 (by omega)
      have f13 : u 13 = .slice (some ⟨g1, 0, none⟩) 32 c1 := hJ 13 (by omega)
      have f14 : u 14 = .pointer (some ⟨g1, 31, none⟩) := hJ 14 (by omega)
      have f15 : u 15 = .int .u8 173 := hJ 15 (by omega)
      have f16 : u 16 = .bool true := hJ 16 (by omega)
      have f17 : u 17 = .bool true := hJ 17 (by omega)
      have f18 : u 18 = .bool true := hJ 18 (by omega)
      have f19 : u 19 = .slice (some ⟨g2, 0, none⟩) 32 c2 := hJ 19 (by omega)
      have f20 : u 20 = .int .i64 32 := hJ 20 (by omega)
      have f21 : u 21 = .bool true := hJ 21 (by omega)
      have f22 : u 22 = .bool true := hJ 22 (by omega)
      have f23 : u 23 = .bool true := hJ 23 (by omega)
      have f24 : u 24 = .slice (some ⟨g2, 0, none⟩) 32 c2 := hJ 24 (by omega)
      have f25 : u 25 = .pointer (some ⟨g2, 0, none⟩) := hJ 25 (by omega)
      have f26 : u 26 = .int .u8 36 := hJ 26 (by omega)
      have f27 : u 27 = .bool true := hJ 27 (by omega)
      have f28 : u 28 = .bool true := hJ 28 (by omega)
      have f29 : u 29 = .bool true := hJ 29 (by omega)
      have f30 : u 30 = .slice (some ⟨g2, 0, none⟩) 32 c2 := hJ 30 (by omega)
      have f31 : u 31 = .pointer (some ⟨g2, 31, none⟩) := hJ 31 (by omega)
      have f32 : u 32 = .int .u8 193 := hJ 32 (by omega)
      have f33 : u 33 = .bool true := hJ 33 (by omega)
      have f34 : u 34 = .bool true := hJ 34 (by omega)
      have f35 : u 35 = .bool true := hJ 35 (by omega)
      have f36 : u 36 = .slice (some ⟨wx0.heap.size, 0, none⟩) m m := hJ 36 (by omega)
      have hQ37 := partsM_out (hJ 37 (by omega))
      cases hQ37; rename_i aA37 hQ37
      cases hQ37; rename_i aC37 hQ37
      cases hQ37; rename_i aP37 hQ37
      have f37 := hQ37.1
      have aN37 := hQ37.2.1
      have aF37 := hQ37.2.2.1
      have hV37 := hQ37.2.2.2
      clear hQ37
      have hQ38 := bytesM_out (hJ 38 (by omega))
      cases hQ38; rename_i aA38 hQ38
      cases hQ38; rename_i aC38 hQ38
      have f38 := hQ38.1
      have aN38 := hQ38.2.1
      have aX38 := hQ38.2.2.1
      have aM38 := hQ38.2.2.2.1
      have hV38 := hQ38.2.2.2.2
      clear hQ38
      have f39 : u 39 = .string (str (sum zs)) := hJ 39 (by omega)
      have f40 : u 40 = .slice (some ⟨wx0.heap.size, 0, none⟩) m m := hJ 40 (by omega)
      have hQ41 := bytesM_out (hJ 41 (by omega))
      cases hQ41; rename_i aA41 hQ41
      cases hQ41; rename_i aC41 hQ41
      have f41 := hQ41.1
      have aN41 := hQ41.2.1
      have aX41 := hQ41.2.2.1
      have aM41 := hQ41.2.2.2.1
      have hV41 := hQ41.2.2.2.2
      clear hQ41
      have f42 : u 42 = .string (str (sum zs)) := hJ 42 (by omega)
      have f43 : u 43 = .bool true := hJ 43 (by omega)
      have f44 : u 44 = .bool true := hJ 44 (by omega)
      clear hJ
      simp only [fr, dstOf]
      go_simp
      try simp only [List.drop_succ_cons, List.drop_zero]
      go_wp2_with fail
      go_ret
      exact ⟨rfl, HE8.out.trans hEx⟩
end Go.Proofs.Ytjdodhooojjldaa
