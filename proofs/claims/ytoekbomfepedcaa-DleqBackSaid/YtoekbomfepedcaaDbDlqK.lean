/- DleqBack, walked. -/
import Derived.Test.YtoekbomfepedcaaDbDlqL
import Derived.Test.YtoekbomfepedcaaDbSgnE
namespace Go.Proofs.Ytoekbomfepedcaa
set_option linter.unusedSimpArgs false
set_option linter.unusedVariables false
open Go.RowKit
open Nt Sha
attribute [local go_sem] steady steadyUpon Cls same_cell anyW
attribute [local irreducible] wpHead wpTree wpHeadR sum chalOf ansN
theorem sl4 {w : World} {g : Nat} {t : TypeId} {A : Option Addr} {xs : List (BitVec 8)} {a0 a1 a2 a3 b0 b1 b2 b3 : Option Addr} {l0 l1 l2 l3 c0 c1 c2 c3 m0 m1 m2 m3 d0 d1 d2 d3 : Nat} (h : Sl by8 w A xs) (hb : Blk w g t #[.slice a0 l0 c0, .slice a1 l1 c1, .slice a2 l2 c2, .slice a3 l3 c3]) :
    Sl by8 ((((w.setCell ⟨g, 0, none⟩ (.slice b0 m0 d0)).setCell ⟨g, 1, none⟩ (.slice b1 m1 d1)).setCell ⟨g, 2, none⟩ (.slice b2 m2 d2)).setCell ⟨g, 3, none⟩ (.slice b3 m3 d3)) A xs := by
  have hne : ∀ (A : Option Addr) (l c : Nat) (x : BitVec 8), by8 x ≠ .slice A l c := fun _ _ _ _ h => by cases h
  have h1 := h.far (v := .slice b0 m0 d0) (hb.at 0 rfl) (hne _ _ _)
  have hb1 := hb.set 0 (.slice b0 m0 d0)
  have h2 := h1.far (v := .slice b1 m1 d1) (hb1.at 1 rfl) (hne _ _ _)
  have hb2 := hb1.set 1 (.slice b1 m1 d1)
  have h3 := h2.far (v := .slice b2 m2 d2) (hb2.at 2 rfl) (hne _ _ _)
  have hb3 := hb2.set 2 (.slice b2 m2 d2)
  exact h3.far (hb3.at 3 rfl) (hne _ _ _)
theorem wpList_wanted9 {P : Program} {ops : Array Oper} {Q : Exit → Act → World → Prop} {rest : List Oper} {o : Oper} {a : Act} {w : World} (hw : Region.wanted o (yielded ops a.tmps) = true)
    (h : wpList P ops Q (⟨o.dst, o.op, o.type, o.pos, o.after, none⟩ :: rest) a w) : wpList P ops Q (o :: rest) a w := by
  unfold wpList at h ⊢
  rw [if_pos hw]
  exact h
/-- behind a proof: the claim's block, the proof -/
def CutPv (V : World) (N p q y z : Nat) (prf : List (BitVec 8)) (s15 s16 s17 : Value) (wx : World) : Prop :=
  ∃ g E0 m0 d0 E1 m1 d1 E2 m2 d2 E3 m3 d3 AP cP, s15 = .pointer (some ⟨g, 0, none⟩) ∧ s16 = .slice AP N cP ∧ s17 = .int .i64 0 ∧ Blk wx g 88 #[.slice E0 m0 d0, .slice E1 m1 d1, .slice E2 m2 d2, .slice E3 m3 d3] ∧ NatV wx (.agg #[.slice E0 m0 d0]) p ∧ NatV wx (.agg #[.slice E1 m1 d1]) q ∧ NatV wx (.agg #[.slice E2 m2 d2]) y ∧ NatV wx (.agg #[.slice E3 m3 d3]) z ∧ Pt.ok wx ⟨AP, N, cP, prf⟩ ∧ Ext V wx
theorem dmemP_any (gr P Q G H k p : Nat) (w : World) (x : Nat) (h : GrpV w gr P Q G H) (hx : x < 18446744073709551616) (hGf : Fit k G) (hP : Fit k P) (hk : k ≤ 50000) (hk2 : 2 ≤ k) (hp : p = G ^ x % P) :
    Calls Try.prog 49 #[.pointer (some ⟨gr, 0, none⟩), .int .u64 (x : Nat), .bool false] w (RetN w p) := by
  rw [hp]; exact dmem_any gr P Q G H k w x false h hx hGf hP hk hk2
set_option maxRecDepth 100000 in
set_option maxHeartbeats 1000000 in
theorem dback_few (z a b x : Int) (y : Int) (A : Option Addr) (n c : Nat) (w : World) (h : 300 < n) :
    Calls Try.prog 9 #[.int .i64 z, .int .u64 a, .int .u64 b, .int .u64 x, .slice A n c, .int .u8 y] w fun e w' => e = .returned (.bool true) ∧ Ext w w' := by
  have n1I : (300 : Int) < (n : Int) := by omega
  go_enter Try.func9, Try.ntmps9
  go_wp2_with fail
  refine (dlives_any w).mono ?_
  rintro e w1 ⟨rfl, hU1⟩
  go_wp2_with fail
  refine (dlives_any w1).mono ?_
  rintro e w2 ⟨rfl, hU2⟩
  have hE := hU1.trans hU2
  go_wp2_with fail
  go_ret
  exact ⟨rfl, hE⟩
set_option maxRecDepth 100000 in
set_option maxHeartbeats 8000000 in
theorem dback_good (z0 : Int) (r : Nat) (hr : r < 3) (a b x : Nat) (by_ : BitVec 8) (A : Option Addr) (n c : Nat) (side : List (BitVec 8)) (w : World) (hnum : ∀ w', Calls Try.prog 76 #[.int .i64 z0, .slice none 0 0] w' (RetNums w' r none 0 0))
    (ha64 : a < 18446744073709551616) (hb64 : b < 18446744073709551616) (hx64 : x < 18446744073709551616) (hM : Pt.ok w ⟨A, n, c, side⟩) (hn : n ≤ 300) :
    Calls Try.prog 9 #[.int .i64 z0, .int .u64 (a : Nat), .int .u64 (b : Nat), .int .u64 (x : Nat), .slice A n c, .int .u8 (n8 by_)] w fun e w' => e = .returned (.bool true) ∧ Ext w w' := by
  have Hnum := hide hnum
  have hP : Fit 32 (grP r) := (fit_grP r).mono (by omega)
  have hQ : Fit 32 (grQ r) := (fit_grQ r).mono (by omega)
  have hGf : Fit 32 (grG r) := (fit_grG r).mono (by omega)
  obtain ⟨P, hPe⟩ : ∃ P, P = grP r := ⟨_, rfl⟩
  obtain ⟨Q, hQe⟩ : ∃ Q, Q = grQ r := ⟨_, rfl⟩
  obtain ⟨G, hGe⟩ : ∃ G, G = grG r := ⟨_, rfl⟩
  have hgok : GOk P Q G := by rw [hPe, hQe, hGe]; exact gok r hr
  have hz128 : byteSz Q ≤ 128 := by rw [hQe]; exact szQ r
  rw [← hPe] at hP
  rw [← hQe] at hQ
  rw [← hGe] at hGf
  have HPe := hide hPe
  have HQe := hide hQe
  have HGe := hide hGe
  have hP2 := hgok.two
  have hQ64 := hgok.sml
  clear hnum hPe hQe hGe
  have HM := hide hM
  have n1I : ¬ (300 : Int) < (n : Int) := by omega
  have hFx : Fit 32 x := (fit2 hx64).mono (by omega)
  clear hM
  go_enter Try.func9, Try.ntmps9
  go_wp2_with fail
  refine (dlives_any w).mono ?_
  rintro e w1 ⟨rfl, hU1⟩
  go_wp2_with fail
  refine (ggroup_any z0 r hr w1 Hnum.out).mono ?_
  rintro e w2 ⟨gr, rfl, hG, hU2⟩
  rw [← HPe.out, ← HQe.out, ← HGe.out] at hG
  have hE2 := hU1.trans hU2
  clear hU1 hU2
  go_wp2_with fail
  refine (gField_any gr P Q G _ _ hG).mono ?_
  rintro e w3 ⟨gq, rfl, hRq, rfl⟩
  go_wp2_with fail
  refine (new_any x _ hx64).mono ?_
  rintro e w4 ⟨A4, l4, c4, rfl, hV4, hU4⟩
  go_wp2_with fail
  refine (mof_any _ gq x Q 32 _ (hRq.ext hU4) hV4 hFx hQ (by omega)).mono ?_
  rintro e w5 ⟨A5, l5, c5, rfl, hV5, hU5⟩
  have hkQ : x % Q < Q := Nat.mod_lt _ (by omega)
  obtain ⟨kk, hkk⟩ : ∃ d, d = x % Q := ⟨_, rfl⟩
  rw [← hkk] at hV5 hkQ
  have hFk : Fit 32 kk := hQ.le (Nat.le_of_lt hkQ)
  clear hkk hV4 hFx
  have hU45 := hU4.trans hU5
  have q10 := (Box.new w5 33 (.slice A5 l5 c5)).cell
  go_wp2_with fail
  clear q10
  refine name_w (fun V hW => ?_)
  have hU0 : Ext w3 V := by rw [hW]; exact hU45.alloc _
  have b14 : Box V w5.heap.size 33 (.slice A5 l5 c5) := by rw [hW]; exact Box.new _ _ _
  have hVK : NatV V (.agg #[.slice A5 l5 c5]) kk := by rw [hW]; exact hV5.ext ((Upd.refl _ _).alloc _)
  have hEV := hE2.trans hU0
  have hGV := hG.ext hU0
  clear hW hU4 hU5 hU45 hV5 hRq hE2 hG hU0
  obtain ⟨N, hN⟩ : ∃ N, N = 2 * byteSz Q := ⟨_, rfl⟩
  obtain ⟨p, hp⟩ : ∃ p, p = G ^ a % P := ⟨_, rfl⟩
  obtain ⟨q, hq⟩ : ∃ p, p = G ^ b % P := ⟨_, rfl⟩
  have hmp : memB P Q p = true := by rw [hp]; exact hgok.mem a
  have hmq : memB P Q q = true := by rw [hq]; exact hgok.mem b
  obtain ⟨y, hy⟩ : ∃ y, y = p ^ kk % P := ⟨_, rfl⟩
  obtain ⟨z, hz⟩ : ∃ y, y = q ^ kk % P := ⟨_, rfl⟩
  obtain ⟨prf, hprf⟩ : ∃ y, y = pvB P Q p q kk side := ⟨_, rfl⟩
  have hFp : Fit 32 p := by rw [hp]; exact hP.le (Nat.le_of_lt (Nat.mod_lt _ (by omega)))
  have hFq : Fit 32 q := by rw [hq]; exact hP.le (Nat.le_of_lt (Nat.mod_lt _ (by omega)))
  have hFy : Fit 32 y := by rw [hy]; exact hP.le (Nat.le_of_lt (Nat.mod_lt _ (by omega)))
  have hFz : Fit 32 z := by rw [hz]; exact hP.le (Nat.le_of_lt (Nat.mod_lt _ (by omega)))
  have hgood : dverB P Q p q y z side prf = true := by rw [hy, hz, hprf]; exact proved hmp hmq hP2 hQ64 kk side
  have hNm : 2 ≤ N ∧ N ≤ 256 := by have := byteSz_pos hQ64; omega
  have hlp : prf.length = N := by rw [hprf, hN, pvB_length]
  have HN := hide hN
  have Hp := hide hp
  have Hq := hide hq
  have Hy := hide hy
  have Hz := hide hz
  have Hprf := hide hprf
  have Hmp := hide hmp
  have Hmq := hide hmq
  have Hgood := hide hgood
  have Hlp := hide hlp
  clear hN hp hq hy hz hprf hmp hmq hgood hlp
  go_cut [15, 16, 17] (fun s15 s16 s17 wx => CutPv V N p q y z prf s15 s16 s17 wx)
  case first =>
    have hd : Ext V V.drew := (Upd.refl _ _).drew
    have hGD := hGV.ext hd
    have hKD := hVK.ext hd
    have hMD := HM.out.ext (hEV.trans hd)
    have q14 := fun y : Wd (Ext V.drew) => y.ok.cellv (b14.ext hd).cell
    have h0 : Ext V.drew V.drew := Upd.refl _ _
    refine wp_region_tree (Ext V.drew) 17 (.q 0 (.q 1 (.q 2 (.q 4 (.q 5 (.q 7 (.q 8 (.two 3 14 (.two 6 14 (.two 9 14 (.q 10 (.q 11 (.q 12 (.q 13 (.l 14 (.l 15 (.q 16 .done))))))) (.l 9 (.q 10 (.q 11 (.q 12 (.q 13 (.l 15 (.q 16 .done)))))))) (.l 6 (.l 9 (.q 10 (.q 11 (.q 12 (.q 13 (.l 15 (.q 16 .done))))))))) (.l 3 (.l 6 (.l 9 (.q 10 (.q 11 (.q 12 (.q 13 (.l 15 (.q 16 .done))))))))))))))))) (by kernel_rfl) (by kernel_rfl) (Upd.refl _ _) (fun hne => ?_)
    repeat (refine tree_q rfl (fun K hK => ?_); go_simp; refine hK _ ?_; clear hK K)
    refine tree_two rfl rfl ?_ ?_
    · skip
      go_wp2_with (go_at_call 49; go_must (refine (dmemP_any gr P Q G _ 32 p _ a (hGD.ext h0) ha64 hGf hP (by omega) (by omega) Hp.out).mono ?_); rintro e u3 ⟨A3, l3, c3, rfl, hV3, hu3⟩; have hx3 := Upd.trans h0 hu3)
      refine ⟨_, fun _ h => h, ⟨⟨_, hx3⟩, rfl⟩, ?_⟩
      repeat (refine tree_q rfl (fun K hK => ?_); go_simp; refine hK _ ?_; clear hK K)
      refine tree_two rfl rfl ?_ ?_
      · skip
        go_wp2_with (go_at_call 49; go_must (refine (dmemP_any gr P Q G _ 32 q _ b (hGD.ext hx3) hb64 hGf hP (by omega) (by omega) Hq.out).mono ?_); rintro e u6 ⟨A6, l6, c6, rfl, hV6, hu6⟩; have hx6 := Upd.trans hx3 hu6)
        refine ⟨_, fun _ h => h, ⟨⟨_, hx6⟩, rfl⟩, ?_⟩
        repeat (refine tree_q rfl (fun K hK => ?_); go_simp; refine hK _ ?_; clear hK K)
        refine tree_two rfl rfl ?_ ?_
        · skip
          go_wp2_with (go_at_call 48; go_must (refine (dprove_any gr P Q G _ 32 _ _ _ _ A _ _ _ _ _ _ n c p q kk side (hGD.ext hx6) (hV3.ext hu6) hV6 (hKD.ext hx6) (hMD.ext hx6) hFp hFq hFk hP hQ hP2 hQ64 (by omega) (by omega) (by omega) Hmp.out Hmq.out hkQ).mono ?_); rw [← HN.out, ← Hprf.out, ← Hy.out, ← Hz.out]; rintro e u9 ⟨E0, m0, d0, E1, m1, d1, E2, m2, d2, E3, m3, d3, AP, cP, rfl, k0, k1, k2, k3, hlp, hOp, hu9⟩; have hx9 := Upd.trans hx6 hu9; have hpt := Own.pt hOp hlp; have hpP : Pt.ok u9 ⟨AP, N, cP, prf⟩ := ⟨hpt.2.2.2, hpt.1, hpt.2.1, hpt.2.2.1⟩; clear hOp hpt)
          refine ⟨_, fun _ h => h, ⟨⟨_, hx9⟩, rfl⟩, ?_⟩
          repeat (refine tree_q rfl (fun K hK => ?_); go_simp; refine hK _ ?_; clear hK K)
          refine tree_l rfl ?_
          go_wp2_with fail
          have hxa := Upd.alloc hx9 (.cells #[.slice none 0 0, .slice none 0 0, .slice none 0 0, .slice none 0 0] 88)
          have hba : Blk (World.alloc u9 (.cells #[.slice none 0 0, .slice none 0 0, .slice none 0 0, .slice none 0 0] 88)) u9.heap.size 88 #[.slice none 0 0, .slice none 0 0, .slice none 0 0, .slice none 0 0] := Blk.new u9 88 #[.slice none 0 0, .slice none 0 0, .slice none 0 0, .slice none 0 0]
          have hga := Upd.size hx9
          refine ⟨_, fun _ h => h, ⟨⟨_, hxa⟩, rfl⟩, ?_⟩
          repeat (refine tree_q rfl (fun K hK => ?_); go_simp; refine hK _ ?_; clear hK K)
          have hB4 := Blk.new u9 88 #[.slice E0 m0 d0, .slice E1 m1 d1, .slice E2 m2 d2, .slice E3 m3 d3]
          have hE4 := hx9.alloc (.cells #[.slice E0 m0 d0, .slice E1 m1 d1, .slice E2 m2 d2, .slice E3 m3 d3] 88)
          have hEa : Ext u9 (u9.alloc (.cells #[.slice E0 m0 d0, .slice E1 m1 d1, .slice E2 m2 d2, .slice E3 m3 d3] 88)) := (Upd.refl _ _).alloc _
          refine tree_l rfl ?_
          go_wp2_with fail
          refine ⟨_, fun _ h => h, ⟨⟨_, hE4⟩, rfl⟩, ?_⟩
          repeat (refine tree_q rfl (fun K hK => ?_); go_simp; refine hK _ ?_; clear hK K)
          refine tree_done ?_
          try simp only [List.drop_succ_cons, List.drop_zero]
          go_wp2_with fail
          go_meet
          exact ⟨_, E0, m0, d0, E1, m1, d1, E2, m2, d2, E3, m3, d3, AP, cP, rfl, rfl, rfl, hB4, k0.ext hEa, k1.ext hEa, k2.ext hEa, k3.ext hEa, hpP.ext hEa, hE4.undrew⟩
        · skip
          go_wp2_with fail
          have hxa := Upd.alloc hx6 (.cells #[.slice none 0 0, .slice none 0 0, .slice none 0 0, .slice none 0 0] 88)
          have hba : Blk (World.alloc u6 (.cells #[.slice none 0 0, .slice none 0 0, .slice none 0 0, .slice none 0 0] 88)) u6.heap.size 88 #[.slice none 0 0, .slice none 0 0, .slice none 0 0, .slice none 0 0] := Blk.new u6 88 #[.slice none 0 0, .slice none 0 0, .slice none 0 0, .slice none 0 0]
          have hga := Upd.size hx6
          refine ⟨_, fun _ h => h, ⟨⟨_, hxa⟩, rfl⟩, ?_⟩
          repeat (refine tree_q rfl (fun K hK => ?_); go_simp; refine hK _ ?_; clear hK K)
          refine tree_l rfl ?_
          go_wp2_with (go_at_call 48; go_must (refine (dprove_any gr P Q G _ 32 _ _ _ _ A _ _ _ _ _ _ n c p q kk side (hGD.ext hxa) ((hV3.ext hu6).ext ((Upd.refl _ _).alloc _)) (hV6.ext ((Upd.refl _ _).alloc _)) (hKD.ext hxa) (hMD.ext hxa) hFp hFq hFk hP hQ hP2 hQ64 (by omega) (by omega) (by omega) Hmp.out Hmq.out hkQ).mono ?_); rw [← HN.out, ← Hprf.out, ← Hy.out, ← Hz.out]; rintro e u9 ⟨E0, m0, d0, E1, m1, d1, E2, m2, d2, E3, m3, d3, AP, cP, rfl, k0, k1, k2, k3, hlp, hOp, hu9⟩; have hx9 := Upd.trans hxa hu9; have hpt := Own.pt hOp hlp; have hpP : Pt.ok u9 ⟨AP, N, cP, prf⟩ := ⟨hpt.2.2.2, hpt.1, hpt.2.1, hpt.2.2.1⟩; clear hOp hpt)
          refine ⟨_, fun _ h => h, ⟨⟨_, hx9⟩, rfl⟩, ?_⟩
          repeat (refine tree_q rfl (fun K hK => ?_); go_simp; refine hK _ ?_; clear hK K)
          have y0 := ((hba.ext hu9)).at 0 rfl
          have y1 := ((hba.ext hu9)).at 1 rfl
          have y2 := ((hba.ext hu9)).at 2 rfl
          have y3 := ((hba.ext hu9)).at 3 rfl
          have x0 := ((hba.ext hu9)).frozen 0
          have x1 := ((hba.ext hu9)).frozen 1
          have x2 := ((hba.ext hu9)).frozen 2
          have x3 := ((hba.ext hu9)).frozen 3
          have hB4 := blk4 (hba.ext hu9) (.slice E0 m0 d0) (.slice E1 m1 d1) (.slice E2 m2 d2) (.slice E3 m3 d3)
          have j0 := nat4 (b0 := E0) (m0 := m0) (d0 := d0) (b1 := E1) (m1 := m1) (d1 := d1) (b2 := E2) (m2 := m2) (d2 := d2) (b3 := E3) (m3 := m3) (d3 := d3) (k0.ext (Upd.refl _ _)) (hba.ext hu9)
          have j1 := nat4 (b0 := E0) (m0 := m0) (d0 := d0) (b1 := E1) (m1 := m1) (d1 := d1) (b2 := E2) (m2 := m2) (d2 := d2) (b3 := E3) (m3 := m3) (d3 := d3) (k1.ext (Upd.refl _ _)) (hba.ext hu9)
          have j2 := nat4 (b0 := E0) (m0 := m0) (d0 := d0) (b1 := E1) (m1 := m1) (d1 := d1) (b2 := E2) (m2 := m2) (d2 := d2) (b3 := E3) (m3 := m3) (d3 := d3) (k2.ext (Upd.refl _ _)) (hba.ext hu9)
          have j3 := nat4 (b0 := E0) (m0 := m0) (d0 := d0) (b1 := E1) (m1 := m1) (d1 := d1) (b2 := E2) (m2 := m2) (d2 := d2) (b3 := E3) (m3 := m3) (d3 := d3) (k3.ext (Upd.refl _ _)) (hba.ext hu9)
          have s0 := sl4 (b0 := E0) (m0 := m0) (d0 := d0) (b1 := E1) (m1 := m1) (d1 := d1) (b2 := E2) (m2 := m2) (d2 := d2) (b3 := E3) (m3 := m3) (d3 := d3) (hpP.1.ext (Upd.refl _ _)) (hba.ext hu9)
          have hE4 := ext4 hx9 hga (.slice E0 m0 d0) (.slice E1 m1 d1) (.slice E2 m2 d2) (.slice E3 m3 d3)
          refine tree_l rfl ?_
          go_wp2_with fail
          refine ⟨_, fun _ h => h, ⟨⟨_, hE4⟩, rfl⟩, ?_⟩
          repeat (refine tree_q rfl (fun K hK => ?_); go_simp; refine hK _ ?_; clear hK K)
          refine tree_done ?_
          try simp only [List.drop_succ_cons, List.drop_zero]
          go_wp2_with fail
          go_meet
          exact ⟨_, E0, m0, d0, E1, m1, d1, E2, m2, d2, E3, m3, d3, AP, cP, rfl, rfl, rfl, hB4, j0, j1, j2, j3, ⟨s0, hpP.2⟩, hE4.undrew⟩
      · skip
        go_wp2_with fail
        have hxa := Upd.alloc hx3 (.cells #[.slice none 0 0, .slice none 0 0, .slice none 0 0, .slice none 0 0] 88)
        have hba : Blk (World.alloc u3 (.cells #[.slice none 0 0, .slice none 0 0, .slice none 0 0, .slice none 0 0] 88)) u3.heap.size 88 #[.slice none 0 0, .slice none 0 0, .slice none 0 0, .slice none 0 0] := Blk.new u3 88 #[.slice none 0 0, .slice none 0 0, .slice none 0 0, .slice none 0 0]
        have hga := Upd.size hx3
        refine ⟨_, fun _ h => h, ⟨⟨_, hxa⟩, rfl⟩, ?_⟩
        repeat (refine tree_q rfl (fun K hK => ?_); go_simp; refine hK _ ?_; clear hK K)
        refine tree_l rfl ?_
        go_wp2_with (go_at_call 49; go_must (refine (dmemP_any gr P Q G _ 32 q _ b (hGD.ext hxa) hb64 hGf hP (by omega) (by omega) Hq.out).mono ?_); rintro e u6 ⟨A6, l6, c6, rfl, hV6, hu6⟩; have hx6 := Upd.trans hxa hu6)
        refine ⟨_, fun _ h => h, ⟨⟨_, hx6⟩, rfl⟩, ?_⟩
        repeat (refine tree_q rfl (fun K hK => ?_); go_simp; refine hK _ ?_; clear hK K)
        refine tree_l rfl ?_
        go_wp2_with (go_at_call 48; go_must (refine (dprove_any gr P Q G _ 32 _ _ _ _ A _ _ _ _ _ _ n c p q kk side (hGD.ext hx6) ((hV3.ext ((Upd.refl _ _).alloc _)).ext hu6) hV6 (hKD.ext hx6) (hMD.ext hx6) hFp hFq hFk hP hQ hP2 hQ64 (by omega) (by omega) (by omega) Hmp.out Hmq.out hkQ).mono ?_); rw [← HN.out, ← Hprf.out, ← Hy.out, ← Hz.out]; rintro e u9 ⟨E0, m0, d0, E1, m1, d1, E2, m2, d2, E3, m3, d3, AP, cP, rfl, k0, k1, k2, k3, hlp, hOp, hu9⟩; have hx9 := Upd.trans hx6 hu9; have hpt := Own.pt hOp hlp; have hpP : Pt.ok u9 ⟨AP, N, cP, prf⟩ := ⟨hpt.2.2.2, hpt.1, hpt.2.1, hpt.2.2.1⟩; clear hOp hpt)
        refine ⟨_, fun _ h => h, ⟨⟨_, hx9⟩, rfl⟩, ?_⟩
        repeat (refine tree_q rfl (fun K hK => ?_); go_simp; refine hK _ ?_; clear hK K)
        have y0 := (((hba.ext hu6).ext hu9)).at 0 rfl
        have y1 := (((hba.ext hu6).ext hu9)).at 1 rfl
        have y2 := (((hba.ext hu6).ext hu9)).at 2 rfl
        have y3 := (((hba.ext hu6).ext hu9)).at 3 rfl
        have x0 := (((hba.ext hu6).ext hu9)).frozen 0
        have x1 := (((hba.ext hu6).ext hu9)).frozen 1
        have x2 := (((hba.ext hu6).ext hu9)).frozen 2
        have x3 := (((hba.ext hu6).ext hu9)).frozen 3
        have hB4 := blk4 ((hba.ext hu6).ext hu9) (.slice E0 m0 d0) (.slice E1 m1 d1) (.slice E2 m2 d2) (.slice E3 m3 d3)
        have j0 := nat4 (b0 := E0) (m0 := m0) (d0 := d0) (b1 := E1) (m1 := m1) (d1 := d1) (b2 := E2) (m2 := m2) (d2 := d2) (b3 := E3) (m3 := m3) (d3 := d3) (k0.ext (Upd.refl _ _)) ((hba.ext hu6).ext hu9)
        have j1 := nat4 (b0 := E0) (m0 := m0) (d0 := d0) (b1 := E1) (m1 := m1) (d1 := d1) (b2 := E2) (m2 := m2) (d2 := d2) (b3 := E3) (m3 := m3) (d3 := d3) (k1.ext (Upd.refl _ _)) ((hba.ext hu6).ext hu9)
        have j2 := nat4 (b0 := E0) (m0 := m0) (d0 := d0) (b1 := E1) (m1 := m1) (d1 := d1) (b2 := E2) (m2 := m2) (d2 := d2) (b3 := E3) (m3 := m3) (d3 := d3) (k2.ext (Upd.refl _ _)) ((hba.ext hu6).ext hu9)
        have j3 := nat4 (b0 := E0) (m0 := m0) (d0 := d0) (b1 := E1) (m1 := m1) (d1 := d1) (b2 := E2) (m2 := m2) (d2 := d2) (b3 := E3) (m3 := m3) (d3 := d3) (k3.ext (Upd.refl _ _)) ((hba.ext hu6).ext hu9)
        have s0 := sl4 (b0 := E0) (m0 := m0) (d0 := d0) (b1 := E1) (m1 := m1) (d1 := d1) (b2 := E2) (m2 := m2) (d2 := d2) (b3 := E3) (m3 := m3) (d3 := d3) (hpP.1.ext (Upd.refl _ _)) ((hba.ext hu6).ext hu9)
        have hE4 := ext4 hx9 hga (.slice E0 m0 d0) (.slice E1 m1 d1) (.slice E2 m2 d2) (.slice E3 m3 d3)
        refine tree_l rfl ?_
        go_wp2_with fail
        refine ⟨_, fun _ h => h, ⟨⟨_, hE4⟩, rfl⟩, ?_⟩
        repeat (refine tree_q rfl (fun K hK => ?_); go_simp; refine hK _ ?_; clear hK K)
        refine tree_done ?_
        try simp only [List.drop_succ_cons, List.drop_zero]
        go_wp2_with fail
        go_meet
        exact ⟨_, E0, m0, d0, E1, m1, d1, E2, m2, d2, E3, m3, d3, AP, cP, rfl, rfl, rfl, hB4, j0, j1, j2, j3, ⟨s0, hpP.2⟩, hE4.undrew⟩
    · skip
      go_wp2_with fail
      have hxa := Upd.alloc h0 (.cells #[.slice none 0 0, .slice none 0 0, .slice none 0 0, .slice none 0 0] 88)
      have hba : Blk (World.alloc V.drew (.cells #[.slice none 0 0, .slice none 0 0, .slice none 0 0, .slice none 0 0] 88)) V.heap.size 88 #[.slice none 0 0, .slice none 0 0, .slice none 0 0, .slice none 0 0] := Blk.new V.drew 88 #[.slice none 0 0, .slice none 0 0, .slice none 0 0, .slice none 0 0]
      have hga := Upd.size h0
      refine ⟨_, fun _ h => h, ⟨⟨_, hxa⟩, rfl⟩, ?_⟩
      repeat (refine tree_q rfl (fun K hK => ?_); go_simp; refine hK _ ?_; clear hK K)
      refine tree_l rfl ?_
      go_wp2_with (go_at_call 49; go_must (refine (dmemP_any gr P Q G _ 32 p _ a (hGD.ext hxa) ha64 hGf hP (by omega) (by omega) Hp.out).mono ?_); rintro e u3 ⟨A3, l3, c3, rfl, hV3, hu3⟩; have hx3 := Upd.trans hxa hu3)
      refine ⟨_, fun _ h => h, ⟨⟨_, hx3⟩, rfl⟩, ?_⟩
      repeat (refine tree_q rfl (fun K hK => ?_); go_simp; refine hK _ ?_; clear hK K)
      refine tree_l rfl ?_
      go_wp2_with (go_at_call 49; go_must (refine (dmemP_any gr P Q G _ 32 q _ b (hGD.ext hx3) hb64 hGf hP (by omega) (by omega) Hq.out).mono ?_); rintro e u6 ⟨A6, l6, c6, rfl, hV6, hu6⟩; have hx6 := Upd.trans hx3 hu6)
      refine ⟨_, fun _ h => h, ⟨⟨_, hx6⟩, rfl⟩, ?_⟩
      repeat (refine tree_q rfl (fun K hK => ?_); go_simp; refine hK _ ?_; clear hK K)
      refine tree_l rfl ?_
      go_wp2_with (go_at_call 48; go_must (refine (dprove_any gr P Q G _ 32 _ _ _ _ A _ _ _ _ _ _ n c p q kk side (hGD.ext hx6) (hV3.ext hu6) hV6 (hKD.ext hx6) (hMD.ext hx6) hFp hFq hFk hP hQ hP2 hQ64 (by omega) (by omega) (by omega) Hmp.out Hmq.out hkQ).mono ?_); rw [← HN.out, ← Hprf.out, ← Hy.out, ← Hz.out]; rintro e u9 ⟨E0, m0, d0, E1, m1, d1, E2, m2, d2, E3, m3, d3, AP, cP, rfl, k0, k1, k2, k3, hlp, hOp, hu9⟩; have hx9 := Upd.trans hx6 hu9; have hpt := Own.pt hOp hlp; have hpP : Pt.ok u9 ⟨AP, N, cP, prf⟩ := ⟨hpt.2.2.2, hpt.1, hpt.2.1, hpt.2.2.1⟩; clear hOp hpt)
      refine ⟨_, fun _ h => h, ⟨⟨_, hx9⟩, rfl⟩, ?_⟩
      repeat (refine tree_q rfl (fun K hK => ?_); go_simp; refine hK _ ?_; clear hK K)
      have y0 := ((((hba.ext hu3).ext hu6).ext hu9)).at 0 rfl
      have y1 := ((((hba.ext hu3).ext hu6).ext hu9)).at 1 rfl
      have y2 := ((((hba.ext hu3).ext hu6).ext hu9)).at 2 rfl
      have y3 := ((((hba.ext hu3).ext hu6).ext hu9)).at 3 rfl
      have x0 := ((((hba.ext hu3).ext hu6).ext hu9)).frozen 0
      have x1 := ((((hba.ext hu3).ext hu6).ext hu9)).frozen 1
      have x2 := ((((hba.ext hu3).ext hu6).ext hu9)).frozen 2
      have x3 := ((((hba.ext hu3).ext hu6).ext hu9)).frozen 3
      have hB4 := blk4 (((hba.ext hu3).ext hu6).ext hu9) (.slice E0 m0 d0) (.slice E1 m1 d1) (.slice E2 m2 d2) (.slice E3 m3 d3)
      have j0 := nat4 (b0 := E0) (m0 := m0) (d0 := d0) (b1 := E1) (m1 := m1) (d1 := d1) (b2 := E2) (m2 := m2) (d2 := d2) (b3 := E3) (m3 := m3) (d3 := d3) (k0.ext (Upd.refl _ _)) (((hba.ext hu3).ext hu6).ext hu9)
      have j1 := nat4 (b0 := E0) (m0 := m0) (d0 := d0) (b1 := E1) (m1 := m1) (d1 := d1) (b2 := E2) (m2 := m2) (d2 := d2) (b3 := E3) (m3 := m3) (d3 := d3) (k1.ext (Upd.refl _ _)) (((hba.ext hu3).ext hu6).ext hu9)
      have j2 := nat4 (b0 := E0) (m0 := m0) (d0 := d0) (b1 := E1) (m1 := m1) (d1 := d1) (b2 := E2) (m2 := m2) (d2 := d2) (b3 := E3) (m3 := m3) (d3 := d3) (k2.ext (Upd.refl _ _)) (((hba.ext hu3).ext hu6).ext hu9)
      have j3 := nat4 (b0 := E0) (m0 := m0) (d0 := d0) (b1 := E1) (m1 := m1) (d1 := d1) (b2 := E2) (m2 := m2) (d2 := d2) (b3 := E3) (m3 := m3) (d3 := d3) (k3.ext (Upd.refl _ _)) (((hba.ext hu3).ext hu6).ext hu9)
      have s0 := sl4 (b0 := E0) (m0 := m0) (d0 := d0) (b1 := E1) (m1 := m1) (d1 := d1) (b2 := E2) (m2 := m2) (d2 := d2) (b3 := E3) (m3 := m3) (d3 := d3) (hpP.1.ext (Upd.refl _ _)) (((hba.ext hu3).ext hu6).ext hu9)
      have hE4 := ext4 hx9 hga (.slice E0 m0 d0) (.slice E1 m1 d1) (.slice E2 m2 d2) (.slice E3 m3 d3)
      refine tree_l rfl ?_
      go_wp2_with fail
      refine ⟨_, fun _ h => h, ⟨⟨_, hE4⟩, rfl⟩, ?_⟩
      repeat (refine tree_q rfl (fun K hK => ?_); go_simp; refine hK _ ?_; clear hK K)
      refine tree_done ?_
      try simp only [List.drop_succ_cons, List.drop_zero]
      go_wp2_with fail
      go_meet
      exact ⟨_, E0, m0, d0, E1, m1, d1, E2, m2, d2, E3, m3, d3, AP, cP, rfl, rfl, rfl, hB4, j0, j1, j2, j3, ⟨s0, hpP.2⟩, hE4.undrew⟩
  case rest =>
    obtain ⟨g15, E0, m0, d0, E1, m1, d1, E2, m2, d2, E3, m3, d3, AP1, cP1, rfl, rfl, rfl, hB1, n01, n11, n21, n31, hPt1, hE1⟩ := hcut
    go_wp2_with fail
    refine name_w (fun X hX => ?_)
    subst hX
    have b14x := b14.ext hE1
    have hVKx := hVK.ext hE1
    have hGX := hGV.ext hE1
    have hEX := hEV.trans hE1
    clear b14 hVK hGV hEV hE1
    go_cut [18, 19, 20] (fun s15 s16 s17 wx => CutPv X N p q y z prf s15 s16 s17 wx)
    case first =>
      have hd : Ext X X.drew := (Upd.refl _ _).drew
      have hGD := hGX.ext hd
      have hKD := hVKx.ext hd
      have hMD := HM.out.ext (hEX.trans hd)
      have q14 := fun y : Wd (Ext X.drew) => y.ok.cellv (b14x.ext hd).cell
      have h0 : Ext X.drew X.drew := Upd.refl _ _
      refine wp_region_tree (Ext X.drew) 17 (.q 0 (.q 1 (.q 2 (.q 4 (.q 5 (.q 7 (.q 8 (.two 3 14 (.two 6 14 (.two 9 14 (.q 10 (.q 11 (.q 12 (.q 13 (.l 14 (.l 15 (.q 16 .done))))))) (.l 9 (.q 10 (.q 11 (.q 12 (.q 13 (.l 15 (.q 16 .done)))))))) (.l 6 (.l 9 (.q 10 (.q 11 (.q 12 (.q 13 (.l 15 (.q 16 .done))))))))) (.l 3 (.l 6 (.l 9 (.q 10 (.q 11 (.q 12 (.q 13 (.l 15 (.q 16 .done))))))))))))))))) (by kernel_rfl) (by kernel_rfl) (Upd.refl _ _) (fun hne => ?_)
      repeat (refine tree_q rfl (fun K hK => ?_); go_simp; refine hK _ ?_; clear hK K)
      refine tree_two rfl rfl ?_ ?_
      · skip
        go_wp2_with (go_at_call 49; go_must (refine (dmemP_any gr P Q G _ 32 p _ a (hGD.ext h0) ha64 hGf hP (by omega) (by omega) Hp.out).mono ?_); rintro e u3 ⟨A3, l3, c3, rfl, hV3, hu3⟩; have hx3 := Upd.trans h0 hu3)
        refine ⟨_, fun _ h => h, ⟨⟨_, hx3⟩, rfl⟩, ?_⟩
        repeat (refine tree_q rfl (fun K hK => ?_); go_simp; refine hK _ ?_; clear hK K)
        refine tree_two rfl rfl ?_ ?_
        · skip
          go_wp2_with (go_at_call 49; go_must (refine (dmemP_any gr P Q G _ 32 q _ b (hGD.ext hx3) hb64 hGf hP (by omega) (by omega) Hq.out).mono ?_); rintro e u6 ⟨A6, l6, c6, rfl, hV6, hu6⟩; have hx6 := Upd.trans hx3 hu6)
          refine ⟨_, fun _ h => h, ⟨⟨_, hx6⟩, rfl⟩, ?_⟩
          repeat (refine tree_q rfl (fun K hK => ?_); go_simp; refine hK _ ?_; clear hK K)
          refine tree_two rfl rfl ?_ ?_
          · skip
            go_wp2_with (go_at_call 48; go_must (refine (dprove_any gr P Q G _ 32 _ _ _ _ A _ _ _ _ _ _ n c p q kk side (hGD.ext hx6) (hV3.ext hu6) hV6 (hKD.ext hx6) (hMD.ext hx6) hFp hFq hFk hP hQ hP2 hQ64 (by omega) (by omega) (by omega) Hmp.out Hmq.out hkQ).mono ?_); rw [← HN.out, ← Hprf.out, ← Hy.out, ← Hz.out]; rintro e u9 ⟨E0, m0, d0, E1, m1, d1, E2, m2, d2, E3, m3, d3, AP, cP, rfl, k0, k1, k2, k3, hlp, hOp, hu9⟩; have hx9 := Upd.trans hx6 hu9; have hpt := Own.pt hOp hlp; have hpP : Pt.ok u9 ⟨AP, N, cP, prf⟩ := ⟨hpt.2.2.2, hpt.1, hpt.2.1, hpt.2.2.1⟩; clear hOp hpt)
            refine ⟨_, fun _ h => h, ⟨⟨_, hx9⟩, rfl⟩, ?_⟩
            repeat (refine tree_q rfl (fun K hK => ?_); go_simp; refine hK _ ?_; clear hK K)
            refine tree_l rfl ?_
            go_wp2_with fail
            have hxa := Upd.alloc hx9 (.cells #[.slice none 0 0, .slice none 0 0, .slice none 0 0, .slice none 0 0] 88)
            have hba : Blk (World.alloc u9 (.cells #[.slice none 0 0, .slice none 0 0, .slice none 0 0, .slice none 0 0] 88)) u9.heap.size 88 #[.slice none 0 0, .slice none 0 0, .slice none 0 0, .slice none 0 0] := Blk.new u9 88 #[.slice none 0 0, .slice none 0 0, .slice none 0 0, .slice none 0 0]
            have hga := Upd.size hx9
            refine ⟨_, fun _ h => h, ⟨⟨_, hxa⟩, rfl⟩, ?_⟩
            repeat (refine tree_q rfl (fun K hK => ?_); go_simp; refine hK _ ?_; clear hK K)
            have hB4 := Blk.new u9 88 #[.slice E0 m0 d0, .slice E1 m1 d1, .slice E2 m2 d2, .slice E3 m3 d3]
            have hE4 := hx9.alloc (.cells #[.slice E0 m0 d0, .slice E1 m1 d1, .slice E2 m2 d2, .slice E3 m3 d3] 88)
            have hEa : Ext u9 (u9.alloc (.cells #[.slice E0 m0 d0, .slice E1 m1 d1, .slice E2 m2 d2, .slice E3 m3 d3] 88)) := (Upd.refl _ _).alloc _
            refine tree_l rfl ?_
            go_wp2_with fail
            refine ⟨_, fun _ h => h, ⟨⟨_, hE4⟩, rfl⟩, ?_⟩
            repeat (refine tree_q rfl (fun K hK => ?_); go_simp; refine hK _ ?_; clear hK K)
            refine tree_done ?_
            try simp only [List.drop_succ_cons, List.drop_zero]
            go_wp2_with fail
            go_meet
            exact ⟨_, E0, m0, d0, E1, m1, d1, E2, m2, d2, E3, m3, d3, AP, cP, rfl, rfl, rfl, hB4, k0.ext hEa, k1.ext hEa, k2.ext hEa, k3.ext hEa, hpP.ext hEa, hE4.undrew⟩
          · skip
            go_wp2_with fail
            have hxa := Upd.alloc hx6 (.cells #[.slice none 0 0, .slice none 0 0, .slice none 0 0, .slice none 0 0] 88)
            have hba : Blk (World.alloc u6 (.cells #[.slice none 0 0, .slice none 0 0, .slice none 0 0, .slice none 0 0] 88)) u6.heap.size 88 #[.slice none 0 0, .slice none 0 0, .slice none 0 0, .slice none 0 0] := Blk.new u6 88 #[.slice none 0 0, .slice none 0 0, .slice none 0 0, .slice none 0 0]
            have hga := Upd.size hx6
            refine ⟨_, fun _ h => h, ⟨⟨_, hxa⟩, rfl⟩, ?_⟩
            repeat (refine tree_q rfl (fun K hK => ?_); go_simp; refine hK _ ?_; clear hK K)
            refine tree_l rfl ?_
            go_wp2_with (go_at_call 48; go_must (refine (dprove_any gr P Q G _ 32 _ _ _ _ A _ _ _ _ _ _ n c p q kk side (hGD.ext hxa) ((hV3.ext hu6).ext ((Upd.refl _ _).alloc _)) (hV6.ext ((Upd.refl _ _).alloc _)) (hKD.ext hxa) (hMD.ext hxa) hFp hFq hFk hP hQ hP2 hQ64 (by omega) (by omega) (by omega) Hmp.out Hmq.out hkQ).mono ?_); rw [← HN.out, ← Hprf.out, ← Hy.out, ← Hz.out]; rintro e u9 ⟨E0, m0, d0, E1, m1, d1, E2, m2, d2, E3, m3, d3, AP, cP, rfl, k0, k1, k2, k3, hlp, hOp, hu9⟩; have hx9 := Upd.trans hxa hu9; have hpt := Own.pt hOp hlp; have hpP : Pt.ok u9 ⟨AP, N, cP, prf⟩ := ⟨hpt.2.2.2, hpt.1, hpt.2.1, hpt.2.2.1⟩; clear hOp hpt)
            refine ⟨_, fun _ h => h, ⟨⟨_, hx9⟩, rfl⟩, ?_⟩
            repeat (refine tree_q rfl (fun K hK => ?_); go_simp; refine hK _ ?_; clear hK K)
            have y0 := ((hba.ext hu9)).at 0 rfl
            have y1 := ((hba.ext hu9)).at 1 rfl
            have y2 := ((hba.ext hu9)).at 2 rfl
            have y3 := ((hba.ext hu9)).at 3 rfl
            have x0 := ((hba.ext hu9)).frozen 0
            have x1 := ((hba.ext hu9)).frozen 1
            have x2 := ((hba.ext hu9)).frozen 2
            have x3 := ((hba.ext hu9)).frozen 3
            have hB4 := blk4 (hba.ext hu9) (.slice E0 m0 d0) (.slice E1 m1 d1) (.slice E2 m2 d2) (.slice E3 m3 d3)
            have j0 := nat4 (b0 := E0) (m0 := m0) (d0 := d0) (b1 := E1) (m1 := m1) (d1 := d1) (b2 := E2) (m2 := m2) (d2 := d2) (b3 := E3) (m3 := m3) (d3 := d3) (k0.ext (Upd.refl _ _)) (hba.ext hu9)
            have j1 := nat4 (b0 := E0) (m0 := m0) (d0 := d0) (b1 := E1) (m1 := m1) (d1 := d1) (b2 := E2) (m2 := m2) (d2 := d2) (b3 := E3) (m3 := m3) (d3 := d3) (k1.ext (Upd.refl _ _)) (hba.ext hu9)
            have j2 := nat4 (b0 := E0) (m0 := m0) (d0 := d0) (b1 := E1) (m1 := m1) (d1 := d1) (b2 := E2) (m2 := m2) (d2 := d2) (b3 := E3) (m3 := m3) (d3 := d3) (k2.ext (Upd.refl _ _)) (hba.ext hu9)
            have j3 := nat4 (b0 := E0) (m0 := m0) (d0 := d0) (b1 := E1) (m1 := m1) (d1 := d1) (b2 := E2) (m2 := m2) (d2 := d2) (b3 := E3) (m3 := m3) (d3 := d3) (k3.ext (Upd.refl _ _)) (hba.ext hu9)
            have s0 := sl4 (b0 := E0) (m0 := m0) (d0 := d0) (b1 := E1) (m1 := m1) (d1 := d1) (b2 := E2) (m2 := m2) (d2 := d2) (b3 := E3) (m3 := m3) (d3 := d3) (hpP.1.ext (Upd.refl _ _)) (hba.ext hu9)
            have hE4 := ext4 hx9 hga (.slice E0 m0 d0) (.slice E1 m1 d1) (.slice E2 m2 d2) (.slice E3 m3 d3)
            refine tree_l rfl ?_
            go_wp2_with fail
            refine ⟨_, fun _ h => h, ⟨⟨_, hE4⟩, rfl⟩, ?_⟩
            repeat (refine tree_q rfl (fun K hK => ?_); go_simp; refine hK _ ?_; clear hK K)
            refine tree_done ?_
            try simp only [List.drop_succ_cons, List.drop_zero]
            go_wp2_with fail
            go_meet
            exact ⟨_, E0, m0, d0, E1, m1, d1, E2, m2, d2, E3, m3, d3, AP, cP, rfl, rfl, rfl, hB4, j0, j1, j2, j3, ⟨s0, hpP.2⟩, hE4.undrew⟩
        · skip
          go_wp2_with fail
          have hxa := Upd.alloc hx3 (.cells #[.slice none 0 0, .slice none 0 0, .slice none 0 0, .slice none 0 0] 88)
          have hba : Blk (World.alloc u3 (.cells #[.slice none 0 0, .slice none 0 0, .slice none 0 0, .slice none 0 0] 88)) u3.heap.size 88 #[.slice none 0 0, .slice none 0 0, .slice none 0 0, .slice none 0 0] := Blk.new u3 88 #[.slice none 0 0, .slice none 0 0, .slice none 0 0, .slice none 0 0]
          have hga := Upd.size hx3
          refine ⟨_, fun _ h => h, ⟨⟨_, hxa⟩, rfl⟩, ?_⟩
          repeat (refine tree_q rfl (fun K hK => ?_); go_simp; refine hK _ ?_; clear hK K)
          refine tree_l rfl ?_
          go_wp2_with (go_at_call 49; go_must (refine (dmemP_any gr P Q G _ 32 q _ b (hGD.ext hxa) hb64 hGf hP (by omega) (by omega) Hq.out).mono ?_); rintro e u6 ⟨A6, l6, c6, rfl, hV6, hu6⟩; have hx6 := Upd.trans hxa hu6)
          refine ⟨_, fun _ h => h, ⟨⟨_, hx6⟩, rfl⟩, ?_⟩
          repeat (refine tree_q rfl (fun K hK => ?_); go_simp; refine hK _ ?_; clear hK K)
          refine tree_l rfl ?_
          go_wp2_with (go_at_call 48; go_must (refine (dprove_any gr P Q G _ 32 _ _ _ _ A _ _ _ _ _ _ n c p q kk side (hGD.ext hx6) ((hV3.ext ((Upd.refl _ _).alloc _)).ext hu6) hV6 (hKD.ext hx6) (hMD.ext hx6) hFp hFq hFk hP hQ hP2 hQ64 (by omega) (by omega) (by omega) Hmp.out Hmq.out hkQ).mono ?_); rw [← HN.out, ← Hprf.out, ← Hy.out, ← Hz.out]; rintro e u9 ⟨E0, m0, d0, E1, m1, d1, E2, m2, d2, E3, m3, d3, AP, cP, rfl, k0, k1, k2, k3, hlp, hOp, hu9⟩; have hx9 := Upd.trans hx6 hu9; have hpt := Own.pt hOp hlp; have hpP : Pt.ok u9 ⟨AP, N, cP, prf⟩ := ⟨hpt.2.2.2, hpt.1, hpt.2.1, hpt.2.2.1⟩; clear hOp hpt)
          refine ⟨_, fun _ h => h, ⟨⟨_, hx9⟩, rfl⟩, ?_⟩
          repeat (refine tree_q rfl (fun K hK => ?_); go_simp; refine hK _ ?_; clear hK K)
          have y0 := (((hba.ext hu6).ext hu9)).at 0 rfl
          have y1 := (((hba.ext hu6).ext hu9)).at 1 rfl
          have y2 := (((hba.ext hu6).ext hu9)).at 2 rfl
          have y3 := (((hba.ext hu6).ext hu9)).at 3 rfl
          have x0 := (((hba.ext hu6).ext hu9)).frozen 0
          have x1 := (((hba.ext hu6).ext hu9)).frozen 1
          have x2 := (((hba.ext hu6).ext hu9)).frozen 2
          have x3 := (((hba.ext hu6).ext hu9)).frozen 3
          have hB4 := blk4 ((hba.ext hu6).ext hu9) (.slice E0 m0 d0) (.slice E1 m1 d1) (.slice E2 m2 d2) (.slice E3 m3 d3)
          have j0 := nat4 (b0 := E0) (m0 := m0) (d0 := d0) (b1 := E1) (m1 := m1) (d1 := d1) (b2 := E2) (m2 := m2) (d2 := d2) (b3 := E3) (m3 := m3) (d3 := d3) (k0.ext (Upd.refl _ _)) ((hba.ext hu6).ext hu9)
          have j1 := nat4 (b0 := E0) (m0 := m0) (d0 := d0) (b1 := E1) (m1 := m1) (d1 := d1) (b2 := E2) (m2 := m2) (d2 := d2) (b3 := E3) (m3 := m3) (d3 := d3) (k1.ext (Upd.refl _ _)) ((hba.ext hu6).ext hu9)
          have j2 := nat4 (b0 := E0) (m0 := m0) (d0 := d0) (b1 := E1) (m1 := m1) (d1 := d1) (b2 := E2) (m2 := m2) (d2 := d2) (b3 := E3) (m3 := m3) (d3 := d3) (k2.ext (Upd.refl _ _)) ((hba.ext hu6).ext hu9)
          have j3 := nat4 (b0 := E0) (m0 := m0) (d0 := d0) (b1 := E1) (m1 := m1) (d1 := d1) (b2 := E2) (m2 := m2) (d2 := d2) (b3 := E3) (m3 := m3) (d3 := d3) (k3.ext (Upd.refl _ _)) ((hba.ext hu6).ext hu9)
          have s0 := sl4 (b0 := E0) (m0 := m0) (d0 := d0) (b1 := E1) (m1 := m1) (d1 := d1) (b2 := E2) (m2 := m2) (d2 := d2) (b3 := E3) (m3 := m3) (d3 := d3) (hpP.1.ext (Upd.refl _ _)) ((hba.ext hu6).ext hu9)
          have hE4 := ext4 hx9 hga (.slice E0 m0 d0) (.slice E1 m1 d1) (.slice E2 m2 d2) (.slice E3 m3 d3)
          refine tree_l rfl ?_
          go_wp2_with fail
          refine ⟨_, fun _ h => h, ⟨⟨_, hE4⟩, rfl⟩, ?_⟩
          repeat (refine tree_q rfl (fun K hK => ?_); go_simp; refine hK _ ?_; clear hK K)
          refine tree_done ?_
          try simp only [List.drop_succ_cons, List.drop_zero]
          go_wp2_with fail
          go_meet
          exact ⟨_, E0, m0, d0, E1, m1, d1, E2, m2, d2, E3, m3, d3, AP, cP, rfl, rfl, rfl, hB4, j0, j1, j2, j3, ⟨s0, hpP.2⟩, hE4.undrew⟩
      · skip
        go_wp2_with fail
        have hxa := Upd.alloc h0 (.cells #[.slice none 0 0, .slice none 0 0, .slice none 0 0, .slice none 0 0] 88)
        have hba : Blk (World.alloc X.drew (.cells #[.slice none 0 0, .slice none 0 0, .slice none 0 0, .slice none 0 0] 88)) X.heap.size 88 #[.slice none 0 0, .slice none 0 0, .slice none 0 0, .slice none 0 0] := Blk.new X.drew 88 #[.slice none 0 0, .slice none 0 0, .slice none 0 0, .slice none 0 0]
        have hga := Upd.size h0
        refine ⟨_, fun _ h => h, ⟨⟨_, hxa⟩, rfl⟩, ?_⟩
        repeat (refine tree_q rfl (fun K hK => ?_); go_simp; refine hK _ ?_; clear hK K)
        refine tree_l rfl ?_
        go_wp2_with (go_at_call 49; go_must (refine (dmemP_any gr P Q G _ 32 p _ a (hGD.ext hxa) ha64 hGf hP (by omega) (by omega) Hp.out).mono ?_); rintro e u3 ⟨A3, l3, c3, rfl, hV3, hu3⟩; have hx3 := Upd.trans hxa hu3)
        refine ⟨_, fun _ h => h, ⟨⟨_, hx3⟩, rfl⟩, ?_⟩
        repeat (refine tree_q rfl (fun K hK => ?_); go_simp; refine hK _ ?_; clear hK K)
        refine tree_l rfl ?_
        go_wp2_with (go_at_call 49; go_must (refine (dmemP_any gr P Q G _ 32 q _ b (hGD.ext hx3) hb64 hGf hP (by omega) (by omega) Hq.out).mono ?_); rintro e u6 ⟨A6, l6, c6, rfl, hV6, hu6⟩; have hx6 := Upd.trans hx3 hu6)
        refine ⟨_, fun _ h => h, ⟨⟨_, hx6⟩, rfl⟩, ?_⟩
        repeat (refine tree_q rfl (fun K hK => ?_); go_simp; refine hK _ ?_; clear hK K)
        refine tree_l rfl ?_
        go_wp2_with (go_at_call 48; go_must (refine (dprove_any gr P Q G _ 32 _ _ _ _ A _ _ _ _ _ _ n c p q kk side (hGD.ext hx6) (hV3.ext hu6) hV6 (hKD.ext hx6) (hMD.ext hx6) hFp hFq hFk hP hQ hP2 hQ64 (by omega) (by omega) (by omega) Hmp.out Hmq.out hkQ).mono ?_); rw [← HN.out, ← Hprf.out, ← Hy.out, ← Hz.out]; rintro e u9 ⟨E0, m0, d0, E1, m1, d1, E2, m2, d2, E3, m3, d3, AP, cP, rfl, k0, k1, k2, k3, hlp, hOp, hu9⟩; have hx9 := Upd.trans hx6 hu9; have hpt := Own.pt hOp hlp; have hpP : Pt.ok u9 ⟨AP, N, cP, prf⟩ := ⟨hpt.2.2.2, hpt.1, hpt.2.1, hpt.2.2.1⟩; clear hOp hpt)
        refine ⟨_, fun _ h => h, ⟨⟨_, hx9⟩, rfl⟩, ?_⟩
        repeat (refine tree_q rfl (fun K hK => ?_); go_simp; refine hK _ ?_; clear hK K)
        have y0 := ((((hba.ext hu3).ext hu6).ext hu9)).at 0 rfl
        have y1 := ((((hba.ext hu3).ext hu6).ext hu9)).at 1 rfl
        have y2 := ((((hba.ext hu3).ext hu6).ext hu9)).at 2 rfl
        have y3 := ((((hba.ext hu3).ext hu6).ext hu9)).at 3 rfl
        have x0 := ((((hba.ext hu3).ext hu6).ext hu9)).frozen 0
        have x1 := ((((hba.ext hu3).ext hu6).ext hu9)).frozen 1
        have x2 := ((((hba.ext hu3).ext hu6).ext hu9)).frozen 2
        have x3 := ((((hba.ext hu3).ext hu6).ext hu9)).frozen 3
        have hB4 := blk4 (((hba.ext hu3).ext hu6).ext hu9) (.slice E0 m0 d0) (.slice E1 m1 d1) (.slice E2 m2 d2) (.slice E3 m3 d3)
        have j0 := nat4 (b0 := E0) (m0 := m0) (d0 := d0) (b1 := E1) (m1 := m1) (d1 := d1) (b2 := E2) (m2 := m2) (d2 := d2) (b3 := E3) (m3 := m3) (d3 := d3) (k0.ext (Upd.refl _ _)) (((hba.ext hu3).ext hu6).ext hu9)
        have j1 := nat4 (b0 := E0) (m0 := m0) (d0 := d0) (b1 := E1) (m1 := m1) (d1 := d1) (b2 := E2) (m2 := m2) (d2 := d2) (b3 := E3) (m3 := m3) (d3 := d3) (k1.ext (Upd.refl _ _)) (((hba.ext hu3).ext hu6).ext hu9)
        have j2 := nat4 (b0 := E0) (m0 := m0) (d0 := d0) (b1 := E1) (m1 := m1) (d1 := d1) (b2 := E2) (m2 := m2) (d2 := d2) (b3 := E3) (m3 := m3) (d3 := d3) (k2.ext (Upd.refl _ _)) (((hba.ext hu3).ext hu6).ext hu9)
        have j3 := nat4 (b0 := E0) (m0 := m0) (d0 := d0) (b1 := E1) (m1 := m1) (d1 := d1) (b2 := E2) (m2 := m2) (d2 := d2) (b3 := E3) (m3 := m3) (d3 := d3) (k3.ext (Upd.refl _ _)) (((hba.ext hu3).ext hu6).ext hu9)
        have s0 := sl4 (b0 := E0) (m0 := m0) (d0 := d0) (b1 := E1) (m1 := m1) (d1 := d1) (b2 := E2) (m2 := m2) (d2 := d2) (b3 := E3) (m3 := m3) (d3 := d3) (hpP.1.ext (Upd.refl _ _)) (((hba.ext hu3).ext hu6).ext hu9)
        have hE4 := ext4 hx9 hga (.slice E0 m0 d0) (.slice E1 m1 d1) (.slice E2 m2 d2) (.slice E3 m3 d3)
        refine tree_l rfl ?_
        go_wp2_with fail
        refine ⟨_, fun _ h => h, ⟨⟨_, hE4⟩, rfl⟩, ?_⟩
        repeat (refine tree_q rfl (fun K hK => ?_); go_simp; refine hK _ ?_; clear hK K)
        refine tree_done ?_
        try simp only [List.drop_succ_cons, List.drop_zero]
        go_wp2_with fail
        go_meet
        exact ⟨_, E0, m0, d0, E1, m1, d1, E2, m2, d2, E3, m3, d3, AP, cP, rfl, rfl, rfl, hB4, j0, j1, j2, j3, ⟨s0, hpP.2⟩, hE4.undrew⟩
    case rest =>
      obtain ⟨g18, -, -, -, -, -, -, -, -, -, -, -, -, AP2, cP2, rfl, rfl, rfl, -, -, -, -, -, hPT2, hE2⟩ := hcut
      go_wp2_with fail
      refine name_w (fun T hT => ?_)
      subst hT
      have hGT := hGX.ext hE2
      have hET := hEX.trans hE2
      have hBT := hB1.ext hE2
      have hT0 := n01.ext hE2
      have hT1 := n11.ext hE2
      have hT2 := n21.ext hE2
      have hT3 := n31.ext hE2
      have hPT1 := hPt1.ext hE2
      clear b14x hVKx hGX hEX hE2 hB1 n01 n11 n21 n31 hPt1
      have hTd : Ext T T.drew := (Upd.refl _ _).drew
      have hED := hET.trans hTd
      have hGD := hGT.ext hTd
      have hBD := hBT.ext hTd
      have y0 := fun y : Wd (Ext T.drew) => y.ok.cellv (hBD.at 0 rfl)
      have y1 := fun y : Wd (Ext T.drew) => y.ok.cellv (hBD.at 1 rfl)
      have y2 := fun y : Wd (Ext T.drew) => y.ok.cellv (hBD.at 2 rfl)
      have y3 := fun y : Wd (Ext T.drew) => y.ok.cellv (hBD.at 3 rfl)
      have hcv1 := str_cls (c := cP1) (hPT1.ext hTd).1 hPT1.2.1
      have hcv2 := str_cls (c := cP2) (hPT2.ext hTd).1 hPT2.2.1
      obtain ⟨ST, hST⟩ : ∃ ST, ST = str prf := ⟨_, rfl⟩
      rw [← hST] at hcv1 hcv2
      obtain ⟨N3, hN3⟩ : ∃ N3, N3 = N + 1 := ⟨_, rfl⟩
      obtain ⟨N1, hN1⟩ : ∃ N1, N = N1 + 1 := ⟨N - 1, by omega⟩
      have hl3 : (prf ++ [by_]).length = N3 := by rw [List.length_append, Hlp.out, hN3]; rfl
      have hl3' : ([] ++ prf : List (BitVec 8)).length = N := Hlp.out
      have hlong : dverB P Q p q y z side (prf ++ [by_]) = false := dverB_len (by rw [hl3, ← HN.out]; omega)
      have hshort : dverB P Q p q y z side (prf.take (N - 1)) = false := dverB_len (by rw [List.length_take, Hlp.out, ← HN.out]; omega)
      have hsl : (prf.take (N - 1)).length = N1 := by rw [List.length_take, Hlp.out]; omega
      have hsub : (N : Int) - 1 = (N1 : Int) := by omega
      have hlc : N ≤ cP1 := hPT1.2.2.1
      have hs : ∀ w, (Instr.sliceAt 23 (.slice AP1 N cP1) none (some (.int .i64 (N1 : Int))) none).run Try.prog w = .ok (.slice AP1 N1 cP1) w := fun w => run_cut_h Try.n_el8.under Try.n_sz8 AP1 N cP1 N1 .i64 (by omega) w
      have hw1 : IntKind.i64.wrap (N1 : Int) = (N1 : Int) := IntWalk.i64_in _ (by omega)
      have hN1m : N1 ≤ cP1 := by omega
      have hN3m : N3 ≤ 1000 := by omega
      have hNm2 : N ≤ 1000 := by omega
      have HPT := hide (hPT1.ext hTd)
      have HN3 := hide hN3
      have HN1 := hide hN1
      have Hl3 := hide hl3
      have Hl3' := hide hl3'
      have Hlong := hide hlong
      have Hshort := hide hshort
      have Hsl := hide hsl
      have HN1m := hide hN1m
      clear hST hN3 hN1 hl3 hl3' hlong hshort hsl hlc hPT1 hPT2 hNm hN1m
      refine wp_region_tree (Ext T.drew) 45 (.q 0 (.q 1 (.q 2 (.q 3 (.q 4 (.q 5 (.q 6 (.q 7 (.q 8 (.q 9 (.q 10 (.q 11 (.q 12 (.q 13 (.q 14 (.q 15 (.q 16 (.q 17 (.l 18 (.q 19 (.q 20 (.q 21 (.q 22 (.q 23 (.q 25 (.q 27 (.two 24 28 (.two 26 28 (.l 28 (.l 29 (.l 30 (.q 31 (.q 32 (.q 33 (.q 34 (.q 35 (.q 36 (.q 37 (.q 38 (.q 39 (.q 40 (.q 41 (.l 42 (.q 43 (.q 44 .done))))))))))))))))) (.l 26 (.l 29 (.l 30 (.q 31 (.q 32 (.q 33 (.q 34 (.q 35 (.q 36 (.q 37 (.q 38 (.q 39 (.q 40 (.q 41 (.l 42 (.q 43 (.q 44 .done)))))))))))))))))) (.l 24 (.l 26 (.l 29 (.l 30 (.q 31 (.q 32 (.q 33 (.q 34 (.q 35 (.q 36 (.q 37 (.q 38 (.q 39 (.q 40 (.q 41 (.l 42 (.q 43 (.q 44 .done))))))))))))))))))))))))))))))))))))))))))))) (by kernel_rfl) (by kernel_rfl) (Upd.refl _ _) (fun hne => ?_)
      repeat (refine tree_q rfl (fun K hK => ?_); go_simp; refine hK _ ?_; clear hK K)
      refine tree_l rfl ?_
      go_wp2_with (go_at_call 50; go_must (refine (dver_any gr P Q G _ 32 _ _ _ _ _ A AP1 _ _ _ _ _ _ _ _ n c N cP1 p q y z side prf hGD (hT0.ext hTd) (hT1.ext hTd) (hT2.ext hTd) (hT3.ext hTd) (HM.out.ext hED) HPT.out hFp hFq hFy hFz hP hQ hP2 hQ64 hz128 (by omega) (by omega) (by omega)).mono ?_); rw [Hgood.out]; rintro e u1 ⟨rfl, hu1⟩)
      refine ⟨_, fun _ h => h, ⟨⟨_, hu1⟩, rfl⟩, ?_⟩
      repeat (refine tree_q rfl (fun K hK => ?_); go_simp; refine hK _ ?_; clear hK K)
      have hy1 : Ext T.drew (u1.alloc (.cells #[] 5)) := hu1.alloc _
      have hy2 : Ext T.drew ((u1.alloc (.cells #[] 5)).alloc (.cells #[.int .u8 (n8 by_)] 5)) := hy1.alloc _
      have hOb : Own ((u1.alloc (.cells #[] 5)).alloc (.cells #[.int .u8 (n8 by_)] 5)) T.drew.heap.size 5 (some ⟨u1.heap.size, 0, none⟩) 0 (([] : List (BitVec 8)).map by8) := (rep_nil u1 (B := T.drew.heap.size) hu1.size).ext ((Upd.refl _ _).alloc _)
      have hLb : Sl by8 ((u1.alloc (.cells #[] 5)).alloc (.cells #[.int .u8 (n8 by_)] 5)) (some ⟨u1.heap.size + 1, 0, none⟩) [by_] := Sl.new_at by8 [by_] (by simp) rfl
      have hOc : Own ((u1.alloc (.cells #[.int .u8 (n8 by_)] 5)).alloc (.cells #[] 5)) T.drew.heap.size 5 (some ⟨u1.heap.size + 1, 0, none⟩) 0 (([] : List (BitVec 8)).map by8) := by
        have h1 := rep_nil (u1.alloc (.cells #[.int .u8 (n8 by_)] 5)) (B := T.drew.heap.size) (Nat.le_trans hu1.size (by simp))
        rw [show (u1.alloc (.cells #[.int .u8 (n8 by_)] 5)).heap.size = u1.heap.size + 1 by simp] at h1
        exact h1
      have hz1 : Ext T.drew (u1.alloc (.cells #[.int .u8 (n8 by_)] 5)) := hu1.alloc _
      have hz2 : Ext T.drew ((u1.alloc (.cells #[.int .u8 (n8 by_)] 5)).alloc (.cells #[] 5)) := hz1.alloc _
      refine tree_two rfl rfl ?_ ?_
      · go_wp2_with fail
        refine ⟨_, fun _ h => h, ⟨⟨_, hy1⟩, rfl⟩, ?_⟩
        repeat (refine tree_q rfl (fun K hK => ?_); go_simp; refine hK _ ?_; clear hK K)
        refine tree_two rfl rfl ?_ ?_
        · skip
          refine wpList_wanted9 rfl ?_
          refine wpList_apd by8 one8 Try.el8 [] prf ([] ++ prf) N rfl Hl3'.out (by omega) (by unfold maxLen; omega) rfl rfl rfl rfl (rep_nil u1 (B := T.drew.heap.size) hu1.size) rfl Hlp.out (HPT.out.1.ext hy1) (hy1).size ?_
          intro A5 c5 w5 hO5 hU5 hin5
          have hx5 : Ext T.drew w5 := upd_new hU5 hy1 (fun k hk => (Own.in_ (rep_nil u1 (B := T.drew.heap.size) hu1.size) hk).1)
          go_wp2_with fail
          refine ⟨_, fun _ h => h, ⟨⟨_, hx5⟩, rfl⟩, ?_⟩
          repeat (refine tree_q rfl (fun K hK => ?_); go_simp; refine hK _ ?_; clear hK K)
          refine tree_l rfl ?_
          go_wp2_with fail
          have hx7 : Ext T.drew (w5.alloc (.cells #[.int .u8 (n8 by_)] 5)) := hx5.alloc _
          refine ⟨_, fun _ h => h, ⟨⟨_, hx7⟩, rfl⟩, ?_⟩
          repeat (refine tree_q rfl (fun K hK => ?_); go_simp; refine hK _ ?_; clear hK K)
          refine tree_l rfl ?_
          refine wpList_wanted9 rfl ?_
          refine wpList_apd by8 one8 Try.el8 ([] ++ prf) [by_] (prf ++ [by_]) N3 rfl Hl3.out (by omega) (by unfold maxLen; omega) rfl rfl rfl Hl3'.out (hO5.ext ((Upd.refl _ _).alloc _)) rfl rfl (Sl.new by8 w5 _ [by_]) (hx7).size ?_
          intro A6 c6 w6 hO6 hU6 hin6
          have hx6 : Ext T.drew w6 := upd_new hU6 hx7 (fun k hk => (hO5.in_ hk).1)
          have hp6 := hide (Own.pt hO6 Hl3.out)
          go_wp2_with fail
          refine ⟨_, fun _ h => h, ⟨⟨_, hx6⟩, rfl⟩, ?_⟩
          repeat (refine tree_q rfl (fun K hK => ?_); go_simp; refine hK _ ?_; clear hK K)
          refine tree_l rfl ?_
          go_wp2_with (go_at_call 50; go_must (refine (dver_any gr P Q G _ 32 _ _ _ _ _ A A6 _ _ _ _ _ _ _ _ n c N3 c6 p q y z side (prf ++ [by_]) (hGD.ext hx6) (hT0.ext (hTd.trans hx6)) (hT1.ext (hTd.trans hx6)) (hT2.ext (hTd.trans hx6)) (hT3.ext (hTd.trans hx6)) (HM.out.ext (hED.trans hx6)) ⟨hp6.out.2.2.2, hp6.out.1, hp6.out.2.1, hp6.out.2.2.1⟩ hFp hFq hFy hFz hP hQ hP2 hQ64 hz128 (by omega) (by omega) (by omega)).mono ?_); rw [Hlong.out]; rintro e u2 ⟨rfl, hu2⟩; have hu2g := hx6.trans hu2)
          refine ⟨_, fun _ h => h, ⟨⟨_, hu2g⟩, rfl⟩, ?_⟩
          repeat (refine tree_q rfl (fun K hK => ?_); go_simp; refine hK _ ?_; clear hK K)
          refine tree_l rfl ?_
          go_wp2_with (go_at_call 50; go_must (refine (dver_any gr P Q G _ 32 _ _ _ _ _ A AP1 _ _ _ _ _ _ _ _ n c N1 cP1 p q y z side (prf.take (N - 1)) (hGD.ext hu2g) (hT0.ext (hTd.trans hu2g)) (hT1.ext (hTd.trans hu2g)) (hT2.ext (hTd.trans hu2g)) (hT3.ext (hTd.trans hu2g)) (HM.out.ext (hED.trans hu2g)) ⟨(HPT.out.1.take (N - 1)).ext hu2g, Hsl.out, HN1m.out, HPT.out.2.2.2⟩ hFp hFq hFy hFz hP hQ hP2 hQ64 hz128 (by omega) (by omega) (by omega)).mono ?_); rw [Hshort.out]; rintro e u3 ⟨rfl, hu3⟩; have hu3g := hu2g.trans hu3)
          refine ⟨_, fun _ h => h, ⟨⟨_, hu3g⟩, rfl⟩, ?_⟩
          repeat (refine tree_q rfl (fun K hK => ?_); go_simp; refine hK _ ?_; clear hK K)
          refine tree_done ?_
          try simp only [List.drop_succ_cons, List.drop_zero]
          go_wp2_with fail
          go_ret
          exact ⟨rfl, hED.trans hu3g⟩
        · go_wp2_with fail
          refine ⟨_, fun _ h => h, ⟨⟨_, hy2⟩, rfl⟩, ?_⟩
          repeat (refine tree_q rfl (fun K hK => ?_); go_simp; refine hK _ ?_; clear hK K)
          refine tree_l rfl ?_
          refine wpList_wanted9 rfl ?_
          refine wpList_apd by8 one8 Try.el8 [] prf ([] ++ prf) N rfl Hl3'.out (by omega) (by unfold maxLen; omega) rfl rfl rfl rfl hOb rfl Hlp.out (HPT.out.1.ext hy2) (hy2).size ?_
          intro A5 c5 w5 hO5 hU5 hin5
          have hx5 : Ext T.drew w5 := upd_new hU5 hy2 (fun k hk => (Own.in_ hOb hk).1)
          go_wp2_with fail
          refine ⟨_, fun _ h => h, ⟨⟨_, hx5⟩, rfl⟩, ?_⟩
          repeat (refine tree_q rfl (fun K hK => ?_); go_simp; refine hK _ ?_; clear hK K)
          refine tree_l rfl ?_
          refine wpList_wanted9 rfl ?_
          refine wpList_apd by8 one8 Try.el8 ([] ++ prf) [by_] (prf ++ [by_]) N3 rfl Hl3.out (by omega) (by unfold maxLen; omega) rfl rfl rfl Hl3'.out hO5 rfl rfl (hLb.keep0 hU5 (fun _ k hk hk' => by simp [inA] at hk hk'; omega)) (hx5).size ?_
          intro A6 c6 w6 hO6 hU6 hin6
          have hx6 : Ext T.drew w6 := upd_new hU6 hx5 (fun k hk => (hO5.in_ hk).1)
          have hp6 := hide (Own.pt hO6 Hl3.out)
          go_wp2_with fail
          refine ⟨_, fun _ h => h, ⟨⟨_, hx6⟩, rfl⟩, ?_⟩
          repeat (refine tree_q rfl (fun K hK => ?_); go_simp; refine hK _ ?_; clear hK K)
          refine tree_l rfl ?_
          go_wp2_with (go_at_call 50; go_must (refine (dver_any gr P Q G _ 32 _ _ _ _ _ A A6 _ _ _ _ _ _ _ _ n c N3 c6 p q y z side (prf ++ [by_]) (hGD.ext hx6) (hT0.ext (hTd.trans hx6)) (hT1.ext (hTd.trans hx6)) (hT2.ext (hTd.trans hx6)) (hT3.ext (hTd.trans hx6)) (HM.out.ext (hED.trans hx6)) ⟨hp6.out.2.2.2, hp6.out.1, hp6.out.2.1, hp6.out.2.2.1⟩ hFp hFq hFy hFz hP hQ hP2 hQ64 hz128 (by omega) (by omega) (by omega)).mono ?_); rw [Hlong.out]; rintro e u2 ⟨rfl, hu2⟩; have hu2g := hx6.trans hu2)
          refine ⟨_, fun _ h => h, ⟨⟨_, hu2g⟩, rfl⟩, ?_⟩
          repeat (refine tree_q rfl (fun K hK => ?_); go_simp; refine hK _ ?_; clear hK K)
          refine tree_l rfl ?_
          go_wp2_with (go_at_call 50; go_must (refine (dver_any gr P Q G _ 32 _ _ _ _ _ A AP1 _ _ _ _ _ _ _ _ n c N1 cP1 p q y z side (prf.take (N - 1)) (hGD.ext hu2g) (hT0.ext (hTd.trans hu2g)) (hT1.ext (hTd.trans hu2g)) (hT2.ext (hTd.trans hu2g)) (hT3.ext (hTd.trans hu2g)) (HM.out.ext (hED.trans hu2g)) ⟨(HPT.out.1.take (N - 1)).ext hu2g, Hsl.out, HN1m.out, HPT.out.2.2.2⟩ hFp hFq hFy hFz hP hQ hP2 hQ64 hz128 (by omega) (by omega) (by omega)).mono ?_); rw [Hshort.out]; rintro e u3 ⟨rfl, hu3⟩; have hu3g := hu2g.trans hu3)
          refine ⟨_, fun _ h => h, ⟨⟨_, hu3g⟩, rfl⟩, ?_⟩
          repeat (refine tree_q rfl (fun K hK => ?_); go_simp; refine hK _ ?_; clear hK K)
          refine tree_done ?_
          try simp only [List.drop_succ_cons, List.drop_zero]
          go_wp2_with fail
          go_ret
          exact ⟨rfl, hED.trans hu3g⟩
      · go_wp2_with fail
        refine ⟨_, fun _ h => h, ⟨⟨_, hz1⟩, rfl⟩, ?_⟩
        repeat (refine tree_q rfl (fun K hK => ?_); go_simp; refine hK _ ?_; clear hK K)
        refine tree_l rfl ?_
        go_wp2_with fail
        refine ⟨_, fun _ h => h, ⟨⟨_, hz2⟩, rfl⟩, ?_⟩
        repeat (refine tree_q rfl (fun K hK => ?_); go_simp; refine hK _ ?_; clear hK K)
        refine tree_l rfl ?_
        refine wpList_wanted9 rfl ?_
        refine wpList_apd by8 one8 Try.el8 [] prf ([] ++ prf) N rfl Hl3'.out (by omega) (by unfold maxLen; omega) rfl rfl rfl rfl hOc rfl Hlp.out (HPT.out.1.ext hz2) (hz2).size ?_
        intro A5 c5 w5 hO5 hU5 hin5
        have hx5 : Ext T.drew w5 := upd_new hU5 hz2 (fun k hk => (Own.in_ hOc hk).1)
        go_wp2_with fail
        refine ⟨_, fun _ h => h, ⟨⟨_, hx5⟩, rfl⟩, ?_⟩
        repeat (refine tree_q rfl (fun K hK => ?_); go_simp; refine hK _ ?_; clear hK K)
        refine tree_l rfl ?_
        refine wpList_wanted9 rfl ?_
        refine wpList_apd by8 one8 Try.el8 ([] ++ prf) [by_] (prf ++ [by_]) N3 rfl Hl3.out (by omega) (by unfold maxLen; omega) rfl rfl rfl Hl3'.out hO5 rfl rfl (((Sl.new by8 u1 5 [by_]).ext ((Upd.refl _ _).alloc _)).keep0 hU5 (fun _ k hk hk' => by simp [inA] at hk hk'; omega)) (hx5).size ?_
        intro A6 c6 w6 hO6 hU6 hin6
        have hx6 : Ext T.drew w6 := upd_new hU6 hx5 (fun k hk => (hO5.in_ hk).1)
        have hp6 := hide (Own.pt hO6 Hl3.out)
        go_wp2_with fail
        refine ⟨_, fun _ h => h, ⟨⟨_, hx6⟩, rfl⟩, ?_⟩
        repeat (refine tree_q rfl (fun K hK => ?_); go_simp; refine hK _ ?_; clear hK K)
        refine tree_l rfl ?_
        go_wp2_with (go_at_call 50; go_must (refine (dver_any gr P Q G _ 32 _ _ _ _ _ A A6 _ _ _ _ _ _ _ _ n c N3 c6 p q y z side (prf ++ [by_]) (hGD.ext hx6) (hT0.ext (hTd.trans hx6)) (hT1.ext (hTd.trans hx6)) (hT2.ext (hTd.trans hx6)) (hT3.ext (hTd.trans hx6)) (HM.out.ext (hED.trans hx6)) ⟨hp6.out.2.2.2, hp6.out.1, hp6.out.2.1, hp6.out.2.2.1⟩ hFp hFq hFy hFz hP hQ hP2 hQ64 hz128 (by omega) (by omega) (by omega)).mono ?_); rw [Hlong.out]; rintro e u2 ⟨rfl, hu2⟩; have hu2g := hx6.trans hu2)
        refine ⟨_, fun _ h => h, ⟨⟨_, hu2g⟩, rfl⟩, ?_⟩
        repeat (refine tree_q rfl (fun K hK => ?_); go_simp; refine hK _ ?_; clear hK K)
        refine tree_l rfl ?_
        go_wp2_with (go_at_call 50; go_must (refine (dver_any gr P Q G _ 32 _ _ _ _ _ A AP1 _ _ _ _ _ _ _ _ n c N1 cP1 p q y z side (prf.take (N - 1)) (hGD.ext hu2g) (hT0.ext (hTd.trans hu2g)) (hT1.ext (hTd.trans hu2g)) (hT2.ext (hTd.trans hu2g)) (hT3.ext (hTd.trans hu2g)) (HM.out.ext (hED.trans hu2g)) ⟨(HPT.out.1.take (N - 1)).ext hu2g, Hsl.out, HN1m.out, HPT.out.2.2.2⟩ hFp hFq hFy hFz hP hQ hP2 hQ64 hz128 (by omega) (by omega) (by omega)).mono ?_); rw [Hshort.out]; rintro e u3 ⟨rfl, hu3⟩; have hu3g := hu2g.trans hu3)
        refine ⟨_, fun _ h => h, ⟨⟨_, hu3g⟩, rfl⟩, ?_⟩
        repeat (refine tree_q rfl (fun K hK => ?_); go_simp; refine hK _ ?_; clear hK K)
        refine tree_done ?_
        try simp only [List.drop_succ_cons, List.drop_zero]
        go_wp2_with fail
        go_ret
        exact ⟨rfl, hED.trans hu3g⟩
theorem dback_any (z : Int) (a b x : Nat) (by_ : BitVec 8) (A : Option Addr) (n c : Nat) (side : List (BitVec 8)) (w : World) (ha64 : a < 18446744073709551616) (hb64 : b < 18446744073709551616) (hx64 : x < 18446744073709551616) (hM : Pt.ok w ⟨A, n, c, side⟩) :
    Calls Try.prog 9 #[.int .i64 z, .int .u64 (a : Nat), .int .u64 (b : Nat), .int .u64 (x : Nat), .slice A n c, .int .u8 (n8 by_)] w fun e w' => e = .returned (.bool true) ∧ Ext w w' := by
  by_cases hn : n ≤ 300
  · obtain ⟨r, hr, hnum⟩ := gnums_any z
    exact dback_good z r hr a b x by_ A n c side w (fun w' => hnum none 0 0 w') ha64 hb64 hx64 hM hn
  · exact dback_few z a b x (n8 by_) A n c w (by omega)
end Go.Proofs.Ytoekbomfepedcaa
