/- The law on rings, walked: any modulus, sum, difference and product is the document's. -/
import Derived.Test.YtekpjdfgpggcnaaModE
import Derived.Test.YtekpjdfgpggcnaaRefM
namespace Go.Proofs.Ytekpjdfgpggcnaa
set_option linter.unusedSimpArgs false
set_option linter.unusedVariables false
open Go.RowKit
open Nt
attribute [local go_sem] steady steadyUpon Cls same_cell by8 str_eq
attribute [local irreducible] wpHead wpTree

def RetRR (w : World) (n : Nat) (e : Ending) (w' : World) : Prop := ∃ g A l c, e = .returned (.tuple #[.pointer (some ⟨g, 0, none⟩), .slice A l c]) ∧ RingV w' g n ∧ RefV w' (.slice A l c) n ∧ Ext w w'
def RetRN (w : World) (n : Nat) (e : Ending) (w' : World) : Prop := ∃ A l c, e = .returned (.tuple #[.pointer none, .slice A l c]) ∧ RefV w' (.slice A l c) n ∧ Ext w w'
def RetNR (w : World) (n : Nat) (e : Ending) (w' : World) : Prop := ∃ A l c A2 l2 c2, e = .returned (.tuple #[.agg #[.slice A l c], .slice A2 l2 c2]) ∧ NatV w' (.agg #[.slice A l c]) n ∧ RefV w' (.slice A2 l2 c2) n ∧ Ext w w'
set_option maxRecDepth 100000 in
set_option maxHeartbeats 2000000 in
theorem mring_yes
    (A : Option Addr) (n c n1 x : Nat) (w : World) (hmin1 : min (n : Int) 24 = (n1 : Int)) (hn : n ≤ c) (hn1 : n1 ≤ c) (hc : c ≤ 9223372036854775807) (hFx : Fit 12 x) (N1 : Hid (∀ w', Ext w w' → Calls Try.prog 19 #[.slice A n1 c] w' (RetN w' x)))
        (R1 : Hid (∀ w', Ext w w' → Calls Try.prog 55 #[.slice A n1 c] w' (RetR w' x)))
    (hx : 2 ≤ x) : Calls Try.prog 41 #[.slice A n c] w (RetRR w x) := by
  have hs1 : ∀ w, (Instr.sliceAt 22 (.slice A n c) none (some (.int .i64 (n1 : Int))) none).run Try.prog w = .ok (.slice A n1 c) w := fun w => run_cut_h Try.n_el8.under Try.n_sz8 A n c n1 .i64 (by omega) w
  have hG : Ext w w := Upd.refl _ _
  go_enter Try.func41, Try.ntmps41
  go_wp2_with fail
  refine (N1.out _ hG).mono ?_
  rintro e w1 ⟨A1, l1, c1, rfl, hV1, hU⟩
  replace hG := hG.trans hU
  clear hmin1 hs1
  go_wp2_with fail
  refine (mnew_yes _ x 12 _ hV1 hFx (by omega) hx).mono ?_
  rintro e w2 ⟨g, rfl, hR, -, hU⟩
  replace hG := hG.trans hU
  go_wp2_with fail
  refine (R1.out _ hG).mono ?_
  rintro e w3 ⟨A3, l3, c3, rfl, hV3, hU⟩
  replace hG := hG.trans hU
  go_wp2_with fail
  go_ret2
  exact ⟨_, _, _, _, rfl, hR.ext hU, hV3, hG⟩
set_option maxRecDepth 100000 in
set_option maxHeartbeats 2000000 in
theorem mring_no
    (A : Option Addr) (n c n1 x : Nat) (w : World) (hmin1 : min (n : Int) 24 = (n1 : Int)) (hn : n ≤ c) (hn1 : n1 ≤ c) (hc : c ≤ 9223372036854775807) (hFx : Fit 12 x) (N1 : Hid (∀ w', Ext w w' → Calls Try.prog 19 #[.slice A n1 c] w' (RetN w' x)))
        (R1 : Hid (∀ w', Ext w w' → Calls Try.prog 55 #[.slice A n1 c] w' (RetR w' x)))
    (hx : x < 2) : Calls Try.prog 41 #[.slice A n c] w (RetRN w x) := by
  have hs1 : ∀ w, (Instr.sliceAt 22 (.slice A n c) none (some (.int .i64 (n1 : Int))) none).run Try.prog w = .ok (.slice A n1 c) w := fun w => run_cut_h Try.n_el8.under Try.n_sz8 A n c n1 .i64 (by omega) w
  have hG : Ext w w := Upd.refl _ _
  go_enter Try.func41, Try.ntmps41
  go_wp2_with fail
  refine (N1.out _ hG).mono ?_
  rintro e w1 ⟨A1, l1, c1, rfl, hV1, hU⟩
  replace hG := hG.trans hU
  clear hmin1 hs1
  go_wp2_with fail
  refine (mnew_no _ x 12 _ hV1 hFx (by omega) hx (by omega)).mono ?_
  rintro e w2 ⟨rfl, hU⟩
  replace hG := hG.trans hU
  go_wp2_with fail
  refine (R1.out _ hG).mono ?_
  rintro e w3 ⟨A3, l3, c3, rfl, hV3, hU⟩
  replace hG := hG.trans hU
  go_wp2_with fail
  go_ret2
  exact ⟨_, _, _, rfl, hV3, hG⟩
set_option maxRecDepth 100000 in
set_option maxHeartbeats 2000000 in
theorem mnum_any
    (A : Option Addr) (n c n1 x : Nat) (w : World) (hmin1 : min (n : Int) 24 = (n1 : Int)) (hn : n ≤ c) (hn1 : n1 ≤ c) (hc : c ≤ 9223372036854775807) (hFx : Fit 12 x) (N1 : Hid (∀ w', Ext w w' → Calls Try.prog 19 #[.slice A n1 c] w' (RetN w' x)))
        (R1 : Hid (∀ w', Ext w w' → Calls Try.prog 55 #[.slice A n1 c] w' (RetR w' x)))
    : Calls Try.prog 42 #[.slice A n c] w (RetNR w x) := by
  have hs1 : ∀ w, (Instr.sliceAt 22 (.slice A n c) none (some (.int .i64 (n1 : Int))) none).run Try.prog w = .ok (.slice A n1 c) w := fun w => run_cut_h Try.n_el8.under Try.n_sz8 A n c n1 .i64 (by omega) w
  go_enter Try.func42, Try.ntmps42
  go_wp2_with fail
  clear hmin1 hs1
  refine name_c (fun W hW => ?_)
  have b2 : Box W w.heap.size 26 (.slice none 0 0) := by rw [hW]; exact Box.new _ _ _
  have hE : Ext w W := by rw [hW]; exact (Upd.refl _ w).alloc _
  clear hW
  have hG : Ext W W := Upd.refl _ _
  refine (N1.out _ hE).mono ?_
  rintro e w1 ⟨A1, l1, c1, rfl, hV1, hU⟩
  replace hG := hG.trans hU
  go_wp2_with fail
  refine (R1.out _ (hE.trans hG)).mono ?_
  rintro e w3 ⟨A3, l3, c3, rfl, hV3, hU⟩
  replace hG := hG.trans hU
  have b2' := b2.ext hG
  have q2 := b2'.cell
  have q3 := b2'.frozen
  go_wp2_with fail
  have q := (b2'.set (.slice A1 l1 c1)).cell
  refine bodyPost_ret (v := .tuple #[.agg #[.slice A1 l1 c1], .slice A3 l3 c3]) (by simp [results, Try.results42, go_sem, q]) rfl ⟨_, _, _, _, _, _, rfl, (hV1.ext hU).far q2, ?_, (hE.trans hG).setCell (p := ⟨w.heap.size, 0, none⟩) (.inr (Nat.le_refl _)) _⟩
  exact hV3.change' ((Upd.refl (only w.heap.size) _).setCell (p := ⟨w.heap.size, 0, none⟩) (.inl rfl) _) fun b hb => by
    have : b = w.heap.size := hb
    subst this
    exact ⟨_, _, b2', rfl⟩
/-- what the helpers make of bytes that came in, cut to 24 -/
theorem in_num2 {A : Option Addr} {n c : Nat} {bs : List (BitVec 8)} {w : World} (h : In8 w A n c bs) : ∃ (n1 x : Nat), min (n : Int) 24 = (n1 : Int) ∧ n ≤ c ∧ n1 ≤ c ∧ c ≤ 9223372036854775807 ∧ Fit 12 x ∧ Hid (∀ w', Ext w w' → Calls Try.prog 19 #[.slice A n1 c] w' (RetN w' x)) ∧ Hid (∀ w', Ext w w' → Calls Try.prog 55 #[.slice A n1 c] w' (RetR w' x)) := by
  obtain ⟨hl, hc, hm, hS⟩ := h
  have h1 : (bs.take 24).length = min n 24 := by rw [List.length_take]; omega
  have h2 : (bs.take 24).take 48 = bs.take 24 := by rw [List.take_take]; congr 1
  have h3 : In8 w A (min n 24) c (bs.take 24) := ⟨h1, by omega, hm, hS.take 24⟩
  unfold maxLen at hm
  have hF := fit_48 (bs.take 24)
  rw [h2] at hF
  refine ⟨min n 24, ofB (bs.take 24), by omega, hc, by omega, by omega, hF, hide fun w' hu => ?_, hide fun w' hu => ?_⟩
  · have := num_any A (min n 24) c (bs.take 24) w' (h3.ext hu)
    rwa [h2] at this
  · exact rof_any A (min n 24) c (bs.take 24) w' h1 (by omega) ((hS.take 24).ext hu)
set_option maxRecDepth 100000 in
set_option maxHeartbeats 2000000 in
theorem mlives_any (w : World) : Calls Try.prog 40 #[] w fun e w' => e = .returned (.bool true) ∧ Ext w w' := by
  have hG : Ext w w := Upd.refl _ _
  have hF7 : Fit 4 7 := by unfold Fit; decide
  go_enter Try.func40, Try.ntmps40
  go_wp2_with fail
  refine (new_any 7 _ (by omega)).mono ?_
  rintro e w1 ⟨A1, l1, c1, rfl, hV1, hU⟩
  replace hG := hG.trans hU
  go_wp2_with fail
  refine (mnew_yes _ 7 4 _ hV1 hF7 (by omega) (by omega)).mono ?_
  rintro e w2 ⟨g, rfl, hR, -, hU⟩
  replace hG := hG.trans hU
  clear hV1
  go_wp2_with fail
  refine (new_any 2 _ (by omega)).mono ?_
  rintro e w3 ⟨A3, l3, c3, rfl, hV3, hU⟩
  replace hG := hG.trans hU
  replace hR := hR.ext hU
  go_wp2_with fail
  refine (new_any 5 _ (by omega)).mono ?_
  rintro e w4 ⟨A4, l4, c4, rfl, hV4, hU⟩
  replace hG := hG.trans hU
  replace hR := hR.ext hU
  go_wp2_with fail
  refine (msub_any _ _ g 2 5 7 4 _ hR (hV3.ext hU) hV4 (by unfold Fit; decide) (by unfold Fit; decide) hF7 (by omega)).mono ?_
  rintro e w5 ⟨A5, l5, c5, rfl, hV5, hU⟩
  replace hG := hG.trans hU
  replace hR := hR.ext hU
  go_wp2_with fail
  refine (least_any _ _ 4 _ hV5 (by unfold Fit; decide) (by omega)).mono ?_
  rintro e w6 ⟨A6, c6, rfl, hl6, hO6, hU⟩
  replace hG := hG.trans hU
  replace hR := hR.ext hU
  have s6 := nstr_run (c := c6) hO6.sl hl6
  have q6 : ((str (toB (subm 2 5 7) (bytelen (subm 2 5 7)))).toList == [4]) = true := by decide +kernel
  clear hV3 hV4 hV5
  go_wp2_with fail
  refine (new_any 3 _ (by omega)).mono ?_
  rintro e w7 ⟨A7, l7, c7, rfl, hV7, hU⟩
  replace hG := hG.trans hU
  replace hR := hR.ext hU
  clear s6 q6
  go_wp2_with fail
  refine (new_any 4 _ (by omega)).mono ?_
  rintro e w8 ⟨A8, l8, c8, rfl, hV8, hU⟩
  replace hG := hG.trans hU
  replace hR := hR.ext hU
  go_wp2_with fail
  refine (mexp_short _ _ g 3 4 7 4 4 _ hR (hV7.ext hU) hV8 (by unfold Fit; decide) hF7 (by unfold Fit; decide) (by omega) (by omega) (by omega) (by decide)).mono ?_
  rintro e w9 ⟨A9, l9, c9, rfl, hV9, hU⟩
  replace hG := hG.trans hU
  replace hV9 := hV9.of_eq (show 3 ^ 4 % 7 = 4 by decide)
  go_wp2_with fail
  refine (least_any _ 4 4 _ hV9 (by unfold Fit; decide) (by omega)).mono ?_
  rintro e w10 ⟨A10, c10, rfl, hl10, hO10, hU⟩
  replace hG := hG.trans hU
  have s10 := nstr_run (c := c10) hO10.sl hl10
  have q10 : ((str (toB 4 (bytelen 4))).toList == [4]) = true := by decide +kernel
  go_wp2_with fail
  go_ret
  exact ⟨rfl, hG⟩
set_option maxRecDepth 100000 in
set_option maxHeartbeats 8000000 in
theorem msums_no (A B D : Option Addr) (n c p d q l n1 p1 q1 x y z : Nat) (w : World)
    (hmin1 : Hid (min (n : Int) 24 = (n1 : Int))) (hn : n ≤ c) (hn1 : n1 ≤ c) (hc : c ≤ 9223372036854775807) (hFx : Fit 12 x) (N1 : Hid (∀ w', Ext w w' → Calls Try.prog 19 #[.slice A n1 c] w' (RetN w' x))) (R1 : Hid (∀ w', Ext w w' → Calls Try.prog 55 #[.slice A n1 c] w' (RetR w' x)))
    (hmin2 : Hid (min (p : Int) 24 = (p1 : Int))) (hp : p ≤ d) (hp1 : p1 ≤ d) (hd : d ≤ 9223372036854775807) (hFy : Fit 12 y) (N2 : Hid (∀ w', Ext w w' → Calls Try.prog 19 #[.slice B p1 d] w' (RetN w' y))) (R2 : Hid (∀ w', Ext w w' → Calls Try.prog 55 #[.slice B p1 d] w' (RetR w' y)))
    (hmin3 : Hid (min (q : Int) 24 = (q1 : Int))) (hq : q ≤ l) (hq1 : q1 ≤ l) (hl : l ≤ 9223372036854775807) (hFz : Fit 12 z) (N3 : Hid (∀ w', Ext w w' → Calls Try.prog 19 #[.slice D q1 l] w' (RetN w' z))) (R3 : Hid (∀ w', Ext w w' → Calls Try.prog 55 #[.slice D q1 l] w' (RetR w' z)))
    (hx : Hid (x < 2)) : Calls Try.prog 12 #[.slice A n c, .slice B p d, .slice D q l] w fun e w' => e = .returned (.bool true) ∧ Ext w w' := by
  have hbx : blen x ≤ 400 := by have := Fit.blen hFx; omega
  have hby : blen y ≤ 400 := by have := Fit.blen hFy; omega
  have hbz : blen z ≤ 400 := by have := Fit.blen hFz; omega
  go_enter Try.func12, Try.ntmps12
  have hG : Ext w w := Upd.refl _ _
  go_wp2_with fail
  refine (mlives_any _).mono ?_
  rintro e w1 ⟨rfl, hU⟩
  replace hG := hG.trans hU
  go_wp2_with fail
  refine (mring_no A n c n1 x _ hmin1.out hn hn1 hc hFx (hide fun w' hu => N1.out w' (hG.trans hu)) (hide fun w' hu => R1.out w' (hG.trans hu)) hx.out).mono ?_
  rintro e w2 ⟨A2, l2, c2, rfl, hR2, hU⟩
  replace hG := hG.trans hU
  go_wp2_with fail
  refine (mnum_any B p d p1 y _ hmin2.out hp hp1 hd hFy (hide fun w' hu => N2.out w' (hG.trans hu)) (hide fun w' hu => R2.out w' (hG.trans hu))).mono ?_
  rintro e w3 ⟨A3, l3, c3, A4, l4, c4, rfl, hV3, hR4, hU⟩
  replace hG := hG.trans hU
  go_wp2_with fail
  refine name_c (fun X hX => ?_)
  have b9 : Box X w3.heap.size 26 (.slice A3 l3 c3) := by rw [hX]; exact Box.new _ _ _
  have h3X : Ext w3 X := by rw [hX]; exact (Upd.refl _ _).alloc _
  have h2X := hU.trans h3X
  replace hV3 := hV3.ext h3X
  replace hR4 := hR4.ext h3X
  replace hG := hG.trans h3X
  clear hX
  refine (mnum_any D q l q1 z _ hmin3.out hq hq1 hl hFz (hide fun w' hu => N3.out w' (hG.trans hu)) (hide fun w' hu => R3.out w' (hG.trans hu))).mono ?_
  rintro e w5 ⟨A5, l5, c5, A6, l6, c6, rfl, hV5, hR6, hU⟩
  replace hG := hG.trans hU
  go_wp2_with fail
  refine name_c (fun Y hY => ?_)
  have b11 : Box Y w5.heap.size 26 (.slice A5 l5 c5) := by rw [hY]; exact Box.new _ _ _
  have h5Y : Ext w5 Y := by rw [hY]; exact (Upd.refl _ _).alloc _
  have h2Y := h2X.trans (hU.trans h5Y)
  replace hV3 := hV3.ext (hU.trans h5Y)
  replace hR4 := hR4.ext (hU.trans h5Y)
  replace b9 := b9.ext (hU.trans h5Y)
  replace hV5 := hV5.ext h5Y
  replace hR6 := hR6.ext h5Y
  have hEY := hG.trans h5Y
  clear hY hG hU h3X h2X h5Y
  replace hR2 := hR2.ext h2Y
  have hG : Ext Y Y := Upd.refl _ _
  refine (rsmall_any 2 _ (by omega)).mono ?_
  rintro e w6 ⟨A7, l7, c7, rfl, hV7, hU⟩
  replace hG := hG.trans hU
  go_wp2_with fail
  refine (rcmp_any _ _ x 2 400 _ (hR2.ext hG) hV7 hbx (by decide) (by omega)).mono ?_
  rintro e w7 ⟨rfl, hU⟩
  replace hG := hG.trans hU
  rw [cmpI_lt hx.out]
  have hs1 : ∀ w, (Instr.sliceAt 22 (.slice A n c) none (some (.int .i64 (n1 : Int))) none).run Try.prog w = .ok (.slice A n1 c) w := fun w => run_cut_h Try.n_el8.under Try.n_sz8 A n c n1 .i64 (by omega) w
  have hm := hmin1.out
  go_wp2_with fail
  refine (N1.out _ (hEY.trans hG)).mono ?_
  rintro e w8 ⟨A8, l8, c8, rfl, hV8, hU⟩
  replace hG := hG.trans hU
  clear hm hs1
  go_wp2_with fail
  refine (mnew_no _ x 12 _ hV8 hFx (by omega) hx.out (by omega)).mono ?_
  rintro e w9 ⟨rfl, hU⟩
  replace hG := hG.trans hU
  have k9 := (b9.ext hG).cell
  go_wp2_with fail
  refine (minv_nil _ y _ (hV3.ext hG)).mono ?_
  rintro e w10 ⟨A10, l10, c10, rfl, hV10, hU⟩
  replace hG := hG.trans hU
  have k9' := ((b9.ext hG).alloc (.cells #[.slice A10 l10 c10] 26)).cell
  go_wp2_with fail
  clear k9 k9'
  refine name_c (fun Z hZ => ?_)
  have hGZ : Ext Y Z := by rw [hZ]; exact hG.alloc _
  clear hZ hG hU
  have hG := hGZ
  refine (mof_nil _ y _ (hV3.ext hG)).mono ?_
  rintro e w11 ⟨A11, l11, c11, rfl, hV11, hU⟩
  replace hG := hG.trans hU
  go_wp2_with fail
  refine (zero_any _ 0 _ hV11).mono ?_
  rintro e w12 ⟨rfl, hU⟩
  replace hG := hG.trans hU
  rw [decide_eq_true rfl]
  go_wp2_with fail
  refine (mmod_nil _).mono ?_
  rintro e w13 ⟨A13, l13, c13, rfl, hV13, hU⟩
  replace hG := hG.trans hU
  go_wp2_with fail
  refine (zero_any _ 0 _ hV13).mono ?_
  rintro e w14 ⟨rfl, hU⟩
  replace hG := hG.trans hU
  rw [decide_eq_true rfl]
  go_wp2_with fail
  go_ret
  exact ⟨rfl, hEY.trans hG⟩
set_option maxRecDepth 100000 in
set_option maxHeartbeats 8000000 in
theorem msums_yes (A B D : Option Addr) (n c p d q l n1 p1 q1 x y z : Nat) (w : World)
    (hmin1 : Hid (min (n : Int) 24 = (n1 : Int))) (hn : n ≤ c) (hn1 : n1 ≤ c) (hc : c ≤ 9223372036854775807) (hFx : Fit 12 x) (N1 : Hid (∀ w', Ext w w' → Calls Try.prog 19 #[.slice A n1 c] w' (RetN w' x))) (R1 : Hid (∀ w', Ext w w' → Calls Try.prog 55 #[.slice A n1 c] w' (RetR w' x)))
    (hmin2 : Hid (min (p : Int) 24 = (p1 : Int))) (hp : p ≤ d) (hp1 : p1 ≤ d) (hd : d ≤ 9223372036854775807) (hFy : Fit 12 y) (N2 : Hid (∀ w', Ext w w' → Calls Try.prog 19 #[.slice B p1 d] w' (RetN w' y))) (R2 : Hid (∀ w', Ext w w' → Calls Try.prog 55 #[.slice B p1 d] w' (RetR w' y)))
    (hmin3 : Hid (min (q : Int) 24 = (q1 : Int))) (hq : q ≤ l) (hq1 : q1 ≤ l) (hl : l ≤ 9223372036854775807) (hFz : Fit 12 z) (N3 : Hid (∀ w', Ext w w' → Calls Try.prog 19 #[.slice D q1 l] w' (RetN w' z))) (R3 : Hid (∀ w', Ext w w' → Calls Try.prog 55 #[.slice D q1 l] w' (RetR w' z)))
    (hx : Hid (2 ≤ x)) : Calls Try.prog 12 #[.slice A n c, .slice B p d, .slice D q l] w fun e w' => e = .returned (.bool true) ∧ Ext w w' := by
  have hbx : blen x ≤ 400 := by have := Fit.blen hFx; omega
  have hby : blen y ≤ 400 := by have := Fit.blen hFy; omega
  have hbz : blen z ≤ 400 := by have := Fit.blen hFz; omega
  go_enter Try.func12, Try.ntmps12
  have hG : Ext w w := Upd.refl _ _
  go_wp2_with fail
  refine (mlives_any _).mono ?_
  rintro e w1 ⟨rfl, hU⟩
  replace hG := hG.trans hU
  go_wp2_with fail
  refine (mring_yes A n c n1 x _ hmin1.out hn hn1 hc hFx (hide fun w' hu => N1.out w' (hG.trans hu)) (hide fun w' hu => R1.out w' (hG.trans hu)) hx.out).mono ?_
  rintro e w2 ⟨g, A2, l2, c2, rfl, hRg, hR2, hU⟩
  replace hG := hG.trans hU
  go_wp2_with fail
  refine (mnum_any B p d p1 y _ hmin2.out hp hp1 hd hFy (hide fun w' hu => N2.out w' (hG.trans hu)) (hide fun w' hu => R2.out w' (hG.trans hu))).mono ?_
  rintro e w3 ⟨A3, l3, c3, A4, l4, c4, rfl, hV3, hR4, hU⟩
  replace hG := hG.trans hU
  go_wp2_with fail
  refine name_c (fun X hX => ?_)
  have b9 : Box X w3.heap.size 26 (.slice A3 l3 c3) := by rw [hX]; exact Box.new _ _ _
  have h3X : Ext w3 X := by rw [hX]; exact (Upd.refl _ _).alloc _
  have h2X := hU.trans h3X
  replace hV3 := hV3.ext h3X
  replace hR4 := hR4.ext h3X
  replace hG := hG.trans h3X
  clear hX
  refine (mnum_any D q l q1 z _ hmin3.out hq hq1 hl hFz (hide fun w' hu => N3.out w' (hG.trans hu)) (hide fun w' hu => R3.out w' (hG.trans hu))).mono ?_
  rintro e w5 ⟨A5, l5, c5, A6, l6, c6, rfl, hV5, hR6, hU⟩
  replace hG := hG.trans hU
  go_wp2_with fail
  refine name_c (fun Y hY => ?_)
  have b11 : Box Y w5.heap.size 26 (.slice A5 l5 c5) := by rw [hY]; exact Box.new _ _ _
  have h5Y : Ext w5 Y := by rw [hY]; exact (Upd.refl _ _).alloc _
  have h2Y := h2X.trans (hU.trans h5Y)
  replace hV3 := hV3.ext (hU.trans h5Y)
  replace hR4 := hR4.ext (hU.trans h5Y)
  replace b9 := b9.ext (hU.trans h5Y)
  replace hV5 := hV5.ext h5Y
  replace hR6 := hR6.ext h5Y
  have hEY := hG.trans h5Y
  clear hY hG hU h3X h2X h5Y
  replace hR2 := hR2.ext h2Y
  replace hRg := hRg.ext h2Y
  have hG : Ext Y Y := Upd.refl _ _
  refine (rsmall_any 2 _ (by omega)).mono ?_
  rintro e w6 ⟨A7, l7, c7, rfl, hV7, hU⟩
  replace hG := hG.trans hU
  go_wp2_with fail
  refine (rcmp_any _ _ x 2 400 _ (hR2.ext hG) hV7 hbx (by decide) (by omega)).mono ?_
  rintro e w7 ⟨rfl, hU⟩
  replace hG := hG.trans hU
  have hcg := cmpI_ge hx.out
  have hx0 : 0 < x := by have := hx.out; omega
  have hFm : ∀ v, Fit 24 (v % x) := fun v => (hFx.le (Nat.le_of_lt (Nat.mod_lt _ hx0))).mono (by omega)
  have hF24 : Fit 24 x := hFx.mono (by omega)
  go_wp2_with fail
  refine (mmod_any g x _ (hRg.ext hG)).mono ?_
  rintro e w8 ⟨A8, l8, c8, rfl, hV8, hU⟩
  replace hG := hG.trans hU
  clear hcg
  go_wp2_with fail
  refine (lsame_any _ _ x x 24 _ hV8 (hR2.ext hG) hF24 hF24 (by omega)).mono ?_
  rintro e w9 ⟨rfl, hU⟩
  replace hG := hG.trans hU
  rw [decide_eq_true rfl]
  -- mof_any _ g y x 12 _ (hRg.ext hG) (hV3.ext hG) hFy hFx (by omega) the program's contract, rmof_any _ _ y x 400 _ (hR4.ext hG) (hR2.ext hG) hby hbx (by omega) hx0 the document's, y % x number, hFm _ its Fit, 20 index
  have k9 := (b9.ext hG).cell
  have k11 := (b11.ext hG).cell
  go_wp2_with fail
  refine (mof_any _ g y x 12 _ (hRg.ext hG) (hV3.ext hG) hFy hFx (by omega)).mono ?_
  rintro e wa20 ⟨A20, l20, c20, rfl, hVa20, hU⟩
  replace hG := hG.trans hU
  go_wp2_with fail
  refine (rmof_any _ _ y x 400 _ (hR4.ext hG) (hR2.ext hG) hby hbx (by omega) hx0).mono ?_
  rintro e wb20 ⟨B20, m20, d20, rfl, hVb20, hU⟩
  replace hG := hG.trans hU
  replace hVa20 := hVa20.ext hU
  go_wp2_with fail
  refine (lsame_any _ _ (y % x) (y % x) 24 _ hVa20 hVb20 (hFm _) (hFm _) (by omega)).mono ?_
  rintro e wc20 ⟨rfl, hU⟩
  replace hG := hG.trans hU
  rw [decide_eq_true rfl]
  clear hVa20 hVb20 k9 k11
  -- madd_any _ _ g y z x 12 _ (hRg.ext hG) (hV3.ext hG) (hV5.ext hG) hFy hFz hFx (by omega) the program's contract, rmadd_any _ _ _ y z x 400 _ (hR4.ext hG) (hR6.ext hG) (hR2.ext hG) hby hbz hbx (by omega) hx0 the document's, (y + z) % x number, hFm _ its Fit, 21 index
  have k9 := (b9.ext hG).cell
  have k11 := (b11.ext hG).cell
  go_wp2_with fail
  refine (madd_any _ _ g y z x 12 _ (hRg.ext hG) (hV3.ext hG) (hV5.ext hG) hFy hFz hFx (by omega)).mono ?_
  rintro e wa21 ⟨A21, l21, c21, rfl, hVa21, hU⟩
  replace hG := hG.trans hU
  go_wp2_with fail
  refine (rmadd_any _ _ _ y z x 400 _ (hR4.ext hG) (hR6.ext hG) (hR2.ext hG) hby hbz hbx (by omega) hx0).mono ?_
  rintro e wb21 ⟨B21, m21, d21, rfl, hVb21, hU⟩
  replace hG := hG.trans hU
  replace hVa21 := hVa21.ext hU
  go_wp2_with fail
  refine (lsame_any _ _ ((y + z) % x) ((y + z) % x) 24 _ hVa21 hVb21 (hFm _) (hFm _) (by omega)).mono ?_
  rintro e wc21 ⟨rfl, hU⟩
  replace hG := hG.trans hU
  rw [decide_eq_true rfl]
  clear hVa21 hVb21 k9 k11
  -- msub_any _ _ g y z x 12 _ (hRg.ext hG) (hV3.ext hG) (hV5.ext hG) hFy hFz hFx (by omega) the program's contract, rmsub_any _ _ _ y z x 400 _ (hR4.ext hG) (hR6.ext hG) (hR2.ext hG) hby hbz hbx (by omega) hx0 the document's, subm y z x number, hFm _ its Fit, 22 index
  have k9 := (b9.ext hG).cell
  have k11 := (b11.ext hG).cell
  go_wp2_with fail
  refine (msub_any _ _ g y z x 12 _ (hRg.ext hG) (hV3.ext hG) (hV5.ext hG) hFy hFz hFx (by omega)).mono ?_
  rintro e wa22 ⟨A22, l22, c22, rfl, hVa22, hU⟩
  replace hG := hG.trans hU
  go_wp2_with fail
  refine (rmsub_any _ _ _ y z x 400 _ (hR4.ext hG) (hR6.ext hG) (hR2.ext hG) hby hbz hbx (by omega) hx0).mono ?_
  rintro e wb22 ⟨B22, m22, d22, rfl, hVb22, hU⟩
  replace hG := hG.trans hU
  replace hVa22 := hVa22.ext hU
  go_wp2_with fail
  refine (lsame_any _ _ (subm y z x) (subm y z x) 24 _ hVa22 hVb22 (hFm _) (hFm _) (by omega)).mono ?_
  rintro e wc22 ⟨rfl, hU⟩
  replace hG := hG.trans hU
  rw [decide_eq_true rfl]
  clear hVa22 hVb22 k9 k11
  -- mmul_any _ _ g y z x 12 _ (hRg.ext hG) (hV3.ext hG) (hV5.ext hG) hFy hFz hFx (by omega) the program's contract, rmmul_any _ _ _ y z x 400 _ (hR4.ext hG) (hR6.ext hG) (hR2.ext hG) hby hbz hbx (by omega) hx0 the document's, (y * z) % x number, hFm _ its Fit, 23 index
  have k9 := (b9.ext hG).cell
  have k11 := (b11.ext hG).cell
  go_wp2_with fail
  refine (mmul_any _ _ g y z x 12 _ (hRg.ext hG) (hV3.ext hG) (hV5.ext hG) hFy hFz hFx (by omega)).mono ?_
  rintro e wa23 ⟨A23, l23, c23, rfl, hVa23, hU⟩
  replace hG := hG.trans hU
  go_wp2_with fail
  refine (rmmul_any _ _ _ y z x 400 _ (hR4.ext hG) (hR6.ext hG) (hR2.ext hG) hby hbz hbx (by omega) hx0).mono ?_
  rintro e wb23 ⟨B23, m23, d23, rfl, hVb23, hU⟩
  replace hG := hG.trans hU
  replace hVa23 := hVa23.ext hU
  go_wp2_with fail
  refine (lsame_any _ _ ((y * z) % x) ((y * z) % x) 24 _ hVa23 hVb23 (hFm _) (hFm _) (by omega)).mono ?_
  rintro e wc23 ⟨rfl, hU⟩
  replace hG := hG.trans hU
  rw [decide_eq_true rfl]
  clear hVa23 hVb23 k9 k11
  go_wp2_with fail
  go_ret
  exact ⟨rfl, hEY.trans hG⟩
theorem msums_any (A B D : Option Addr) (n c p d q l : Nat) (bs cs ds : List (BitVec 8)) (w : World) (h1 : In8 w A n c bs) (h2 : In8 w B p d cs) (h3 : In8 w D q l ds) :
    Calls Try.prog 12 #[.slice A n c, .slice B p d, .slice D q l] w fun e w' => e = .returned (.bool true) ∧ Ext w w' := by
  obtain ⟨n1, x, a1, a2, a3, a4, a5, a6, a7⟩ := in_num2 h1
  obtain ⟨p1, y, b1, b2, b3, b4, b5, b6, b7⟩ := in_num2 h2
  obtain ⟨q1, z, d1, d2, d3, d4, d5, d6, d7⟩ := in_num2 h3
  by_cases hx : x < 2
  · exact msums_no A B D n c p d q l n1 p1 q1 x y z w (hide a1) a2 a3 a4 a5 a6 a7 (hide b1) b2 b3 b4 b5 b6 b7 (hide d1) d2 d3 d4 d5 d6 d7 (hide hx)
  · exact msums_yes A B D n c p d q l n1 p1 q1 x y z w (hide a1) a2 a3 a4 a5 a6 a7 (hide b1) b2 b3 b4 b5 b6 b7 (hide d1) d2 d3 d4 d5 d6 d7 (hide (by omega))
end Go.Proofs.Ytekpjdfgpggcnaa
