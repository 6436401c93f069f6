/- SignExact, walked. -/
import Derived.Test.YtoekbomfepedcaaSgnE
import Derived.Test.YtoekbomfepedcaaSgnR
namespace Go.Proofs.Ytoekbomfepedcaa
set_option linter.unusedSimpArgs false
set_option linter.unusedVariables false
open Go.RowKit
open Nt Sha
attribute [local go_sem] steady steadyUpon Cls same_cell anyW
attribute [local irreducible] wpHead wpTree wpHeadR sum chalOf
theorem GOk.exact_ {P Q G : Nat} (h : GOk P Q G) {x k c : Nat} {msg : List (BitVec 8)} (hc : c < Q) :
    verB P Q G (G ^ x % P) msg (toB c (byteSz Q) ++ toB ((k + c * x % Q) % Q) (byteSz Q)) = decide (chalOf [sgnB, memBy P Q (G ^ k % P), memBy P Q (G ^ x % P), msg] Q = c) := by
  have hs : (k + c * x % Q) % Q < Q := Nat.mod_lt _ (by have := h.sml; omega)
  have ht : (toB c (byteSz Q) ++ toB ((k + c * x % Q) % Q) (byteSz Q)).take (byteSz Q) = toB c (byteSz Q) := by
    rw [List.take_append_of_le_length (by rw [toB_length]; exact Nat.le_refl _), List.take_of_length_le (by rw [toB_length]; exact Nat.le_refl _)]
  have hd : (toB c (byteSz Q) ++ toB ((k + c * x % Q) % Q) (byteSz Q)).drop (byteSz Q) = toB ((k + c * x % Q) % Q) (byteSz Q) := by
    rw [List.drop_append_of_le_length (by rw [toB_length]; exact Nat.le_refl _), List.drop_of_length_le (by rw [toB_length]; exact Nat.le_refl _), List.nil_append]
  have hl : (toB c (byteSz Q) ++ toB ((k + c * x % Q) % Q) (byteSz Q)).length = 2 * byteSz Q := by rw [List.length_append, toB_length, toB_length]; omega
  have ho : G ^ ((k + c * x % Q) % Q) * (G ^ x % P) ^ (Q - c) % P = G ^ k % P := h.open_ (by rw [Nat.mod_mod, Nat.add_mod, Nat.mod_mod, ← Nat.add_mod]) (Nat.le_of_lt hc)
  unfold verB
  rw [ht, hd, ofB_fix hc, ofB_fix hs, h.mem x, decide_eq_true hl, decide_eq_true hc, decide_eq_true hs, ho]
  simp only [Bool.true_and]
set_option maxRecDepth 100000 in
set_option maxHeartbeats 1000000 in
theorem sexact_few (z x k q : Int) (A : Option Addr) (n c : Nat) (w : World) (h : 300 < n) :
    Calls Try.prog 8 #[.int .i64 z, .int .u64 x, .int .u64 k, .int .u64 q, .slice A n c] w fun e w' => e = .returned (.bool true) ∧ Ext w w' := by
  have n1I : (300 : Int) < (n : Int) := by omega
  go_enter Try.func8, Try.ntmps8
  go_wp2_with fail
  refine (slives_any w).mono ?_
  rintro e w1 ⟨rfl, hU1⟩
  go_wp2_with fail
  refine (slives_any w1).mono ?_
  rintro e w2 ⟨rfl, hU2⟩
  have hE := hU1.trans hU2
  go_wp2_with fail
  go_ret
  exact ⟨rfl, hE⟩
set_option maxRecDepth 100000 in
set_option maxHeartbeats 8000000 in
theorem sexact_good (z : Int) (r : Nat) (hr : r < 3) (x k q : Nat) (A : Option Addr) (n c : Nat) (msg : List (BitVec 8)) (w : World) (hnum : ∀ w', Calls Try.prog 76 #[.int .i64 z, .slice none 0 0] w' (RetNums w' r none 0 0))
    (hx64 : x < 18446744073709551616) (hk64 : k < 18446744073709551616) (hq64 : q < 18446744073709551616) (hM : Pt.ok w ⟨A, n, c, msg⟩) (hn : n ≤ 300) :
    Calls Try.prog 8 #[.int .i64 z, .int .u64 (x : Nat), .int .u64 (k : Nat), .int .u64 (q : Nat), .slice A n c] w fun e w' => e = .returned (.bool true) ∧ Ext w w' := by
  -- the numbers of group r, by name
  have Hnum := hide hnum
  have hP : Fit 32 (grP r) := (fit_grP r).mono (by omega)
  have hQ : Fit 32 (grQ r) := (fit_grQ r).mono (by omega)
  have hGf : Fit 32 (grG r) := (fit_grG r).mono (by omega)
  have hHf : Fit 32 (grH r) := (fit_grH r).mono (by omega)
  obtain ⟨P, hPe⟩ : ∃ P, P = grP r := ⟨_, rfl⟩
  obtain ⟨Q, hQe⟩ : ∃ Q, Q = grQ r := ⟨_, rfl⟩
  obtain ⟨G, hGe⟩ : ∃ G, G = grG r := ⟨_, rfl⟩
  have hgok : GOk P Q G := by rw [hPe, hQe, hGe]; exact gok r hr
  have hz128 : byteSz Q ≤ 128 := by rw [hQe]; exact szQ r
  rw [← hPe] at hP
  rw [← hQe] at hQ
  rw [← hGe] at hGf
  have HPe := hide hPe
  have HQe := hide hQe
  have HGe := hide hGe
  have hP2 := hgok.two
  have hQ64 := hgok.sml
  have hPb : blen P ≤ 1024 := Nat.le_trans hP.blen (by omega)
  have hQb : blen Q ≤ 1024 := Nat.le_trans hQ.blen (by omega)
  clear hnum hPe hQe hGe
  have HM := hide hM
  have n1I : ¬ (300 : Int) < (n : Int) := by omega
  have hFx : Fit 32 x := (fit2 hx64).mono (by omega)
  have hFk : Fit 32 k := (fit2 hk64).mono (by omega)
  have hFq : Fit 32 q := (fit2 hq64).mono (by omega)
  clear hM
  go_enter Try.func8, Try.ntmps8
  go_wp2_with fail
  refine (slives_any w).mono ?_
  rintro e w1 ⟨rfl, hU1⟩
  go_wp2_with fail
  refine (ggroup_any z r hr w1 Hnum.out).mono ?_
  rintro e w2 ⟨gr, rfl, hG, hU2⟩
  rw [← HPe.out, ← HQe.out, ← HGe.out] at hG
  have hE2 := hU1.trans hU2
  clear hU1 hU2
  go_wp2_with fail
  refine (gField_any gr P Q G _ _ hG).mono ?_
  rintro e w3 ⟨gq, rfl, hRq, rfl⟩
  go_wp2_with fail
  refine (new_any x _ hx64).mono ?_
  rintro e w4 ⟨A4, l4, c4, rfl, hV4, hU4⟩
  go_wp2_with fail
  refine (mof_any _ gq x Q 32 _ (hRq.ext hU4) hV4 hFx hQ (by omega)).mono ?_
  rintro e w5 ⟨A5, l5, c5, rfl, hV5, hU5⟩
  go_wp2_with fail
  refine (new_any k _ hk64).mono ?_
  rintro e w6 ⟨A6, l6, c6, rfl, hV6, hU6⟩
  have hU456 := (hU4.trans hU5).trans hU6
  go_wp2_with fail
  refine (mof_any _ gq k Q 32 _ (hRq.ext hU456) hV6 hFk hQ (by omega)).mono ?_
  rintro e w7 ⟨A7, l7, c7, rfl, hV7, hU7⟩
  go_wp2_with fail
  refine (new_any q _ hq64).mono ?_
  rintro e w8 ⟨A8, l8, c8, rfl, hV8, hU8⟩
  have hU78 := hU7.trans hU8
  go_wp2_with fail
  refine (mof_any _ gq q Q 32 _ (hRq.ext (hU456.trans hU78)) hV8 hFq hQ (by omega)).mono ?_
  rintro e w9 ⟨A9, l9, c9, rfl, hV9, hU9⟩
  have hxQ : x % Q < Q := Nat.mod_lt _ (by omega)
  have hdQ : k % Q < Q := Nat.mod_lt _ (by omega)
  have haQ : q % Q < Q := Nat.mod_lt _ (by omega)
  obtain ⟨key, hkey⟩ : ∃ a, a = x % Q := ⟨_, rfl⟩
  obtain ⟨dr, hdr⟩ : ∃ b, b = k % Q := ⟨_, rfl⟩
  obtain ⟨ask, hask⟩ : ∃ b, b = q % Q := ⟨_, rfl⟩
  rw [← hkey] at hV5 hxQ
  rw [← hdr] at hV7 hdQ
  rw [← hask] at hV9 haQ
  clear hkey hdr hask hV4 hV6 hV8 hFx hFk hFq
  have hFx : Fit 32 key := hQ.le (Nat.le_of_lt hxQ)
  have hFd : Fit 32 dr := hQ.le (Nat.le_of_lt hdQ)
  have hFa : Fit 32 ask := hQ.le (Nat.le_of_lt haQ)
  have q13 := (((Box.new w9 33 (.slice A5 l5 c5)).alloc (.cells #[.slice A7 l7 c7] 33)).alloc (.cells #[.slice A9 l9 c9] 33)).cell
  go_wp2_with fail
  clear q13
  refine name_c (fun W hW => ?_)
  have b13 : Box W w9.heap.size 33 (.slice A5 l5 c5) := by rw [hW]; exact ((Box.new _ _ _).alloc _).alloc _
  have b14 : Box W (w9.heap.size + 1) 33 (.slice A7 l7 c7) := by rw [hW]; exact (Box.new_at (by simp)).alloc _
  have b15 : Box W (w9.heap.size + 1 + 1) 33 (.slice A9 l9 c9) := by rw [hW]; exact Box.new_at (by simp)
  have hU9W : Ext w9 W := by rw [hW]; exact (((Upd.refl _ _).alloc _).alloc _).alloc _
  have hVx := hV5.ext (((hU6.trans hU78).trans hU9).trans hU9W)
  have hVd := hV7.ext ((hU8.trans hU9).trans hU9W)
  have hVa := hV9.ext hU9W
  have hUW := ((hU456.trans hU78).trans hU9).trans hU9W
  have hEW := hE2.trans hUW
  have hGW := hG.ext hUW
  have hRW := hRq.ext hUW
  clear hW hU4 hU5 hU6 hU7 hU8 hU9 hU456 hU78 hU9W hV5 hV7 hV9 hUW hG hRq hE2
  refine (zero_any _ key _ hVx).mono ?_
  rintro e w10 ⟨rfl, hU10⟩
  by_cases hk0 : key = 0
  case pos =>
    rw [decide_eq_true hk0]
    have hEf := hEW.trans hU10
    go_wp2_with fail
    go_ret
    exact ⟨rfl, hEf⟩
  rw [decide_eq_false hk0]
  go_wp2_with fail
  refine (gref_any gr P Q G _ 32 _ (hGW.ext hU10) hP hQ hGf hHf (by omega)).mono ?_
  rintro e w11 ⟨vg, rfl, hR, hU11⟩
  have hR0 := hR
  obtain ⟨B1, m1, d1, B2, m2, d2, B3, m3, d3, B4, m4, d4, rfl, -⟩ := hR0
  go_wp2_with fail
  refine name_w (fun X hX => ?_)
  have hU11X : Ext w11 X := by rw [hX]; exact (Upd.refl _ _).alloc _
  have hUX : Ext W X := (hU10.trans hU11).trans hU11X
  have b16 : Blk X w11.heap.size 51 #[.slice B1 m1 d1, .slice B2 m2 d2, .slice B3 m3 d3, .slice B4 m4 d4] := by rw [hX]; exact Blk.new _ _ _
  have hRX := hR.ext hU11X
  have b13' := b13.ext hUX
  have b14' := b14.ext hUX
  have b15' := b15.ext hUX
  have hVx' := hVx.ext hUX
  have hVd' := hVd.ext hUX
  have hVa' := hVa.ext hUX
  have hGX := hGW.ext hUX
  have hRqX := hRW.ext hUX
  have hEX := hEW.trans hUX
  clear hX hU10 hU11 hU11X hUX b13 b14 b15 hVx hVd hVa hGW hRW hEW hR
  refine wp_region_fg 6 [.val (.eq (.pointer (some ⟨gr, 0, none⟩))), .val (.eq (.pointer (some ⟨gr, 0, none⟩))), .val (.p (natP (G))), .val (.eq (.agg #[.slice A5 l5 c5])), .val (.p (natP (G ^ key % P))), .new 33 (.slice none 0 0)] [] (by kernel_rfl) rfl (by kernel_rfl) (by kernel_rfl) (by kernel_rfl) ?_ ?_
  · intro i hi
    match i, hi with
    | 0, _ =>
      intro u wx S o ho hE hr hd hw
      injection (ho : some _ = some o) with ho
      subst ho
      have hEx : Ext X wx := hE.undrew
      simp only [fr, dstOf]
      go_simp
      go_wp2
      first | exact ⟨Upd.refl _ _, rfl⟩ | exact ⟨_, rfl, Upd.refl _ _, rfl⟩
    | 1, _ =>
      intro u wx S o ho hE hr hd hw
      injection (ho : some _ = some o) with ho
      subst ho
      have hEx : Ext X wx := hE.undrew
      simp only [fr, dstOf]
      go_simp
      go_wp2
      first | exact ⟨Upd.refl _ _, rfl⟩ | exact ⟨_, rfl, Upd.refl _ _, rfl⟩
    | 2, _ =>
      intro u wx S o ho hE hr hd hw
      injection (ho : some _ = some o) with ho
      subst ho
      have hEx : Ext X wx := hE.undrew
      have f1 : u 1 = .pointer (some ⟨gr, 0, none⟩) := hw 1 (by omega) (by kernel_rfl) (by simp)
      simp only [fr, dstOf]
      go_simp
      go_wp2_with fail
      refine (gG_any gr P Q G _ _ (hGX.ext hEx)).mono ?_
      rintro e wn ⟨A20, l20, c20, rfl, hVn, hU⟩
      go_wp2_with fail
      first | exact ⟨_, rfl, hU.mono (fun _ _ h => h.elim), _, _, _, rfl, hVn⟩ | exact ⟨hU.mono (fun _ _ h => h.elim), _, _, _, rfl, hVn⟩
    | 3, _ =>
      intro u wx S o ho hE hr hd hw
      injection (ho : some _ = some o) with ho
      subst ho
      have hEx : Ext X wx := hE.undrew
      have cx := (b13'.ext hEx).cell
      simp only [fr, dstOf]
      go_simp
      go_wp2
      first | exact ⟨Upd.refl _ _, rfl⟩ | exact ⟨_, rfl, Upd.refl _ _, rfl⟩
    | 4, _ =>
      intro u wx S o ho hE hr hd hw
      injection (ho : some _ = some o) with ho
      subst ho
      have hEx : Ext X wx := hE.undrew
      have f0 : u 0 = .pointer (some ⟨gr, 0, none⟩) := hw 0 (by omega) (by kernel_rfl) (by simp)
      obtain ⟨aA2, aL2, aC2, f2, hV2⟩ : FG.J 2 (.val (.p (natP (G)))) u wx (S 2) := hw 2 (by omega) (by kernel_rfl) (by simp)
      have f3 : u 3 = .agg #[.slice A5 l5 c5] := hw 3 (by omega) (by kernel_rfl) (by simp)
      simp only [fr, dstOf]
      go_simp
      go_wp2_with fail
      refine (gExp_any gr P Q G _ 32 _ _ _ G key 32 (hGX.ext hEx) hV2 (hVx'.ext hEx) hGf hP hFx (by omega) (by omega)).mono ?_
      rintro e wn ⟨A20, l20, c20, rfl, hVn, hU⟩
      go_wp2_with fail
      first | exact ⟨_, rfl, hU.mono (fun _ _ h => h.elim), _, _, _, rfl, hVn⟩ | exact ⟨hU.mono (fun _ _ h => h.elim), _, _, _, rfl, hVn⟩
    | 5, _ =>
      intro u wx S o ho hE hr hd hw
      injection (ho : some _ = some o) with ho
      subst ho
      have hEx : Ext X wx := hE.undrew
      simp only [fr, dstOf]
      go_simp
      go_wp2
      first | exact ⟨(Upd.refl _ _).alloc _, wx.heap.size, rfl, Bx.new _ _ _, ⟨Nat.le_refl _, by first | exact Nat.lt_succ_self _ | simp⟩, fun b hb => by first | omega | (simp at hb; omega)⟩ | exact ⟨_, rfl, (Upd.refl _ _).alloc _, wx.heap.size, rfl, Bx.new _ _ _, ⟨Nat.le_refl _, by first | exact Nat.lt_succ_self _ | simp⟩, fun b hb => by first | omega | (simp at hb; omega)⟩
    | k + 6, h => exact absurd h (by omega)
  · intro u wx S hE hw hrg hdj
    have hEx : Ext X wx := hE.undrew
    have f0 : u 0 = .pointer (some ⟨gr, 0, none⟩) := hw 0 (by omega) (by simp)
    have f1 : u 1 = .pointer (some ⟨gr, 0, none⟩) := hw 1 (by omega) (by simp)
    obtain ⟨aA2, aL2, aC2, f2, hV2⟩ : FG.J 2 (.val (.p (natP (G)))) u wx (S 2) := hw 2 (by omega) (by simp)
    have f3 : u 3 = .agg #[.slice A5 l5 c5] := hw 3 (by omega) (by simp)
    obtain ⟨aA4, aL4, aC4, f4, hV4⟩ : FG.J 4 (.val (.p (natP (G ^ key % P)))) u wx (S 4) := hw 4 (by omega) (by simp)
    obtain ⟨g5, f5, hb5, hs5, hall5⟩ : FG.J 5 (.new 33 (.slice none 0 0)) u wx (S 5) := hw 5 (by omega) (by simp)
    simp only [fr, dstOf]
    go_simp
    have cg5 := hb5.cell
    have fg5 := hb5.frozen
    have hXg : X.heap.size ≤ g5 := (hrg 5 g5 hs5).1
    obtain ⟨y, hy⟩ : ∃ y, y = G ^ key % P := ⟨_, rfl⟩
    rw [← hy] at hV4
    have Hy := hide hy
    have hFy : Fit 32 y := by rw [hy]; exact hP.le (Nat.le_of_lt (Nat.mod_lt _ (by omega)))
    have hmy : memB P Q y = true := by rw [hy]; exact hgok.mem key
    have hVy := hV4.far (v := .slice aA4 aL4 aC4) cg5
    have hXY : Ext X (wx.setCell ⟨g5, 0, none⟩ (.slice aA4 aL4 aC4)) := hEx.setCell (p := ⟨g5, 0, none⟩) (.inr hXg) _
    have b17 : Box (wx.setCell ⟨g5, 0, none⟩ (.slice aA4 aL4 aC4)) g5 33 (.slice aA4 aL4 aC4) := Box.set (Box.bx hb5) _
    clear hw hrg hdj hs5 hall5 hb5 hV4 hV2 hy hXg
    go_wp2_with fail
    refine name_w (fun Y hY => ?_)
    rw [← hY] at hVy hXY b17
    clear hY cg5 fg5 hEx f0 f1 f2 f3 f4 f5
    have b13 := b13'.ext hXY
    have b14 := b14'.ext hXY
    have b15 := b15'.ext hXY
    have b16' := b16.ext hXY
    have hVx := hVx'.ext hXY
    have hVd := hVd'.ext hXY
    have hVa := hVa'.ext hXY
    have hGY := hGX.ext hXY
    have hRqY := hRqX.ext hXY
    have hRY := hRX.ext hXY
    have hEY := hEX.trans hXY
    clear hXY b13' b14' b15' b16 hVx' hVd' hVa' hGX hRqX hRX hEX
    have hFm : Fit 32 (ask * key % Q) := hQ.le (Nat.le_of_lt (Nat.mod_lt _ (by omega)))
    have hssQ : (dr + ask * key % Q) % Q < Q := Nat.mod_lt _ (by omega)
    obtain ⟨ss, hss⟩ : ∃ ss, ss = (dr + ask * key % Q) % Q := ⟨_, rfl⟩
    rw [← hss] at hssQ
    have Hss := hide hss
    have hFs : Fit 32 ss := hQ.le (Nat.le_of_lt hssQ)
    clear hss
    refine wp_region_fg 8 [.val (.eq (.pointer (some ⟨gq, 0, none⟩))), .val (.eq (.agg #[.slice A7 l7 c7])), .val (.eq (.pointer (some ⟨gq, 0, none⟩))), .val (.eq (.agg #[.slice A9 l9 c9])), .val (.eq (.agg #[.slice A5 l5 c5])), .val (.p (natP (ask * key % Q))), .val (.p (natP (ss))), .new 33 (.slice none 0 0)] [] (by kernel_rfl) rfl (by kernel_rfl) (by kernel_rfl) (by kernel_rfl) ?_ ?_
    · intro i hi
      match i, hi with
      | 0, _ =>
        intro u wx S o ho hE hr hd hw
        injection (ho : some _ = some o) with ho
        subst ho
        have hEx : Ext Y wx := hE.undrew
        simp only [fr, dstOf]
        go_simp
        go_wp2
        first | exact ⟨Upd.refl _ _, rfl⟩ | exact ⟨_, rfl, Upd.refl _ _, rfl⟩
      | 1, _ =>
        intro u wx S o ho hE hr hd hw
        injection (ho : some _ = some o) with ho
        subst ho
        have hEx : Ext Y wx := hE.undrew
        have cx := (b14.ext hEx).cell
        simp only [fr, dstOf]
        go_simp
        go_wp2
        first | exact ⟨Upd.refl _ _, rfl⟩ | exact ⟨_, rfl, Upd.refl _ _, rfl⟩
      | 2, _ =>
        intro u wx S o ho hE hr hd hw
        injection (ho : some _ = some o) with ho
        subst ho
        have hEx : Ext Y wx := hE.undrew
        simp only [fr, dstOf]
        go_simp
        go_wp2
        first | exact ⟨Upd.refl _ _, rfl⟩ | exact ⟨_, rfl, Upd.refl _ _, rfl⟩
      | 3, _ =>
        intro u wx S o ho hE hr hd hw
        injection (ho : some _ = some o) with ho
        subst ho
        have hEx : Ext Y wx := hE.undrew
        have cx := (b15.ext hEx).cell
        simp only [fr, dstOf]
        go_simp
        go_wp2
        first | exact ⟨Upd.refl _ _, rfl⟩ | exact ⟨_, rfl, Upd.refl _ _, rfl⟩
      | 4, _ =>
        intro u wx S o ho hE hr hd hw
        injection (ho : some _ = some o) with ho
        subst ho
        have hEx : Ext Y wx := hE.undrew
        have cx := (b13.ext hEx).cell
        simp only [fr, dstOf]
        go_simp
        go_wp2
        first | exact ⟨Upd.refl _ _, rfl⟩ | exact ⟨_, rfl, Upd.refl _ _, rfl⟩
      | 5, _ =>
        intro u wx S o ho hE hr hd hw
        injection (ho : some _ = some o) with ho
        subst ho
        have hEx : Ext Y wx := hE.undrew
        have f2 : u 2 = .pointer (some ⟨gq, 0, none⟩) := hw 2 (by omega) (by kernel_rfl) (by simp)
        have f3 : u 3 = .agg #[.slice A9 l9 c9] := hw 3 (by omega) (by kernel_rfl) (by simp)
        have f4 : u 4 = .agg #[.slice A5 l5 c5] := hw 4 (by omega) (by kernel_rfl) (by simp)
        simp only [fr, dstOf]
        go_simp
        go_wp2_with fail
        refine (mmul_any _ _ gq ask key Q 32 _ (hRqY.ext hEx) (hVa.ext hEx) (hVx.ext hEx) hFa hFx hQ (by omega)).mono ?_
        rintro e wn ⟨A20, l20, c20, rfl, hVn, hU⟩
        go_wp2_with fail
        first | exact ⟨_, rfl, hU.mono (fun _ _ h => h.elim), _, _, _, rfl, hVn⟩ | exact ⟨hU.mono (fun _ _ h => h.elim), _, _, _, rfl, hVn⟩
      | 6, _ =>
        intro u wx S o ho hE hr hd hw
        injection (ho : some _ = some o) with ho
        subst ho
        have hEx : Ext Y wx := hE.undrew
        have f0 : u 0 = .pointer (some ⟨gq, 0, none⟩) := hw 0 (by omega) (by kernel_rfl) (by simp)
        have f1 : u 1 = .agg #[.slice A7 l7 c7] := hw 1 (by omega) (by kernel_rfl) (by simp)
        obtain ⟨aA5, aL5, aC5, f5, hV5⟩ : FG.J 5 (.val (.p (natP (ask * key % Q)))) u wx (S 5) := hw 5 (by omega) (by kernel_rfl) (by simp)
        simp only [fr, dstOf]
        go_simp
        go_wp2_with fail
        refine (madd_any _ _ gq dr (ask * key % Q) Q 32 _ (hRqY.ext hEx) (hVd.ext hEx) hV5 hFd hFm hQ (by omega)).mono ?_
        rintro e wn ⟨A20, l20, c20, rfl, hVn, hU⟩
        go_wp2_with fail
        first | exact ⟨_, rfl, hU.mono (fun _ _ h => h.elim), _, _, _, rfl, (by rw [Hss.out]; exact hVn)⟩ | exact ⟨hU.mono (fun _ _ h => h.elim), _, _, _, rfl, (by rw [Hss.out]; exact hVn)⟩
      | 7, _ =>
        intro u wx S o ho hE hr hd hw
        injection (ho : some _ = some o) with ho
        subst ho
        have hEx : Ext Y wx := hE.undrew
        simp only [fr, dstOf]
        go_simp
        go_wp2
        first | exact ⟨(Upd.refl _ _).alloc _, wx.heap.size, rfl, Bx.new _ _ _, ⟨Nat.le_refl _, by first | exact Nat.lt_succ_self _ | simp⟩, fun b hb => by first | omega | (simp at hb; omega)⟩ | exact ⟨_, rfl, (Upd.refl _ _).alloc _, wx.heap.size, rfl, Bx.new _ _ _, ⟨Nat.le_refl _, by first | exact Nat.lt_succ_self _ | simp⟩, fun b hb => by first | omega | (simp at hb; omega)⟩
      | k + 8, h => exact absurd h (by omega)
    · intro u wx S hE hw hrg hdj
      have hEx : Ext Y wx := hE.undrew
      have f0 : u 0 = .pointer (some ⟨gq, 0, none⟩) := hw 0 (by omega) (by simp)
      have f1 : u 1 = .agg #[.slice A7 l7 c7] := hw 1 (by omega) (by simp)
      have f2 : u 2 = .pointer (some ⟨gq, 0, none⟩) := hw 2 (by omega) (by simp)
      have f3 : u 3 = .agg #[.slice A9 l9 c9] := hw 3 (by omega) (by simp)
      have f4 : u 4 = .agg #[.slice A5 l5 c5] := hw 4 (by omega) (by simp)
      obtain ⟨aA5, aL5, aC5, f5, hV5⟩ : FG.J 5 (.val (.p (natP (ask * key % Q)))) u wx (S 5) := hw 5 (by omega) (by simp)
      obtain ⟨aA6, aL6, aC6, f6, hV6⟩ : FG.J 6 (.val (.p (natP (ss)))) u wx (S 6) := hw 6 (by omega) (by simp)
      obtain ⟨g7, f7, hb7, hs7, hall7⟩ : FG.J 7 (.new 33 (.slice none 0 0)) u wx (S 7) := hw 7 (by omega) (by simp)
      simp only [fr, dstOf]
      go_simp
      have cg7 := hb7.cell
      have fg7 := hb7.frozen
      have hYg : Y.heap.size ≤ g7 := (hrg 7 g7 hs7).1
      have hVs := hV6.far (v := .slice aA6 aL6 aC6) cg7
      have hYZ : Ext Y (wx.setCell ⟨g7, 0, none⟩ (.slice aA6 aL6 aC6)) := hEx.setCell (p := ⟨g7, 0, none⟩) (.inr hYg) _
      have b18 : Box (wx.setCell ⟨g7, 0, none⟩ (.slice aA6 aL6 aC6)) g7 33 (.slice aA6 aL6 aC6) := Box.set (Box.bx hb7) _
      clear hw hrg hdj hs7 hall7 hb7 hV6 hV5 hYg
      go_wp2_with fail
      refine name_w (fun Z hZ => ?_)
      rw [← hZ] at hVs hYZ b18
      clear hZ cg7 fg7 hEx f0 f1 f2 f3 f4 f5 f6 f7
      have b14' := b14.ext hYZ
      have b15' := b15.ext hYZ
      have b16 := b16'.ext hYZ
      have b17' := b17.ext hYZ
      have hVd' := hVd.ext hYZ
      have hVa' := hVa.ext hYZ
      have hVy' := hVy.ext hYZ
      have hGZ := hGY.ext hYZ
      have hRZ := hRY.ext hYZ
      have hEZ := hEY.trans hYZ
      clear hYZ b13 b14 b15 b16' b17 hVx hVd hVa hVy hGY hRqY hRY hEY hFm
      have hZd : Ext Z Z.drew := (Upd.refl _ _).drew
      have y0 := fun y : Wd (Ext Z.drew) => y.ok.cellv ((b16.ext hZd).at 0 rfl)
      have y1 := fun y : Wd (Ext Z.drew) => y.ok.cellv ((b16.ext hZd).at 1 rfl)
      have y2 := fun y : Wd (Ext Z.drew) => y.ok.cellv ((b16.ext hZd).at 2 rfl)
      have y3 := fun y : Wd (Ext Z.drew) => y.ok.cellv ((b16.ext hZd).at 3 rfl)
      have y4 := fun y : Wd (Ext Z.drew) => y.ok.cellv b15'.drew.cell
      have y5 := fun y : Wd (Ext Z.drew) => y.ok.cellv b18.drew.cell
      have hba : bytelen ask ≤ byteSz Q := byteSz_mono (Nat.le_of_lt haQ)
      have hbs : bytelen ss ≤ byteSz Q := byteSz_mono (Nat.le_of_lt hssQ)
      have hfa : blen ask ≤ 1000000 := Nat.le_trans hFa.blen (by omega)
      have hfs : blen ss ≤ 1000000 := Nat.le_trans hFs.blen (by omega)
      obtain ⟨z8, hz8⟩ : ∃ z, z = byteSz Q := ⟨_, rfl⟩
      have Hz8 := hide hz8
      have hz8m : z8 ≤ 128 := by omega
      clear hz8
      refine wp_region_plan (Ext _) 7 [(false,0), (false,1), (false,4), (false,5), (true,2), (true,3), (true,6)] (by kernel_rfl) (by kernel_rfl) (Upd.refl _ _) (fun hne => ?_)
      repeat (refine head_q rfl (fun K hK => ?_); have hK2 := hide hK; clear hK; go_simp; refine hK2.out _ ?_; clear hK2 K)
      refine head_l rfl ?_
      go_wp2_with (go_at_call 44; go_must (refine (gnum_any _ ask 32 _ (hVa'.ext hZd) hFa (by omega)).mono ?_); rintro e u1 ⟨A21, l21, c21, rfl, hR21, hu1⟩)
      refine ⟨Cls (Ext _), fun _ h => h, ⟨⟨_, hu1⟩, rfl⟩, ?_⟩
      repeat (refine head_q rfl (fun K hK => ?_); have hK2 := hide hK; clear hK; go_simp; refine hK2.out _ ?_; clear hK2 K)
      refine head_l rfl ?_
      go_wp2_with (go_at_call 43; go_must (refine (rfixed_any _ _ P Q G _ _ ask (hRZ.ext (hZd.trans hu1)) hR21 (by omega) hfa hba).mono ?_); rw [← Hz8.out]; rintro e u2 ⟨A22, c22, rfl, hO22, hu2⟩; have hu2g := hu1.trans hu2)
      refine ⟨Cls (Ext _), fun _ h => h, ⟨⟨_, hu2g⟩, rfl⟩, ?_⟩
      repeat (refine head_q rfl (fun K hK => ?_); have hK2 := hide hK; clear hK; go_simp; refine hK2.out _ ?_; clear hK2 K)
      refine head_l rfl ?_
      go_wp2_with (go_at_call 44; go_must (refine (gnum_any _ ss 32 _ (hVs.ext (hZd.trans hu2g)) hFs (by omega)).mono ?_); rintro e u3 ⟨A23, l23, c23, rfl, hR23, hu3⟩; have hu3g := hu2g.trans hu3)
      refine ⟨Cls (Ext _), fun _ h => h, ⟨⟨_, hu3g⟩, rfl⟩, ?_⟩
      repeat (refine head_q rfl (fun K hK => ?_); have hK2 := hide hK; clear hK; go_simp; refine hK2.out _ ?_; clear hK2 K)
      clear y0 y1 y2 y3 y4 y5
      refine head_nil ?_
      try simp only [List.drop_succ_cons, List.drop_zero]
      go_wp2_with fail
      refine (rfixed_any _ _ P Q G _ _ ss (hRZ.ext (hZd.trans hu3g)) hR23 (by omega) hfs hbs).mono ?_
      rw [← Hz8.out]
      rintro e u4 ⟨A24, c24, rfl, hO24, hu4⟩
      have hl22 : (toB ask z8).length = z8 := toB_length _ _
      have hl24 : (toB ss z8).length = z8 := toB_length _ _
      have hO22' := hO22.ext (hu3.trans hu4)
      have hu4g := hu3g.trans hu4
      have hZ4 := hZd.trans hu4g
      obtain ⟨N, hN⟩ : ∃ N, N = z8 + z8 := ⟨_, rfl⟩
      have hlN : (toB ask z8 ++ toB ss z8).length = N := by rw [List.length_append, hl22, hl24, hN]
      have Hl22 := hide hl22
      have Hl24 := hide hl24
      have HlN := hide hlN
      have hNm : N ≤ 1000 := by omega
      have hO22b := hO22'.mono (B' := Z.heap.size) (Nat.le_trans hZd.size hu1.size)
      clear hl22 hl24 hlN hN hO22 hO22' hu2 hu3 hR21 hR23
      go_wp2_with (at_builtin; go_must (refine wpList_apd by8 one8 Try.el8 (toB ask z8) (toB ss z8) (toB ask z8 ++ toB ss z8) N rfl HlN.out (by omega) (by unfold maxLen; omega) rfl rfl rfl Hl22.out hO22b rfl Hl24.out hO24.sl hZ4.size ?_); intro A25 c25 u5 hO25 hU25 hin25)
      have hZ5 : Ext Z u5 := upd_new hU25 hZ4 (fun q hq => (hO22b.in_ hq).1)
      have hpsig := hide (Own.pt hO25 HlN.out)
      have b14 := b14'.ext hZ5
      have b15 := b15'.ext hZ5
      have b16' := b16.ext hZ5
      have b17 := b17'.ext hZ5
      have hVd := hVd'.ext hZ5
      have hVa := hVa'.ext hZ5
      have hVy := hVy'.ext hZ5
      have hG5 := hGZ.ext hZ5
      have hR5 := hRZ.ext hZ5
      have hE5 := hEZ.trans hZ5
      clear hZ5 hO25 hU25 hin25 hO22b hO24 hZ4 hu1 hu2g hu3g hu4 hu4g hZd b14' b15' b16 b17' b18 hVd' hVa' hVy' hVs hGZ hRZ hEZ
      refine name_w (fun T hT => ?_)
      subst hT
      have hTd : Ext T T.drew := (Upd.refl _ _).drew
      have hED := hE5.trans hTd
      have y0 := fun y : Wd (Ext T.drew) => y.ok.cellv ((b16'.ext hTd).at 0 rfl)
      have y1 := fun y : Wd (Ext T.drew) => y.ok.cellv ((b16'.ext hTd).at 1 rfl)
      have y2 := fun y : Wd (Ext T.drew) => y.ok.cellv ((b16'.ext hTd).at 2 rfl)
      have y3 := fun y : Wd (Ext T.drew) => y.ok.cellv ((b16'.ext hTd).at 3 rfl)
      have y4 := fun y : Wd (Ext T.drew) => y.ok.cellv b14.drew.cell
      have y5 := fun y : Wd (Ext T.drew) => y.ok.cellv b17.drew.cell
      obtain ⟨u, hu⟩ : ∃ u, u = G ^ dr % P := ⟨_, rfl⟩
      have hFu : Fit 32 u := by rw [hu]; exact hP.le (Nat.le_of_lt (Nat.mod_lt _ (by omega)))
      have hmu : memB P Q u = true := by rw [hu]; exact hgok.mem dr
      obtain ⟨want, hwant⟩ : ∃ x, x = chalOf [sgnB, memBy P Q u, memBy P Q y, msg] Q := ⟨_, rfl⟩
      have hwQ : want < Q := by rw [hwant]; exact chalOf_lt (by omega)
      have hFw : Fit 32 want := hQ.le (Nat.le_of_lt hwQ)
      have hver : verB P Q G y msg (toB ask z8 ++ toB ss z8) = decide (want = ask) := by
        rw [Hy.out, Hz8.out, Hss.out, hgok.exact_ haQ, hwant, hu, Hy.out]
      have Hu := hide hu
      have Hw := hide hwant
      have Hver := hide hver
      have Hmu := hide hmu
      have Hmy := hide hmy
      clear hu hwant hver hmu hmy
      refine wp_region_plan (Ext _) 10 [(false,0), (false,1), (false,2), (false,4), (false,7), (false,9), (true,3), (true,5), (true,6), (true,8)] (by kernel_rfl) (by kernel_rfl) (Upd.refl _ _) (fun hne => ?_)
      repeat (refine head_q rfl (fun K hK => ?_); have hK2 := hide hK; clear hK; go_simp; refine hK2.out _ ?_; clear hK2 K)
      refine head_l rfl ?_
      go_wp2_with (go_at_call 18; go_must (refine (gG_any gr P Q G _ _ (hG5.ext hTd)).mono ?_); rintro e v1 ⟨A26, l26, c26, rfl, hV26, hv1⟩)
      refine ⟨Cls (Ext _), fun _ h => h, ⟨⟨_, hv1⟩, rfl⟩, ?_⟩
      repeat (refine head_q rfl (fun K hK => ?_); have hK2 := hide hK; clear hK; go_simp; refine hK2.out _ ?_; clear hK2 K)
      refine head_l rfl ?_
      go_wp2_with (go_at_call 26; go_must (refine (gExp_any gr P Q G _ 32 _ _ _ G dr 32 (hG5.ext (hTd.trans hv1)) hV26 (hVd.ext (hTd.trans hv1)) hGf hP hFd (by omega) (by omega)).mono ?_); rw [← Hu.out]; rintro e v2 ⟨A27, l27, c27, rfl, hV27, hv2⟩; replace hv2 := hv1.trans hv2)
      refine ⟨Cls (Ext _), fun _ h => h, ⟨⟨_, hv2⟩, rfl⟩, ?_⟩
      repeat (refine head_q rfl (fun K hK => ?_); have hK2 := hide hK; clear hK; go_simp; refine hK2.out _ ?_; clear hK2 K)
      refine head_l rfl ?_
      go_wp2_with (go_at_call 44; go_must (refine (gnum_any _ u 32 _ hV27 hFu (by omega)).mono ?_); rintro e v3 ⟨A28, l28, c28, rfl, hR28, hv3⟩; replace hv3 := hv2.trans hv3)
      refine ⟨Cls (Ext _), fun _ h => h, ⟨⟨_, hv3⟩, rfl⟩, ?_⟩
      repeat (refine head_q rfl (fun K hK => ?_); have hK2 := hide hK; clear hK; go_simp; refine hK2.out _ ?_; clear hK2 K)
      refine head_l rfl ?_
      go_wp2_with (go_at_call 44; go_must (refine (gnum_any _ y 32 _ (hVy.ext (hTd.trans hv3)) hFy (by omega)).mono ?_); rintro e v4 ⟨A29, l29, c29, rfl, hR29, hv4⟩; have hv4g := hv3.trans hv4)
      refine ⟨Cls (Ext _), fun _ h => h, ⟨⟨_, hv4g⟩, rfl⟩, ?_⟩
      repeat (refine head_q rfl (fun K hK => ?_); have hK2 := hide hK; clear hK; go_simp; refine hK2.out _ ?_; clear hK2 K)
      clear y0 y1 y2 y3 y4 y5
      refine head_nil ?_
      try simp only [List.drop_succ_cons, List.drop_zero]
      go_wp2_with fail
      refine (rschal_any 1024 _ _ P Q G _ _ _ u y A n c msg (hR5.ext (hTd.trans hv4g)) (hR28.ext hv4) hR29 (HM.out.ext (hED.trans hv4g)) Hmu.out Hmy.out (by omega) (by omega) (by omega) (by omega) (by omega) (by omega)).mono ?_
      rw [← Hw.out]
      rintro e v5 ⟨A30, l30, c30, rfl, hR30, hv5⟩
      have hT5 := hTd.trans (hv4g.trans hv5)
      have b15' := b15.ext hT5
      have b17' := b17.ext hT5
      have hVa' := hVa.ext hT5
      have hVy' := hVy.ext hT5
      have hG6 := hG5.ext hT5
      have hE6 := hE5.trans hT5
      have hps6 := hpsig.out.2.2.2.ext hT5
      clear hV26 hV27 hR28 hR29 hv1 hv2 hv3 hv4 hv4g hv5 hTd hED b14 b15 b16' b17 hVd hVa hVy hG5 hR5 hE5 hT5
      go_wp2_with fail
      refine name_w (fun T hT => ?_)
      subst hT
      have hTd : Ext T T.drew := (Upd.refl _ _).drew
      have hED := hE6.trans hTd
      have y0 := fun y : Wd (Ext T.drew) => y.ok.cellv b17'.drew.cell
      have y1 := fun y : Wd (Ext T.drew) => y.ok.cellv b15'.drew.cell
      obtain ⟨tv, htv⟩ : ∃ t, t = decide (want = ask) := ⟨_, rfl⟩
      obtain ⟨cx, hcx, hcx0⟩ : ∃ x, cmpI want ask = x ∧ (x == 0) = tv := ⟨_, rfl, by rw [htv]; exact cmpI_eq0 want ask⟩
      have Htv := hide htv
      clear htv
      refine wp_region_plan (Ext _) 8 [(false,0), (false,1), (false,2), (false,3), (false,5), (false,6), (true,4), (true,7)] (by kernel_rfl) (by kernel_rfl) (Upd.refl _ _) (fun hne => ?_)
      repeat (refine head_q rfl (fun K hK => ?_); have hK2 := hide hK; clear hK; go_simp; refine hK2.out _ ?_; clear hK2 K)
      refine head_l rfl ?_
      go_wp2_with (go_at_call 40; go_must (refine (sver_any gr P Q G _ 32 _ _ y A A25 n c N c25 msg (toB ask z8 ++ toB ss z8) (hG6.ext hTd) (hVy'.ext hTd) (HM.out.ext hED) ⟨hps6.ext hTd, hpsig.out.1, hpsig.out.2.1, hpsig.out.2.2.1⟩ hFy hQ hP hGf (by omega) (by omega) hz128 (by omega) hP2).mono ?_); rw [Hver.out, ← Htv.out]; rintro e v1 ⟨rfl, hv1⟩)
      refine ⟨Cls (Ext _), fun _ h => h, ⟨⟨_, hv1⟩, rfl⟩, ?_⟩
      repeat (refine head_q rfl (fun K hK => ?_); have hK2 := hide hK; clear hK; go_simp; refine hK2.out _ ?_; clear hK2 K)
      refine head_l rfl ?_
      go_wp2_with (go_at_call 44; go_must (refine (gnum_any _ ask 32 _ (hVa'.ext (hTd.trans hv1)) hFa (by omega)).mono ?_); rintro e v2 ⟨A31, l31, c31, rfl, hR31, hv2⟩; replace hv2 := hv1.trans hv2)
      refine ⟨Cls (Ext _), fun _ h => h, ⟨⟨_, hv2⟩, rfl⟩, ?_⟩
      repeat (refine head_q rfl (fun K hK => ?_); have hK2 := hide hK; clear hK; go_simp; refine hK2.out _ ?_; clear hK2 K)
      clear y0 y1
      refine head_nil ?_
      try simp only [List.drop_succ_cons, List.drop_zero]
      go_wp2_with fail
      refine (rcmp_any _ _ want ask 1024 _ (hR30.ext (hTd.trans hv2)) hR31 (Nat.le_trans hFw.blen (by omega)) (Nat.le_trans hFa.blen (by omega)) (by omega)).mono ?_
      rw [hcx]
      rintro e v3 ⟨rfl, hv3⟩
      have hEf := (hED.trans hv2).trans hv3
      go_wp2_with fail
      go_ret
      exact ⟨rfl, hEf⟩
theorem sexact_any (z : Int) (x k q : Nat) (A : Option Addr) (n c : Nat) (msg : List (BitVec 8)) (w : World) (hx64 : x < 18446744073709551616) (hk64 : k < 18446744073709551616) (hq64 : q < 18446744073709551616) (hM : Pt.ok w ⟨A, n, c, msg⟩) :
    Calls Try.prog 8 #[.int .i64 z, .int .u64 (x : Nat), .int .u64 (k : Nat), .int .u64 (q : Nat), .slice A n c] w fun e w' => e = .returned (.bool true) ∧ Ext w w' := by
  by_cases hn : n ≤ 300
  · obtain ⟨r, hr, hnum⟩ := gnums_any z
    exact sexact_good z r hr x k q A n c msg w (fun w' => hnum none 0 0 w') hx64 hk64 hq64 hM hn
  · exact sexact_few z x k q A n c w (by omega)
end Go.Proofs.Ytoekbomfepedcaa
