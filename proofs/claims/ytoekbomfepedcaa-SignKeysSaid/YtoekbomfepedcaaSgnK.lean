/- SignKeys, walked. -/
import Derived.Test.YtoekbomfepedcaaSgnL
namespace Go.Proofs.Ytoekbomfepedcaa
set_option linter.unusedSimpArgs false
set_option linter.unusedVariables false
open Go.RowKit
open Nt Sha
attribute [local go_sem] steady steadyUpon Cls same_cell anyW
attribute [local irreducible] wpHead wpTree wpHeadR sum chalOf
def pubE (Q x : Nat) : Int := if x = 0 ∨ Q ≤ x then 1 else 0
def pubN (P Q G x : Nat) : Nat := if x = 0 ∨ Q ≤ x then 0 else G ^ x % P
theorem spub_gen (gr P Q G H k : Nat) (w : World) (va : Value) (x : Nat) (h : GrpV w gr P Q G H) (hV : NatV w va x) (hF : Fit k x) (hQ : Fit k Q) (hP : Fit k P) (hGf : Fit k G) (hk : k ≤ 50000) :
    Calls Try.prog 39 #[.pointer (some ⟨gr, 0, none⟩), va] w (RetE w (pubN P Q G x) (pubE Q x)) := by
  by_cases hx : x = 0 ∨ Q ≤ x
  · have := spub_no gr P Q G H k w va x h hV hF hQ hk hx
    unfold pubN pubE; rw [if_pos hx, if_pos hx]; exact this
  · have := spub_any gr P Q G H k w va x h hV hF hQ hP hGf hk (by omega) (by omega)
    unfold pubN pubE; rw [if_neg hx, if_neg hx]; exact this
theorem pubE_one {Q x : Nat} (h : x = 0) : pubE Q x = 1 := by unfold pubE; rw [if_pos (.inl h)]
theorem pubE_ok {Q x : Nat} (h : x ≠ 0) (hx : x < Q) : pubE Q x = 0 := by unfold pubE; rw [if_neg (by omega)]
theorem pubN_ok {P Q G x : Nat} (h : x ≠ 0) (hx : x < Q) : pubN P Q G x = G ^ x % P := by unfold pubN; rw [if_neg (by omega)]
set_option maxRecDepth 100000 in
set_option maxHeartbeats 8000000 in
theorem skeys_good (z : Int) (r : Nat) (hr : r < 3) (x y : Nat) (w : World) (hnum : ∀ w', Calls Try.prog 76 #[.int .i64 z, .slice none 0 0] w' (RetNums w' r none 0 0))
    (hx64 : x < 18446744073709551616) (hy64 : y < 18446744073709551616) :
    Calls Try.prog 7 #[.int .i64 z, .int .u64 (x : Nat), .int .u64 (y : Nat)] w fun e w' => e = .returned (.bool true) ∧ Ext w w' := by
  have Hnum := hide hnum
  have hP : Fit 32 (grP r) := (fit_grP r).mono (by omega)
  have hQ : Fit 32 (grQ r) := (fit_grQ r).mono (by omega)
  have hGf : Fit 32 (grG r) := (fit_grG r).mono (by omega)
  obtain ⟨P, hPe⟩ : ∃ P, P = grP r := ⟨_, rfl⟩
  obtain ⟨Q, hQe⟩ : ∃ Q, Q = grQ r := ⟨_, rfl⟩
  obtain ⟨G, hGe⟩ : ∃ G, G = grG r := ⟨_, rfl⟩
  have hgok : GOk P Q G := by rw [hPe, hQe, hGe]; exact gok r hr
  rw [← hPe] at hP
  rw [← hQe] at hQ
  rw [← hGe] at hGf
  have HPe := hide hPe
  have HQe := hide hQe
  have HGe := hide hGe
  have hP2 := hgok.two
  have hQ64 := hgok.sml
  have hFx : Fit 32 x := (fit2 hx64).mono (by omega)
  have hFy : Fit 32 y := (fit2 hy64).mono (by omega)
  clear hnum hPe hQe hGe
  go_enter Try.func7, Try.ntmps7
  go_wp2_with fail
  refine (slives_any w).mono ?_
  rintro e w1 ⟨rfl, hU1⟩
  go_wp2_with fail
  refine (ggroup_any z r hr w1 Hnum.out).mono ?_
  rintro e w2 ⟨gr, rfl, hG, hU2⟩
  rw [← HPe.out, ← HQe.out, ← HGe.out] at hG
  have hE2 := hU1.trans hU2
  clear hU1 hU2
  go_wp2_with fail
  refine (gField_any gr P Q G _ _ hG).mono ?_
  rintro e w3 ⟨gq, rfl, hRq, rfl⟩
  go_wp2_with fail
  refine (new_any x _ hx64).mono ?_
  rintro e w4 ⟨A4, l4, c4, rfl, hV4, hU4⟩
  go_wp2_with fail
  refine (mof_any _ gq x Q 32 _ (hRq.ext hU4) hV4 hFx hQ (by omega)).mono ?_
  rintro e w5 ⟨A5, l5, c5, rfl, hV5, hU5⟩
  go_wp2_with fail
  refine (new_any y _ hy64).mono ?_
  rintro e w6 ⟨A6, l6, c6, rfl, hV6, hU6⟩
  go_wp2_with fail
  refine (mof_any _ gq y Q 32 _ (hRq.ext ((hU4.trans hU5).trans hU6)) hV6 hFy hQ (by omega)).mono ?_
  rintro e w7 ⟨A7, l7, c7, rfl, hV7, hU7⟩
  have haQ : x % Q < Q := Nat.mod_lt _ (by omega)
  have hbQ : y % Q < Q := Nat.mod_lt _ (by omega)
  obtain ⟨a, ha⟩ : ∃ a, a = x % Q := ⟨_, rfl⟩
  obtain ⟨b, hb⟩ : ∃ b, b = y % Q := ⟨_, rfl⟩
  rw [← ha] at hV5 haQ
  rw [← hb] at hV7 hbQ
  clear ha hb hV4 hV6 hFx hFy
  have hFa : Fit 32 a := hQ.le (Nat.le_of_lt haQ)
  have hFb : Fit 32 b := hQ.le (Nat.le_of_lt hbQ)
  have q9 := ((Box.new w7 33 (.slice A5 l5 c5)).alloc (.cells #[.slice A7 l7 c7] 33)).cell
  have q10 := (Box.new_at (t := 33) (v := .slice A7 l7 c7) (show (w7.alloc (.cells #[.slice A5 l5 c5] 33)).heap.size = w7.heap.size + 1 by simp)).cell
  go_wp2_with fail
  clear q9 q10
  refine name_c (fun W hW => ?_)
  have hU67 := hU6.trans hU7
  have hU8 : Ext w7 W := by rw [hW]; exact ((Upd.refl _ _).alloc _).alloc _
  have b9 : Box W w7.heap.size 33 (.slice A5 l5 c5) := by rw [hW]; exact (Box.new _ _ _).alloc _
  have b10 : Box W (w7.heap.size + 1) 33 (.slice A7 l7 c7) := by rw [hW]; exact Box.new_at (by simp)
  have hVa := hV5.ext (hU67.trans hU8)
  have hVb := hV7.ext hU8
  have hUW := ((hU4.trans hU5).trans hU67).trans hU8
  have hEW := hE2.trans hUW
  have hGW := hG.ext hUW
  have hRW := hRq.ext hUW
  clear hW hU4 hU5 hU6 hU7 hU67 hU8 hV5 hV7 hUW hG hRq hE2
  refine (madd_any _ _ gq a b Q 32 _ hRW hVa hVb hFa hFb hQ (by omega)).mono ?_
  rintro e w8 ⟨A8, l8, c8, rfl, hV8, hU8⟩
  have hcQ : (a + b) % Q < Q := Nat.mod_lt _ (by omega)
  obtain ⟨c, hc⟩ : ∃ c, c = (a + b) % Q := ⟨_, rfl⟩
  rw [← hc] at hV8 hcQ
  have Hc := hide hc
  have hFc : Fit 32 c := hQ.le (Nat.le_of_lt hcQ)
  have q9 := ((b9.ext hU8).alloc (.cells #[.slice A8 l8 c8] 33)).cell
  clear hc
  go_wp2_with fail
  clear q9
  refine name_c (fun W2 hW => ?_)
  have hU9 : Ext W W2 := by rw [hW]; exact hU8.alloc _
  have b11 : Box W2 w8.heap.size 33 (.slice A8 l8 c8) := by rw [hW]; exact Box.new _ _ _
  have hVc : NatV W2 (.agg #[.slice A8 l8 c8]) c := by rw [hW]; exact hV8.ext ((Upd.refl _ _).alloc _)
  replace b9 := b9.ext hU9
  replace b10 := b10.ext hU9
  replace hVa := hVa.ext hU9
  replace hVb := hVb.ext hU9
  replace hEW := hEW.trans hU9
  replace hGW := hGW.ext hU9
  clear hW hU8 hU9 hV8 hRW
  obtain ⟨eA, heA⟩ : ∃ e, e = pubE Q a := ⟨_, rfl⟩
  have HeA := hide heA
  clear heA
  refine (spub_gen gr P Q G _ 32 _ _ a hGW hVa hFa hQ hP hGf (by omega)).mono ?_
  rw [← HeA.out]
  rintro e w9 ⟨A9, l9, c9, rfl, hV9, hU9⟩
  have q10 := ((b10.ext hU9).alloc (.cells #[.slice A9 l9 c9] 33)).cell
  go_wp2_with fail
  clear q10
  refine name_c (fun W3 hW => ?_)
  have hU10 : Ext W2 W3 := by rw [hW]; exact hU9.alloc _
  have b12 : Box W3 w9.heap.size 33 (.slice A9 l9 c9) := by rw [hW]; exact Box.new _ _ _
  have hVp : NatV W3 (.agg #[.slice A9 l9 c9]) (pubN P Q G a) := by rw [hW]; exact hV9.ext ((Upd.refl _ _).alloc _)
  replace b9 := b9.ext hU10
  replace b10 := b10.ext hU10
  replace b11 := b11.ext hU10
  replace hVa := hVa.ext hU10
  replace hVb := hVb.ext hU10
  replace hVc := hVc.ext hU10
  replace hEW := hEW.trans hU10
  replace hGW := hGW.ext hU10
  clear hW hU9 hU10 hV9
  obtain ⟨eB, heB⟩ : ∃ e, e = pubE Q b := ⟨_, rfl⟩
  have HeB := hide heB
  clear heB
  refine (spub_gen gr P Q G _ 32 _ _ b hGW hVb hFb hQ hP hGf (by omega)).mono ?_
  rw [← HeB.out]
  rintro e w10 ⟨A10, l10, c10, rfl, hV10, hU10⟩
  have q11 := ((b11.ext hU10).alloc (.cells #[.slice A10 l10 c10] 33)).cell
  go_wp2_with fail
  clear q11
  refine name_c (fun W4 hW => ?_)
  have hU11 : Ext W3 W4 := by rw [hW]; exact hU10.alloc _
  have b14 : Box W4 w10.heap.size 33 (.slice A10 l10 c10) := by rw [hW]; exact Box.new _ _ _
  have hVq : NatV W4 (.agg #[.slice A10 l10 c10]) (pubN P Q G b) := by rw [hW]; exact hV10.ext ((Upd.refl _ _).alloc _)
  replace b9 := b9.ext hU11
  replace b10 := b10.ext hU11
  replace b11 := b11.ext hU11
  replace b12 := b12.ext hU11
  replace hVa := hVa.ext hU11
  replace hVb := hVb.ext hU11
  replace hVc := hVc.ext hU11
  replace hVp := hVp.ext hU11
  replace hEW := hEW.trans hU11
  replace hGW := hGW.ext hU11
  clear hW hU10 hU11 hV10
  obtain ⟨eC, heC⟩ : ∃ e, e = pubE Q c := ⟨_, rfl⟩
  have HeC := hide heC
  clear heC
  refine (spub_gen gr P Q G _ 32 _ _ c hGW hVc hFc hQ hP hGf (by omega)).mono ?_
  rw [← HeC.out]
  rintro e w11 ⟨A11, l11, c11, rfl, hV11, hU11⟩
  have q9 := ((b9.ext hU11).alloc (.cells #[.slice A11 l11 c11] 33)).cell
  go_wp2_with fail
  clear q9
  refine name_c (fun V hW => ?_)
  have hU12 : Ext W4 V := by rw [hW]; exact hU11.alloc _
  have b16 : Box V w11.heap.size 33 (.slice A11 l11 c11) := by rw [hW]; exact Box.new _ _ _
  have hVr : NatV V (.agg #[.slice A11 l11 c11]) (pubN P Q G c) := by rw [hW]; exact hV11.ext ((Upd.refl _ _).alloc _)
  replace b9 := b9.ext hU12
  replace b10 := b10.ext hU12
  replace b11 := b11.ext hU12
  replace b12 := b12.ext hU12
  replace b14 := b14.ext hU12
  replace hVa := hVa.ext hU12
  replace hVb := hVb.ext hU12
  replace hVc := hVc.ext hU12
  replace hVp := hVp.ext hU12
  replace hVq := hVq.ext hU12
  have hEV := hEW.trans hU12
  replace hGW := hGW.ext hU12
  clear hW hU11 hU12 hV11 hEW
  by_cases ha0 : a = 0
  case pos =>
    have ea : eA = 1 := HeA.out.trans (pubE_one ha0)
    subst ea
    refine (zero_any _ a _ hVa).mono ?_
    rintro e vv ⟨rfl, hx0⟩
    rw [decide_eq_true ha0]
    by_cases hb0 : b = 0
    · have eb : eB = 1 := HeB.out.trans (pubE_one hb0)
      subst eb
      -- decide_eq_true ha0 how a, decide_eq_true hb0 how b are decided
      by_cases hc0 : c = 0
      · have ec : eC = 1 := HeC.out.trans (pubE_one hc0)
        subst ec
        -- decide_eq_true ha0, decide_eq_true hb0, decide_eq_true hc0: decided how a, b, c are 0 (behind the test R12); the world's Ext is hx0 : Ext V vv
        have y9 := (b9.ext hx0).cell
        go_wp2_with fail
        clear y9
        refine (zero_any _ a _ (hVa.ext hx0)).mono ?_
        rintro e v1 ⟨rfl, hv1⟩
        rw [decide_eq_true ha0]
        have hx1 := hx0.trans hv1
        have y10 := (b10.ext hx1).cell
        go_wp2_with fail
        clear y10
        refine (zero_any _ b _ (hVb.ext hx1)).mono ?_
        rintro e v2 ⟨rfl, hv2⟩
        rw [decide_eq_true hb0]
        have hx2 := hx1.trans hv2
        have y11 := (b11.ext hx2).cell
        go_wp2_with fail
        clear y11
        refine (zero_any _ c _ (hVc.ext hx2)).mono ?_
        rintro e v3 ⟨rfl, hv3⟩
        rw [decide_eq_true hc0]
        have hxx := hEV.trans (hx2.trans hv3)
        go_wp2_with fail
        go_ret
        exact ⟨rfl, hxx⟩
      · have ec : eC = 0 := HeC.out.trans (pubE_ok hc0 hcQ)
        subst ec
        -- decide_eq_true ha0, decide_eq_true hb0, decide_eq_false hc0: decided how a, b, c are 0 (behind the test R12); the world's Ext is hx0 : Ext V vv
        have y9 := (b9.ext hx0).cell
        go_wp2_with fail
        clear y9
        refine (zero_any _ a _ (hVa.ext hx0)).mono ?_
        rintro e v1 ⟨rfl, hv1⟩
        rw [decide_eq_true ha0]
        have hx1 := hx0.trans hv1
        have y10 := (b10.ext hx1).cell
        go_wp2_with fail
        clear y10
        refine (zero_any _ b _ (hVb.ext hx1)).mono ?_
        rintro e v2 ⟨rfl, hv2⟩
        rw [decide_eq_true hb0]
        have hx2 := hx1.trans hv2
        have y11 := (b11.ext hx2).cell
        go_wp2_with fail
        clear y11
        refine (zero_any _ c _ (hVc.ext hx2)).mono ?_
        rintro e v3 ⟨rfl, hv3⟩
        rw [decide_eq_false hc0]
        have hxx := hEV.trans (hx2.trans hv3)
        go_wp2_with fail
        go_ret
        exact ⟨rfl, hxx⟩
    · have eb : eB = 0 := HeB.out.trans (pubE_ok hb0 hbQ)
      subst eb
      -- decide_eq_true ha0 how a, decide_eq_false hb0 how b are decided
      by_cases hc0 : c = 0
      · have ec : eC = 1 := HeC.out.trans (pubE_one hc0)
        subst ec
        -- decide_eq_true ha0, decide_eq_false hb0, decide_eq_true hc0: decided how a, b, c are 0 (behind the test R12); the world's Ext is hx0 : Ext V vv
        have y9 := (b9.ext hx0).cell
        go_wp2_with fail
        clear y9
        refine (zero_any _ a _ (hVa.ext hx0)).mono ?_
        rintro e v1 ⟨rfl, hv1⟩
        rw [decide_eq_true ha0]
        have hx1 := hx0.trans hv1
        have y10 := (b10.ext hx1).cell
        go_wp2_with fail
        clear y10
        refine (zero_any _ b _ (hVb.ext hx1)).mono ?_
        rintro e v2 ⟨rfl, hv2⟩
        rw [decide_eq_false hb0]
        have hx2 := hx1.trans hv2
        have y11 := (b11.ext hx2).cell
        go_wp2_with fail
        clear y11
        refine (zero_any _ c _ (hVc.ext hx2)).mono ?_
        rintro e v3 ⟨rfl, hv3⟩
        rw [decide_eq_true hc0]
        have hxx := hEV.trans (hx2.trans hv3)
        go_wp2_with fail
        go_ret
        exact ⟨rfl, hxx⟩
      · have ec : eC = 0 := HeC.out.trans (pubE_ok hc0 hcQ)
        subst ec
        -- decide_eq_true ha0, decide_eq_false hb0, decide_eq_false hc0: decided how a, b, c are 0 (behind the test R12); the world's Ext is hx0 : Ext V vv
        have y9 := (b9.ext hx0).cell
        go_wp2_with fail
        clear y9
        refine (zero_any _ a _ (hVa.ext hx0)).mono ?_
        rintro e v1 ⟨rfl, hv1⟩
        rw [decide_eq_true ha0]
        have hx1 := hx0.trans hv1
        have y10 := (b10.ext hx1).cell
        go_wp2_with fail
        clear y10
        refine (zero_any _ b _ (hVb.ext hx1)).mono ?_
        rintro e v2 ⟨rfl, hv2⟩
        rw [decide_eq_false hb0]
        have hx2 := hx1.trans hv2
        have y11 := (b11.ext hx2).cell
        go_wp2_with fail
        clear y11
        refine (zero_any _ c _ (hVc.ext hx2)).mono ?_
        rintro e v3 ⟨rfl, hv3⟩
        rw [decide_eq_false hc0]
        have hxx := hEV.trans (hx2.trans hv3)
        go_wp2_with fail
        go_ret
        exact ⟨rfl, hxx⟩
  have ea : eA = 0 := HeA.out.trans (pubE_ok ha0 haQ)
  subst ea
  refine (zero_any _ a _ hVa).mono ?_
  rintro e v0 ⟨rfl, hz0⟩
  rw [decide_eq_false ha0]
  have y10 := (b10.ext hz0).cell
  go_wp2_with fail
  clear y10
  refine (zero_any _ b _ (hVb.ext hz0)).mono ?_
  rintro e v1 ⟨rfl, hz1⟩
  have hz01 := hz0.trans hz1
  by_cases hb0 : b = 0
  case pos =>
    rw [decide_eq_true hb0]
    have eb : eB = 1 := HeB.out.trans (pubE_one hb0)
    subst eb
    have hx0 := hz01
    -- decide_eq_false ha0 how a, decide_eq_true hb0 how b are decided
    by_cases hc0 : c = 0
    · have ec : eC = 1 := HeC.out.trans (pubE_one hc0)
      subst ec
      -- decide_eq_false ha0, decide_eq_true hb0, decide_eq_true hc0: decided how a, b, c are 0 (behind the test R12); the world's Ext is hx0 : Ext V vv
      have y9 := (b9.ext hx0).cell
      go_wp2_with fail
      clear y9
      refine (zero_any _ a _ (hVa.ext hx0)).mono ?_
      rintro e v1 ⟨rfl, hv1⟩
      rw [decide_eq_false ha0]
      have hx1 := hx0.trans hv1
      have y10 := (b10.ext hx1).cell
      go_wp2_with fail
      clear y10
      refine (zero_any _ b _ (hVb.ext hx1)).mono ?_
      rintro e v2 ⟨rfl, hv2⟩
      rw [decide_eq_true hb0]
      have hx2 := hx1.trans hv2
      have y11 := (b11.ext hx2).cell
      go_wp2_with fail
      clear y11
      refine (zero_any _ c _ (hVc.ext hx2)).mono ?_
      rintro e v3 ⟨rfl, hv3⟩
      rw [decide_eq_true hc0]
      have hxx := hEV.trans (hx2.trans hv3)
      go_wp2_with fail
      go_ret
      exact ⟨rfl, hxx⟩
    · have ec : eC = 0 := HeC.out.trans (pubE_ok hc0 hcQ)
      subst ec
      -- decide_eq_false ha0, decide_eq_true hb0, decide_eq_false hc0: decided how a, b, c are 0 (behind the test R12); the world's Ext is hx0 : Ext V vv
      have y9 := (b9.ext hx0).cell
      go_wp2_with fail
      clear y9
      refine (zero_any _ a _ (hVa.ext hx0)).mono ?_
      rintro e v1 ⟨rfl, hv1⟩
      rw [decide_eq_false ha0]
      have hx1 := hx0.trans hv1
      have y10 := (b10.ext hx1).cell
      go_wp2_with fail
      clear y10
      refine (zero_any _ b _ (hVb.ext hx1)).mono ?_
      rintro e v2 ⟨rfl, hv2⟩
      rw [decide_eq_true hb0]
      have hx2 := hx1.trans hv2
      have y11 := (b11.ext hx2).cell
      go_wp2_with fail
      clear y11
      refine (zero_any _ c _ (hVc.ext hx2)).mono ?_
      rintro e v3 ⟨rfl, hv3⟩
      rw [decide_eq_false hc0]
      have hxx := hEV.trans (hx2.trans hv3)
      go_wp2_with fail
      go_ret
      exact ⟨rfl, hxx⟩
  have eb : eB = 0 := HeB.out.trans (pubE_ok hb0 hbQ)
  subst eb
  rw [decide_eq_false hb0]
  have y11 := (b11.ext hz01).cell
  go_wp2_with fail
  clear y11
  refine (zero_any _ c _ (hVc.ext hz01)).mono ?_
  rintro e v2 ⟨rfl, hz2⟩
  have hx0 := hz01.trans hz2
  by_cases hc0 : c = 0
  case pos =>
    rw [decide_eq_true hc0]
    have ec : eC = 1 := HeC.out.trans (pubE_one hc0)
    subst ec
    -- decide_eq_false ha0, decide_eq_false hb0, decide_eq_true hc0: decided how a, b, c are 0 (behind the test R12); the world's Ext is hx0 : Ext V vv
    have y9 := (b9.ext hx0).cell
    go_wp2_with fail
    clear y9
    refine (zero_any _ a _ (hVa.ext hx0)).mono ?_
    rintro e v1 ⟨rfl, hv1⟩
    rw [decide_eq_false ha0]
    have hx1 := hx0.trans hv1
    have y10 := (b10.ext hx1).cell
    go_wp2_with fail
    clear y10
    refine (zero_any _ b _ (hVb.ext hx1)).mono ?_
    rintro e v2 ⟨rfl, hv2⟩
    rw [decide_eq_false hb0]
    have hx2 := hx1.trans hv2
    have y11 := (b11.ext hx2).cell
    go_wp2_with fail
    clear y11
    refine (zero_any _ c _ (hVc.ext hx2)).mono ?_
    rintro e v3 ⟨rfl, hv3⟩
    rw [decide_eq_true hc0]
    have hxx := hEV.trans (hx2.trans hv3)
    go_wp2_with fail
    go_ret
    exact ⟨rfl, hxx⟩
  have ec : eC = 0 := HeC.out.trans (pubE_ok hc0 hcQ)
  subst ec
  rw [decide_eq_false hc0]
  rw [pubN_ok ha0 haQ] at hVp
  rw [pubN_ok hb0 hbQ] at hVq
  rw [pubN_ok hc0 hcQ] at hVr
  have hmul : G ^ a % P * (G ^ b % P) % P = G ^ c % P := by
    rw [← Nat.mul_mod, ← Nat.pow_add]
    exact hgok.cong (by rw [Hc.out, Nat.mod_mod])
  have hmem := hgok.mem c
  have hFp : Fit 32 (G ^ a % P) := hP.le (Nat.le_of_lt (Nat.mod_lt _ (by omega)))
  have hFq : Fit 32 (G ^ b % P) := hP.le (Nat.le_of_lt (Nat.mod_lt _ (by omega)))
  have hFr : Fit 32 (G ^ c % P) := hP.le (Nat.le_of_lt (Nat.mod_lt _ (by omega)))
  obtain ⟨p, hp⟩ : ∃ p, p = G ^ a % P := ⟨_, rfl⟩
  obtain ⟨q, hq⟩ : ∃ q, q = G ^ b % P := ⟨_, rfl⟩
  obtain ⟨rr, hrr⟩ : ∃ rr, rr = G ^ c % P := ⟨_, rfl⟩
  rw [← hp, ← hq, ← hrr] at hmul
  rw [← hp] at hVp hFp
  rw [← hq] at hVq hFq
  rw [← hrr] at hVr hFr hmem
  have Hmul := hide hmul
  have Hmem := hide hmem
  clear hmul hmem hp hq hrr
  go_wp2_with fail
  refine name_w (fun X hX => ?_)
  subst hX
  have b12' := b12.ext hx0
  have b14' := b14.ext hx0
  have b16' := b16.ext hx0
  have hVp' := hVp.ext hx0
  have hVq' := hVq.ext hx0
  have hVr' := hVr.ext hx0
  have hGX := hGW.ext hx0
  have hEX := hEV.trans hx0
  have hXd : Ext X X.drew := (Upd.refl _ _).drew
  have y0 := fun y : Wd (Ext X.drew) => y.ok.cellv b12'.drew.cell
  have y1 := fun y : Wd (Ext X.drew) => y.ok.cellv b14'.drew.cell
  have y2 := fun y : Wd (Ext X.drew) => y.ok.cellv b16'.drew.cell
  refine wp_region_plan (Ext _) 24 [(false,0), (false,1), (false,2), (false,3), (false,4), (false,5), (false,6), (false,7), (false,8), (false,9), (false,10), (false,11), (false,12), (false,13), (false,15), (true,14), (true,16), (false,17), (false,18), (false,19), (false,20), (false,21), (true,22), (false,23)] (by kernel_rfl) (by kernel_rfl) (Upd.refl _ _) (fun hne => ?_)
  repeat (refine head_q rfl (fun K hK => ?_); have hK2 := hide hK; clear hK; go_simp; refine hK2.out _ ?_; clear hK2 K)
  refine head_l rfl ?_
  go_wp2_with (go_at_call 25; go_must (refine (gMul_any gr P Q G _ 32 _ _ _ p q (hGX.ext hXd) (hVp'.ext hXd) (hVq'.ext hXd) hFp hFq hP (by omega)).mono ?_); rw [Hmul.out]; rintro e u1 ⟨A20, l20, c20, rfl, hV20, hu1⟩)
  refine ⟨Cls (Ext _), fun _ h => h, ⟨⟨_, hu1⟩, rfl⟩, ?_⟩
  repeat (refine head_q rfl (fun K hK => ?_); have hK2 := hide hK; clear hK; go_simp; refine hK2.out _ ?_; clear hK2 K)
  refine head_l rfl ?_
  go_wp2_with (go_at_call 27; go_must (refine (cmp_any _ _ rr rr 32 _ hV20 (hVr'.ext (hXd.trans hu1)) hFr hFr (by omega)).mono ?_); rintro e u2 ⟨rfl, hu2⟩; rw [cmpI_eq]; replace hu2 := hu1.trans hu2)
  refine ⟨Cls (Ext _), fun _ h => h, ⟨⟨_, hu2⟩, rfl⟩, ?_⟩
  repeat (refine head_q rfl (fun K hK => ?_); have hK2 := hide hK; clear hK; go_simp; refine hK2.out _ ?_; clear hK2 K)
  refine head_l rfl ?_
  go_wp2_with (go_at_call 35; go_must (refine (gMember_any gr P Q G _ 32 _ _ rr (hGX.ext (hXd.trans hu2)) (hVr'.ext (hXd.trans hu2)) hFr hP hQ (by omega) (by omega)).mono ?_); rw [Hmem.out]; rintro e u3 ⟨rfl, hu3⟩; replace hu3 := hu2.trans hu3)
  refine ⟨Cls (Ext _), fun _ h => h, ⟨⟨_, hu3⟩, rfl⟩, ?_⟩
  repeat (refine head_q rfl (fun K hK => ?_); have hK2 := hide hK; clear hK; go_simp; refine hK2.out _ ?_; clear hK2 K)
  have hG := hEX.trans hu3.undrew
  clear y0 y1 y2
  refine head_nil ?_
  try simp only [List.drop_succ_cons, List.drop_zero]
  go_wp2_with fail
  go_ret
  exact ⟨rfl, hG⟩
theorem skeys_any (z : Int) (x y : Nat) (w : World) (hx64 : x < 18446744073709551616) (hy64 : y < 18446744073709551616) :
    Calls Try.prog 7 #[.int .i64 z, .int .u64 (x : Nat), .int .u64 (y : Nat)] w fun e w' => e = .returned (.bool true) ∧ Ext w w' := by
  obtain ⟨r, hr, hnum⟩ := gnums_any z
  exact skeys_good z r hr x y w (fun w' => hnum none 0 0 w') hx64 hy64
end Go.Proofs.Ytoekbomfepedcaa
