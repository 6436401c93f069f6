/- The store's bytes, walked: whole. -/
import Derived.Test.YtejjofjhcgdedaaSto2
import Derived.Test.YtejjofjhcgdedaaApke
namespace Go.Proofs.Ytejjofjhcgdedaa
set_option linter.unusedSimpArgs false
set_option linter.unusedVariables false
open Go.RowKit
open Sha
attribute [local go_sem] steady steadyUpon Cls same_cell anyW
attribute [local irreducible] wpHead wpTree wpHeadR Sha.sum
def RetWhl (w0 : World) (n : Nat) (st : List B8) (e : Ending) (w' : World) : Prop := ∃ A c, e = .returned (.slice A ((44 + st.length + 63) / 64 * 64) c) ∧ Own w' w0.heap.size 5 A c ((Sto.wholeB Sha.sum n st).map by8) ∧ Ext w0 w'
set_option maxRecDepth 100000 in
set_option maxHeartbeats 4000000 in
theorem swhole_any (n : Nat) (A : Option Addr) (l c : Nat) (st : List B8) (w : World) (hS : Sl by8 w A st) (hl : st.length = l) (hlc : l ≤ c) (hcm : c ≤ maxLen) (hl2 : l ≤ 900000) (hn : n < 18446744073709551616) :
    Calls Try.prog 48 #[.int .u64 (n : Int), .slice A l c] w (RetWhl w n st) := by
  have HS := hide hS
  have Hl := hide hl
  have Hn := hide hn
  have Hlc := hide hlc
  have Hcm := hide hcm
  clear hS hl hn hlc hcm
  have hlu : IntKind.u64.wrap (l : Int) = (l : Int) := IntWalk.u64_in _ (by omega)
  obtain ⟨N1, hN1⟩ : ∃ N1, N1 = 44 + l := ⟨_, rfl⟩
  obtain ⟨N, hN⟩ : ∃ N, N = (44 + l + 63) / 64 * 64 := ⟨_, rfl⟩
  have hNb : N1 ≤ N ∧ N ≤ N1 + 63 ∧ 44 ≤ N1 ∧ N1 ≤ 900044 := by omega
  have hq : ((N1 : Int) + 64 - 1).tdiv 64 * 64 = (N : Int) := by
    rw [Int.tdiv_eq_ediv_of_nonneg (by omega)]; omega
  have Hpad : Hid (Sto.padTo (44 + st.length) = N - N1) := hide (by
    rw [Hl.out]
    unfold Sto.padTo
    omega)
  have Hh : Hid ((Sto.numB n 8 ++ Sto.numB l 4 ++ Sha.sum st ++ st).length = N1) := by
    have := Sto.headB_length Sha.sum sum_length n st
    unfold Sto.headB at this
    rw [Hl.out] at this
    rw [hN1]
    exact this
  have Hall : Hid ((Sto.wholeB Sha.sum n st).length = N) := by
    rw [hN, ← Hl.out]
    exact Sto.wholeB_length Sha.sum sum_length n st
  have HN := hide hN
  have HN1 := hide hN1
  clear hN hN1
  go_enter Try.func48, Try.ntmps48
  go_wp2_with fail
  refine (sput_any w none 0 0 n 8 8 [] w Own.nil rfl Hn.out (by omega) rfl (by omega) (Upd.refl _ _)).mono ?_
  rintro e w1 ⟨A1, c1, rfl, hO1, hU1⟩
  go_wp2_with fail
  refine (sput_any w A1 8 c1 l 4 12 (Sto.numB n 8) w1 hO1 (Sto.numB_length _ _) (by omega) (by omega) rfl (by omega) hU1).mono ?_
  rintro e w2 ⟨A2, c2, rfl, hO2, hU2⟩
  have HO2 := hide hO2
  have HU2 := hide hU2
  clear hO1 hU1 hO2 hU2
  go_wp2_with fail
  refine (psum_any _ _ _ [⟨A, l, c, st⟩] _ (one_part w2 A l c st (HS.out.ext HU2.out) Hl.out Hlc.out Hcm.out) rfl (by rw [flat_one]; simp only; rw [Hl.out]; omega) (by simp [maxLen])).mono ?_
  rintro e w3 ⟨A3, c3, rfl, hO3, hU3⟩
  rw [flat_one] at hO3
  have hE23 : Ext w2 w3 := ((Upd.refl _ _).alloc _).trans hU3
  have hE3 : Ext w w3 := HU2.out.trans hE23
  have HO2x := hide (HO2.out.ext hE23)
  have HO3 := hide hO3
  have HE3 := hide hE3
  clear hO3 hU3 hE23 hE3 HO2
  go_wp2_with (first
    | (at_builtin; refine wpList_apd by8 one8 Try.el8 (Sto.numB n 8 ++ Sto.numB l 4) (Sha.sum st) (Sto.numB n 8 ++ Sto.numB l 4 ++ Sha.sum st) 44 rfl (by rw [List.length_append, List.length_append, Sto.numB_length, Sto.numB_length, sum_length]) (by omega) (by unfold maxLen; omega) rfl rfl rfl (by rw [List.length_append, Sto.numB_length, Sto.numB_length]) HO2x.out rfl (sum_length _) HO3.out.sl HE3.out.size ?_; intro A4 c4 w4 hO4 hU4 hin4; have HE4 := hide (upd_new hU4 HE3.out (fun k hk => (HO2x.out.in_ hk).1)); have HO4 := hide hO4; clear hO4 hU4 hin4)
    | (at_builtin; refine wpList_apd by8 one8 Try.el8 (Sto.numB n 8 ++ Sto.numB l 4 ++ Sha.sum st) st (Sto.numB n 8 ++ Sto.numB l 4 ++ Sha.sum st ++ st) N1 rfl Hh.out (by omega) (by unfold maxLen; omega) rfl rfl rfl (by rw [List.length_append, List.length_append, Sto.numB_length, Sto.numB_length, sum_length]) HO4.out rfl Hl.out (HS.out.ext HE4.out) HE4.out.size ?_; intro A5 c5 w5 hO5 hU5 hin5; have HE5 := hide (upd_new hU5 HE4.out (fun k hk => (HO4.out.in_ hk).1)); have HO5 := hide hO5; clear hO5 hU5 hin5)
    | (at_builtin; go_must (refine wpList_apm _ by8 rfl Try.el8 Try.underlying3 (Sto.numB n 8 ++ Sto.numB l 4 ++ Sha.sum st ++ st) (Sto.wholeB Sha.sum n st) N (N - N1) (by unfold Sto.wholeB Sto.headB; rw [Hpad.out, Hl.out]; rfl) Hall.out (by omega) (by unfold maxLen; omega) rfl rfl rfl Hh.out (by omega) HO5.out rfl (by omega) HE5.out.size ?_); intro A6 c6 w6 hO6 hU6; have HE6 := hide (upd_new hU6 HE5.out (fun k hk => (HO5.out.in_ hk).1)); have HO6 := hide hO6; clear hO6 hU6))
  go_ret
  exact ⟨A6, c6, by rw [Hl.out, ← HN.out]; rfl, HO6.out, HE6.out⟩
end Go.Proofs.Ytejjofjhcgdedaa
