/- The law of both slabs, walked. -/
import Derived.Test.YtejjofjhcgdedaaSlc3
import Derived.Test.YtejjofjhcgdedaaScaZ
namespace Go.Proofs.Ytejjofjhcgdedaa
set_option linter.unusedSimpArgs false
set_option linter.unusedVariables false
open Go.RowKit
open Sha
attribute [local go_sem] steady steadyUpon Cls same_cell anyW by8 str_eq
attribute [local irreducible] wpHead wpTree wpHeadR
set_option maxRecDepth 100000 in
set_option maxHeartbeats 4000000 in
theorem splays_none (z : Int) (A0 : Option Addr) (n c0 : Nat) (w : World) (hz : z < 4 ∨ 4096 < z) :
    Calls Try.prog 3 #[.int .i64 z, .slice A0 n c0] w fun e w' => e = .returned (.bool true) ∧ Ext w w' := by
  go_enter Try.func3, Try.ntmps3
  go_wp2_with fail
  refine (snew_any z w).mono ?_
  rintro e w1 ⟨hE1, hno, -⟩
  obtain rfl := hno hz
  clear hno
  by_cases h4 : z < 4
  · skip
    go_wp2_with fail
    refine (slives_any w1).mono ?_
    rintro e w2 ⟨rfl, hE2⟩
    go_wp2_with fail
    refine (sface_nil w2 0).mono ?_
    rintro e w3 ⟨rfl, rfl⟩
    go_wp2_with fail
    refine (ssupply_nil w3 1).mono ?_
    rintro e w4 ⟨rfl, rfl⟩
    go_wp2_with fail
    refine (swake_nil w4 none 0 0).mono ?_
    rintro e w5 ⟨rfl, hE5⟩
    go_wp2_with fail
    refine (splain_any 0 _ rfl w5).mono ?_
    rintro e w6 ⟨A6, c6, rfl, -, hE6⟩
    go_wp2_with fail
    refine (sink_nil w6 0 A6 64 c6).mono ?_
    rintro e w7 ⟨rfl, rfl⟩
    go_wp2_with fail
    refine (sburn_nil w7).mono ?_
    rintro e w8 ⟨rfl, rfl⟩
    go_wp2_with fail
    refine (ssectors_nil w8).mono ?_
    rintro e w9 ⟨rfl, rfl⟩
    go_wp2_with fail
    refine (sinked_nil w9).mono ?_
    rintro e wa ⟨rfl, rfl⟩
    go_wp2_with fail
    refine (sstrokes_nil wa).mono ?_
    rintro e wb ⟨rfl, rfl⟩
    go_wp2_with fail
    refine (sout_nil wb).mono ?_
    rintro e wc ⟨rfl, rfl⟩
    go_wp2_with fail
    refine (stwin_nil wc).mono ?_
    rintro e wd ⟨rfl, rfl⟩
    have hEf := ((hE1.trans hE2).trans hE5).trans hE6
    go_wp2_with fail
    go_ret
    exact ⟨rfl, hEf⟩
  · have h9 : 4096 < z := hz.resolve_left h4
    go_wp2_with fail
    refine (slives_any w1).mono ?_
    rintro e w2 ⟨rfl, hE2⟩
    go_wp2_with fail
    refine (sface_nil w2 0).mono ?_
    rintro e w3 ⟨rfl, rfl⟩
    go_wp2_with fail
    refine (ssupply_nil w3 1).mono ?_
    rintro e w4 ⟨rfl, rfl⟩
    go_wp2_with fail
    refine (swake_nil w4 none 0 0).mono ?_
    rintro e w5 ⟨rfl, hE5⟩
    go_wp2_with fail
    refine (splain_any 0 _ rfl w5).mono ?_
    rintro e w6 ⟨A6, c6, rfl, -, hE6⟩
    go_wp2_with fail
    refine (sink_nil w6 0 A6 64 c6).mono ?_
    rintro e w7 ⟨rfl, rfl⟩
    go_wp2_with fail
    refine (sburn_nil w7).mono ?_
    rintro e w8 ⟨rfl, rfl⟩
    go_wp2_with fail
    refine (ssectors_nil w8).mono ?_
    rintro e w9 ⟨rfl, rfl⟩
    go_wp2_with fail
    refine (sinked_nil w9).mono ?_
    rintro e wa ⟨rfl, rfl⟩
    go_wp2_with fail
    refine (sstrokes_nil wa).mono ?_
    rintro e wb ⟨rfl, rfl⟩
    go_wp2_with fail
    refine (sout_nil wb).mono ?_
    rintro e wc ⟨rfl, rfl⟩
    go_wp2_with fail
    refine (stwin_nil wc).mono ?_
    rintro e wd ⟨rfl, rfl⟩
    have hEf := ((hE1.trans hE2).trans hE5).trans hE6
    go_wp2_with fail
    go_ret
    exact ⟨rfl, hEf⟩
theorem splays_any (z : Int) (A0 : Option Addr) (n c0 : Nat) (ds : List Dee) (w : World) (hL : DeeL w A0 ds) (hn : ds.length = n) (hm : n ≤ maxLen) (hsz : ∀ i, i < ds.length → (gat ds i).c * 32 ≤ 140737488351232) :
    Calls Try.prog 3 #[.int .i64 z, .slice A0 n c0] w fun e w' => e = .returned (.bool true) ∧ Ext w w' := by
  by_cases h : z < 4 ∨ 4096 < z
  · exact splays_none z A0 n c0 w h
  · obtain ⟨N, rfl⟩ := Int.eq_ofNat_of_zero_le (show 0 ≤ z by omega)
    exact splays_main N (by omega) (by omega) A0 n c0 ds w hL hn hm hsz
end Go.Proofs.Ytejjofjhcgdedaa
