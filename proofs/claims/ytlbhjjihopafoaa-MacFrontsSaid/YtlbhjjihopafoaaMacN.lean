/- The law on the fronts of expansions: its cases joined. -/
import Derived.Test.YtlbhjjihopafoaaMacF
import Derived.Test.YtlbhjjihopafoaaMacG
import Derived.Test.YtlbhjjihopafoaaMacJ
import Derived.Test.YtlbhjjihopafoaaMacK
namespace Go.Proofs.Ytlbhjjihopafoaa
open Go.RowKit
open Sha
open Mac
attribute [local go_sem] steady steadyUpon Cls by8 by32 by64 str_eq

theorem fronts_few (A B : Option Addr) (n m c d : Nat) (key info : List (BitVec 8)) (N M : Int) (w : World) (h1 : Pt.ok w ⟨A, n, c, key⟩) (h2 : Pt.ok w ⟨B, m, d, info⟩) (hf : ¬ fewB [⟨A, n, c, key⟩, ⟨B, m, d, info⟩]) :
    Calls Try.prog 11 #[.slice A n c, .slice B m d, .int .i64 N, .int .i64 M] w fun e w' => e = .returned (.bool true) ∧ Ext w w' := by
  have H1 := hide h1
  have H2 := hide h2
  have Hf := hide hf
  clear h1 h2 hf
  go_enter Try.func11, Try.ntmps11
  go_wp2_with fail
  refine (mlives_any _).mono ?_
  rintro e w1 ⟨rfl, hU1⟩
  go_wp2_with fail
  refine (few_no _ _ _ [⟨A, n, c, key⟩, ⟨B, m, d, info⟩] _ (Pts.two w1 _ ⟨A, n, c, key⟩ ⟨B, m, d, info⟩ (H1.out.ext hU1) (H2.out.ext hU1)) rfl (by simp [maxLen]) Hf.out).mono ?_
  rintro e w2 ⟨rfl, hw⟩
  have hU2 : Ext w w2 := by rw [← hw]; exact hU1.alloc _
  clear hw hU1
  go_wp2_with fail
  refine (mlives_any _).mono ?_
  rintro e w3 ⟨rfl, hU3⟩
  go_wp2_with fail
  go_ret
  exact ⟨rfl, hU2.trans hU3⟩

theorem mfronts_any (A B : Option Addr) (n m c d : Nat) (key info : List (BitVec 8)) (N M : Int) (w : World) (h1 : Pt.ok w ⟨A, n, c, key⟩) (h2 : Pt.ok w ⟨B, m, d, info⟩) :
    Calls Try.prog 11 #[.slice A n c, .slice B m d, .int .i64 N, .int .i64 M] w fun e w' => e = .returned (.bool true) ∧ Ext w w' := by
  by_cases hf : fewB [⟨A, n, c, key⟩, ⟨B, m, d, info⟩]
  · obtain ⟨K, hK, hK2⟩ := u64_mod N 300 (by omega)
    obtain ⟨L, hL, hL2⟩ := u64_mod M 300 (by omega)
    by_cases h64 : n < 64
    · rcases Nat.lt_trichotomy K L with h | h | h
      · exact fronts_good A B n m c d key info N M K L w h1 h2 hf hK hK2 hL hL2 h h64
      · subst h
        exact fronts_same A B n m c d key info N M K w h1 h2 hf hK hK2 hL h64
      · exact fronts_swap A B n m c d key info N M L K w h1 h2 hf hK hL2 hL hK2 h h64
    · rcases Nat.lt_trichotomy K L with h | h | h
      · exact fronts_good_far A B n m c d key info N M K L w h1 h2 hf hK hK2 hL hL2 h h64
      · subst h
        exact fronts_same_far A B n m c d key info N M K w h1 h2 hf hK hK2 hL h64
      · exact fronts_swap_far A B n m c d key info N M L K w h1 h2 hf hK hL2 hL hK2 h h64
  · exact fronts_few A B n m c d key info N M w h1 h2 hf
end Go.Proofs.Ytlbhjjihopafoaa
