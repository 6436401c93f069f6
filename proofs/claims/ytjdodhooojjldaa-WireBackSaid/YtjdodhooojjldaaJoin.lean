/- The document's Join, walked. -/
import Derived.Test.YtjdodhooojjldaaShaU
import Derived.Test.YtjdodhooojjldaaRefs
namespace Go.Proofs.Ytjdodhooojjldaa
set_option linter.unusedSimpArgs false
set_option linter.unusedVariables false
open Go.RowKit
open Sha Nt
attribute [local go_sem] steady steadyUpon Cls same_cell by8 by32 by64
attribute [local go_sem] xor_u8 or_u8
set_option maxRecDepth 100000 in
set_option maxHeartbeats 1000000 in
theorem joinW_any (A : Option Addr) (n c : Nat) (ps : List Pt) (N : Nat) (w : World) (hP : Pts w A ps) (hn : ps.length = n) (hN : (flat ps).length = N) (hl : N ≤ 100000000) (hm : n ≤ maxLen) :
    Calls Try.prog 82 #[.slice A n c] w (RetS w N (flat ps)) := by
  unfold maxLen at hm
  have Hn := hide hn
  have HN := hide hN
  have HP := hide hP
  clear hn hN hP
  go_enter Try.func82, Try.ntmps82
  go_wp2_with fail
  go_loopw [9, 3, 5] (fun i v _ wx => ∃ k A1 c1 l, k ≤ n ∧ i = .int .i64 (k : Nat) ∧ v = .slice A1 l c1 ∧ (flat (ps.take k)).length = l ∧ Own wx w.heap.size 5 A1 c1 ((flat (ps.take k)).map by8) ∧ Ext w wx) (fun i _ _ _ => n - (intOf i).toNat)
  case atStart => exact ⟨0, _, _, 0, by omega, rfl, rfl, rfl, Own.lit by8 w 5 [] (Nat.le_refl _) (Nat.zero_le _), (Upd.refl _ _).alloc _⟩
  case round =>
    obtain ⟨k, A1, c1, l, hk, rfl, rfl, hl1, hO, hU⟩ := hrel
    have hO' := hide hO
    have Hl1 := hide hl1
    clear hO hl1
    by_cases hlt : k < n
    · have hlti : (k : Int) < n := by omega
      have hd : decide ((k : Int) < n) = true := decide_eq_true (by omega)
      obtain ⟨b, o, rfl, _, hc⟩ := (HP.out.ext hU).1.open_ (by have := Hn.out; omega)
      have hck := hc k (by have := Hn.out; omega)
      unfold Pt.val at hck
      have Hok := hide ((HP.out.ext hU).2 k (by have := Hn.out; omega))
      have hft := flat_take (ps := ps) (k := k) (by have := Hn.out; omega)
      have hle := flat_le ps (k + 1)
      have hlen : (flat (ps.take (k + 1))).length = l + (gat ps k).n := by rw [← hft, List.length_append, Hl1.out, Hok.out.2.1]
      have hb : l + (gat ps k).n ≤ 100000000 := by have := HN.out; omega
      have Hft := hide hft
      have Hlen := hide hlen
      clear hc hft hle hlen
      go_wp2_with (at_builtin; go_must (refine wpList_apd by8 one8 Try.n_el8 (flat (ps.take k)) (gat ps k).bs (flat (ps.take (k + 1))) (l + (gat ps k).n) Hft.out Hlen.out (by omega) (by unfold maxLen; omega) rfl rfl rfl Hl1.out hO'.out rfl Hok.out.2.1 Hok.out.1 hU.size ?_); intro A2 c2 w2 hO2 hU2 hin2)
      go_roundw
      case rel => exact ⟨k + 1, A2, c2, _, by omega, by go_num, rfl, Hlen.out, hO2, upd_new hU2 hU (fun i hi => (hO'.out.in_ hi).1)⟩
      case measure => simp [intOf]; omega
    · obtain rfl : k = n := by omega
      clear hk hlt
      have hft : flat (ps.take k) = flat ps := by rw [List.take_of_length_le (by have := Hn.out; omega)]
      rw [hft] at hO' Hl1
      obtain rfl : l = N := Hl1.out.symm.trans HN.out
      clear hft
      go_wp2_with fail
      go_ret
      exact ⟨A1, c1, rfl, hO'.out, hU⟩

end Go.Proofs.Ytjdodhooojjldaa
