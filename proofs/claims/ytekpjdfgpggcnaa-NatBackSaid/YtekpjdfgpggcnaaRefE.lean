/- The document's products of rows of truths, walked: Shift, Mul. -/
import Derived.Test.YtekpjdfgpggcnaaRefC
namespace Go.Proofs.Ytekpjdfgpggcnaa
set_option linter.unusedSimpArgs false
set_option linter.unusedVariables false
open Go.RowKit
open Nt
attribute [local go_sem] steady steadyUpon Cls same_cell

theorem numOf_shift {xs : List Bool} {n : Nat} : numOf 2 d1 (List.replicate n (default : Bool) ++ xs) = numOf 2 d1 xs * 2 ^ n := by
  unfold numOf
  rw [List.length_append, List.length_replicate, vf_split]
  have h0 : vf 2 (dig d1 (List.replicate n (default : Bool) ++ xs)) n = 0 := by
    rw [vf_zero_tail (Nat.zero_le _) (fun i _ hi => by rw [dig_append_left (by rw [List.length_replicate]; exact hi)]; unfold dig; rw [gat_replicate hi]; rfl)]; rfl
  rw [h0, Nat.zero_add]
  congr 1
  exact vf_congr fun i hi => by rw [dig_append_right (by rw [List.length_replicate]; omega), List.length_replicate, Nat.add_sub_cancel_left]
set_option maxRecDepth 100000 in
set_option maxHeartbeats 1000000 in
theorem rshift_any (va : Value) (a n k : Nat) (w : World) (hVa : RefV w va a) (hFa : blen a ≤ k) (hk : k ≤ 10000000) (hn : n ≤ 10000000) :
    Calls Try.prog 62 #[va, .int .i64 n] w (RetR w (a * 2 ^ n)) := by
  obtain ⟨A, la, ca, xs, rfl, hlx, hca, hma, hSa, hTa, hna⟩ := hVa.open_
  have hla : la ≤ k := by have := bits_len (hlx ▸ hTa); rw [hna, hlx] at this; omega
  by_cases h0 : la = 0
  · subst h0
    have ha : a = 0 := by rw [← hna]; unfold numOf; rw [hlx]; rfl
    subst ha
    clear hVa hTa hSa hna hFa hlx
    go_enter Try.func62, Try.ntmps62
    go_wp2
    go_ret
    exact ⟨_, _, _, rfl, NumS.cut (xs := []) Sl.nil (Nat.le_refl 0) (Nat.le_refl 0) (Nat.zero_le _) (by rw [Nat.zero_mul]; rfl) (.inl rfl), (Upd.refl _ _).alloc _⟩
  · have HSa := hide hSa
    have Hlx := hide hlx
    have Hna := hide hna
    have HTa := hide hTa
    have h0i : ((la : Int) == 0) = false := by rw [beq_eq_false_iff_ne]; omega
    clear hVa hTa hSa hna hFa hlx
    go_enter Try.func62, Try.ntmps62
    go_wp2_with (first
      | (at_make; go_must (refine wpList_mk _ _ _ Try.n_el1 rfl rfl n rfl rfl rfl rfl (by omega) (by unfold maxLen; omega) Value.bool rfl rfl (B := w.heap.size) (Nat.le_refl _) ?_); intro g w2 hO hg hU; have Hg := hide hg; clear hg)
      | (at_builtin; go_must (refine wpList_apd Value.bool one1 Try.n_el1 (List.replicate n (default : Bool)) xs (List.replicate n (default : Bool) ++ xs) (n + la) rfl (by rw [List.length_append, List.length_replicate, Hlx.out]) (by omega) (by unfold maxLen; omega) rfl rfl rfl List.length_replicate hO rfl Hlx.out (HSa.out.ext hU) (by have := hU.size; omega) ?_); intro Z2 c2 w3 hO3 hU3 hin3))
    go_ret
    have hcap := hO3.cap
    rw [List.length_map, List.length_append, List.length_replicate, Hlx.out] at hcap
    refine ⟨_, _, _, rfl, NumS.cut hO3.sl (by rw [List.length_append, List.length_replicate, Hlx.out]; exact Nat.le_refl _) hcap.1 hcap.2 ?_ (.inr ?_), Upd.fresh hU3 hU (fun i hi => by unfold inA at hi; simp at hi; rw [← hi, Hg.out]; exact Nat.le_refl _)⟩
    · have h1 := numOf_shift (xs := xs) (n := n)
      unfold numOf at h1
      rw [List.length_append, List.length_replicate, Hlx.out] at h1
      rw [h1, ← Hna.out]
      unfold numOf
      rw [Hlx.out]
    · rw [dig_append_right (by rw [List.length_replicate]; omega), List.length_replicate, show n + la - 1 - n = la - 1 by omega]
      rcases HTa.out with h | h
      · exact absurd h h0
      · exact h
theorem blen_mul {a b m n : Nat} (ha : blen a ≤ m) (hb : blen b ≤ n) : blen (a * b) ≤ m + n := by
  rw [blen_le_iff] at *
  rw [Nat.pow_add]
  exact Nat.mul_lt_mul'' ha hb
set_option maxRecDepth 100000 in
set_option maxHeartbeats 1000000 in
theorem rmul_any (va vb : Value) (a b k : Nat) (w : World) (hVa : RefV w va a) (hVb : RefV w vb b) (hFa : blen a ≤ k) (hFb : blen b ≤ k) (hk : k ≤ 4000000) :
    Calls Try.prog 33 #[va, vb] w (RetR w (a * b)) := by
  obtain ⟨A, la, ca, xs, rfl, -⟩ := hVa.open_
  obtain ⟨B, lb, cb, ys, rfl, hly, hcb, hmb, hSb, hTb, hnb⟩ := hVb.open_
  have hlb : lb ≤ k := by have := bits_len (hly ▸ hTb); rw [hnb, hly] at this; omega
  have HVa := hide hVa
  have HSb := hide hSb
  have Hnb := hide hnb
  have Hly := hide hly
  clear hVb hTb hSb hnb hFb hly hVa
  go_enter Try.func33, Try.ntmps33
  go_wp2
  go_loopw [5, 11] (fun o i wr => ∃ (j : Nat) (Z : Option Addr) (l c : Nat), j ≤ lb ∧ i = .int .i64 j ∧ o = .slice Z l c ∧ RefV wr (.slice Z l c) (a * vf 2 (dig d1 ys) j) ∧ Ext w wr) (fun _ i _ => lb - (intOf i).toNat)
  case atStart => exact ⟨0, _, _, _, Nat.zero_le _, rfl, rfl, NumS.cut (xs := []) Sl.nil (Nat.le_refl 0) (Nat.le_refl 0) (Nat.zero_le _) (by show _ = a * 0; rw [Nat.mul_zero]; rfl) (.inl rfl), (Upd.refl _ _).alloc _⟩
  case round =>
    obtain ⟨j, Z, l, c, hj, rfl, rfl, hV, hE⟩ := hrel
    by_cases h1 : j < lb
    · obtain ⟨b2, o2, rfl, hbl2, hcells⟩ := (HSb.out.ext hE).open_ (by rw [Hly.out]; omega)
      have hcell := hcells j (by rw [Hly.out]; omega)
      obtain ⟨x, hx⟩ : ∃ x, gat ys j = x := ⟨_, rfl⟩
      rw [hx] at hcell
      have hxd : dig d1 ys j = d1 x := by unfold dig; rw [hx]
      have Hx := hide hxd
      clear hcells hx hxd
      cases x with
      | false =>
        have hnx : a * vf 2 (dig d1 ys) (j + 1) = a * vf 2 (dig d1 ys) j := by rw [vf_succ, Hx.out]; show a * (_ + 0 * _) = _; rw [Nat.zero_mul, Nat.add_zero]
        have Hnx := hide hnx
        clear hnx
        go_wp2_with fail
        go_roundw
        case rel => exact ⟨j + 1, _, _, _, by omega, by go_num, rfl, by rw [Hnx.out]; exact hV, hE⟩
        case measure => simp [intOf]; omega
      | true =>
        have hnx : a * vf 2 (dig d1 ys) (j + 1) = a * vf 2 (dig d1 ys) j + a * 2 ^ j := by rw [vf_succ, Hx.out]; show a * (_ + 1 * _) = _; rw [Nat.one_mul, Nat.mul_add]
        have Hnx := hide hnx
        have hb1 : blen (a * vf 2 (dig d1 ys) j) ≤ k + j := blen_mul hFa (blen_le_iff.2 (vf_lt fun i _ => d1_lt _))
        have hb2 : blen (a * 2 ^ j) ≤ k + (j + 1) := blen_mul hFa (blen_le_iff.2 (Nat.pow_lt_pow_right (by omega) (by omega)))
        have Hb1 := hide hb1
        have Hb2 := hide hb2
        clear hnx hb1 hb2
        go_wp2_with fail
        refine (rshift_any (.slice A la ca) a j k _ (HVa.out.ext hE) hFa (by omega) (by omega)).mono ?_
        rintro e w1 ⟨A1, l1, c1, rfl, hV1, hU1⟩
        go_wp2_with fail
        refine (radd_any _ _ _ _ (k + j + 1) _ (hV.ext hU1) hV1 (by have := Hb1.out; omega) (by have := Hb2.out; omega) (by omega)).mono ?_
        rintro e w2 ⟨A2, l2, c2, rfl, hV2, hU2⟩
        go_wp2_with fail
        go_roundw
        case rel => exact ⟨j + 1, _, _, _, by omega, by go_num, rfl, by rw [Hnx.out]; exact hV2, (hE.trans hU1).trans hU2⟩
        case measure => simp [intOf]; omega
    · obtain rfl : j = lb := by omega
      go_wp2_with fail
      go_ret
      exact ⟨_, _, _, rfl, hV.of_eq (by rw [← Hnb.out]; unfold numOf; rw [Hly.out]), hE⟩
end Go.Proofs.Ytekpjdfgpggcnaa
