/- The law BoxBack, walked: what is sealed is opened; with another one of the last 16 bytes it isn't. -/
import Derived.Test.YtpffdpieciaooaaBoxO
namespace Go.Proofs.Ytpffdpieciaooaa
set_option linter.unusedSimpArgs false
set_option linter.unusedVariables false
open Go.RowKit
open Nt Strm
attribute [local go_sem] steady steadyUpon Cls same_cell by8 str_eq xor_u8
attribute [local irreducible] wpHead wpTree
theorem bxO_cat {key nonce side X P : List (BitVec 8)} (hP : P.length = 16) : bxO key nonce side (X ++ P) = if bxP key nonce side X = P then some (xors key 1 nonce X) else none := by
  unfold bxO
  rw [List.length_append, hP, Nat.add_sub_cancel, List.take_left' rfl, List.drop_left' rfl]
theorem bxO_back (key nonce side b : List (BitVec 8)) : bxO key nonce side (bxS key nonce side b) = some b := by
  unfold bxS
  rw [bxO_cat (bxP_length _ _ _ _), if_pos rfl, xors_back]
theorem bxO_turned (key nonce side b : List (BitVec 8)) {n k : Nat} (hn : b.length = n) (hk : k < 16) (y : BitVec 8) :
    bxO key nonce side ((bxS key nonce side b).set (n + k) (gat (bxS key nonce side b) (n + k) ^^^ y)) = if y = 0 then some b else none := by
  have hl : (xors key 1 nonce b).length = n := by rw [xors_length, hn]
  have hp := bxP_length key nonce side (xors key 1 nonce b)
  unfold bxS
  rw [List.set_append_right _ _ (by omega), hl, Nat.add_sub_cancel_left, bxO_cat (by rw [List.length_set, hp]), gat_append_right (by omega), hl, Nat.add_sub_cancel_left, xors_back]
  generalize bxP key nonce side (xors key 1 nonce b) = P at hp ⊢
  have hk' : k < P.length := by omega
  have h : (P = P.set k (gat P k ^^^ y)) ↔ y = 0 := by
    rw [gat_lt hk']
    constructor
    · intro h
      have h2 := congrArg (fun l => l[k]?) h
      simp only [List.getElem?_set_self hk', List.getElem?_eq_getElem hk', Option.some.injEq] at h2
      have h3 : P[k] ^^^ P[k] = P[k] ^^^ (P[k] ^^^ y) := congrArg (P[k] ^^^ ·) h2
      rw [← BitVec.xor_assoc, BitVec.xor_self, BitVec.zero_xor] at h3
      exact h3.symm
    · rintro rfl
      have : P[k] ^^^ (0 : BitVec 8) = P[k] := BitVec.xor_zero
      rw [this, List.set_getElem_self]
  by_cases hy : y = 0
  · rw [if_pos (h.2 hy), if_pos hy]
  · rw [if_neg (fun e => hy (h.1 e)), if_neg hy]
theorem u64_mod16 (N : Int) : ∃ K : Nat, (IntKind.u64.wrap N).tmod 16 = (K : Int) ∧ K < 16 := by
  have hw0 : 0 ≤ IntKind.u64.wrap N := by
    unfold IntKind.wrap
    simp [IntKind.signed, IntKind.bits]
    omega
  rw [Int.tmod_eq_emod_of_nonneg hw0]
  exact ⟨(IntKind.u64.wrap N % 16).toNat, by omega, by omega⟩
set_option maxRecDepth 100000 in
set_option maxHeartbeats 2000000 in
theorem bback_any (A B C D : Option Addr) (nk c nn d ns cs n f : Nat) (at0 : Int) (y : BitVec 8) (key nonce side b : List (BitVec 8)) (w : World) (h1 : Bi w A nk c key) (h2 : Bi w B nn d nonce) (h3 : Bi w C ns cs side) (h4 : Bi w D n f b) :
    Calls Try.prog 13 #[.slice A nk c, .slice B nn d, .slice C ns cs, .slice D n f, .int .i64 at0, .int .u8 (n8 y)] w fun e w' => e = .returned (.bool true) ∧ Ext w w' := by
  have H1 := hide h1
  have H2 := hide h2
  have H3 := hide h3
  have H4 := hide h4
  obtain ⟨q, hq, hq16⟩ := u64_mod16 at0
  clear h1 h2 h3 h4
  have Hq := hide hq
  clear hq
  go_enter Try.func13, Try.ntmps13
  go_wp2_with fail
  refine (blives_any _).mono ?_
  rintro e w1 ⟨rfl, hU1⟩
  go_wp2_with fail
  refine (bfew_two (H3.out.ext hU1) (H4.out.ext hU1)).mono ?_
  rintro e w2 ⟨rfl, hU2⟩
  replace hU2 := hU1.trans hU2
  clear hU1
  cases hf : few2 ns n with
  | false =>
    go_wp2_with fail
    refine (blives_any _).mono ?_
    rintro e w3 ⟨rfl, hU3⟩
    go_wp2_with fail
    go_ret
    exact ⟨rfl, hU2.trans hU3⟩
  | true =>
    obtain ⟨hb1, hb2⟩ : ns ≤ 200 ∧ n ≤ 200 := by unfold few2 at hf; simpa using hf
    clear hf
    cases hw : wrongB nk nn with
    | true =>
      have hne : ¬ (nk = 32 ∧ nn = 12) := fun h => by rw [wrong_iff.2 h] at hw; cases hw
      go_wp2_with fail
      refine (bseal_wrong _ _ _ _ nk c nn d ns cs n f _ hw).mono ?_
      rintro e w4 ⟨rfl, hU4⟩
      have hE4 := hU2.trans hU4
      by_cases h32 : nk = 32
      · have h12 : ¬ (nn : Int) = 12 := by omega
        have h32I : (nk : Int) = 32 := by omega
        have hq : ((nn : Int) != 12) = true := by simp; omega
        go_wp2_with fail
        go_ret
        exact ⟨rfl, hE4⟩
      · have h32I : ¬ (nk : Int) = 32 := by omega
        have hq : ((nk : Int) != 32) = true := by simp; omega
        go_wp2_with fail
        go_ret
        exact ⟨rfl, hE4⟩
    | false =>
      obtain ⟨rfl, rfl⟩ := wrong_iff.1 hw
      clear hw
      go_wp2_with fail
      refine (bseal_any _ _ _ _ c d ns cs n f key nonce side b _ ⟨H1.out.1, H2.out.1, H1.out.2.1, H2.out.2.1, H1.out.2.2.2.ext hU2, H2.out.2.2.2.ext hU2, H3.out.1, by omega, H3.out.2.2.2.ext hU2, H4.out.1, by omega, H4.out.2.2.2.ext hU2⟩).mono ?_
      rintro e w4 ⟨A4, c4, rfl, -, hO4, hU4⟩
      have hE4 := hU2.trans hU4
      obtain ⟨xs, hxs⟩ : ∃ xs, xs = bxS key nonce side b := ⟨_, rfl⟩
      have hlen : xs.length = n + 16 := by rw [hxs, bxS_length, H4.out.1]
      rw [← hxs] at hO4
      have hc4 := hO4.cap.1
      rw [List.length_map, hlen] at hc4
      have hback := bxO_back key nonce side b
      have hturn := bxO_turned key nonce side b H4.out.1 hq16 y
      rw [← hxs] at hback hturn
      have Hback := hide hback
      have Hturn := hide hturn
      have Hlen := hide hlen
      obtain ⟨g4, rfl, hg4, hg4'⟩ := hO4.open_ (by rw [List.length_map, hlen]; omega)
      have hB4 : w.heap.size ≤ g4 := Nat.le_trans hU2.size hg4
      clear hxs hback hturn hlen hU4 hg4 hg4' hU2
      go_wp2_with fail
      refine (bopen_any A B C _ c d ns cs n c4 key nonce side xs _ ⟨H1.out.1, H2.out.1, H1.out.2.1, H2.out.2.1, H1.out.2.2.2.ext hE4, H2.out.2.2.2.ext hE4, H3.out.1, by omega, H3.out.2.2.2.ext hE4, Hlen.out, by omega, hO4.sl⟩ hc4).mono ?_
      rintro e w5 hR5
      rw [Hback.out] at hR5
      obtain ⟨A5, c5, rfl, -, hO5, hU5⟩ := hR5
      have hE5 := hE4.trans hU5
      have hcy := nstr_run (c := c5) hO5.sl H4.out.1
      have hcb := nstr_run (c := f) (H4.out.2.2.2.ext hE5) H4.out.1
      replace hO4 := hO4.ext hU5
      have ck := hO4.row.cell (i := n + q) (by rw [Hlen.out]; omega)
      have fk := hO4.row.frozen (n + q)
      have hO6 := hO4.set (i := n + q) (by rw [Hlen.out]; omega) (gat xs (n + q) ^^^ y) rfl
      have hE6 : Ext w (w5.setCell ⟨g4, n + q, none⟩ (by8 (gat xs (n + q) ^^^ y))) := Upd.fresh ((Upd.refl _ _).setCell (T := only g4) (p := ⟨g4, n + q, none⟩) (.inl rfl) _) hE5 (fun i hi => by unfold only at hi; omega)
      have HO6 := hide hO6
      have HE6 := hide hE6
      have hq' := Hq.out
      have hqw : IntKind.i64.wrap (q : Int) = (q : Int) := IntWalk.i64_in _ (by omega)
      clear hO5 hU5 hE4 hO4 hO6 hE6 hE5
      go_wp2_with fail
      obtain ⟨W6, hW6⟩ : ∃ W6, W6 = w5.setCell ⟨g4, n + q, none⟩ (by8 (gat xs (n + q) ^^^ y)) := ⟨_, rfl⟩
      have hO6 := HO6.out
      have hE6 := HE6.out
      rw [← hW6] at hO6 hE6
      rw [show w5.setCell ⟨g4, n + q, none⟩ (Value.int .u8 (n8 (gat xs (n + q) ^^^ y))) = W6 from hW6.symm]
      have hl2 : (xs.set (n + q) (gat xs (n + q) ^^^ y)).length = n + 16 := by rw [List.length_set]; exact Hlen.out
      clear hW6 HO6 HE6 ck fk hcy hcb hq' hqw
      refine (bopen_any A B C _ c d ns cs n c4 key nonce side _ _ ⟨H1.out.1, H2.out.1, H1.out.2.1, H2.out.2.1, H1.out.2.2.2.ext hE6, H2.out.2.2.2.ext hE6, H3.out.1, by omega, H3.out.2.2.2.ext hE6, hl2, by omega, hO6.sl⟩ hc4).mono ?_
      rintro e w7 hR7
      rw [Hturn.out] at hR7
      by_cases hy : y = 0
      · rw [if_pos hy] at hR7
        obtain ⟨A7, c7, rfl, -, hO7, hU7⟩ := hR7
        have hE7 := hE6.trans hU7
        have hy0 : n8 y = 0 := by rw [hy]; rfl
        clear hO7 hU7 hO6 hE6 hl2 hy Hback Hturn
        go_wp2_with fail
        go_ret
        exact ⟨rfl, hE7⟩
      · rw [if_neg hy] at hR7
        obtain ⟨rfl, hU7⟩ := hR7
        have hE7 := hE6.trans hU7
        have hy0 : ¬ n8 y = 0 := fun h => hy (n8_inj.1 h)
        have hy1 : (n8 y == 0) = false := beq_eq_false_iff_ne.2 hy0
        clear hU7 hO6 hE6 hl2 hy Hback Hturn
        go_wp2_with fail
        go_ret
        exact ⟨rfl, hE7⟩
end Go.Proofs.Ytpffdpieciaooaa
