/- Equal exponents: Prove refused, the law's member, plain laws. -/
import Derived.Test.YtnhpkpopfdfohaaGreatDvDlqC
namespace Go.Proofs.YtnhpkpopfdfohaaGreat
set_option linter.unusedSimpArgs false
set_option linter.unusedVariables false
open Go.RowKit
open Nt Sha
attribute [local go_sem] steady steadyUpon Cls same_cell anyW
attribute [local irreducible] wpHead wpTree wpHeadR sum chalOf ansN
/-! ### plainly -/
section
variable {P Q : Nat}
theorem gok_of {a : Nat} (h : memB P Q a = true) (hP : 2 ≤ P) (hQ : 64 < Q) : GOk P Q a := ⟨(memB_lt h).2.2, hP, hQ⟩
theorem GOk.pow_one {a : Nat} (h : GOk P Q a) (x : Nat) : (a ^ x % P) ^ Q % P = 1 := by
  rw [← Nat.pow_mod, ← Nat.pow_mul, Nat.mul_comm, Nat.pow_mul]; exact one_pow_mod h.two h.one
theorem GOk.opn_pv {a : Nat} (h : GOk P Q a) {x k c s : Nat} (hs : s % Q = (k + c * x) % Q) (hc : c ≤ Q) : opn P Q a (a ^ x % P) s c = a ^ k % P := by
  unfold opn
  rw [Nat.mul_mod, inv_pow' (h.pow_one x) h.two h.sml hc, ← Nat.mul_mod]
  exact h.open_ hs hc
theorem pvC_lt (hQ : 64 < Q) (a b x : Nat) (side : List (BitVec 8)) : pvC P Q a b x side < Q := ansN_lt (by omega)
theorem pvS_lt (hQ : 64 < Q) (a b x : Nat) (side : List (BitVec 8)) : pvS P Q a b x side < Q := Nat.mod_lt _ (by omega)
theorem pvB_length (a b x : Nat) (side : List (BitVec 8)) : (pvB P Q a b x side).length = 2 * byteSz Q := by
  unfold pvB; rw [List.length_append, toB_length, toB_length]; omega
theorem proved {a b : Nat} (ha : memB P Q a = true) (hb : memB P Q b = true) (hP : 2 ≤ P) (hQ : 64 < Q) (x : Nat) (side : List (BitVec 8)) : dverB P Q a b (a ^ x % P) (b ^ x % P) side (pvB P Q a b x side) = true := by
  have ga := gok_of ha hP hQ
  have gb := gok_of hb hP hQ
  have hc := pvC_lt (P := P) hQ a b x side
  have hs := pvS_lt (P := P) hQ a b x side
  have ht : (pvB P Q a b x side).take (byteSz Q) = toB (pvC P Q a b x side) (byteSz Q) := by
    unfold pvB; rw [List.take_append_of_le_length (by rw [toB_length]; exact Nat.le_refl _), List.take_of_length_le (by rw [toB_length]; exact Nat.le_refl _)]
  have hd : (pvB P Q a b x side).drop (byteSz Q) = toB (pvS P Q a b x side) (byteSz Q) := by
    unfold pvB; rw [List.drop_append_of_le_length (by rw [toB_length]; exact Nat.le_refl _), List.drop_of_length_le (by rw [toB_length]; exact Nat.le_refl _), List.nil_append]
  have hse : pvS P Q a b x side % Q = (pvK P Q a b x side + pvC P Q a b x side * x) % Q := by
    unfold pvS; rw [Nat.mod_mod, Nat.add_mod, Nat.mod_mod, ← Nat.add_mod]
  have h1 := ga.opn_pv hse (Nat.le_of_lt hc)
  have h2 := gb.opn_pv hse (Nat.le_of_lt hc)
  have hm : [a, b, a ^ x % P, b ^ x % P].all (memB P Q) = true := by
    simp only [List.all_cons, List.all_nil, ha, hb, ga.mem x, gb.mem x]; rfl
  unfold dverB
  rw [ht, hd, ofB_fix hc, ofB_fix hs, hm, decide_eq_true (pvB_length a b x side), decide_eq_true hc, decide_eq_true hs, h1, h2]
  simp only [Bool.true_and]
  exact decide_eq_true rfl
theorem dverB_len {a b y z : Nat} {side prf : List (BitVec 8)} (h : prf.length ≠ 2 * byteSz Q) : dverB P Q a b y z side prf = false := by
  unfold dverB; rw [decide_eq_false h, Bool.false_and, Bool.and_false]
end
section
variable (gr P Q G H k : Nat) (w : World)
set_option maxRecDepth 100000 in
set_option maxHeartbeats 2000000 in
theorem dmem_any (x : Nat) (raw : Bool) (h : GrpV w gr P Q G H) (hx : x < 18446744073709551616) (hGf : Fit k G) (hP : Fit k P) (hk : k ≤ 50000) (hk2 : 2 ≤ k) :
    Calls Tryz.prog 12 #[.pointer (some ⟨gr, 0, none⟩), .int .u64 (x : Nat), .bool raw] w (RetN w (if raw = true then x else G ^ x % P)) := by
  go_enter Tryz.func12, Tryz.ntmps12
  obtain ⟨W, hW⟩ : ∃ W, W = w.alloc (.cells #[.slice none 0 0] 34) := ⟨_, rfl⟩
  have b6 : Box W w.heap.size 34 (.slice none 0 0) := by rw [hW]; exact Box.new _ _ _
  have hE : Ext w W := by rw [hW]; exact (Upd.refl _ w).alloc _
  cases raw with
  | true =>
    go_wp2_with fail
    rw [← hW]
    refine (new_any x W hx).mono ?_
    rintro e w1 ⟨A1, l1, c1, rfl, hV1, hU1⟩
    have b := b6.ext hU1
    have z2 := b.cell
    have z3 := b.frozen
    have hEE := hE.trans hU1
    go_wp2_with fail
    have q := (b.set (.slice A1 l1 c1)).cell
    exact bodyPost_ret (v := .agg #[.slice A1 l1 c1]) (by simp [results, Tryz.results12, go_sem, q]) rfl ⟨_, _, _, rfl, hV1.far z2, hEE.setCell (p := ⟨w.heap.size, 0, none⟩) (.inr (Nat.le_refl _)) _⟩
  | false =>
    go_wp2_with fail
    rw [← hW]
    refine (gG_any gr P Q G H W (h.ext hE)).mono ?_
    rintro e w1 ⟨A1, l1, c1, rfl, hV1, hU1⟩
    go_wp2_with fail
    refine (new_any x _ hx).mono ?_
    rintro e w2 ⟨A2, l2, c2, rfl, hV2, hU2⟩
    go_wp2_with fail
    refine (gExp_any gr P Q G H k _ _ _ G x k (h.ext (hE.trans (hU1.trans hU2))) (hV1.ext hU2) hV2 hGf hP ((fit2 hx).mono (by omega)) hk hk).mono ?_
    rintro e w3 ⟨A3, l3, c3, rfl, hV3, hU3⟩
    have hUU := (hU1.trans hU2).trans hU3
    have b := b6.ext hUU
    have z2 := b.cell
    have z3 := b.frozen
    have hEE := hE.trans hUU
    go_wp2_with fail
    have q := (b.set (.slice A3 l3 c3)).cell
    exact bodyPost_ret (v := .agg #[.slice A3 l3 c3]) (by simp [results, Tryz.results12, go_sem, q]) rfl ⟨_, _, _, rfl, hV3.far z2, hEE.setCell (p := ⟨w.heap.size, 0, none⟩) (.inr (Nat.le_refl _)) _⟩
end
end Go.Proofs.YtnhpkpopfdfohaaGreat
