/- Equal exponents: Prove refused, the law's member, plain laws. -/
import Derived.Test.YtoekbomfepedcaaDsDlqC
namespace Go.Proofs.Ytoekbomfepedcaa
set_option linter.unusedSimpArgs false
set_option linter.unusedVariables false
open Go.RowKit
open Nt Sha
attribute [local go_sem] steady steadyUpon Cls same_cell anyW
attribute [local irreducible] wpHead wpTree wpHeadR sum chalOf ansN
/-! ### plainly -/
section
variable {P Q : Nat}
theorem gok_of {a : Nat} (h : memB P Q a = true) (hP : 2 ≤ P) (hQ : 64 < Q) : GOk P Q a := ⟨(memB_lt h).2.2, hP, hQ⟩
theorem GOk.pow_one {a : Nat} (h : GOk P Q a) (x : Nat) : (a ^ x % P) ^ Q % P = 1 := by
  rw [← Nat.pow_mod, ← Nat.pow_mul, Nat.mul_comm, Nat.pow_mul]; exact one_pow_mod h.two h.one
theorem GOk.opn_pv {a : Nat} (h : GOk P Q a) {x k c s : Nat} (hs : s % Q = (k + c * x) % Q) (hc : c ≤ Q) : opn P Q a (a ^ x % P) s c = a ^ k % P := by
  unfold opn
  rw [Nat.mul_mod, inv_pow' (h.pow_one x) h.two h.sml hc, ← Nat.mul_mod]
  exact h.open_ hs hc
theorem pvC_lt (hQ : 64 < Q) (a b x : Nat) (side : List (BitVec 8)) : pvC P Q a b x side < Q := ansN_lt (by omega)
theorem pvS_lt (hQ : 64 < Q) (a b x : Nat) (side : List (BitVec 8)) : pvS P Q a b x side < Q := Nat.mod_lt _ (by omega)
theorem pvB_length (a b x : Nat) (side : List (BitVec 8)) : (pvB P Q a b x side).length = 2 * byteSz Q := by
  unfold pvB; rw [List.length_append, toB_length, toB_length]; omega
theorem proved {a b : Nat} (ha : memB P Q a = true) (hb : memB P Q b = true) (hP : 2 ≤ P) (hQ : 64 < Q) (x : Nat) (side : List (BitVec 8)) : dverB P Q a b (a ^ x % P) (b ^ x % P) side (pvB P Q a b x side) = true := by
  have ga := gok_of ha hP hQ
  have gb := gok_of hb hP hQ
  have hc := pvC_lt (P := P) hQ a b x side
  have hs := pvS_lt (P := P) hQ a b x side
  have ht : (pvB P Q a b x side).take (byteSz Q) = toB (pvC P Q a b x side) (byteSz Q) := by
    unfold pvB; rw [List.take_append_of_le_length (by rw [toB_length]; exact Nat.le_refl _), List.take_of_length_le (by rw [toB_length]; exact Nat.le_refl _)]
  have hd : (pvB P Q a b x side).drop (byteSz Q) = toB (pvS P Q a b x side) (byteSz Q) := by
    unfold pvB; rw [List.drop_append_of_le_length (by rw [toB_length]; exact Nat.le_refl _), List.drop_of_length_le (by rw [toB_length]; exact Nat.le_refl _), List.nil_append]
  have hse : pvS P Q a b x side % Q = (pvK P Q a b x side + pvC P Q a b x side * x) % Q := by
    unfold pvS; rw [Nat.mod_mod, Nat.add_mod, Nat.mod_mod, ← Nat.add_mod]
  have h1 := ga.opn_pv hse (Nat.le_of_lt hc)
  have h2 := gb.opn_pv hse (Nat.le_of_lt hc)
  have hm : [a, b, a ^ x % P, b ^ x % P].all (memB P Q) = true := by
    simp only [List.all_cons, List.all_nil, ha, hb, ga.mem x, gb.mem x]; rfl
  unfold dverB
  rw [ht, hd, ofB_fix hc, ofB_fix hs, hm, decide_eq_true (pvB_length a b x side), decide_eq_true hc, decide_eq_true hs, h1, h2]
  simp only [Bool.true_and]
  exact decide_eq_true rfl
end
section
variable (gr P Q G H k : Nat) (w : World)
end
end Go.Proofs.Ytoekbomfepedcaa
