/- The document's constants are the roots'. -/
import Derived.Test.YtjdodhooojjldaaShaN
namespace Go.Proofs.Ytjdodhooojjldaa
set_option linter.unusedSimpArgs false
set_option linter.unusedVariables false
open Go.RowKit
open Sha
def rootF (p e : Nat) : Nat → Nat → Nat → Nat
  | 0, _, x => x
  | s + 1, b, x => force ((x + b) % M64) fun y => force (b / 2) fun b2 => bif fitsL y p e then rootF p e s b2 y else rootF p e s b2 x
theorem rootF_eq (p e : Nat) : ∀ s k, rootF p e s (bitR k) (rootL p e k) = rootL p e (k + s)
  | 0, k => rfl
  | s + 1, k => by
    show force _ _ = _
    rw [force_eq, force_eq, ← bitR_succ]
    have h := rootF_eq p e s (k + 1)
    rw [show k + (s + 1) = k + 1 + s by omega, ← h]
    show cond _ _ _ = rootF p e s (bitR (k + 1)) (if _ then _ else _)
    cases fitsL ((rootL p e k + bitR k) % M64) p e <;> rfl
def primesN : List Nat := [2,3,5,7,11,13,17,19,23,29,31,37,41,43,47,53,59,61,67,71,73,79,83,89,97,101,103,107,109,113,127,131,137,139,149,151,157,163,167,173,179,181,191,193,197,199,211,223,227,229,233,239,241,251,257,263,269,271,277,281,283,293,307,311]
theorem primes_all : (List.range 64).map (nthP 400 2) = primesN := by decide +kernel
theorem cubes : primesN.map (fun p => rootF p 3 37 68719476736 0 % H32) = K.map BitVec.toNat := by decide +kernel
theorem squares : (primesN.take 8).map (fun p => rootF p 2 37 68719476736 0 % H32) = F.map BitVec.toNat := by decide +kernel
end Go.Proofs.Ytjdodhooojjldaa
