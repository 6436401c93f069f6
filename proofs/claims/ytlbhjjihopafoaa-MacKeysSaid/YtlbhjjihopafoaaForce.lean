/- Numbers that the kernel reckons step by step: 'force' hands on a numeral, not a term. -/
import Derived.KernelRfl
namespace Go.Proofs.Ytlbhjjihopafoaa

def force {α : Type} (n : Nat) (f : Nat → α) : α := Nat.rec (f 0) (fun k _ => f (k + 1)) n
theorem force_eq {α : Type} (n : Nat) (f : Nat → α) : force n f = f n := by cases n <;> rfl
def forceL {α : Type} : List Nat → (List Nat → α) → α
  | [], f => f []
  | x :: xs, f => force x fun x => forceL xs fun xs => f (x :: xs)
theorem forceL_eq {α : Type} (l : List Nat) (f : List Nat → α) : forceL l f = f l := by
  induction l generalizing f with
  | nil => rfl
  | cons x xs ih => simp only [forceL, force_eq, ih]
end Go.Proofs.Ytlbhjjihopafoaa
