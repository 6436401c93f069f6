/- Facts on slots for regions whose order is open: a known value; bytes that are one's own; a row of parts. -/
import Derived.Test.YtlbhjjihopafoaaFree
import Derived.Test.YtlbhjjihopafoaaMacM
namespace Go.Proofs.Ytlbhjjihopafoaa
open Go.RowKit
open Sha

def FVal (v0 : Value) : Fact := fun v _ _ => v = v0
def FBytes (B : Nat) (n : Nat) (bs : List (BitVec 8)) : Fact := fun v w S => ∃ A c, v = .slice A n c ∧ Own w B 5 A c (bs.map by8) ∧ ∀ k, inA A k → S k
def FRow (n : Nat) (ps : List Pt) : Fact := fun v w S => ∃ g, v = .slice (some ⟨g, 0, none⟩) n n ∧ Sl Pt.val w (some ⟨g, 0, none⟩) ps ∧ S g
theorem FVal.local {w0 : World} (v0 : Value) : Local w0 (FVal v0) := fun _ _ _ _ h _ => h
theorem FBytes.local {w0 : World} (B n : Nat) (bs : List (BitVec 8)) : Local w0 (FBytes B n bs) := fun v w w' S ⟨A, c, h1, h2, h3⟩ hU =>
  ⟨A, c, h1, h2.upd hU (fun k hk h => h.2 (h3 k hk)), h3⟩
theorem FRow.local {w0 : World} (n : Nat) (ps : List Pt) : Local w0 (FRow n ps) := fun v w w' S ⟨g, h1, h2, h3⟩ hU =>
  ⟨g, h1, h2.upd hU (fun b o e h => by injection e with e; injection e with e; subst e; exact h.2 h3), h3⟩
end Go.Proofs.Ytlbhjjihopafoaa
