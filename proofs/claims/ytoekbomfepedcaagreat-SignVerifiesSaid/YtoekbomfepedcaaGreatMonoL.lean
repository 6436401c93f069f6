/- What stays known of a value while nothing old turns: rows of bytes, rows of rows. -/
import Derived.Test.YtoekbomfepedcaaGreatMono
import Derived.Test.YtoekbomfepedcaaGreatShas
namespace Go.Proofs.YtoekbomfepedcaaGreat
set_option linter.unusedSimpArgs false
set_option linter.unusedVariables false
open Go.RowKit
open Sha
@[reducible] def MF.eq (x : Value) : MF := ⟨fun v _ => v = x, fun _ _ _ h _ => h⟩
def bytesM (n : Nat) (bs : List (BitVec 8)) : MF := ⟨fun v w => ∃ A c, v = .slice A n c ∧ bs.length = n ∧ n ≤ c ∧ c ≤ maxLen ∧ Sl by8 w A bs, fun _ _ _ ⟨A, c, e, h1, h2, h3, h⟩ hU => ⟨A, c, e, h1, h2, h3, h.ext hU⟩⟩
def ptsM (n : Nat) (ps : List Pt) : MF := ⟨fun v w => ∃ A c, v = .slice A n c ∧ ps.length = n ∧ Pts w A ps, fun _ _ _ ⟨A, c, e, h1, h⟩ hU => ⟨A, c, e, h1, h.ext hU⟩⟩
def partsM (n : Nat) (bs : List (BitVec 8)) : MF := ⟨fun v w => ∃ (A : Option Addr) (c : Nat) (ps : List Pt), v = .slice A n c ∧ ps.length = n ∧ flat ps = bs ∧ Pts w A ps, fun _ _ _ ⟨A, c, ps, e, h1, h2, h⟩ hU => ⟨A, c, ps, e, h1, h2, h.ext hU⟩⟩
theorem bytesM_mk {n : Nat} {bs : List (BitVec 8)} {v : Value} {w : World} (h : ∃ A c, v = .slice A n c ∧ bs.length = n ∧ n ≤ c ∧ c ≤ maxLen ∧ Sl by8 w A bs) : (bytesM n bs).p v w := h
theorem bytesM_out {n : Nat} {bs : List (BitVec 8)} {v : Value} {w : World} (h : (bytesM n bs).p v w) : ∃ A c, v = .slice A n c ∧ bs.length = n ∧ n ≤ c ∧ c ≤ maxLen ∧ Sl by8 w A bs := h
theorem partsM_mk {n : Nat} {bs : List (BitVec 8)} {v : Value} {w : World} (h : ∃ (A : Option Addr) (c : Nat) (ps : List Pt), v = .slice A n c ∧ ps.length = n ∧ flat ps = bs ∧ Pts w A ps) : (partsM n bs).p v w := h
theorem partsM_out {n : Nat} {bs : List (BitVec 8)} {v : Value} {w : World} (h : (partsM n bs).p v w) : ∃ (A : Option Addr) (c : Nat) (ps : List Pt), v = .slice A n c ∧ ps.length = n ∧ flat ps = bs ∧ Pts w A ps := h
theorem Own.pt {w : World} {B : Nat} {e : TypeId} {A : Option Addr} {c n : Nat} {bs : List (BitVec 8)} (h : Own w B e A c (bs.map by8)) (hn : bs.length = n) : bs.length = n ∧ n ≤ c ∧ c ≤ maxLen ∧ Sl by8 w A bs := by
  have hc := h.cap
  rw [List.length_map, hn] at hc
  exact ⟨hn, hc.1, hc.2, h.sl⟩
end Go.Proofs.YtoekbomfepedcaaGreat
