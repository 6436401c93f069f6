/-
  No cell of these rows narrows 'for every input' (looked for: loops, veiled, ifaces, maps, wideKeys, modest, calm, conditions, laid).
  DERIVED. THE GIVEN ROWS OF THIS SEAT. 5 by the template 'for every input the law returns true; each argument reads behind the call as it read before'; 0 by the template 'total and deterministic' (their statements: YtdohmikoafkniaaGreatTotals.lean).
  GIVEN WITH THE SEED: the statements are not yours to turn. If you find one false, say at which input.
  Laid BY PROGRAM, IN A SANDBOX (cutbox-rows.mjs): the forced cells as the released guide's own fill.sh prints them over the translation aa0193d7db52f60a… (all of the seat's roots in one cut). By AI agents, Wed Nov 11 2026. No macro, syntax, notation, axiom, sorry.
-/
import Derived.Test.YtdohmikoafkniaaGreatChecked
import GoSem.Claim
import GoSem.ClaimJoined
import GoSem.ClaimMapViews
import Derived.JoinedTies
import Derived.KernelRfl
namespace Go.Proofs.YtdohmikoafkniaaGreat
/- THE CELL 'sum', in the pinned program and in every row, IS THE sha256 OF THE DUMP (.gsa) THAT YtdohmikoafkniaaGreatProg.lean LOADS. Nothing in Lean hashes anything: it is a label: what it is worth is what the hold of that sum in a sandbox is worth. -/
noncomputable def Tryz.pinned : Pinned := { name := "ytdohmikoafkniaagreat", sum := "aa0193d7db52f60a58bb3a47b0aef436c374bc3eef04c9c8080a08aba167c46f", checked := Tryz.checked }
namespace Rows
def none {H : Type} : Left H := { results := [], args := [] }

/-- 'sacristylaw12.DleqProves': WHATEVER THE INPUT: true; the input reads as it did. -/
def dleqProvesSpec : ChangeSpec := { name := "dleqProves", fn := fun _ => fun
  | [d1, d2, d3, d4, d5, d6] => { results := [.lit (.bool true)], args := [d1, d2, d3, d4, d5, d6] }
  | _ => none }
def dleqProvesRow : OpenClaim := { program := "ytdohmikoafkniaagreat", sum := "aa0193d7db52f60a58bb3a47b0aef436c374bc3eef04c9c8080a08aba167c46f", func := "sacristy/sacristylaw12.DleqProves", spec := "dleqProves", unfollowed := true, recurses := true, apart := false }
def DleqProvesSaid : Prop := dleqProvesRow.holds Tryz.pinned (OpenSpec.ofChange dleqProvesSpec)

/-- ITS FALSE NEIGHBOUR: 'it returns false'. Refute it at one input. -/
def dleqProvesWrong : ChangeSpec := { name := "dleqProves", fn := fun _ => fun
  | [d1, d2, d3, d4, d5, d6] => { results := [.lit (.bool false)], args := [d1, d2, d3, d4, d5, d6] }
  | _ => none }
def DleqProvesWrongFalsely : Prop := dleqProvesRow.holds Tryz.pinned (OpenSpec.ofChange dleqProvesWrong)

/-- 'sacristylaw21.LetterSeals': WHATEVER THE INPUT: true; the input reads as it did. -/
def letterSealsSpec : ChangeSpec := { name := "letterSeals", fn := fun _ => fun
  | [d1, d2, d3, d4, d5, d6, d7] => { results := [.lit (.bool true)], args := [d1, d2, d3, d4, d5, d6, d7] }
  | _ => none }
def letterSealsRow : OpenClaim := { program := "ytdohmikoafkniaagreat", sum := "aa0193d7db52f60a58bb3a47b0aef436c374bc3eef04c9c8080a08aba167c46f", func := "sacristy/sacristylaw21.LetterSeals", spec := "letterSeals", unfollowed := true, recurses := true, apart := false }
def LetterSealsSaid : Prop := letterSealsRow.holds Tryz.pinned (OpenSpec.ofChange letterSealsSpec)

/-- ITS FALSE NEIGHBOUR: 'it returns false'. Refute it at one input. -/
def letterSealsWrong : ChangeSpec := { name := "letterSeals", fn := fun _ => fun
  | [d1, d2, d3, d4, d5, d6, d7] => { results := [.lit (.bool false)], args := [d1, d2, d3, d4, d5, d6, d7] }
  | _ => none }
def LetterSealsWrongFalsely : Prop := letterSealsRow.holds Tryz.pinned (OpenSpec.ofChange letterSealsWrong)

/-- 'sacristylaw17.WireSigns': WHATEVER THE INPUT: true; the input reads as it did. -/
def wireSignsSpec : ChangeSpec := { name := "wireSigns", fn := fun _ => fun
  | [d1, d2, d3, d4] => { results := [.lit (.bool true)], args := [d1, d2, d3, d4] }
  | _ => none }
def wireSignsRow : OpenClaim := { program := "ytdohmikoafkniaagreat", sum := "aa0193d7db52f60a58bb3a47b0aef436c374bc3eef04c9c8080a08aba167c46f", func := "sacristy/sacristylaw17.WireSigns", spec := "wireSigns", unfollowed := true, recurses := true, apart := false }
def WireSignsSaid : Prop := wireSignsRow.holds Tryz.pinned (OpenSpec.ofChange wireSignsSpec)

/-- ITS FALSE NEIGHBOUR: 'it returns false'. Refute it at one input. -/
def wireSignsWrong : ChangeSpec := { name := "wireSigns", fn := fun _ => fun
  | [d1, d2, d3, d4] => { results := [.lit (.bool false)], args := [d1, d2, d3, d4] }
  | _ => none }
def WireSignsWrongFalsely : Prop := wireSignsRow.holds Tryz.pinned (OpenSpec.ofChange wireSignsWrong)

/-- 'sacristylaw21.LetterProofs': WHATEVER THE INPUT: true; the input reads as it did. -/
def letterProofsSpec : ChangeSpec := { name := "letterProofs", fn := fun _ => fun
  | [d1, d2, d3, d4, d5, d6, d7] => { results := [.lit (.bool true)], args := [d1, d2, d3, d4, d5, d6, d7] }
  | _ => none }
def letterProofsRow : OpenClaim := { program := "ytdohmikoafkniaagreat", sum := "aa0193d7db52f60a58bb3a47b0aef436c374bc3eef04c9c8080a08aba167c46f", func := "sacristy/sacristylaw21.LetterProofs", spec := "letterProofs", unfollowed := true, recurses := true, apart := false }
def LetterProofsSaid : Prop := letterProofsRow.holds Tryz.pinned (OpenSpec.ofChange letterProofsSpec)

/-- ITS FALSE NEIGHBOUR: 'it returns false'. Refute it at one input. -/
def letterProofsWrong : ChangeSpec := { name := "letterProofs", fn := fun _ => fun
  | [d1, d2, d3, d4, d5, d6, d7] => { results := [.lit (.bool false)], args := [d1, d2, d3, d4, d5, d6, d7] }
  | _ => none }
def LetterProofsWrongFalsely : Prop := letterProofsRow.holds Tryz.pinned (OpenSpec.ofChange letterProofsWrong)

/-- 'sacristylaw21.LetterShows': WHATEVER THE INPUT: true; the input reads as it did. -/
def letterShowsSpec : ChangeSpec := { name := "letterShows", fn := fun _ => fun
  | [d1, d2, d3, d4, d5] => { results := [.lit (.bool true)], args := [d1, d2, d3, d4, d5] }
  | _ => none }
def letterShowsRow : OpenClaim := { program := "ytdohmikoafkniaagreat", sum := "aa0193d7db52f60a58bb3a47b0aef436c374bc3eef04c9c8080a08aba167c46f", func := "sacristy/sacristylaw21.LetterShows", spec := "letterShows", unfollowed := true, recurses := true, apart := false }
def LetterShowsSaid : Prop := letterShowsRow.holds Tryz.pinned (OpenSpec.ofChange letterShowsSpec)

/-- ITS FALSE NEIGHBOUR: 'it returns false'. Refute it at one input. -/
def letterShowsWrong : ChangeSpec := { name := "letterShows", fn := fun _ => fun
  | [d1, d2, d3, d4, d5] => { results := [.lit (.bool false)], args := [d1, d2, d3, d4, d5] }
  | _ => none }
def LetterShowsWrongFalsely : Prop := letterShowsRow.holds Tryz.pinned (OpenSpec.ofChange letterShowsWrong)

/- THE SECOND FORM. 'bulk': how many values and letters a reading holds, each counted each time it is reached (what is shared counts as often as it is met; a slice's spare places count too). A statement '..UptoSaid' is the law's where the arguments, and the package variables that the reading takes, are together of bulk at most 1048576: NARROWER than '..Said'. Prove '..Said' where nothing that the law and all that it calls make is longer than what came in: it says more and counts as full. Else prove '..UptoSaid'. A law counts once. -/
mutual
def uptoBulk {H : Type} : DataW H → Nat
  | .lit (.string bytes) => bytes.length + 1
  | .lit _ => 1
  | .nil => 1
  | .ptr d => uptoBulk d + 1
  | .slice elems spare => uptoBulkAll elems + uptoBulkAll spare + 1
  | .agg parts => uptoBulkAll parts + 1
  | .iface _ d => uptoBulk d + 1
  | .map entries => uptoBulkEntries entries + 1
  | .held _ => 1
def uptoBulkAll {H : Type} : List (DataW H) → Nat
  | [] => 0
  | d :: r => uptoBulk d + uptoBulkAll r
def uptoBulkEntries {H : Type} : List (Lit × DataW H) → Nat
  | [] => 0
  | x :: r => uptoBulkEntry x + uptoBulkEntries r
def uptoBulkEntry {H : Type} : Lit × DataW H → Nat
  | (.string bytes, d) => bytes.length + uptoBulk d + 1
  | (_, d) => uptoBulk d + 1
 end
def uptoSmall : (H : Type) → List (DataW H) → Bool := fun _ ds => decide (uptoBulkAll ds ≤ 1048576)
def OpenSpec.upto (s : _root_.Go.ChangeSpec) : _root_.Go.OpenSpec := { _root_.Go.OpenSpec.ofChange s with cond := some uptoSmall }

/-- 'sacristylaw12.DleqProves', WHERE WHAT IT READS IS OF BULK AT MOST 1048576: true; the input reads as it did. -/
def dleqProvesUptoRow : OpenClaim := { program := "ytdohmikoafkniaagreat", sum := "aa0193d7db52f60a58bb3a47b0aef436c374bc3eef04c9c8080a08aba167c46f", func := "sacristy/sacristylaw12.DleqProves", spec := "dleqProves", unfollowed := true, recurses := true, apart := false, narrowed := true }
def DleqProvesUptoSaid : Prop := dleqProvesUptoRow.holds Tryz.pinned (OpenSpec.upto dleqProvesSpec)

/-- 'sacristylaw21.LetterSeals', WHERE WHAT IT READS IS OF BULK AT MOST 1048576: true; the input reads as it did. -/
def letterSealsUptoRow : OpenClaim := { program := "ytdohmikoafkniaagreat", sum := "aa0193d7db52f60a58bb3a47b0aef436c374bc3eef04c9c8080a08aba167c46f", func := "sacristy/sacristylaw21.LetterSeals", spec := "letterSeals", unfollowed := true, recurses := true, apart := false, narrowed := true }
def LetterSealsUptoSaid : Prop := letterSealsUptoRow.holds Tryz.pinned (OpenSpec.upto letterSealsSpec)

/-- 'sacristylaw17.WireSigns', WHERE WHAT IT READS IS OF BULK AT MOST 1048576: true; the input reads as it did. -/
def wireSignsUptoRow : OpenClaim := { program := "ytdohmikoafkniaagreat", sum := "aa0193d7db52f60a58bb3a47b0aef436c374bc3eef04c9c8080a08aba167c46f", func := "sacristy/sacristylaw17.WireSigns", spec := "wireSigns", unfollowed := true, recurses := true, apart := false, narrowed := true }
def WireSignsUptoSaid : Prop := wireSignsUptoRow.holds Tryz.pinned (OpenSpec.upto wireSignsSpec)

/-- 'sacristylaw21.LetterProofs', WHERE WHAT IT READS IS OF BULK AT MOST 1048576: true; the input reads as it did. -/
def letterProofsUptoRow : OpenClaim := { program := "ytdohmikoafkniaagreat", sum := "aa0193d7db52f60a58bb3a47b0aef436c374bc3eef04c9c8080a08aba167c46f", func := "sacristy/sacristylaw21.LetterProofs", spec := "letterProofs", unfollowed := true, recurses := true, apart := false, narrowed := true }
def LetterProofsUptoSaid : Prop := letterProofsUptoRow.holds Tryz.pinned (OpenSpec.upto letterProofsSpec)

/-- 'sacristylaw21.LetterShows', WHERE WHAT IT READS IS OF BULK AT MOST 1048576: true; the input reads as it did. -/
def letterShowsUptoRow : OpenClaim := { program := "ytdohmikoafkniaagreat", sum := "aa0193d7db52f60a58bb3a47b0aef436c374bc3eef04c9c8080a08aba167c46f", func := "sacristy/sacristylaw21.LetterShows", spec := "letterShows", unfollowed := true, recurses := true, apart := false, narrowed := true }
def LetterShowsUptoSaid : Prop := letterShowsUptoRow.holds Tryz.pinned (OpenSpec.upto letterShowsSpec)

end Rows
end Go.Proofs.YtdohmikoafkniaaGreat
