/-
  No cell of these rows narrows 'for every input' (looked for: loops, veiled, ifaces, maps, wideKeys, modest, calm, conditions, laid).
  DERIVED. THE GIVEN ROWS OF THIS SEAT. 8 by the template 'for every input the law returns true; each argument reads behind the call as it read before'; 0 by the template 'total and deterministic' (their statements: YtoekbomfepedcaaTotals.lean).
  GIVEN WITH THE SEED: the statements are not yours to turn. If you find one false, say at which input.
  Laid BY PROGRAM, IN A SANDBOX (cutbox-rows.mjs): the forced cells as the released guide's own fill.sh prints them over the translation 0c8f178659ce5353… (all of the seat's roots in one cut). By AI agents, Wed Nov 11 2026. No macro, syntax, notation, axiom, sorry.
-/
import Derived.Test.YtoekbomfepedcaaChecked
import GoSem.Claim
import GoSem.ClaimJoined
import GoSem.ClaimMapViews
import Derived.JoinedTies
import Derived.KernelRfl
namespace Go.Proofs.Ytoekbomfepedcaa
/- THE CELL 'sum', in the pinned program and in every row, IS THE sha256 OF THE DUMP (.gsa) THAT YtoekbomfepedcaaProg.lean LOADS. Nothing in Lean hashes anything: it is a label: what it is worth is what the hold of that sum in a sandbox is worth. -/
noncomputable def Try.pinned : Pinned := { name := "ytoekbomfepedcaa", sum := "0c8f178659ce5353c19457ce173f2f0be15a744344d4a54ada4cc76a12cf3fa8", checked := Try.checked }
namespace Rows
def none {H : Type} : Left H := { results := [], args := [] }

/-- 'sacristylaw09.GroupNews': WHATEVER THE INPUT: true; the input reads as it did. -/
def groupNewsSpec : ChangeSpec := { name := "groupNews", fn := fun _ => fun
  | [d1, d2, d3, d4, d5] => { results := [.lit (.bool true)], args := [d1, d2, d3, d4, d5] }
  | _ => none }
def groupNewsRow : OpenClaim := { program := "ytoekbomfepedcaa", sum := "0c8f178659ce5353c19457ce173f2f0be15a744344d4a54ada4cc76a12cf3fa8", func := "sacristy/sacristylaw09.GroupNews", spec := "groupNews", unfollowed := true, recurses := true, apart := false }
def GroupNewsSaid : Prop := groupNewsRow.holds Try.pinned (OpenSpec.ofChange groupNewsSpec)

/-- ITS FALSE NEIGHBOUR: 'it returns false'. Refute it at one input. -/
def groupNewsWrong : ChangeSpec := { name := "groupNews", fn := fun _ => fun
  | [d1, d2, d3, d4, d5] => { results := [.lit (.bool false)], args := [d1, d2, d3, d4, d5] }
  | _ => none }
def GroupNewsWrongFalsely : Prop := groupNewsRow.holds Try.pinned (OpenSpec.ofChange groupNewsWrong)

/-- 'sacristylaw09.GroupMultis': WHATEVER THE INPUT: true; the input reads as it did. -/
def groupMultisSpec : ChangeSpec := { name := "groupMultis", fn := fun _ => fun
  | [d1, d2, d3] => { results := [.lit (.bool true)], args := [d1, d2, d3] }
  | _ => none }
def groupMultisRow : OpenClaim := { program := "ytoekbomfepedcaa", sum := "0c8f178659ce5353c19457ce173f2f0be15a744344d4a54ada4cc76a12cf3fa8", func := "sacristy/sacristylaw09.GroupMultis", spec := "groupMultis", unfollowed := true, recurses := true, apart := false }
def GroupMultisSaid : Prop := groupMultisRow.holds Try.pinned (OpenSpec.ofChange groupMultisSpec)

/-- ITS FALSE NEIGHBOUR: 'it returns false'. Refute it at one input. -/
def groupMultisWrong : ChangeSpec := { name := "groupMultis", fn := fun _ => fun
  | [d1, d2, d3] => { results := [.lit (.bool false)], args := [d1, d2, d3] }
  | _ => none }
def GroupMultisWrongFalsely : Prop := groupMultisRow.holds Try.pinned (OpenSpec.ofChange groupMultisWrong)

/-- 'sacristylaw09.GroupAsks': WHATEVER THE INPUT: true; the input reads as it did. -/
def groupAsksSpec : ChangeSpec := { name := "groupAsks", fn := fun _ => fun
  | [d1, d2] => { results := [.lit (.bool true)], args := [d1, d2] }
  | _ => none }
def groupAsksRow : OpenClaim := { program := "ytoekbomfepedcaa", sum := "0c8f178659ce5353c19457ce173f2f0be15a744344d4a54ada4cc76a12cf3fa8", func := "sacristy/sacristylaw09.GroupAsks", spec := "groupAsks", unfollowed := true, recurses := true, apart := false }
def GroupAsksSaid : Prop := groupAsksRow.holds Try.pinned (OpenSpec.ofChange groupAsksSpec)

/-- ITS FALSE NEIGHBOUR: 'it returns false'. Refute it at one input. -/
def groupAsksWrong : ChangeSpec := { name := "groupAsks", fn := fun _ => fun
  | [d1, d2] => { results := [.lit (.bool false)], args := [d1, d2] }
  | _ => none }
def GroupAsksWrongFalsely : Prop := groupAsksRow.holds Try.pinned (OpenSpec.ofChange groupAsksWrong)

/-- 'sacristylaw11.SignBack': WHATEVER THE INPUT: true; the input reads as it did. -/
def signBackSpec : ChangeSpec := { name := "signBack", fn := fun _ => fun
  | [d1, d2, d3, d4] => { results := [.lit (.bool true)], args := [d1, d2, d3, d4] }
  | _ => none }
def signBackRow : OpenClaim := { program := "ytoekbomfepedcaa", sum := "0c8f178659ce5353c19457ce173f2f0be15a744344d4a54ada4cc76a12cf3fa8", func := "sacristy/sacristylaw11.SignBack", spec := "signBack", unfollowed := true, recurses := true, apart := false }
def SignBackSaid : Prop := signBackRow.holds Try.pinned (OpenSpec.ofChange signBackSpec)

/-- ITS FALSE NEIGHBOUR: 'it returns false'. Refute it at one input. -/
def signBackWrong : ChangeSpec := { name := "signBack", fn := fun _ => fun
  | [d1, d2, d3, d4] => { results := [.lit (.bool false)], args := [d1, d2, d3, d4] }
  | _ => none }
def SignBackWrongFalsely : Prop := signBackRow.holds Try.pinned (OpenSpec.ofChange signBackWrong)

/-- 'sacristylaw11.SignKeys': WHATEVER THE INPUT: true; the input reads as it did. -/
def signKeysSpec : ChangeSpec := { name := "signKeys", fn := fun _ => fun
  | [d1, d2, d3] => { results := [.lit (.bool true)], args := [d1, d2, d3] }
  | _ => none }
def signKeysRow : OpenClaim := { program := "ytoekbomfepedcaa", sum := "0c8f178659ce5353c19457ce173f2f0be15a744344d4a54ada4cc76a12cf3fa8", func := "sacristy/sacristylaw11.SignKeys", spec := "signKeys", unfollowed := true, recurses := true, apart := false }
def SignKeysSaid : Prop := signKeysRow.holds Try.pinned (OpenSpec.ofChange signKeysSpec)

/-- ITS FALSE NEIGHBOUR: 'it returns false'. Refute it at one input. -/
def signKeysWrong : ChangeSpec := { name := "signKeys", fn := fun _ => fun
  | [d1, d2, d3] => { results := [.lit (.bool false)], args := [d1, d2, d3] }
  | _ => none }
def SignKeysWrongFalsely : Prop := signKeysRow.holds Try.pinned (OpenSpec.ofChange signKeysWrong)

/-- 'sacristylaw11.SignExact': WHATEVER THE INPUT: true; the input reads as it did. -/
def signExactSpec : ChangeSpec := { name := "signExact", fn := fun _ => fun
  | [d1, d2, d3, d4, d5] => { results := [.lit (.bool true)], args := [d1, d2, d3, d4, d5] }
  | _ => none }
def signExactRow : OpenClaim := { program := "ytoekbomfepedcaa", sum := "0c8f178659ce5353c19457ce173f2f0be15a744344d4a54ada4cc76a12cf3fa8", func := "sacristy/sacristylaw11.SignExact", spec := "signExact", unfollowed := true, recurses := true, apart := false }
def SignExactSaid : Prop := signExactRow.holds Try.pinned (OpenSpec.ofChange signExactSpec)

/-- ITS FALSE NEIGHBOUR: 'it returns false'. Refute it at one input. -/
def signExactWrong : ChangeSpec := { name := "signExact", fn := fun _ => fun
  | [d1, d2, d3, d4, d5] => { results := [.lit (.bool false)], args := [d1, d2, d3, d4, d5] }
  | _ => none }
def SignExactWrongFalsely : Prop := signExactRow.holds Try.pinned (OpenSpec.ofChange signExactWrong)

/-- 'sacristylaw12.DleqBack': WHATEVER THE INPUT: true; the input reads as it did. -/
def dleqBackSpec : ChangeSpec := { name := "dleqBack", fn := fun _ => fun
  | [d1, d2, d3, d4, d5, d6] => { results := [.lit (.bool true)], args := [d1, d2, d3, d4, d5, d6] }
  | _ => none }
def dleqBackRow : OpenClaim := { program := "ytoekbomfepedcaa", sum := "0c8f178659ce5353c19457ce173f2f0be15a744344d4a54ada4cc76a12cf3fa8", func := "sacristy/sacristylaw12.DleqBack", spec := "dleqBack", unfollowed := true, recurses := true, apart := false }
def DleqBackSaid : Prop := dleqBackRow.holds Try.pinned (OpenSpec.ofChange dleqBackSpec)

/-- ITS FALSE NEIGHBOUR: 'it returns false'. Refute it at one input. -/
def dleqBackWrong : ChangeSpec := { name := "dleqBack", fn := fun _ => fun
  | [d1, d2, d3, d4, d5, d6] => { results := [.lit (.bool false)], args := [d1, d2, d3, d4, d5, d6] }
  | _ => none }
def DleqBackWrongFalsely : Prop := dleqBackRow.holds Try.pinned (OpenSpec.ofChange dleqBackWrong)

/-- 'sacristylaw12.DleqSound': WHATEVER THE INPUT: true; the input reads as it did. -/
def dleqSoundSpec : ChangeSpec := { name := "dleqSound", fn := fun _ => fun
  | [d1, d2, d3, d4, d5, d6, d7, d8] => { results := [.lit (.bool true)], args := [d1, d2, d3, d4, d5, d6, d7, d8] }
  | _ => none }
def dleqSoundRow : OpenClaim := { program := "ytoekbomfepedcaa", sum := "0c8f178659ce5353c19457ce173f2f0be15a744344d4a54ada4cc76a12cf3fa8", func := "sacristy/sacristylaw12.DleqSound", spec := "dleqSound", unfollowed := true, recurses := true, apart := false }
def DleqSoundSaid : Prop := dleqSoundRow.holds Try.pinned (OpenSpec.ofChange dleqSoundSpec)

/-- ITS FALSE NEIGHBOUR: 'it returns false'. Refute it at one input. -/
def dleqSoundWrong : ChangeSpec := { name := "dleqSound", fn := fun _ => fun
  | [d1, d2, d3, d4, d5, d6, d7, d8] => { results := [.lit (.bool false)], args := [d1, d2, d3, d4, d5, d6, d7, d8] }
  | _ => none }
def DleqSoundWrongFalsely : Prop := dleqSoundRow.holds Try.pinned (OpenSpec.ofChange dleqSoundWrong)

/- THE SECOND FORM. 'bulk': how many values and letters a reading holds, each counted each time it is reached (what is shared counts as often as it is met; a slice's spare places count too). A statement '..UptoSaid' is the law's where the arguments, and the package variables that the reading takes, are together of bulk at most 1048576: NARROWER than '..Said'. Prove '..Said' where nothing that the law and all that it calls make is longer than what came in: it says more and counts as full. Else prove '..UptoSaid'. A law counts once. -/
mutual
def uptoBulk {H : Type} : DataW H → Nat
  | .lit (.string bytes) => bytes.length + 1
  | .lit _ => 1
  | .nil => 1
  | .ptr d => uptoBulk d + 1
  | .slice elems spare => uptoBulkAll elems + uptoBulkAll spare + 1
  | .agg parts => uptoBulkAll parts + 1
  | .iface _ d => uptoBulk d + 1
  | .map entries => uptoBulkEntries entries + 1
  | .held _ => 1
def uptoBulkAll {H : Type} : List (DataW H) → Nat
  | [] => 0
  | d :: r => uptoBulk d + uptoBulkAll r
def uptoBulkEntries {H : Type} : List (Lit × DataW H) → Nat
  | [] => 0
  | x :: r => uptoBulkEntry x + uptoBulkEntries r
def uptoBulkEntry {H : Type} : Lit × DataW H → Nat
  | (.string bytes, d) => bytes.length + uptoBulk d + 1
  | (_, d) => uptoBulk d + 1
 end
def uptoSmall : (H : Type) → List (DataW H) → Bool := fun _ ds => decide (uptoBulkAll ds ≤ 1048576)
def OpenSpec.upto (s : _root_.Go.ChangeSpec) : _root_.Go.OpenSpec := { _root_.Go.OpenSpec.ofChange s with cond := some uptoSmall }

/-- 'sacristylaw09.GroupNews', WHERE WHAT IT READS IS OF BULK AT MOST 1048576: true; the input reads as it did. -/
def groupNewsUptoRow : OpenClaim := { program := "ytoekbomfepedcaa", sum := "0c8f178659ce5353c19457ce173f2f0be15a744344d4a54ada4cc76a12cf3fa8", func := "sacristy/sacristylaw09.GroupNews", spec := "groupNews", unfollowed := true, recurses := true, apart := false, narrowed := true }
def GroupNewsUptoSaid : Prop := groupNewsUptoRow.holds Try.pinned (OpenSpec.upto groupNewsSpec)

/-- 'sacristylaw09.GroupMultis', WHERE WHAT IT READS IS OF BULK AT MOST 1048576: true; the input reads as it did. -/
def groupMultisUptoRow : OpenClaim := { program := "ytoekbomfepedcaa", sum := "0c8f178659ce5353c19457ce173f2f0be15a744344d4a54ada4cc76a12cf3fa8", func := "sacristy/sacristylaw09.GroupMultis", spec := "groupMultis", unfollowed := true, recurses := true, apart := false, narrowed := true }
def GroupMultisUptoSaid : Prop := groupMultisUptoRow.holds Try.pinned (OpenSpec.upto groupMultisSpec)

/-- 'sacristylaw09.GroupAsks', WHERE WHAT IT READS IS OF BULK AT MOST 1048576: true; the input reads as it did. -/
def groupAsksUptoRow : OpenClaim := { program := "ytoekbomfepedcaa", sum := "0c8f178659ce5353c19457ce173f2f0be15a744344d4a54ada4cc76a12cf3fa8", func := "sacristy/sacristylaw09.GroupAsks", spec := "groupAsks", unfollowed := true, recurses := true, apart := false, narrowed := true }
def GroupAsksUptoSaid : Prop := groupAsksUptoRow.holds Try.pinned (OpenSpec.upto groupAsksSpec)

/-- 'sacristylaw11.SignBack', WHERE WHAT IT READS IS OF BULK AT MOST 1048576: true; the input reads as it did. -/
def signBackUptoRow : OpenClaim := { program := "ytoekbomfepedcaa", sum := "0c8f178659ce5353c19457ce173f2f0be15a744344d4a54ada4cc76a12cf3fa8", func := "sacristy/sacristylaw11.SignBack", spec := "signBack", unfollowed := true, recurses := true, apart := false, narrowed := true }
def SignBackUptoSaid : Prop := signBackUptoRow.holds Try.pinned (OpenSpec.upto signBackSpec)

/-- 'sacristylaw11.SignKeys', WHERE WHAT IT READS IS OF BULK AT MOST 1048576: true; the input reads as it did. -/
def signKeysUptoRow : OpenClaim := { program := "ytoekbomfepedcaa", sum := "0c8f178659ce5353c19457ce173f2f0be15a744344d4a54ada4cc76a12cf3fa8", func := "sacristy/sacristylaw11.SignKeys", spec := "signKeys", unfollowed := true, recurses := true, apart := false, narrowed := true }
def SignKeysUptoSaid : Prop := signKeysUptoRow.holds Try.pinned (OpenSpec.upto signKeysSpec)

/-- 'sacristylaw11.SignExact', WHERE WHAT IT READS IS OF BULK AT MOST 1048576: true; the input reads as it did. -/
def signExactUptoRow : OpenClaim := { program := "ytoekbomfepedcaa", sum := "0c8f178659ce5353c19457ce173f2f0be15a744344d4a54ada4cc76a12cf3fa8", func := "sacristy/sacristylaw11.SignExact", spec := "signExact", unfollowed := true, recurses := true, apart := false, narrowed := true }
def SignExactUptoSaid : Prop := signExactUptoRow.holds Try.pinned (OpenSpec.upto signExactSpec)

/-- 'sacristylaw12.DleqBack', WHERE WHAT IT READS IS OF BULK AT MOST 1048576: true; the input reads as it did. -/
def dleqBackUptoRow : OpenClaim := { program := "ytoekbomfepedcaa", sum := "0c8f178659ce5353c19457ce173f2f0be15a744344d4a54ada4cc76a12cf3fa8", func := "sacristy/sacristylaw12.DleqBack", spec := "dleqBack", unfollowed := true, recurses := true, apart := false, narrowed := true }
def DleqBackUptoSaid : Prop := dleqBackUptoRow.holds Try.pinned (OpenSpec.upto dleqBackSpec)

/-- 'sacristylaw12.DleqSound', WHERE WHAT IT READS IS OF BULK AT MOST 1048576: true; the input reads as it did. -/
def dleqSoundUptoRow : OpenClaim := { program := "ytoekbomfepedcaa", sum := "0c8f178659ce5353c19457ce173f2f0be15a744344d4a54ada4cc76a12cf3fa8", func := "sacristy/sacristylaw12.DleqSound", spec := "dleqSound", unfollowed := true, recurses := true, apart := false, narrowed := true }
def DleqSoundUptoSaid : Prop := dleqSoundUptoRow.holds Try.pinned (OpenSpec.upto dleqSoundSpec)

end Rows
end Go.Proofs.Ytoekbomfepedcaa
