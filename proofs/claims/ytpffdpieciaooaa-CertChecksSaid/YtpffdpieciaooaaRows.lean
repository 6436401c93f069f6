/-
  No cell of these rows narrows 'for every input' (looked for: loops, veiled, ifaces, maps, wideKeys, modest, calm, conditions, laid).
  DERIVED. THE GIVEN ROWS OF THIS SEAT. 12 by the template 'for every input the law returns true; each argument reads behind the call as it read before'; 0 by the template 'total and deterministic' (their statements: YtpffdpieciaooaaTotals.lean).
  GIVEN WITH THE SEED: the statements are not yours to turn. If you find one false, say at which input.
  Laid BY PROGRAM, IN A SANDBOX (cutbox-rows.mjs): the forced cells as the released guide's own fill.sh prints them over the translation e1abc0643254d15a… (all of the seat's roots in one cut). By AI agents, Wed Nov 11 2026. No macro, syntax, notation, axiom, sorry.
-/
import Derived.Test.YtpffdpieciaooaaChecked
import GoSem.Claim
import GoSem.ClaimJoined
import GoSem.ClaimMapViews
import Derived.JoinedTies
import Derived.KernelRfl
namespace Go.Proofs.Ytpffdpieciaooaa
/- THE CELL 'sum', in the pinned program and in every row, IS THE sha256 OF THE DUMP (.gsa) THAT YtpffdpieciaooaaProg.lean LOADS. Nothing in Lean hashes anything: it is a label: what it is worth is what the hold of that sum in a sandbox is worth. -/
noncomputable def Try.pinned : Pinned := { name := "ytpffdpieciaooaa", sum := "e1abc0643254d15a68ae614727410b1c7f0873f164f8fe59bea509604e524dfa", checked := Try.checked }
namespace Rows
def none {H : Type} : Left H := { results := [], args := [] }

/-- 'sacristylaw06.TagTags': WHATEVER THE INPUT: true; the input reads as it did. -/
def tagTagsSpec : ChangeSpec := { name := "tagTags", fn := fun _ => fun
  | [d1, d2] => { results := [.lit (.bool true)], args := [d1, d2] }
  | _ => none }
def tagTagsRow : OpenClaim := { program := "ytpffdpieciaooaa", sum := "e1abc0643254d15a68ae614727410b1c7f0873f164f8fe59bea509604e524dfa", func := "sacristy/sacristylaw06.TagTags", spec := "tagTags", unfollowed := true, recurses := true, apart := false }
def TagTagsSaid : Prop := tagTagsRow.holds Try.pinned (OpenSpec.ofChange tagTagsSpec)

/-- ITS FALSE NEIGHBOUR: 'it returns false'. Refute it at one input. -/
def tagTagsWrong : ChangeSpec := { name := "tagTags", fn := fun _ => fun
  | [d1, d2] => { results := [.lit (.bool false)], args := [d1, d2] }
  | _ => none }
def TagTagsWrongFalsely : Prop := tagTagsRow.holds Try.pinned (OpenSpec.ofChange tagTagsWrong)

/-- 'sacristylaw06.TagNone': WHATEVER THE INPUT: true; the input reads as it did. -/
def tagNoneSpec : ChangeSpec := { name := "tagNone", fn := fun _ => fun
  | [d1, d2] => { results := [.lit (.bool true)], args := [d1, d2] }
  | _ => none }
def tagNoneRow : OpenClaim := { program := "ytpffdpieciaooaa", sum := "e1abc0643254d15a68ae614727410b1c7f0873f164f8fe59bea509604e524dfa", func := "sacristy/sacristylaw06.TagNone", spec := "tagNone", unfollowed := true, recurses := true, apart := false }
def TagNoneSaid : Prop := tagNoneRow.holds Try.pinned (OpenSpec.ofChange tagNoneSpec)

/-- ITS FALSE NEIGHBOUR: 'it returns false'. Refute it at one input. -/
def tagNoneWrong : ChangeSpec := { name := "tagNone", fn := fun _ => fun
  | [d1, d2] => { results := [.lit (.bool false)], args := [d1, d2] }
  | _ => none }
def TagNoneWrongFalsely : Prop := tagNoneRow.holds Try.pinned (OpenSpec.ofChange tagNoneWrong)

/-- 'sacristylaw06.TagAdds': WHATEVER THE INPUT: true; the input reads as it did. -/
def tagAddsSpec : ChangeSpec := { name := "tagAdds", fn := fun _ => fun
  | [d1, d2, d3, d4] => { results := [.lit (.bool true)], args := [d1, d2, d3, d4] }
  | _ => none }
def tagAddsRow : OpenClaim := { program := "ytpffdpieciaooaa", sum := "e1abc0643254d15a68ae614727410b1c7f0873f164f8fe59bea509604e524dfa", func := "sacristy/sacristylaw06.TagAdds", spec := "tagAdds", unfollowed := true, recurses := true, apart := false }
def TagAddsSaid : Prop := tagAddsRow.holds Try.pinned (OpenSpec.ofChange tagAddsSpec)

/-- ITS FALSE NEIGHBOUR: 'it returns false'. Refute it at one input. -/
def tagAddsWrong : ChangeSpec := { name := "tagAdds", fn := fun _ => fun
  | [d1, d2, d3, d4] => { results := [.lit (.bool false)], args := [d1, d2, d3, d4] }
  | _ => none }
def TagAddsWrongFalsely : Prop := tagAddsRow.holds Try.pinned (OpenSpec.ofChange tagAddsWrong)

/-- 'sacristylaw02.ModSums': WHATEVER THE INPUT: true; the input reads as it did. -/
def modSumsSpec : ChangeSpec := { name := "modSums", fn := fun _ => fun
  | [d1, d2, d3] => { results := [.lit (.bool true)], args := [d1, d2, d3] }
  | _ => none }
def modSumsRow : OpenClaim := { program := "ytpffdpieciaooaa", sum := "e1abc0643254d15a68ae614727410b1c7f0873f164f8fe59bea509604e524dfa", func := "sacristy/sacristylaw02.ModSums", spec := "modSums", unfollowed := true, recurses := true, apart := false }
def ModSumsSaid : Prop := modSumsRow.holds Try.pinned (OpenSpec.ofChange modSumsSpec)

/-- ITS FALSE NEIGHBOUR: 'it returns false'. Refute it at one input. -/
def modSumsWrong : ChangeSpec := { name := "modSums", fn := fun _ => fun
  | [d1, d2, d3] => { results := [.lit (.bool false)], args := [d1, d2, d3] }
  | _ => none }
def ModSumsWrongFalsely : Prop := modSumsRow.holds Try.pinned (OpenSpec.ofChange modSumsWrong)

/-- 'sacristylaw08.CertSmalls': WHATEVER THE INPUT: true; the input reads as it did. -/
def certSmallsSpec : ChangeSpec := { name := "certSmalls", fn := fun _ => fun
  | [d] => { results := [.lit (.bool true)], args := [d] }
  | _ => none }
def certSmallsRow : OpenClaim := { program := "ytpffdpieciaooaa", sum := "e1abc0643254d15a68ae614727410b1c7f0873f164f8fe59bea509604e524dfa", func := "sacristy/sacristylaw08.CertSmalls", spec := "certSmalls", unfollowed := true, recurses := true, apart := false }
def CertSmallsSaid : Prop := certSmallsRow.holds Try.pinned (OpenSpec.ofChange certSmallsSpec)

/-- ITS FALSE NEIGHBOUR: 'it returns false'. Refute it at one input. -/
def certSmallsWrong : ChangeSpec := { name := "certSmalls", fn := fun _ => fun
  | [d] => { results := [.lit (.bool false)], args := [d] }
  | _ => none }
def CertSmallsWrongFalsely : Prop := certSmallsRow.holds Try.pinned (OpenSpec.ofChange certSmallsWrong)

/-- 'sacristylaw08.CertFronts': WHATEVER THE INPUT: true; the input reads as it did. -/
def certFrontsSpec : ChangeSpec := { name := "certFronts", fn := fun _ => fun
  | [d1, d2, d3] => { results := [.lit (.bool true)], args := [d1, d2, d3] }
  | _ => none }
def certFrontsRow : OpenClaim := { program := "ytpffdpieciaooaa", sum := "e1abc0643254d15a68ae614727410b1c7f0873f164f8fe59bea509604e524dfa", func := "sacristy/sacristylaw08.CertFronts", spec := "certFronts", unfollowed := true, recurses := true, apart := false }
def CertFrontsSaid : Prop := certFrontsRow.holds Try.pinned (OpenSpec.ofChange certFrontsSpec)

/-- ITS FALSE NEIGHBOUR: 'it returns false'. Refute it at one input. -/
def certFrontsWrong : ChangeSpec := { name := "certFronts", fn := fun _ => fun
  | [d1, d2, d3] => { results := [.lit (.bool false)], args := [d1, d2, d3] }
  | _ => none }
def CertFrontsWrongFalsely : Prop := certFrontsRow.holds Try.pinned (OpenSpec.ofChange certFrontsWrong)

/-- 'sacristylaw08.CertChecks': WHATEVER THE INPUT: true; the input reads as it did. -/
def certChecksSpec : ChangeSpec := { name := "certChecks", fn := fun _ => fun
  | [d1, d2] => { results := [.lit (.bool true)], args := [d1, d2] }
  | _ => none }
def certChecksRow : OpenClaim := { program := "ytpffdpieciaooaa", sum := "e1abc0643254d15a68ae614727410b1c7f0873f164f8fe59bea509604e524dfa", func := "sacristy/sacristylaw08.CertChecks", spec := "certChecks", unfollowed := true, recurses := true, apart := false }
def CertChecksSaid : Prop := certChecksRow.holds Try.pinned (OpenSpec.ofChange certChecksSpec)

/-- ITS FALSE NEIGHBOUR: 'it returns false'. Refute it at one input. -/
def certChecksWrong : ChangeSpec := { name := "certChecks", fn := fun _ => fun
  | [d1, d2] => { results := [.lit (.bool false)], args := [d1, d2] }
  | _ => none }
def CertChecksWrongFalsely : Prop := certChecksRow.holds Try.pinned (OpenSpec.ofChange certChecksWrong)

/-- 'sacristylaw08.CertPrimes': WHATEVER THE INPUT: true; the input reads as it did. -/
def certPrimesSpec : ChangeSpec := { name := "certPrimes", fn := fun _ => fun
  | [d1, d2] => { results := [.lit (.bool true)], args := [d1, d2] }
  | _ => none }
def certPrimesRow : OpenClaim := { program := "ytpffdpieciaooaa", sum := "e1abc0643254d15a68ae614727410b1c7f0873f164f8fe59bea509604e524dfa", func := "sacristy/sacristylaw08.CertPrimes", spec := "certPrimes", unfollowed := true, recurses := true, apart := false }
def CertPrimesSaid : Prop := certPrimesRow.holds Try.pinned (OpenSpec.ofChange certPrimesSpec)

/-- ITS FALSE NEIGHBOUR: 'it returns false'. Refute it at one input. -/
def certPrimesWrong : ChangeSpec := { name := "certPrimes", fn := fun _ => fun
  | [d1, d2] => { results := [.lit (.bool false)], args := [d1, d2] }
  | _ => none }
def CertPrimesWrongFalsely : Prop := certPrimesRow.holds Try.pinned (OpenSpec.ofChange certPrimesWrong)

/-- 'sacristylaw07.BoxSeals': WHATEVER THE INPUT: true; the input reads as it did. -/
def boxSealsSpec : ChangeSpec := { name := "boxSeals", fn := fun _ => fun
  | [d1, d2, d3, d4] => { results := [.lit (.bool true)], args := [d1, d2, d3, d4] }
  | _ => none }
def boxSealsRow : OpenClaim := { program := "ytpffdpieciaooaa", sum := "e1abc0643254d15a68ae614727410b1c7f0873f164f8fe59bea509604e524dfa", func := "sacristy/sacristylaw07.BoxSeals", spec := "boxSeals", unfollowed := true, recurses := true, apart := false }
def BoxSealsSaid : Prop := boxSealsRow.holds Try.pinned (OpenSpec.ofChange boxSealsSpec)

/-- ITS FALSE NEIGHBOUR: 'it returns false'. Refute it at one input. -/
def boxSealsWrong : ChangeSpec := { name := "boxSeals", fn := fun _ => fun
  | [d1, d2, d3, d4] => { results := [.lit (.bool false)], args := [d1, d2, d3, d4] }
  | _ => none }
def BoxSealsWrongFalsely : Prop := boxSealsRow.holds Try.pinned (OpenSpec.ofChange boxSealsWrong)

/-- 'sacristylaw07.BoxOpens': WHATEVER THE INPUT: true; the input reads as it did. -/
def boxOpensSpec : ChangeSpec := { name := "boxOpens", fn := fun _ => fun
  | [d1, d2, d3, d4] => { results := [.lit (.bool true)], args := [d1, d2, d3, d4] }
  | _ => none }
def boxOpensRow : OpenClaim := { program := "ytpffdpieciaooaa", sum := "e1abc0643254d15a68ae614727410b1c7f0873f164f8fe59bea509604e524dfa", func := "sacristy/sacristylaw07.BoxOpens", spec := "boxOpens", unfollowed := true, recurses := true, apart := false }
def BoxOpensSaid : Prop := boxOpensRow.holds Try.pinned (OpenSpec.ofChange boxOpensSpec)

/-- ITS FALSE NEIGHBOUR: 'it returns false'. Refute it at one input. -/
def boxOpensWrong : ChangeSpec := { name := "boxOpens", fn := fun _ => fun
  | [d1, d2, d3, d4] => { results := [.lit (.bool false)], args := [d1, d2, d3, d4] }
  | _ => none }
def BoxOpensWrongFalsely : Prop := boxOpensRow.holds Try.pinned (OpenSpec.ofChange boxOpensWrong)

/-- 'sacristylaw07.BoxBack': WHATEVER THE INPUT: true; the input reads as it did. -/
def boxBackSpec : ChangeSpec := { name := "boxBack", fn := fun _ => fun
  | [d1, d2, d3, d4, d5, d6] => { results := [.lit (.bool true)], args := [d1, d2, d3, d4, d5, d6] }
  | _ => none }
def boxBackRow : OpenClaim := { program := "ytpffdpieciaooaa", sum := "e1abc0643254d15a68ae614727410b1c7f0873f164f8fe59bea509604e524dfa", func := "sacristy/sacristylaw07.BoxBack", spec := "boxBack", unfollowed := true, recurses := true, apart := false }
def BoxBackSaid : Prop := boxBackRow.holds Try.pinned (OpenSpec.ofChange boxBackSpec)

/-- ITS FALSE NEIGHBOUR: 'it returns false'. Refute it at one input. -/
def boxBackWrong : ChangeSpec := { name := "boxBack", fn := fun _ => fun
  | [d1, d2, d3, d4, d5, d6] => { results := [.lit (.bool false)], args := [d1, d2, d3, d4, d5, d6] }
  | _ => none }
def BoxBackWrongFalsely : Prop := boxBackRow.holds Try.pinned (OpenSpec.ofChange boxBackWrong)

/-- 'sacristylaw07.BoxShort': WHATEVER THE INPUT: true; the input reads as it did. -/
def boxShortSpec : ChangeSpec := { name := "boxShort", fn := fun _ => fun
  | [d1, d2, d3, d4] => { results := [.lit (.bool true)], args := [d1, d2, d3, d4] }
  | _ => none }
def boxShortRow : OpenClaim := { program := "ytpffdpieciaooaa", sum := "e1abc0643254d15a68ae614727410b1c7f0873f164f8fe59bea509604e524dfa", func := "sacristy/sacristylaw07.BoxShort", spec := "boxShort", unfollowed := true, recurses := true, apart := false }
def BoxShortSaid : Prop := boxShortRow.holds Try.pinned (OpenSpec.ofChange boxShortSpec)

/-- ITS FALSE NEIGHBOUR: 'it returns false'. Refute it at one input. -/
def boxShortWrong : ChangeSpec := { name := "boxShort", fn := fun _ => fun
  | [d1, d2, d3, d4] => { results := [.lit (.bool false)], args := [d1, d2, d3, d4] }
  | _ => none }
def BoxShortWrongFalsely : Prop := boxShortRow.holds Try.pinned (OpenSpec.ofChange boxShortWrong)

/- THE SECOND FORM. 'bulk': how many values and letters a reading holds, each counted each time it is reached (what is shared counts as often as it is met; a slice's spare places count too). A statement '..UptoSaid' is the law's where the arguments, and the package variables that the reading takes, are together of bulk at most 1048576: NARROWER than '..Said'. Prove '..Said' where nothing that the law and all that it calls make is longer than what came in: it says more and counts as full. Else prove '..UptoSaid'. A law counts once. -/
mutual
def uptoBulk {H : Type} : DataW H → Nat
  | .lit (.string bytes) => bytes.length + 1
  | .lit _ => 1
  | .nil => 1
  | .ptr d => uptoBulk d + 1
  | .slice elems spare => uptoBulkAll elems + uptoBulkAll spare + 1
  | .agg parts => uptoBulkAll parts + 1
  | .iface _ d => uptoBulk d + 1
  | .map entries => uptoBulkEntries entries + 1
  | .held _ => 1
def uptoBulkAll {H : Type} : List (DataW H) → Nat
  | [] => 0
  | d :: r => uptoBulk d + uptoBulkAll r
def uptoBulkEntries {H : Type} : List (Lit × DataW H) → Nat
  | [] => 0
  | x :: r => uptoBulkEntry x + uptoBulkEntries r
def uptoBulkEntry {H : Type} : Lit × DataW H → Nat
  | (.string bytes, d) => bytes.length + uptoBulk d + 1
  | (_, d) => uptoBulk d + 1
 end
def uptoSmall : (H : Type) → List (DataW H) → Bool := fun _ ds => decide (uptoBulkAll ds ≤ 1048576)
def OpenSpec.upto (s : _root_.Go.ChangeSpec) : _root_.Go.OpenSpec := { _root_.Go.OpenSpec.ofChange s with cond := some uptoSmall }

/-- 'sacristylaw06.TagTags', WHERE WHAT IT READS IS OF BULK AT MOST 1048576: true; the input reads as it did. -/
def tagTagsUptoRow : OpenClaim := { program := "ytpffdpieciaooaa", sum := "e1abc0643254d15a68ae614727410b1c7f0873f164f8fe59bea509604e524dfa", func := "sacristy/sacristylaw06.TagTags", spec := "tagTags", unfollowed := true, recurses := true, apart := false, narrowed := true }
def TagTagsUptoSaid : Prop := tagTagsUptoRow.holds Try.pinned (OpenSpec.upto tagTagsSpec)

/-- 'sacristylaw06.TagNone', WHERE WHAT IT READS IS OF BULK AT MOST 1048576: true; the input reads as it did. -/
def tagNoneUptoRow : OpenClaim := { program := "ytpffdpieciaooaa", sum := "e1abc0643254d15a68ae614727410b1c7f0873f164f8fe59bea509604e524dfa", func := "sacristy/sacristylaw06.TagNone", spec := "tagNone", unfollowed := true, recurses := true, apart := false, narrowed := true }
def TagNoneUptoSaid : Prop := tagNoneUptoRow.holds Try.pinned (OpenSpec.upto tagNoneSpec)

/-- 'sacristylaw06.TagAdds', WHERE WHAT IT READS IS OF BULK AT MOST 1048576: true; the input reads as it did. -/
def tagAddsUptoRow : OpenClaim := { program := "ytpffdpieciaooaa", sum := "e1abc0643254d15a68ae614727410b1c7f0873f164f8fe59bea509604e524dfa", func := "sacristy/sacristylaw06.TagAdds", spec := "tagAdds", unfollowed := true, recurses := true, apart := false, narrowed := true }
def TagAddsUptoSaid : Prop := tagAddsUptoRow.holds Try.pinned (OpenSpec.upto tagAddsSpec)

/-- 'sacristylaw02.ModSums', WHERE WHAT IT READS IS OF BULK AT MOST 1048576: true; the input reads as it did. -/
def modSumsUptoRow : OpenClaim := { program := "ytpffdpieciaooaa", sum := "e1abc0643254d15a68ae614727410b1c7f0873f164f8fe59bea509604e524dfa", func := "sacristy/sacristylaw02.ModSums", spec := "modSums", unfollowed := true, recurses := true, apart := false, narrowed := true }
def ModSumsUptoSaid : Prop := modSumsUptoRow.holds Try.pinned (OpenSpec.upto modSumsSpec)

/-- 'sacristylaw08.CertSmalls', WHERE WHAT IT READS IS OF BULK AT MOST 1048576: true; the input reads as it did. -/
def certSmallsUptoRow : OpenClaim := { program := "ytpffdpieciaooaa", sum := "e1abc0643254d15a68ae614727410b1c7f0873f164f8fe59bea509604e524dfa", func := "sacristy/sacristylaw08.CertSmalls", spec := "certSmalls", unfollowed := true, recurses := true, apart := false, narrowed := true }
def CertSmallsUptoSaid : Prop := certSmallsUptoRow.holds Try.pinned (OpenSpec.upto certSmallsSpec)

/-- 'sacristylaw08.CertFronts', WHERE WHAT IT READS IS OF BULK AT MOST 1048576: true; the input reads as it did. -/
def certFrontsUptoRow : OpenClaim := { program := "ytpffdpieciaooaa", sum := "e1abc0643254d15a68ae614727410b1c7f0873f164f8fe59bea509604e524dfa", func := "sacristy/sacristylaw08.CertFronts", spec := "certFronts", unfollowed := true, recurses := true, apart := false, narrowed := true }
def CertFrontsUptoSaid : Prop := certFrontsUptoRow.holds Try.pinned (OpenSpec.upto certFrontsSpec)

/-- 'sacristylaw08.CertChecks', WHERE WHAT IT READS IS OF BULK AT MOST 1048576: true; the input reads as it did. -/
def certChecksUptoRow : OpenClaim := { program := "ytpffdpieciaooaa", sum := "e1abc0643254d15a68ae614727410b1c7f0873f164f8fe59bea509604e524dfa", func := "sacristy/sacristylaw08.CertChecks", spec := "certChecks", unfollowed := true, recurses := true, apart := false, narrowed := true }
def CertChecksUptoSaid : Prop := certChecksUptoRow.holds Try.pinned (OpenSpec.upto certChecksSpec)

/-- 'sacristylaw08.CertPrimes', WHERE WHAT IT READS IS OF BULK AT MOST 1048576: true; the input reads as it did. -/
def certPrimesUptoRow : OpenClaim := { program := "ytpffdpieciaooaa", sum := "e1abc0643254d15a68ae614727410b1c7f0873f164f8fe59bea509604e524dfa", func := "sacristy/sacristylaw08.CertPrimes", spec := "certPrimes", unfollowed := true, recurses := true, apart := false, narrowed := true }
def CertPrimesUptoSaid : Prop := certPrimesUptoRow.holds Try.pinned (OpenSpec.upto certPrimesSpec)

/-- 'sacristylaw07.BoxSeals', WHERE WHAT IT READS IS OF BULK AT MOST 1048576: true; the input reads as it did. -/
def boxSealsUptoRow : OpenClaim := { program := "ytpffdpieciaooaa", sum := "e1abc0643254d15a68ae614727410b1c7f0873f164f8fe59bea509604e524dfa", func := "sacristy/sacristylaw07.BoxSeals", spec := "boxSeals", unfollowed := true, recurses := true, apart := false, narrowed := true }
def BoxSealsUptoSaid : Prop := boxSealsUptoRow.holds Try.pinned (OpenSpec.upto boxSealsSpec)

/-- 'sacristylaw07.BoxOpens', WHERE WHAT IT READS IS OF BULK AT MOST 1048576: true; the input reads as it did. -/
def boxOpensUptoRow : OpenClaim := { program := "ytpffdpieciaooaa", sum := "e1abc0643254d15a68ae614727410b1c7f0873f164f8fe59bea509604e524dfa", func := "sacristy/sacristylaw07.BoxOpens", spec := "boxOpens", unfollowed := true, recurses := true, apart := false, narrowed := true }
def BoxOpensUptoSaid : Prop := boxOpensUptoRow.holds Try.pinned (OpenSpec.upto boxOpensSpec)

/-- 'sacristylaw07.BoxBack', WHERE WHAT IT READS IS OF BULK AT MOST 1048576: true; the input reads as it did. -/
def boxBackUptoRow : OpenClaim := { program := "ytpffdpieciaooaa", sum := "e1abc0643254d15a68ae614727410b1c7f0873f164f8fe59bea509604e524dfa", func := "sacristy/sacristylaw07.BoxBack", spec := "boxBack", unfollowed := true, recurses := true, apart := false, narrowed := true }
def BoxBackUptoSaid : Prop := boxBackUptoRow.holds Try.pinned (OpenSpec.upto boxBackSpec)

/-- 'sacristylaw07.BoxShort', WHERE WHAT IT READS IS OF BULK AT MOST 1048576: true; the input reads as it did. -/
def boxShortUptoRow : OpenClaim := { program := "ytpffdpieciaooaa", sum := "e1abc0643254d15a68ae614727410b1c7f0873f164f8fe59bea509604e524dfa", func := "sacristy/sacristylaw07.BoxShort", spec := "boxShort", unfollowed := true, recurses := true, apart := false, narrowed := true }
def BoxShortUptoSaid : Prop := boxShortUptoRow.holds Try.pinned (OpenSpec.upto boxShortSpec)

end Rows
end Go.Proofs.Ytpffdpieciaooaa
