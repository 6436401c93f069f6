/-
  No cell of these rows narrows 'for every input' (looked for: loops, veiled, ifaces, maps, wideKeys, modest, calm, conditions, laid).
  DERIVED. THE GIVEN ROWS OF THIS SEAT. 10 by the template 'for every input the law returns true; each argument reads behind the call as it read before'; 0 by the template 'total and deterministic' (their statements: YtlbhjjihopafoaaTotals.lean).
  GIVEN WITH THE SEED: the statements are not yours to turn. If you find one false, say at which input.
  Laid BY PROGRAM, IN A SANDBOX (cutbox-rows.mjs): the forced cells as the released guide's own fill.sh prints them over the translation 2e0e0263ef2df777… (all of the seat's roots in one cut). By AI agents, Wed Nov 11 2026. No macro, syntax, notation, axiom, sorry.
-/
import Derived.Test.YtlbhjjihopafoaaChecked
import GoSem.Claim
import GoSem.ClaimJoined
import GoSem.ClaimMapViews
import Derived.JoinedTies
import Derived.KernelRfl
namespace Go.Proofs.Ytlbhjjihopafoaa
/- THE CELL 'sum', in the pinned program and in every row, IS THE sha256 OF THE DUMP (.gsa) THAT YtlbhjjihopafoaaProg.lean LOADS. Nothing in Lean hashes anything: it is a label: what it is worth is what the hold of that sum in a sandbox is worth. -/
noncomputable def Try.pinned : Pinned := { name := "ytlbhjjihopafoaa", sum := "2e0e0263ef2df7775978f133bc8e347263c4ce334fc0d2ec8380d916ac8e8c5f", checked := Try.checked }
namespace Rows
def none {H : Type} : Left H := { results := [], args := [] }

/-- 'sacristylaw03.ShaSums': WHATEVER THE INPUT: true; the input reads as it did. -/
def shaSumsSpec : ChangeSpec := { name := "shaSums", fn := fun _ => fun
  | [d] => { results := [.lit (.bool true)], args := [d] }
  | _ => none }
def shaSumsRow : OpenClaim := { program := "ytlbhjjihopafoaa", sum := "2e0e0263ef2df7775978f133bc8e347263c4ce334fc0d2ec8380d916ac8e8c5f", func := "sacristy/sacristylaw03.ShaSums", spec := "shaSums", apart := false }
def ShaSumsSaid : Prop := shaSumsRow.holds Try.pinned (OpenSpec.ofChange shaSumsSpec)

/-- ITS FALSE NEIGHBOUR: 'it returns false'. Refute it at one input. -/
def shaSumsWrong : ChangeSpec := { name := "shaSums", fn := fun _ => fun
  | [d] => { results := [.lit (.bool false)], args := [d] }
  | _ => none }
def ShaSumsWrongFalsely : Prop := shaSumsRow.holds Try.pinned (OpenSpec.ofChange shaSumsWrong)

/-- 'sacristylaw03.ShaParts': WHATEVER THE INPUT: true; the input reads as it did. -/
def shaPartsSpec : ChangeSpec := { name := "shaParts", fn := fun _ => fun
  | [d1, d2] => { results := [.lit (.bool true)], args := [d1, d2] }
  | _ => none }
def shaPartsRow : OpenClaim := { program := "ytlbhjjihopafoaa", sum := "2e0e0263ef2df7775978f133bc8e347263c4ce334fc0d2ec8380d916ac8e8c5f", func := "sacristy/sacristylaw03.ShaParts", spec := "shaParts", apart := false }
def ShaPartsSaid : Prop := shaPartsRow.holds Try.pinned (OpenSpec.ofChange shaPartsSpec)

/-- ITS FALSE NEIGHBOUR: 'it returns false'. Refute it at one input. -/
def shaPartsWrong : ChangeSpec := { name := "shaParts", fn := fun _ => fun
  | [d1, d2] => { results := [.lit (.bool false)], args := [d1, d2] }
  | _ => none }
def ShaPartsWrongFalsely : Prop := shaPartsRow.holds Try.pinned (OpenSpec.ofChange shaPartsWrong)

/-- 'sacristylaw03.ShaCopies': WHATEVER THE INPUT: true; the input reads as it did. -/
def shaCopiesSpec : ChangeSpec := { name := "shaCopies", fn := fun _ => fun
  | [d1, d2, d3] => { results := [.lit (.bool true)], args := [d1, d2, d3] }
  | _ => none }
def shaCopiesRow : OpenClaim := { program := "ytlbhjjihopafoaa", sum := "2e0e0263ef2df7775978f133bc8e347263c4ce334fc0d2ec8380d916ac8e8c5f", func := "sacristy/sacristylaw03.ShaCopies", spec := "shaCopies", apart := false }
def ShaCopiesSaid : Prop := shaCopiesRow.holds Try.pinned (OpenSpec.ofChange shaCopiesSpec)

/-- ITS FALSE NEIGHBOUR: 'it returns false'. Refute it at one input. -/
def shaCopiesWrong : ChangeSpec := { name := "shaCopies", fn := fun _ => fun
  | [d1, d2, d3] => { results := [.lit (.bool false)], args := [d1, d2, d3] }
  | _ => none }
def ShaCopiesWrongFalsely : Prop := shaCopiesRow.holds Try.pinned (OpenSpec.ofChange shaCopiesWrong)

/-- 'sacristylaw03.ShaFixed': WHATEVER THE INPUT: true; the input reads as it did. -/
def shaFixedSpec : ChangeSpec := { name := "shaFixed", fn := fun _ => fun
  | [d] => { results := [.lit (.bool true)], args := [d] }
  | _ => none }
def shaFixedRow : OpenClaim := { program := "ytlbhjjihopafoaa", sum := "2e0e0263ef2df7775978f133bc8e347263c4ce334fc0d2ec8380d916ac8e8c5f", func := "sacristy/sacristylaw03.ShaFixed", spec := "shaFixed", apart := false }
def ShaFixedSaid : Prop := shaFixedRow.holds Try.pinned (OpenSpec.ofChange shaFixedSpec)

/-- ITS FALSE NEIGHBOUR: 'it returns false'. Refute it at one input. -/
def shaFixedWrong : ChangeSpec := { name := "shaFixed", fn := fun _ => fun
  | [d] => { results := [.lit (.bool false)], args := [d] }
  | _ => none }
def ShaFixedWrongFalsely : Prop := shaFixedRow.holds Try.pinned (OpenSpec.ofChange shaFixedWrong)

/-- 'sacristylaw04.MacTags': WHATEVER THE INPUT: true; the input reads as it did. -/
def macTagsSpec : ChangeSpec := { name := "macTags", fn := fun _ => fun
  | [d1, d2, d3] => { results := [.lit (.bool true)], args := [d1, d2, d3] }
  | _ => none }
def macTagsRow : OpenClaim := { program := "ytlbhjjihopafoaa", sum := "2e0e0263ef2df7775978f133bc8e347263c4ce334fc0d2ec8380d916ac8e8c5f", func := "sacristy/sacristylaw04.MacTags", spec := "macTags", apart := false }
def MacTagsSaid : Prop := macTagsRow.holds Try.pinned (OpenSpec.ofChange macTagsSpec)

/-- ITS FALSE NEIGHBOUR: 'it returns false'. Refute it at one input. -/
def macTagsWrong : ChangeSpec := { name := "macTags", fn := fun _ => fun
  | [d1, d2, d3] => { results := [.lit (.bool false)], args := [d1, d2, d3] }
  | _ => none }
def MacTagsWrongFalsely : Prop := macTagsRow.holds Try.pinned (OpenSpec.ofChange macTagsWrong)

/-- 'sacristylaw04.MacKeys': WHATEVER THE INPUT: true; the input reads as it did. -/
def macKeysSpec : ChangeSpec := { name := "macKeys", fn := fun _ => fun
  | [d1, d2] => { results := [.lit (.bool true)], args := [d1, d2] }
  | _ => none }
def macKeysRow : OpenClaim := { program := "ytlbhjjihopafoaa", sum := "2e0e0263ef2df7775978f133bc8e347263c4ce334fc0d2ec8380d916ac8e8c5f", func := "sacristy/sacristylaw04.MacKeys", spec := "macKeys", apart := false }
def MacKeysSaid : Prop := macKeysRow.holds Try.pinned (OpenSpec.ofChange macKeysSpec)

/-- ITS FALSE NEIGHBOUR: 'it returns false'. Refute it at one input. -/
def macKeysWrong : ChangeSpec := { name := "macKeys", fn := fun _ => fun
  | [d1, d2] => { results := [.lit (.bool false)], args := [d1, d2] }
  | _ => none }
def MacKeysWrongFalsely : Prop := macKeysRow.holds Try.pinned (OpenSpec.ofChange macKeysWrong)

/-- 'sacristylaw04.MacSames': WHATEVER THE INPUT: true; the input reads as it did. -/
def macSamesSpec : ChangeSpec := { name := "macSames", fn := fun _ => fun
  | [d1, d2] => { results := [.lit (.bool true)], args := [d1, d2] }
  | _ => none }
def macSamesRow : OpenClaim := { program := "ytlbhjjihopafoaa", sum := "2e0e0263ef2df7775978f133bc8e347263c4ce334fc0d2ec8380d916ac8e8c5f", func := "sacristy/sacristylaw04.MacSames", spec := "macSames", apart := false }
def MacSamesSaid : Prop := macSamesRow.holds Try.pinned (OpenSpec.ofChange macSamesSpec)

/-- ITS FALSE NEIGHBOUR: 'it returns false'. Refute it at one input. -/
def macSamesWrong : ChangeSpec := { name := "macSames", fn := fun _ => fun
  | [d1, d2] => { results := [.lit (.bool false)], args := [d1, d2] }
  | _ => none }
def MacSamesWrongFalsely : Prop := macSamesRow.holds Try.pinned (OpenSpec.ofChange macSamesWrong)

/-- 'sacristylaw04.MacExpands': WHATEVER THE INPUT: true; the input reads as it did. -/
def macExpandsSpec : ChangeSpec := { name := "macExpands", fn := fun _ => fun
  | [d1, d2, d3] => { results := [.lit (.bool true)], args := [d1, d2, d3] }
  | _ => none }
def macExpandsRow : OpenClaim := { program := "ytlbhjjihopafoaa", sum := "2e0e0263ef2df7775978f133bc8e347263c4ce334fc0d2ec8380d916ac8e8c5f", func := "sacristy/sacristylaw04.MacExpands", spec := "macExpands", apart := false }
def MacExpandsSaid : Prop := macExpandsRow.holds Try.pinned (OpenSpec.ofChange macExpandsSpec)

/-- ITS FALSE NEIGHBOUR: 'it returns false'. Refute it at one input. -/
def macExpandsWrong : ChangeSpec := { name := "macExpands", fn := fun _ => fun
  | [d1, d2, d3] => { results := [.lit (.bool false)], args := [d1, d2, d3] }
  | _ => none }
def MacExpandsWrongFalsely : Prop := macExpandsRow.holds Try.pinned (OpenSpec.ofChange macExpandsWrong)

/-- 'sacristylaw04.MacFronts': WHATEVER THE INPUT: true; the input reads as it did. -/
def macFrontsSpec : ChangeSpec := { name := "macFronts", fn := fun _ => fun
  | [d1, d2, d3, d4] => { results := [.lit (.bool true)], args := [d1, d2, d3, d4] }
  | _ => none }
def macFrontsRow : OpenClaim := { program := "ytlbhjjihopafoaa", sum := "2e0e0263ef2df7775978f133bc8e347263c4ce334fc0d2ec8380d916ac8e8c5f", func := "sacristy/sacristylaw04.MacFronts", spec := "macFronts", apart := false }
def MacFrontsSaid : Prop := macFrontsRow.holds Try.pinned (OpenSpec.ofChange macFrontsSpec)

/-- ITS FALSE NEIGHBOUR: 'it returns false'. Refute it at one input. -/
def macFrontsWrong : ChangeSpec := { name := "macFronts", fn := fun _ => fun
  | [d1, d2, d3, d4] => { results := [.lit (.bool false)], args := [d1, d2, d3, d4] }
  | _ => none }
def MacFrontsWrongFalsely : Prop := macFrontsRow.holds Try.pinned (OpenSpec.ofChange macFrontsWrong)

/-- 'sacristylaw04.MacDerives': WHATEVER THE INPUT: true; the input reads as it did. -/
def macDerivesSpec : ChangeSpec := { name := "macDerives", fn := fun _ => fun
  | [d1, d2, d3, d4] => { results := [.lit (.bool true)], args := [d1, d2, d3, d4] }
  | _ => none }
def macDerivesRow : OpenClaim := { program := "ytlbhjjihopafoaa", sum := "2e0e0263ef2df7775978f133bc8e347263c4ce334fc0d2ec8380d916ac8e8c5f", func := "sacristy/sacristylaw04.MacDerives", spec := "macDerives", apart := false }
def MacDerivesSaid : Prop := macDerivesRow.holds Try.pinned (OpenSpec.ofChange macDerivesSpec)

/-- ITS FALSE NEIGHBOUR: 'it returns false'. Refute it at one input. -/
def macDerivesWrong : ChangeSpec := { name := "macDerives", fn := fun _ => fun
  | [d1, d2, d3, d4] => { results := [.lit (.bool false)], args := [d1, d2, d3, d4] }
  | _ => none }
def MacDerivesWrongFalsely : Prop := macDerivesRow.holds Try.pinned (OpenSpec.ofChange macDerivesWrong)

/- THE SECOND FORM. 'bulk': how many values and letters a reading holds, each counted each time it is reached (what is shared counts as often as it is met; a slice's spare places count too). A statement '..UptoSaid' is the law's where the arguments, and the package variables that the reading takes, are together of bulk at most 1048576: NARROWER than '..Said'. Prove '..Said' where nothing that the law and all that it calls make is longer than what came in: it says more and counts as full. Else prove '..UptoSaid'. A law counts once. -/
mutual
def uptoBulk {H : Type} : DataW H → Nat
  | .lit (.string bytes) => bytes.length + 1
  | .lit _ => 1
  | .nil => 1
  | .ptr d => uptoBulk d + 1
  | .slice elems spare => uptoBulkAll elems + uptoBulkAll spare + 1
  | .agg parts => uptoBulkAll parts + 1
  | .iface _ d => uptoBulk d + 1
  | .map entries => uptoBulkEntries entries + 1
  | .held _ => 1
def uptoBulkAll {H : Type} : List (DataW H) → Nat
  | [] => 0
  | d :: r => uptoBulk d + uptoBulkAll r
def uptoBulkEntries {H : Type} : List (Lit × DataW H) → Nat
  | [] => 0
  | x :: r => uptoBulkEntry x + uptoBulkEntries r
def uptoBulkEntry {H : Type} : Lit × DataW H → Nat
  | (.string bytes, d) => bytes.length + uptoBulk d + 1
  | (_, d) => uptoBulk d + 1
 end
def uptoSmall : (H : Type) → List (DataW H) → Bool := fun _ ds => decide (uptoBulkAll ds ≤ 1048576)
def OpenSpec.upto (s : _root_.Go.ChangeSpec) : _root_.Go.OpenSpec := { _root_.Go.OpenSpec.ofChange s with cond := some uptoSmall }

/-- 'sacristylaw03.ShaSums', WHERE WHAT IT READS IS OF BULK AT MOST 1048576: true; the input reads as it did. -/
def shaSumsUptoRow : OpenClaim := { program := "ytlbhjjihopafoaa", sum := "2e0e0263ef2df7775978f133bc8e347263c4ce334fc0d2ec8380d916ac8e8c5f", func := "sacristy/sacristylaw03.ShaSums", spec := "shaSums", apart := false, narrowed := true }
def ShaSumsUptoSaid : Prop := shaSumsUptoRow.holds Try.pinned (OpenSpec.upto shaSumsSpec)

/-- 'sacristylaw03.ShaParts', WHERE WHAT IT READS IS OF BULK AT MOST 1048576: true; the input reads as it did. -/
def shaPartsUptoRow : OpenClaim := { program := "ytlbhjjihopafoaa", sum := "2e0e0263ef2df7775978f133bc8e347263c4ce334fc0d2ec8380d916ac8e8c5f", func := "sacristy/sacristylaw03.ShaParts", spec := "shaParts", apart := false, narrowed := true }
def ShaPartsUptoSaid : Prop := shaPartsUptoRow.holds Try.pinned (OpenSpec.upto shaPartsSpec)

/-- 'sacristylaw03.ShaCopies', WHERE WHAT IT READS IS OF BULK AT MOST 1048576: true; the input reads as it did. -/
def shaCopiesUptoRow : OpenClaim := { program := "ytlbhjjihopafoaa", sum := "2e0e0263ef2df7775978f133bc8e347263c4ce334fc0d2ec8380d916ac8e8c5f", func := "sacristy/sacristylaw03.ShaCopies", spec := "shaCopies", apart := false, narrowed := true }
def ShaCopiesUptoSaid : Prop := shaCopiesUptoRow.holds Try.pinned (OpenSpec.upto shaCopiesSpec)

/-- 'sacristylaw03.ShaFixed', WHERE WHAT IT READS IS OF BULK AT MOST 1048576: true; the input reads as it did. -/
def shaFixedUptoRow : OpenClaim := { program := "ytlbhjjihopafoaa", sum := "2e0e0263ef2df7775978f133bc8e347263c4ce334fc0d2ec8380d916ac8e8c5f", func := "sacristy/sacristylaw03.ShaFixed", spec := "shaFixed", apart := false, narrowed := true }
def ShaFixedUptoSaid : Prop := shaFixedUptoRow.holds Try.pinned (OpenSpec.upto shaFixedSpec)

/-- 'sacristylaw04.MacTags', WHERE WHAT IT READS IS OF BULK AT MOST 1048576: true; the input reads as it did. -/
def macTagsUptoRow : OpenClaim := { program := "ytlbhjjihopafoaa", sum := "2e0e0263ef2df7775978f133bc8e347263c4ce334fc0d2ec8380d916ac8e8c5f", func := "sacristy/sacristylaw04.MacTags", spec := "macTags", apart := false, narrowed := true }
def MacTagsUptoSaid : Prop := macTagsUptoRow.holds Try.pinned (OpenSpec.upto macTagsSpec)

/-- 'sacristylaw04.MacKeys', WHERE WHAT IT READS IS OF BULK AT MOST 1048576: true; the input reads as it did. -/
def macKeysUptoRow : OpenClaim := { program := "ytlbhjjihopafoaa", sum := "2e0e0263ef2df7775978f133bc8e347263c4ce334fc0d2ec8380d916ac8e8c5f", func := "sacristy/sacristylaw04.MacKeys", spec := "macKeys", apart := false, narrowed := true }
def MacKeysUptoSaid : Prop := macKeysUptoRow.holds Try.pinned (OpenSpec.upto macKeysSpec)

/-- 'sacristylaw04.MacSames', WHERE WHAT IT READS IS OF BULK AT MOST 1048576: true; the input reads as it did. -/
def macSamesUptoRow : OpenClaim := { program := "ytlbhjjihopafoaa", sum := "2e0e0263ef2df7775978f133bc8e347263c4ce334fc0d2ec8380d916ac8e8c5f", func := "sacristy/sacristylaw04.MacSames", spec := "macSames", apart := false, narrowed := true }
def MacSamesUptoSaid : Prop := macSamesUptoRow.holds Try.pinned (OpenSpec.upto macSamesSpec)

/-- 'sacristylaw04.MacExpands', WHERE WHAT IT READS IS OF BULK AT MOST 1048576: true; the input reads as it did. -/
def macExpandsUptoRow : OpenClaim := { program := "ytlbhjjihopafoaa", sum := "2e0e0263ef2df7775978f133bc8e347263c4ce334fc0d2ec8380d916ac8e8c5f", func := "sacristy/sacristylaw04.MacExpands", spec := "macExpands", apart := false, narrowed := true }
def MacExpandsUptoSaid : Prop := macExpandsUptoRow.holds Try.pinned (OpenSpec.upto macExpandsSpec)

/-- 'sacristylaw04.MacFronts', WHERE WHAT IT READS IS OF BULK AT MOST 1048576: true; the input reads as it did. -/
def macFrontsUptoRow : OpenClaim := { program := "ytlbhjjihopafoaa", sum := "2e0e0263ef2df7775978f133bc8e347263c4ce334fc0d2ec8380d916ac8e8c5f", func := "sacristy/sacristylaw04.MacFronts", spec := "macFronts", apart := false, narrowed := true }
def MacFrontsUptoSaid : Prop := macFrontsUptoRow.holds Try.pinned (OpenSpec.upto macFrontsSpec)

/-- 'sacristylaw04.MacDerives', WHERE WHAT IT READS IS OF BULK AT MOST 1048576: true; the input reads as it did. -/
def macDerivesUptoRow : OpenClaim := { program := "ytlbhjjihopafoaa", sum := "2e0e0263ef2df7775978f133bc8e347263c4ce334fc0d2ec8380d916ac8e8c5f", func := "sacristy/sacristylaw04.MacDerives", spec := "macDerives", apart := false, narrowed := true }
def MacDerivesUptoSaid : Prop := macDerivesUptoRow.holds Try.pinned (OpenSpec.upto macDerivesSpec)

end Rows
end Go.Proofs.Ytlbhjjihopafoaa
