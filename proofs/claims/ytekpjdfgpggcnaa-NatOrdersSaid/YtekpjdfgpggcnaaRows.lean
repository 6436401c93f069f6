/-
  No cell of these rows narrows 'for every input' (looked for: loops, veiled, ifaces, maps, wideKeys, modest, calm, conditions, laid).
  DERIVED. THE GIVEN ROWS OF THIS SEAT. 10 by the template 'for every input the law returns true; each argument reads behind the call as it read before'; 0 by the template 'total and deterministic' (their statements: YtekpjdfgpggcnaaTotals.lean).
  GIVEN WITH THE SEED: the statements are not yours to turn. If you find one false, say at which input.
  Laid BY PROGRAM, IN A SANDBOX (cutbox-rows.mjs): the forced cells as the released guide's own fill.sh prints them over the translation 41c5f92d4d9df06c… (all of the seat's roots in one cut). By AI agents, Wed Nov 11 2026. No macro, syntax, notation, axiom, sorry.
-/
import Derived.Test.YtekpjdfgpggcnaaChecked
import GoSem.Claim
import GoSem.ClaimJoined
import GoSem.ClaimMapViews
import Derived.JoinedTies
import Derived.KernelRfl
namespace Go.Proofs.Ytekpjdfgpggcnaa
/- THE CELL 'sum', in the pinned program and in every row, IS THE sha256 OF THE DUMP (.gsa) THAT YtekpjdfgpggcnaaProg.lean LOADS. Nothing in Lean hashes anything: it is a label: what it is worth is what the hold of that sum in a sandbox is worth. -/
noncomputable def Try.pinned : Pinned := { name := "ytekpjdfgpggcnaa", sum := "41c5f92d4d9df06cf8e7d8bb8fdc181b1263e64cfdda9a503af06f4c1e8befee", checked := Try.checked }
namespace Rows
def none {H : Type} : Left H := { results := [], args := [] }

/-- 'sacristylaw01.NatBytes': WHATEVER THE INPUT: true; the input reads as it did. -/
def natBytesSpec : ChangeSpec := { name := "natBytes", fn := fun _ => fun
  | [d1, d2] => { results := [.lit (.bool true)], args := [d1, d2] }
  | _ => none }
def natBytesRow : OpenClaim := { program := "ytekpjdfgpggcnaa", sum := "41c5f92d4d9df06cf8e7d8bb8fdc181b1263e64cfdda9a503af06f4c1e8befee", func := "sacristy/sacristylaw01.NatBytes", spec := "natBytes", unfollowed := true, recurses := true, apart := false }
def NatBytesSaid : Prop := natBytesRow.holds Try.pinned (OpenSpec.ofChange natBytesSpec)

/-- ITS FALSE NEIGHBOUR: 'it returns false'. Refute it at one input. -/
def natBytesWrong : ChangeSpec := { name := "natBytes", fn := fun _ => fun
  | [d1, d2] => { results := [.lit (.bool false)], args := [d1, d2] }
  | _ => none }
def NatBytesWrongFalsely : Prop := natBytesRow.holds Try.pinned (OpenSpec.ofChange natBytesWrong)

/-- 'sacristylaw01.NatBits': WHATEVER THE INPUT: true; the input reads as it did. -/
def natBitsSpec : ChangeSpec := { name := "natBits", fn := fun _ => fun
  | [d1, d2, d3] => { results := [.lit (.bool true)], args := [d1, d2, d3] }
  | _ => none }
def natBitsRow : OpenClaim := { program := "ytekpjdfgpggcnaa", sum := "41c5f92d4d9df06cf8e7d8bb8fdc181b1263e64cfdda9a503af06f4c1e8befee", func := "sacristy/sacristylaw01.NatBits", spec := "natBits", unfollowed := true, recurses := true, apart := false }
def NatBitsSaid : Prop := natBitsRow.holds Try.pinned (OpenSpec.ofChange natBitsSpec)

/-- ITS FALSE NEIGHBOUR: 'it returns false'. Refute it at one input. -/
def natBitsWrong : ChangeSpec := { name := "natBits", fn := fun _ => fun
  | [d1, d2, d3] => { results := [.lit (.bool false)], args := [d1, d2, d3] }
  | _ => none }
def NatBitsWrongFalsely : Prop := natBitsRow.holds Try.pinned (OpenSpec.ofChange natBitsWrong)

/-- 'sacristylaw01.NatGcds': WHATEVER THE INPUT: true; the input reads as it did. -/
def natGcdsSpec : ChangeSpec := { name := "natGcds", fn := fun _ => fun
  | [d1, d2] => { results := [.lit (.bool true)], args := [d1, d2] }
  | _ => none }
def natGcdsRow : OpenClaim := { program := "ytekpjdfgpggcnaa", sum := "41c5f92d4d9df06cf8e7d8bb8fdc181b1263e64cfdda9a503af06f4c1e8befee", func := "sacristy/sacristylaw01.NatGcds", spec := "natGcds", unfollowed := true, recurses := true, apart := false }
def NatGcdsSaid : Prop := natGcdsRow.holds Try.pinned (OpenSpec.ofChange natGcdsSpec)

/-- ITS FALSE NEIGHBOUR: 'it returns false'. Refute it at one input. -/
def natGcdsWrong : ChangeSpec := { name := "natGcds", fn := fun _ => fun
  | [d1, d2] => { results := [.lit (.bool false)], args := [d1, d2] }
  | _ => none }
def NatGcdsWrongFalsely : Prop := natGcdsRow.holds Try.pinned (OpenSpec.ofChange natGcdsWrong)

/-- 'sacristylaw01.NatSmall': WHATEVER THE INPUT: true; the input reads as it did. -/
def natSmallSpec : ChangeSpec := { name := "natSmall", fn := fun _ => fun
  | [d1, d2] => { results := [.lit (.bool true)], args := [d1, d2] }
  | _ => none }
def natSmallRow : OpenClaim := { program := "ytekpjdfgpggcnaa", sum := "41c5f92d4d9df06cf8e7d8bb8fdc181b1263e64cfdda9a503af06f4c1e8befee", func := "sacristy/sacristylaw01.NatSmall", spec := "natSmall", unfollowed := true, recurses := true, apart := false }
def NatSmallSaid : Prop := natSmallRow.holds Try.pinned (OpenSpec.ofChange natSmallSpec)

/-- ITS FALSE NEIGHBOUR: 'it returns false'. Refute it at one input. -/
def natSmallWrong : ChangeSpec := { name := "natSmall", fn := fun _ => fun
  | [d1, d2] => { results := [.lit (.bool false)], args := [d1, d2] }
  | _ => none }
def NatSmallWrongFalsely : Prop := natSmallRow.holds Try.pinned (OpenSpec.ofChange natSmallWrong)

/-- 'sacristylaw01.NatProducts': WHATEVER THE INPUT: true; the input reads as it did. -/
def natProductsSpec : ChangeSpec := { name := "natProducts", fn := fun _ => fun
  | [d1, d2] => { results := [.lit (.bool true)], args := [d1, d2] }
  | _ => none }
def natProductsRow : OpenClaim := { program := "ytekpjdfgpggcnaa", sum := "41c5f92d4d9df06cf8e7d8bb8fdc181b1263e64cfdda9a503af06f4c1e8befee", func := "sacristy/sacristylaw01.NatProducts", spec := "natProducts", unfollowed := true, recurses := true, apart := false }
def NatProductsSaid : Prop := natProductsRow.holds Try.pinned (OpenSpec.ofChange natProductsSpec)

/-- ITS FALSE NEIGHBOUR: 'it returns false'. Refute it at one input. -/
def natProductsWrong : ChangeSpec := { name := "natProducts", fn := fun _ => fun
  | [d1, d2] => { results := [.lit (.bool false)], args := [d1, d2] }
  | _ => none }
def NatProductsWrongFalsely : Prop := natProductsRow.holds Try.pinned (OpenSpec.ofChange natProductsWrong)

/-- 'sacristylaw01.NatBack': WHATEVER THE INPUT: true; the input reads as it did. -/
def natBackSpec : ChangeSpec := { name := "natBack", fn := fun _ => fun
  | [d1, d2] => { results := [.lit (.bool true)], args := [d1, d2] }
  | _ => none }
def natBackRow : OpenClaim := { program := "ytekpjdfgpggcnaa", sum := "41c5f92d4d9df06cf8e7d8bb8fdc181b1263e64cfdda9a503af06f4c1e8befee", func := "sacristy/sacristylaw01.NatBack", spec := "natBack", unfollowed := true, recurses := true, apart := false }
def NatBackSaid : Prop := natBackRow.holds Try.pinned (OpenSpec.ofChange natBackSpec)

/-- ITS FALSE NEIGHBOUR: 'it returns false'. Refute it at one input. -/
def natBackWrong : ChangeSpec := { name := "natBack", fn := fun _ => fun
  | [d1, d2] => { results := [.lit (.bool false)], args := [d1, d2] }
  | _ => none }
def NatBackWrongFalsely : Prop := natBackRow.holds Try.pinned (OpenSpec.ofChange natBackWrong)

/-- 'sacristylaw01.NatOrders': WHATEVER THE INPUT: true; the input reads as it did. -/
def natOrdersSpec : ChangeSpec := { name := "natOrders", fn := fun _ => fun
  | [d1, d2, d3] => { results := [.lit (.bool true)], args := [d1, d2, d3] }
  | _ => none }
def natOrdersRow : OpenClaim := { program := "ytekpjdfgpggcnaa", sum := "41c5f92d4d9df06cf8e7d8bb8fdc181b1263e64cfdda9a503af06f4c1e8befee", func := "sacristy/sacristylaw01.NatOrders", spec := "natOrders", unfollowed := true, recurses := true, apart := false }
def NatOrdersSaid : Prop := natOrdersRow.holds Try.pinned (OpenSpec.ofChange natOrdersSpec)

/-- ITS FALSE NEIGHBOUR: 'it returns false'. Refute it at one input. -/
def natOrdersWrong : ChangeSpec := { name := "natOrders", fn := fun _ => fun
  | [d1, d2, d3] => { results := [.lit (.bool false)], args := [d1, d2, d3] }
  | _ => none }
def NatOrdersWrongFalsely : Prop := natOrdersRow.holds Try.pinned (OpenSpec.ofChange natOrdersWrong)

/-- 'sacristylaw01.NatSums': WHATEVER THE INPUT: true; the input reads as it did. -/
def natSumsSpec : ChangeSpec := { name := "natSums", fn := fun _ => fun
  | [d1, d2] => { results := [.lit (.bool true)], args := [d1, d2] }
  | _ => none }
def natSumsRow : OpenClaim := { program := "ytekpjdfgpggcnaa", sum := "41c5f92d4d9df06cf8e7d8bb8fdc181b1263e64cfdda9a503af06f4c1e8befee", func := "sacristy/sacristylaw01.NatSums", spec := "natSums", unfollowed := true, recurses := true, apart := false }
def NatSumsSaid : Prop := natSumsRow.holds Try.pinned (OpenSpec.ofChange natSumsSpec)

/-- ITS FALSE NEIGHBOUR: 'it returns false'. Refute it at one input. -/
def natSumsWrong : ChangeSpec := { name := "natSums", fn := fun _ => fun
  | [d1, d2] => { results := [.lit (.bool false)], args := [d1, d2] }
  | _ => none }
def NatSumsWrongFalsely : Prop := natSumsRow.holds Try.pinned (OpenSpec.ofChange natSumsWrong)

/-- 'sacristylaw01.NatRules': WHATEVER THE INPUT: true; the input reads as it did. -/
def natRulesSpec : ChangeSpec := { name := "natRules", fn := fun _ => fun
  | [d1, d2, d3] => { results := [.lit (.bool true)], args := [d1, d2, d3] }
  | _ => none }
def natRulesRow : OpenClaim := { program := "ytekpjdfgpggcnaa", sum := "41c5f92d4d9df06cf8e7d8bb8fdc181b1263e64cfdda9a503af06f4c1e8befee", func := "sacristy/sacristylaw01.NatRules", spec := "natRules", unfollowed := true, recurses := true, apart := false }
def NatRulesSaid : Prop := natRulesRow.holds Try.pinned (OpenSpec.ofChange natRulesSpec)

/-- ITS FALSE NEIGHBOUR: 'it returns false'. Refute it at one input. -/
def natRulesWrong : ChangeSpec := { name := "natRules", fn := fun _ => fun
  | [d1, d2, d3] => { results := [.lit (.bool false)], args := [d1, d2, d3] }
  | _ => none }
def NatRulesWrongFalsely : Prop := natRulesRow.holds Try.pinned (OpenSpec.ofChange natRulesWrong)

/-- 'sacristylaw02.ModSums': WHATEVER THE INPUT: true; the input reads as it did. -/
def modSumsSpec : ChangeSpec := { name := "modSums", fn := fun _ => fun
  | [d1, d2, d3] => { results := [.lit (.bool true)], args := [d1, d2, d3] }
  | _ => none }
def modSumsRow : OpenClaim := { program := "ytekpjdfgpggcnaa", sum := "41c5f92d4d9df06cf8e7d8bb8fdc181b1263e64cfdda9a503af06f4c1e8befee", func := "sacristy/sacristylaw02.ModSums", spec := "modSums", unfollowed := true, recurses := true, apart := false }
def ModSumsSaid : Prop := modSumsRow.holds Try.pinned (OpenSpec.ofChange modSumsSpec)

/-- ITS FALSE NEIGHBOUR: 'it returns false'. Refute it at one input. -/
def modSumsWrong : ChangeSpec := { name := "modSums", fn := fun _ => fun
  | [d1, d2, d3] => { results := [.lit (.bool false)], args := [d1, d2, d3] }
  | _ => none }
def ModSumsWrongFalsely : Prop := modSumsRow.holds Try.pinned (OpenSpec.ofChange modSumsWrong)

/- THE SECOND FORM. 'bulk': how many values and letters a reading holds, each counted each time it is reached (what is shared counts as often as it is met; a slice's spare places count too). A statement '..UptoSaid' is the law's where the arguments, and the package variables that the reading takes, are together of bulk at most 1048576: NARROWER than '..Said'. Prove '..Said' where nothing that the law and all that it calls make is longer than what came in: it says more and counts as full. Else prove '..UptoSaid'. A law counts once. -/
mutual
def uptoBulk {H : Type} : DataW H → Nat
  | .lit (.string bytes) => bytes.length + 1
  | .lit _ => 1
  | .nil => 1
  | .ptr d => uptoBulk d + 1
  | .slice elems spare => uptoBulkAll elems + uptoBulkAll spare + 1
  | .agg parts => uptoBulkAll parts + 1
  | .iface _ d => uptoBulk d + 1
  | .map entries => uptoBulkEntries entries + 1
  | .held _ => 1
def uptoBulkAll {H : Type} : List (DataW H) → Nat
  | [] => 0
  | d :: r => uptoBulk d + uptoBulkAll r
def uptoBulkEntries {H : Type} : List (Lit × DataW H) → Nat
  | [] => 0
  | x :: r => uptoBulkEntry x + uptoBulkEntries r
def uptoBulkEntry {H : Type} : Lit × DataW H → Nat
  | (.string bytes, d) => bytes.length + uptoBulk d + 1
  | (_, d) => uptoBulk d + 1
 end
def uptoSmall : (H : Type) → List (DataW H) → Bool := fun _ ds => decide (uptoBulkAll ds ≤ 1048576)
def OpenSpec.upto (s : _root_.Go.ChangeSpec) : _root_.Go.OpenSpec := { _root_.Go.OpenSpec.ofChange s with cond := some uptoSmall }

/-- 'sacristylaw01.NatBytes', WHERE WHAT IT READS IS OF BULK AT MOST 1048576: true; the input reads as it did. -/
def natBytesUptoRow : OpenClaim := { program := "ytekpjdfgpggcnaa", sum := "41c5f92d4d9df06cf8e7d8bb8fdc181b1263e64cfdda9a503af06f4c1e8befee", func := "sacristy/sacristylaw01.NatBytes", spec := "natBytes", unfollowed := true, recurses := true, apart := false, narrowed := true }
def NatBytesUptoSaid : Prop := natBytesUptoRow.holds Try.pinned (OpenSpec.upto natBytesSpec)

/-- 'sacristylaw01.NatBits', WHERE WHAT IT READS IS OF BULK AT MOST 1048576: true; the input reads as it did. -/
def natBitsUptoRow : OpenClaim := { program := "ytekpjdfgpggcnaa", sum := "41c5f92d4d9df06cf8e7d8bb8fdc181b1263e64cfdda9a503af06f4c1e8befee", func := "sacristy/sacristylaw01.NatBits", spec := "natBits", unfollowed := true, recurses := true, apart := false, narrowed := true }
def NatBitsUptoSaid : Prop := natBitsUptoRow.holds Try.pinned (OpenSpec.upto natBitsSpec)

/-- 'sacristylaw01.NatGcds', WHERE WHAT IT READS IS OF BULK AT MOST 1048576: true; the input reads as it did. -/
def natGcdsUptoRow : OpenClaim := { program := "ytekpjdfgpggcnaa", sum := "41c5f92d4d9df06cf8e7d8bb8fdc181b1263e64cfdda9a503af06f4c1e8befee", func := "sacristy/sacristylaw01.NatGcds", spec := "natGcds", unfollowed := true, recurses := true, apart := false, narrowed := true }
def NatGcdsUptoSaid : Prop := natGcdsUptoRow.holds Try.pinned (OpenSpec.upto natGcdsSpec)

/-- 'sacristylaw01.NatSmall', WHERE WHAT IT READS IS OF BULK AT MOST 1048576: true; the input reads as it did. -/
def natSmallUptoRow : OpenClaim := { program := "ytekpjdfgpggcnaa", sum := "41c5f92d4d9df06cf8e7d8bb8fdc181b1263e64cfdda9a503af06f4c1e8befee", func := "sacristy/sacristylaw01.NatSmall", spec := "natSmall", unfollowed := true, recurses := true, apart := false, narrowed := true }
def NatSmallUptoSaid : Prop := natSmallUptoRow.holds Try.pinned (OpenSpec.upto natSmallSpec)

/-- 'sacristylaw01.NatProducts', WHERE WHAT IT READS IS OF BULK AT MOST 1048576: true; the input reads as it did. -/
def natProductsUptoRow : OpenClaim := { program := "ytekpjdfgpggcnaa", sum := "41c5f92d4d9df06cf8e7d8bb8fdc181b1263e64cfdda9a503af06f4c1e8befee", func := "sacristy/sacristylaw01.NatProducts", spec := "natProducts", unfollowed := true, recurses := true, apart := false, narrowed := true }
def NatProductsUptoSaid : Prop := natProductsUptoRow.holds Try.pinned (OpenSpec.upto natProductsSpec)

/-- 'sacristylaw01.NatBack', WHERE WHAT IT READS IS OF BULK AT MOST 1048576: true; the input reads as it did. -/
def natBackUptoRow : OpenClaim := { program := "ytekpjdfgpggcnaa", sum := "41c5f92d4d9df06cf8e7d8bb8fdc181b1263e64cfdda9a503af06f4c1e8befee", func := "sacristy/sacristylaw01.NatBack", spec := "natBack", unfollowed := true, recurses := true, apart := false, narrowed := true }
def NatBackUptoSaid : Prop := natBackUptoRow.holds Try.pinned (OpenSpec.upto natBackSpec)

/-- 'sacristylaw01.NatOrders', WHERE WHAT IT READS IS OF BULK AT MOST 1048576: true; the input reads as it did. -/
def natOrdersUptoRow : OpenClaim := { program := "ytekpjdfgpggcnaa", sum := "41c5f92d4d9df06cf8e7d8bb8fdc181b1263e64cfdda9a503af06f4c1e8befee", func := "sacristy/sacristylaw01.NatOrders", spec := "natOrders", unfollowed := true, recurses := true, apart := false, narrowed := true }
def NatOrdersUptoSaid : Prop := natOrdersUptoRow.holds Try.pinned (OpenSpec.upto natOrdersSpec)

/-- 'sacristylaw01.NatSums', WHERE WHAT IT READS IS OF BULK AT MOST 1048576: true; the input reads as it did. -/
def natSumsUptoRow : OpenClaim := { program := "ytekpjdfgpggcnaa", sum := "41c5f92d4d9df06cf8e7d8bb8fdc181b1263e64cfdda9a503af06f4c1e8befee", func := "sacristy/sacristylaw01.NatSums", spec := "natSums", unfollowed := true, recurses := true, apart := false, narrowed := true }
def NatSumsUptoSaid : Prop := natSumsUptoRow.holds Try.pinned (OpenSpec.upto natSumsSpec)

/-- 'sacristylaw01.NatRules', WHERE WHAT IT READS IS OF BULK AT MOST 1048576: true; the input reads as it did. -/
def natRulesUptoRow : OpenClaim := { program := "ytekpjdfgpggcnaa", sum := "41c5f92d4d9df06cf8e7d8bb8fdc181b1263e64cfdda9a503af06f4c1e8befee", func := "sacristy/sacristylaw01.NatRules", spec := "natRules", unfollowed := true, recurses := true, apart := false, narrowed := true }
def NatRulesUptoSaid : Prop := natRulesUptoRow.holds Try.pinned (OpenSpec.upto natRulesSpec)

/-- 'sacristylaw02.ModSums', WHERE WHAT IT READS IS OF BULK AT MOST 1048576: true; the input reads as it did. -/
def modSumsUptoRow : OpenClaim := { program := "ytekpjdfgpggcnaa", sum := "41c5f92d4d9df06cf8e7d8bb8fdc181b1263e64cfdda9a503af06f4c1e8befee", func := "sacristy/sacristylaw02.ModSums", spec := "modSums", unfollowed := true, recurses := true, apart := false, narrowed := true }
def ModSumsUptoSaid : Prop := modSumsUptoRow.holds Try.pinned (OpenSpec.upto modSumsSpec)

end Rows
end Go.Proofs.Ytekpjdfgpggcnaa
