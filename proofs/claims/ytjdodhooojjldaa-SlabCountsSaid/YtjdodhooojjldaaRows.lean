/-
  No cell of these rows narrows 'for every input' (looked for: loops, veiled, ifaces, maps, wideKeys, modest, calm, conditions, laid).
  DERIVED. THE GIVEN ROWS OF THIS SEAT. 12 by the template 'for every input the law returns true; each argument reads behind the call as it read before'; 0 by the template 'total and deterministic' (their statements: YtjdodhooojjldaaTotals.lean).
  GIVEN WITH THE SEED: the statements are not yours to turn. If you find one false, say at which input.
  Laid BY PROGRAM, IN A SANDBOX (cutbox-rows.mjs): the forced cells as the released guide's own fill.sh prints them over the translation 48fba82366cdf59c… (all of the seat's roots in one cut). By AI agents, Wed Nov 11 2026. No macro, syntax, notation, axiom, sorry.
-/
import Derived.Test.YtjdodhooojjldaaChecked
import GoSem.Claim
import GoSem.ClaimJoined
import GoSem.ClaimMapViews
import Derived.JoinedTies
import Derived.KernelRfl
namespace Go.Proofs.Ytjdodhooojjldaa
/- THE CELL 'sum', in the pinned program and in every row, IS THE sha256 OF THE DUMP (.gsa) THAT YtjdodhooojjldaaProg.lean LOADS. Nothing in Lean hashes anything: it is a label: what it is worth is what the hold of that sum in a sandbox is worth. -/
noncomputable def Try.pinned : Pinned := { name := "ytjdodhooojjldaa", sum := "48fba82366cdf59cb16f528f167aa2cf03e72979c3fcc95d7202d80c621f60f7", checked := Try.checked }
namespace Rows
def none {H : Type} : Left H := { results := [], args := [] }

/-- 'sacristylaw03.ShaParts': WHATEVER THE INPUT: true; the input reads as it did. -/
def shaPartsSpec : ChangeSpec := { name := "shaParts", fn := fun _ => fun
  | [d1, d2] => { results := [.lit (.bool true)], args := [d1, d2] }
  | _ => none }
def shaPartsRow : OpenClaim := { program := "ytjdodhooojjldaa", sum := "48fba82366cdf59cb16f528f167aa2cf03e72979c3fcc95d7202d80c621f60f7", func := "sacristy/sacristylaw03.ShaParts", spec := "shaParts", apart := false }
def ShaPartsSaid : Prop := shaPartsRow.holds Try.pinned (OpenSpec.ofChange shaPartsSpec)

/-- ITS FALSE NEIGHBOUR: 'it returns false'. Refute it at one input. -/
def shaPartsWrong : ChangeSpec := { name := "shaParts", fn := fun _ => fun
  | [d1, d2] => { results := [.lit (.bool false)], args := [d1, d2] }
  | _ => none }
def ShaPartsWrongFalsely : Prop := shaPartsRow.holds Try.pinned (OpenSpec.ofChange shaPartsWrong)

/-- 'sacristylaw03.ShaFixed': WHATEVER THE INPUT: true; the input reads as it did. -/
def shaFixedSpec : ChangeSpec := { name := "shaFixed", fn := fun _ => fun
  | [d] => { results := [.lit (.bool true)], args := [d] }
  | _ => none }
def shaFixedRow : OpenClaim := { program := "ytjdodhooojjldaa", sum := "48fba82366cdf59cb16f528f167aa2cf03e72979c3fcc95d7202d80c621f60f7", func := "sacristy/sacristylaw03.ShaFixed", spec := "shaFixed", apart := false }
def ShaFixedSaid : Prop := shaFixedRow.holds Try.pinned (OpenSpec.ofChange shaFixedSpec)

/-- ITS FALSE NEIGHBOUR: 'it returns false'. Refute it at one input. -/
def shaFixedWrong : ChangeSpec := { name := "shaFixed", fn := fun _ => fun
  | [d] => { results := [.lit (.bool false)], args := [d] }
  | _ => none }
def ShaFixedWrongFalsely : Prop := shaFixedRow.holds Try.pinned (OpenSpec.ofChange shaFixedWrong)

/-- 'sacristylaw15.SlabLasts': WHATEVER THE INPUT: true; the input reads as it did. -/
def slabLastsSpec : ChangeSpec := { name := "slabLasts", fn := fun _ => fun
  | [d1, d2, d3] => { results := [.lit (.bool true)], args := [d1, d2, d3] }
  | _ => none }
def slabLastsRow : OpenClaim := { program := "ytjdodhooojjldaa", sum := "48fba82366cdf59cb16f528f167aa2cf03e72979c3fcc95d7202d80c621f60f7", func := "sacristy/sacristylaw15.SlabLasts", spec := "slabLasts", unfollowed := true, recurses := true, apart := false }
def SlabLastsSaid : Prop := slabLastsRow.holds Try.pinned (OpenSpec.ofChange slabLastsSpec)

/-- ITS FALSE NEIGHBOUR: 'it returns false'. Refute it at one input. -/
def slabLastsWrong : ChangeSpec := { name := "slabLasts", fn := fun _ => fun
  | [d1, d2, d3] => { results := [.lit (.bool false)], args := [d1, d2, d3] }
  | _ => none }
def SlabLastsWrongFalsely : Prop := slabLastsRow.holds Try.pinned (OpenSpec.ofChange slabLastsWrong)

/-- 'sacristylaw15.SlabCounts': WHATEVER THE INPUT: true; the input reads as it did. -/
def slabCountsSpec : ChangeSpec := { name := "slabCounts", fn := fun _ => fun
  | [d1, d2] => { results := [.lit (.bool true)], args := [d1, d2] }
  | _ => none }
def slabCountsRow : OpenClaim := { program := "ytjdodhooojjldaa", sum := "48fba82366cdf59cb16f528f167aa2cf03e72979c3fcc95d7202d80c621f60f7", func := "sacristy/sacristylaw15.SlabCounts", spec := "slabCounts", unfollowed := true, recurses := true, apart := false }
def SlabCountsSaid : Prop := slabCountsRow.holds Try.pinned (OpenSpec.ofChange slabCountsSpec)

/-- ITS FALSE NEIGHBOUR: 'it returns false'. Refute it at one input. -/
def slabCountsWrong : ChangeSpec := { name := "slabCounts", fn := fun _ => fun
  | [d1, d2] => { results := [.lit (.bool false)], args := [d1, d2] }
  | _ => none }
def SlabCountsWrongFalsely : Prop := slabCountsRow.holds Try.pinned (OpenSpec.ofChange slabCountsWrong)

/-- 'sacristylaw15.SlabScars': WHATEVER THE INPUT: true; the input reads as it did. -/
def slabScarsSpec : ChangeSpec := { name := "slabScars", fn := fun _ => fun
  | [d1, d2, d3, d4, d5, d6] => { results := [.lit (.bool true)], args := [d1, d2, d3, d4, d5, d6] }
  | _ => none }
def slabScarsRow : OpenClaim := { program := "ytjdodhooojjldaa", sum := "48fba82366cdf59cb16f528f167aa2cf03e72979c3fcc95d7202d80c621f60f7", func := "sacristy/sacristylaw15.SlabScars", spec := "slabScars", unfollowed := true, recurses := true, apart := false }
def SlabScarsSaid : Prop := slabScarsRow.holds Try.pinned (OpenSpec.ofChange slabScarsSpec)

/-- ITS FALSE NEIGHBOUR: 'it returns false'. Refute it at one input. -/
def slabScarsWrong : ChangeSpec := { name := "slabScars", fn := fun _ => fun
  | [d1, d2, d3, d4, d5, d6] => { results := [.lit (.bool false)], args := [d1, d2, d3, d4, d5, d6] }
  | _ => none }
def SlabScarsWrongFalsely : Prop := slabScarsRow.holds Try.pinned (OpenSpec.ofChange slabScarsWrong)

/-- 'sacristylaw15.SlabPlays': WHATEVER THE INPUT: true; the input reads as it did. -/
def slabPlaysSpec : ChangeSpec := { name := "slabPlays", fn := fun _ => fun
  | [d1, d2] => { results := [.lit (.bool true)], args := [d1, d2] }
  | _ => none }
def slabPlaysRow : OpenClaim := { program := "ytjdodhooojjldaa", sum := "48fba82366cdf59cb16f528f167aa2cf03e72979c3fcc95d7202d80c621f60f7", func := "sacristy/sacristylaw15.SlabPlays", spec := "slabPlays", unfollowed := true, recurses := true, apart := false }
def SlabPlaysSaid : Prop := slabPlaysRow.holds Try.pinned (OpenSpec.ofChange slabPlaysSpec)

/-- ITS FALSE NEIGHBOUR: 'it returns false'. Refute it at one input. -/
def slabPlaysWrong : ChangeSpec := { name := "slabPlays", fn := fun _ => fun
  | [d1, d2] => { results := [.lit (.bool false)], args := [d1, d2] }
  | _ => none }
def SlabPlaysWrongFalsely : Prop := slabPlaysRow.holds Try.pinned (OpenSpec.ofChange slabPlaysWrong)

/-- 'sacristylaw17.WireVotes': WHATEVER THE INPUT: true; the input reads as it did. -/
def wireVotesSpec : ChangeSpec := { name := "wireVotes", fn := fun _ => fun
  | [d] => { results := [.lit (.bool true)], args := [d] }
  | _ => none }
def wireVotesRow : OpenClaim := { program := "ytjdodhooojjldaa", sum := "48fba82366cdf59cb16f528f167aa2cf03e72979c3fcc95d7202d80c621f60f7", func := "sacristy/sacristylaw17.WireVotes", spec := "wireVotes", apart := false }
def WireVotesSaid : Prop := wireVotesRow.holds Try.pinned (OpenSpec.ofChange wireVotesSpec)

/-- ITS FALSE NEIGHBOUR: 'it returns false'. Refute it at one input. -/
def wireVotesWrong : ChangeSpec := { name := "wireVotes", fn := fun _ => fun
  | [d] => { results := [.lit (.bool false)], args := [d] }
  | _ => none }
def WireVotesWrongFalsely : Prop := wireVotesRow.holds Try.pinned (OpenSpec.ofChange wireVotesWrong)

/-- 'sacristylaw17.WireEntries': WHATEVER THE INPUT: true; the input reads as it did. -/
def wireEntriesSpec : ChangeSpec := { name := "wireEntries", fn := fun _ => fun
  | [d] => { results := [.lit (.bool true)], args := [d] }
  | _ => none }
def wireEntriesRow : OpenClaim := { program := "ytjdodhooojjldaa", sum := "48fba82366cdf59cb16f528f167aa2cf03e72979c3fcc95d7202d80c621f60f7", func := "sacristy/sacristylaw17.WireEntries", spec := "wireEntries", apart := false }
def WireEntriesSaid : Prop := wireEntriesRow.holds Try.pinned (OpenSpec.ofChange wireEntriesSpec)

/-- ITS FALSE NEIGHBOUR: 'it returns false'. Refute it at one input. -/
def wireEntriesWrong : ChangeSpec := { name := "wireEntries", fn := fun _ => fun
  | [d] => { results := [.lit (.bool false)], args := [d] }
  | _ => none }
def WireEntriesWrongFalsely : Prop := wireEntriesRow.holds Try.pinned (OpenSpec.ofChange wireEntriesWrong)

/-- 'sacristylaw17.WireCuts': WHATEVER THE INPUT: true; the input reads as it did. -/
def wireCutsSpec : ChangeSpec := { name := "wireCuts", fn := fun _ => fun
  | [d1, d2, d3, d4] => { results := [.lit (.bool true)], args := [d1, d2, d3, d4] }
  | _ => none }
def wireCutsRow : OpenClaim := { program := "ytjdodhooojjldaa", sum := "48fba82366cdf59cb16f528f167aa2cf03e72979c3fcc95d7202d80c621f60f7", func := "sacristy/sacristylaw17.WireCuts", spec := "wireCuts", apart := false }
def WireCutsSaid : Prop := wireCutsRow.holds Try.pinned (OpenSpec.ofChange wireCutsSpec)

/-- ITS FALSE NEIGHBOUR: 'it returns false'. Refute it at one input. -/
def wireCutsWrong : ChangeSpec := { name := "wireCuts", fn := fun _ => fun
  | [d1, d2, d3, d4] => { results := [.lit (.bool false)], args := [d1, d2, d3, d4] }
  | _ => none }
def WireCutsWrongFalsely : Prop := wireCutsRow.holds Try.pinned (OpenSpec.ofChange wireCutsWrong)

/-- 'sacristylaw17.WireBack': WHATEVER THE INPUT: true; the input reads as it did. -/
def wireBackSpec : ChangeSpec := { name := "wireBack", fn := fun _ => fun
  | [d1, d2, d3, d4] => { results := [.lit (.bool true)], args := [d1, d2, d3, d4] }
  | _ => none }
def wireBackRow : OpenClaim := { program := "ytjdodhooojjldaa", sum := "48fba82366cdf59cb16f528f167aa2cf03e72979c3fcc95d7202d80c621f60f7", func := "sacristy/sacristylaw17.WireBack", spec := "wireBack", apart := false }
def WireBackSaid : Prop := wireBackRow.holds Try.pinned (OpenSpec.ofChange wireBackSpec)

/-- ITS FALSE NEIGHBOUR: 'it returns false'. Refute it at one input. -/
def wireBackWrong : ChangeSpec := { name := "wireBack", fn := fun _ => fun
  | [d1, d2, d3, d4] => { results := [.lit (.bool false)], args := [d1, d2, d3, d4] }
  | _ => none }
def WireBackWrongFalsely : Prop := wireBackRow.holds Try.pinned (OpenSpec.ofChange wireBackWrong)

/-- 'sacristylaw16.StoreRooms': WHATEVER THE INPUT: true; the input reads as it did. -/
def storeRoomsSpec : ChangeSpec := { name := "storeRooms", fn := fun _ => fun
  | [d1, d2] => { results := [.lit (.bool true)], args := [d1, d2] }
  | _ => none }
def storeRoomsRow : OpenClaim := { program := "ytjdodhooojjldaa", sum := "48fba82366cdf59cb16f528f167aa2cf03e72979c3fcc95d7202d80c621f60f7", func := "sacristy/sacristylaw16.StoreRooms", spec := "storeRooms", unfollowed := true, recurses := true, apart := false }
def StoreRoomsSaid : Prop := storeRoomsRow.holds Try.pinned (OpenSpec.ofChange storeRoomsSpec)

/-- ITS FALSE NEIGHBOUR: 'it returns false'. Refute it at one input. -/
def storeRoomsWrong : ChangeSpec := { name := "storeRooms", fn := fun _ => fun
  | [d1, d2] => { results := [.lit (.bool false)], args := [d1, d2] }
  | _ => none }
def StoreRoomsWrongFalsely : Prop := storeRoomsRow.holds Try.pinned (OpenSpec.ofChange storeRoomsWrong)

/-- 'sacristylaw16.StoreKeeps': WHATEVER THE INPUT: true; the input reads as it did. -/
def storeKeepsSpec : ChangeSpec := { name := "storeKeeps", fn := fun _ => fun
  | [d1, d2, d3, d4, d5] => { results := [.lit (.bool true)], args := [d1, d2, d3, d4, d5] }
  | _ => none }
def storeKeepsRow : OpenClaim := { program := "ytjdodhooojjldaa", sum := "48fba82366cdf59cb16f528f167aa2cf03e72979c3fcc95d7202d80c621f60f7", func := "sacristy/sacristylaw16.StoreKeeps", spec := "storeKeeps", unfollowed := true, recurses := true, apart := false }
def StoreKeepsSaid : Prop := storeKeepsRow.holds Try.pinned (OpenSpec.ofChange storeKeepsSpec)

/-- ITS FALSE NEIGHBOUR: 'it returns false'. Refute it at one input. -/
def storeKeepsWrong : ChangeSpec := { name := "storeKeeps", fn := fun _ => fun
  | [d1, d2, d3, d4, d5] => { results := [.lit (.bool false)], args := [d1, d2, d3, d4, d5] }
  | _ => none }
def StoreKeepsWrongFalsely : Prop := storeKeepsRow.holds Try.pinned (OpenSpec.ofChange storeKeepsWrong)

/- THE SECOND FORM. 'bulk': how many values and letters a reading holds, each counted each time it is reached (what is shared counts as often as it is met; a slice's spare places count too). A statement '..UptoSaid' is the law's where the arguments, and the package variables that the reading takes, are together of bulk at most 1048576: NARROWER than '..Said'. Prove '..Said' where nothing that the law and all that it calls make is longer than what came in: it says more and counts as full. Else prove '..UptoSaid'. A law counts once. -/
mutual
def uptoBulk {H : Type} : DataW H → Nat
  | .lit (.string bytes) => bytes.length + 1
  | .lit _ => 1
  | .nil => 1
  | .ptr d => uptoBulk d + 1
  | .slice elems spare => uptoBulkAll elems + uptoBulkAll spare + 1
  | .agg parts => uptoBulkAll parts + 1
  | .iface _ d => uptoBulk d + 1
  | .map entries => uptoBulkEntries entries + 1
  | .held _ => 1
def uptoBulkAll {H : Type} : List (DataW H) → Nat
  | [] => 0
  | d :: r => uptoBulk d + uptoBulkAll r
def uptoBulkEntries {H : Type} : List (Lit × DataW H) → Nat
  | [] => 0
  | x :: r => uptoBulkEntry x + uptoBulkEntries r
def uptoBulkEntry {H : Type} : Lit × DataW H → Nat
  | (.string bytes, d) => bytes.length + uptoBulk d + 1
  | (_, d) => uptoBulk d + 1
 end
def uptoSmall : (H : Type) → List (DataW H) → Bool := fun _ ds => decide (uptoBulkAll ds ≤ 1048576)
def OpenSpec.upto (s : _root_.Go.ChangeSpec) : _root_.Go.OpenSpec := { _root_.Go.OpenSpec.ofChange s with cond := some uptoSmall }

/-- 'sacristylaw03.ShaParts', WHERE WHAT IT READS IS OF BULK AT MOST 1048576: true; the input reads as it did. -/
def shaPartsUptoRow : OpenClaim := { program := "ytjdodhooojjldaa", sum := "48fba82366cdf59cb16f528f167aa2cf03e72979c3fcc95d7202d80c621f60f7", func := "sacristy/sacristylaw03.ShaParts", spec := "shaParts", apart := false, narrowed := true }
def ShaPartsUptoSaid : Prop := shaPartsUptoRow.holds Try.pinned (OpenSpec.upto shaPartsSpec)

/-- 'sacristylaw03.ShaFixed', WHERE WHAT IT READS IS OF BULK AT MOST 1048576: true; the input reads as it did. -/
def shaFixedUptoRow : OpenClaim := { program := "ytjdodhooojjldaa", sum := "48fba82366cdf59cb16f528f167aa2cf03e72979c3fcc95d7202d80c621f60f7", func := "sacristy/sacristylaw03.ShaFixed", spec := "shaFixed", apart := false, narrowed := true }
def ShaFixedUptoSaid : Prop := shaFixedUptoRow.holds Try.pinned (OpenSpec.upto shaFixedSpec)

/-- 'sacristylaw15.SlabLasts', WHERE WHAT IT READS IS OF BULK AT MOST 1048576: true; the input reads as it did. -/
def slabLastsUptoRow : OpenClaim := { program := "ytjdodhooojjldaa", sum := "48fba82366cdf59cb16f528f167aa2cf03e72979c3fcc95d7202d80c621f60f7", func := "sacristy/sacristylaw15.SlabLasts", spec := "slabLasts", unfollowed := true, recurses := true, apart := false, narrowed := true }
def SlabLastsUptoSaid : Prop := slabLastsUptoRow.holds Try.pinned (OpenSpec.upto slabLastsSpec)

/-- 'sacristylaw15.SlabCounts', WHERE WHAT IT READS IS OF BULK AT MOST 1048576: true; the input reads as it did. -/
def slabCountsUptoRow : OpenClaim := { program := "ytjdodhooojjldaa", sum := "48fba82366cdf59cb16f528f167aa2cf03e72979c3fcc95d7202d80c621f60f7", func := "sacristy/sacristylaw15.SlabCounts", spec := "slabCounts", unfollowed := true, recurses := true, apart := false, narrowed := true }
def SlabCountsUptoSaid : Prop := slabCountsUptoRow.holds Try.pinned (OpenSpec.upto slabCountsSpec)

/-- 'sacristylaw15.SlabScars', WHERE WHAT IT READS IS OF BULK AT MOST 1048576: true; the input reads as it did. -/
def slabScarsUptoRow : OpenClaim := { program := "ytjdodhooojjldaa", sum := "48fba82366cdf59cb16f528f167aa2cf03e72979c3fcc95d7202d80c621f60f7", func := "sacristy/sacristylaw15.SlabScars", spec := "slabScars", unfollowed := true, recurses := true, apart := false, narrowed := true }
def SlabScarsUptoSaid : Prop := slabScarsUptoRow.holds Try.pinned (OpenSpec.upto slabScarsSpec)

/-- 'sacristylaw15.SlabPlays', WHERE WHAT IT READS IS OF BULK AT MOST 1048576: true; the input reads as it did. -/
def slabPlaysUptoRow : OpenClaim := { program := "ytjdodhooojjldaa", sum := "48fba82366cdf59cb16f528f167aa2cf03e72979c3fcc95d7202d80c621f60f7", func := "sacristy/sacristylaw15.SlabPlays", spec := "slabPlays", unfollowed := true, recurses := true, apart := false, narrowed := true }
def SlabPlaysUptoSaid : Prop := slabPlaysUptoRow.holds Try.pinned (OpenSpec.upto slabPlaysSpec)

/-- 'sacristylaw17.WireVotes', WHERE WHAT IT READS IS OF BULK AT MOST 1048576: true; the input reads as it did. -/
def wireVotesUptoRow : OpenClaim := { program := "ytjdodhooojjldaa", sum := "48fba82366cdf59cb16f528f167aa2cf03e72979c3fcc95d7202d80c621f60f7", func := "sacristy/sacristylaw17.WireVotes", spec := "wireVotes", apart := false, narrowed := true }
def WireVotesUptoSaid : Prop := wireVotesUptoRow.holds Try.pinned (OpenSpec.upto wireVotesSpec)

/-- 'sacristylaw17.WireEntries', WHERE WHAT IT READS IS OF BULK AT MOST 1048576: true; the input reads as it did. -/
def wireEntriesUptoRow : OpenClaim := { program := "ytjdodhooojjldaa", sum := "48fba82366cdf59cb16f528f167aa2cf03e72979c3fcc95d7202d80c621f60f7", func := "sacristy/sacristylaw17.WireEntries", spec := "wireEntries", apart := false, narrowed := true }
def WireEntriesUptoSaid : Prop := wireEntriesUptoRow.holds Try.pinned (OpenSpec.upto wireEntriesSpec)

/-- 'sacristylaw17.WireCuts', WHERE WHAT IT READS IS OF BULK AT MOST 1048576: true; the input reads as it did. -/
def wireCutsUptoRow : OpenClaim := { program := "ytjdodhooojjldaa", sum := "48fba82366cdf59cb16f528f167aa2cf03e72979c3fcc95d7202d80c621f60f7", func := "sacristy/sacristylaw17.WireCuts", spec := "wireCuts", apart := false, narrowed := true }
def WireCutsUptoSaid : Prop := wireCutsUptoRow.holds Try.pinned (OpenSpec.upto wireCutsSpec)

/-- 'sacristylaw17.WireBack', WHERE WHAT IT READS IS OF BULK AT MOST 1048576: true; the input reads as it did. -/
def wireBackUptoRow : OpenClaim := { program := "ytjdodhooojjldaa", sum := "48fba82366cdf59cb16f528f167aa2cf03e72979c3fcc95d7202d80c621f60f7", func := "sacristy/sacristylaw17.WireBack", spec := "wireBack", apart := false, narrowed := true }
def WireBackUptoSaid : Prop := wireBackUptoRow.holds Try.pinned (OpenSpec.upto wireBackSpec)

/-- 'sacristylaw16.StoreRooms', WHERE WHAT IT READS IS OF BULK AT MOST 1048576: true; the input reads as it did. -/
def storeRoomsUptoRow : OpenClaim := { program := "ytjdodhooojjldaa", sum := "48fba82366cdf59cb16f528f167aa2cf03e72979c3fcc95d7202d80c621f60f7", func := "sacristy/sacristylaw16.StoreRooms", spec := "storeRooms", unfollowed := true, recurses := true, apart := false, narrowed := true }
def StoreRoomsUptoSaid : Prop := storeRoomsUptoRow.holds Try.pinned (OpenSpec.upto storeRoomsSpec)

/-- 'sacristylaw16.StoreKeeps', WHERE WHAT IT READS IS OF BULK AT MOST 1048576: true; the input reads as it did. -/
def storeKeepsUptoRow : OpenClaim := { program := "ytjdodhooojjldaa", sum := "48fba82366cdf59cb16f528f167aa2cf03e72979c3fcc95d7202d80c621f60f7", func := "sacristy/sacristylaw16.StoreKeeps", spec := "storeKeeps", unfollowed := true, recurses := true, apart := false, narrowed := true }
def StoreKeepsUptoSaid : Prop := storeKeepsUptoRow.holds Try.pinned (OpenSpec.upto storeKeepsSpec)

end Rows
end Go.Proofs.Ytjdodhooojjldaa
