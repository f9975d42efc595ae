/-
  No cell of these rows narrows 'for every input' (looked for: loops, veiled, ifaces, maps, wideKeys, modest, calm, conditions, laid).
  DERIVED. THE GIVEN ROWS OF THIS SEAT. 9 by the template 'for every input the law returns true; each argument reads behind the call as it read before'; 0 by the template 'total and deterministic' (their statements: YtendmmhfjhgdaaaGreatTotals.lean).
  GIVEN WITH THE SEED: the statements are not yours to turn. If you find one false, say at which input.
  Laid BY PROGRAM, IN A SANDBOX (cutbox-rows.mjs): the forced cells as the released guide's own fill.sh prints them over the translation c53a35a6514845e4… (all of the seat's roots in one cut). By AI agents, Wed Nov 11 2026. No macro, syntax, notation, axiom, sorry.
-/
import Derived.Test.YtendmmhfjhgdaaaGreatChecked
import GoSem.Claim
import GoSem.ClaimJoined
import GoSem.ClaimMapViews
import Derived.JoinedTies
import Derived.KernelRfl
namespace Go.Proofs.YtendmmhfjhgdaaaGreat
/- THE CELL 'sum', in the pinned program and in every row, IS THE sha256 OF THE DUMP (.gsa) THAT YtendmmhfjhgdaaaGreatProg.lean LOADS. Nothing in Lean hashes anything: it is a label: what it is worth is what the hold of that sum in a sandbox is worth. -/
noncomputable def Tryz.pinned : Pinned := { name := "ytendmmhfjhgdaaagreat", sum := "c53a35a6514845e4bf7e6ab685f8971c06c2510b568d31615d6690f2765f864c", checked := Tryz.checked }
namespace Rows
def none {H : Type} : Left H := { results := [], args := [] }

/-- 'leadlightlaw09.BenchesNotes': WHATEVER THE INPUT: true; the input reads as it did. -/
def benchesNotesSpec : ChangeSpec := { name := "benchesNotes", fn := fun _ => fun
  | [d] => { results := [.lit (.bool true)], args := [d] }
  | _ => none }
def benchesNotesRow : OpenClaim := { program := "ytendmmhfjhgdaaagreat", sum := "c53a35a6514845e4bf7e6ab685f8971c06c2510b568d31615d6690f2765f864c", func := "leadlight/leadlightlaw09.BenchesNotes", spec := "benchesNotes", unfollowed := true, recurses := true, plainKeys := false, apart := false }
def BenchesNotesSaid : Prop := benchesNotesRow.holds Tryz.pinned (OpenSpec.ofChange benchesNotesSpec)

/-- ITS FALSE NEIGHBOUR: 'it returns false'. Refute it at one input. -/
def benchesNotesWrong : ChangeSpec := { name := "benchesNotes", fn := fun _ => fun
  | [d] => { results := [.lit (.bool false)], args := [d] }
  | _ => none }
def BenchesNotesWrongFalsely : Prop := benchesNotesRow.holds Tryz.pinned (OpenSpec.ofChange benchesNotesWrong)

/-- 'leadlightlaw09.BenchesStays': WHATEVER THE INPUT: true; the input reads as it did. -/
def benchesStaysSpec : ChangeSpec := { name := "benchesStays", fn := fun _ => fun
  | [d1, d2] => { results := [.lit (.bool true)], args := [d1, d2] }
  | _ => none }
def benchesStaysRow : OpenClaim := { program := "ytendmmhfjhgdaaagreat", sum := "c53a35a6514845e4bf7e6ab685f8971c06c2510b568d31615d6690f2765f864c", func := "leadlight/leadlightlaw09.BenchesStays", spec := "benchesStays", unfollowed := true, recurses := true, plainKeys := false, apart := false }
def BenchesStaysSaid : Prop := benchesStaysRow.holds Tryz.pinned (OpenSpec.ofChange benchesStaysSpec)

/-- ITS FALSE NEIGHBOUR: 'it returns false'. Refute it at one input. -/
def benchesStaysWrong : ChangeSpec := { name := "benchesStays", fn := fun _ => fun
  | [d1, d2] => { results := [.lit (.bool false)], args := [d1, d2] }
  | _ => none }
def BenchesStaysWrongFalsely : Prop := benchesStaysRow.holds Tryz.pinned (OpenSpec.ofChange benchesStaysWrong)

/-- 'leadlightlaw09.BenchesMerges': WHATEVER THE INPUT: true; the input reads as it did. -/
def benchesMergesSpec : ChangeSpec := { name := "benchesMerges", fn := fun _ => fun
  | [d1, d2] => { results := [.lit (.bool true)], args := [d1, d2] }
  | _ => none }
def benchesMergesRow : OpenClaim := { program := "ytendmmhfjhgdaaagreat", sum := "c53a35a6514845e4bf7e6ab685f8971c06c2510b568d31615d6690f2765f864c", func := "leadlight/leadlightlaw09.BenchesMerges", spec := "benchesMerges", unfollowed := true, recurses := true, plainKeys := false, apart := false }
def BenchesMergesSaid : Prop := benchesMergesRow.holds Tryz.pinned (OpenSpec.ofChange benchesMergesSpec)

/-- ITS FALSE NEIGHBOUR: 'it returns false'. Refute it at one input. -/
def benchesMergesWrong : ChangeSpec := { name := "benchesMerges", fn := fun _ => fun
  | [d1, d2] => { results := [.lit (.bool false)], args := [d1, d2] }
  | _ => none }
def BenchesMergesWrongFalsely : Prop := benchesMergesRow.holds Tryz.pinned (OpenSpec.ofChange benchesMergesWrong)

/-- 'leadlightlaw09.BenchesUnion': WHATEVER THE INPUT: true; the input reads as it did. -/
def benchesUnionSpec : ChangeSpec := { name := "benchesUnion", fn := fun _ => fun
  | [d1, d2, d3] => { results := [.lit (.bool true)], args := [d1, d2, d3] }
  | _ => none }
def benchesUnionRow : OpenClaim := { program := "ytendmmhfjhgdaaagreat", sum := "c53a35a6514845e4bf7e6ab685f8971c06c2510b568d31615d6690f2765f864c", func := "leadlight/leadlightlaw09.BenchesUnion", spec := "benchesUnion", unfollowed := true, recurses := true, plainKeys := false, apart := false }
def BenchesUnionSaid : Prop := benchesUnionRow.holds Tryz.pinned (OpenSpec.ofChange benchesUnionSpec)

/-- ITS FALSE NEIGHBOUR: 'it returns false'. Refute it at one input. -/
def benchesUnionWrong : ChangeSpec := { name := "benchesUnion", fn := fun _ => fun
  | [d1, d2, d3] => { results := [.lit (.bool false)], args := [d1, d2, d3] }
  | _ => none }
def BenchesUnionWrongFalsely : Prop := benchesUnionRow.holds Tryz.pinned (OpenSpec.ofChange benchesUnionWrong)

/-- 'leadlightlaw09.BenchesTakesBack': WHATEVER THE INPUT: true; the input reads as it did. -/
def benchesTakesBackSpec : ChangeSpec := { name := "benchesTakesBack", fn := fun _ => fun
  | [d1, d2] => { results := [.lit (.bool true)], args := [d1, d2] }
  | _ => none }
def benchesTakesBackRow : OpenClaim := { program := "ytendmmhfjhgdaaagreat", sum := "c53a35a6514845e4bf7e6ab685f8971c06c2510b568d31615d6690f2765f864c", func := "leadlight/leadlightlaw09.BenchesTakesBack", spec := "benchesTakesBack", unfollowed := true, recurses := true, plainKeys := false, apart := false }
def BenchesTakesBackSaid : Prop := benchesTakesBackRow.holds Tryz.pinned (OpenSpec.ofChange benchesTakesBackSpec)

/-- ITS FALSE NEIGHBOUR: 'it returns false'. Refute it at one input. -/
def benchesTakesBackWrong : ChangeSpec := { name := "benchesTakesBack", fn := fun _ => fun
  | [d1, d2] => { results := [.lit (.bool false)], args := [d1, d2] }
  | _ => none }
def BenchesTakesBackWrongFalsely : Prop := benchesTakesBackRow.holds Tryz.pinned (OpenSpec.ofChange benchesTakesBackWrong)

/-- 'leadlightlaw09.BenchesFolds': WHATEVER THE INPUT: true; the input reads as it did. -/
def benchesFoldsSpec : ChangeSpec := { name := "benchesFolds", fn := fun _ => fun
  | [d1, d2, d3] => { results := [.lit (.bool true)], args := [d1, d2, d3] }
  | _ => none }
def benchesFoldsRow : OpenClaim := { program := "ytendmmhfjhgdaaagreat", sum := "c53a35a6514845e4bf7e6ab685f8971c06c2510b568d31615d6690f2765f864c", func := "leadlight/leadlightlaw09.BenchesFolds", spec := "benchesFolds", unfollowed := true, recurses := true, plainKeys := false, apart := false }
def BenchesFoldsSaid : Prop := benchesFoldsRow.holds Tryz.pinned (OpenSpec.ofChange benchesFoldsSpec)

/-- ITS FALSE NEIGHBOUR: 'it returns false'. Refute it at one input. -/
def benchesFoldsWrong : ChangeSpec := { name := "benchesFolds", fn := fun _ => fun
  | [d1, d2, d3] => { results := [.lit (.bool false)], args := [d1, d2, d3] }
  | _ => none }
def BenchesFoldsWrongFalsely : Prop := benchesFoldsRow.holds Tryz.pinned (OpenSpec.ofChange benchesFoldsWrong)

/-- 'leadlightlaw09.BenchesReads': WHATEVER THE INPUT: true; the input reads as it did. -/
def benchesReadsSpec : ChangeSpec := { name := "benchesReads", fn := fun _ => fun
  | [d1, d2, d3] => { results := [.lit (.bool true)], args := [d1, d2, d3] }
  | _ => none }
def benchesReadsRow : OpenClaim := { program := "ytendmmhfjhgdaaagreat", sum := "c53a35a6514845e4bf7e6ab685f8971c06c2510b568d31615d6690f2765f864c", func := "leadlight/leadlightlaw09.BenchesReads", spec := "benchesReads", unfollowed := true, recurses := true, plainKeys := false, apart := false }
def BenchesReadsSaid : Prop := benchesReadsRow.holds Tryz.pinned (OpenSpec.ofChange benchesReadsSpec)

/-- ITS FALSE NEIGHBOUR: 'it returns false'. Refute it at one input. -/
def benchesReadsWrong : ChangeSpec := { name := "benchesReads", fn := fun _ => fun
  | [d1, d2, d3] => { results := [.lit (.bool false)], args := [d1, d2, d3] }
  | _ => none }
def BenchesReadsWrongFalsely : Prop := benchesReadsRow.holds Tryz.pinned (OpenSpec.ofChange benchesReadsWrong)

/-- 'leadlightlaw09.BenchesOnePlace': WHATEVER THE INPUT: true; the input reads as it did. -/
def benchesOnePlaceSpec : ChangeSpec := { name := "benchesOnePlace", fn := fun _ => fun
  | [d1, d2] => { results := [.lit (.bool true)], args := [d1, d2] }
  | _ => none }
def benchesOnePlaceRow : OpenClaim := { program := "ytendmmhfjhgdaaagreat", sum := "c53a35a6514845e4bf7e6ab685f8971c06c2510b568d31615d6690f2765f864c", func := "leadlight/leadlightlaw09.BenchesOnePlace", spec := "benchesOnePlace", unfollowed := true, recurses := true, plainKeys := false, apart := false }
def BenchesOnePlaceSaid : Prop := benchesOnePlaceRow.holds Tryz.pinned (OpenSpec.ofChange benchesOnePlaceSpec)

/-- ITS FALSE NEIGHBOUR: 'it returns false'. Refute it at one input. -/
def benchesOnePlaceWrong : ChangeSpec := { name := "benchesOnePlace", fn := fun _ => fun
  | [d1, d2] => { results := [.lit (.bool false)], args := [d1, d2] }
  | _ => none }
def BenchesOnePlaceWrongFalsely : Prop := benchesOnePlaceRow.holds Tryz.pinned (OpenSpec.ofChange benchesOnePlaceWrong)

/-- 'leadlightlaw09.BenchesClocks': WHATEVER THE INPUT: true; the input reads as it did. -/
def benchesClocksSpec : ChangeSpec := { name := "benchesClocks", fn := fun _ => fun
  | [d1, d2, d3] => { results := [.lit (.bool true)], args := [d1, d2, d3] }
  | _ => none }
def benchesClocksRow : OpenClaim := { program := "ytendmmhfjhgdaaagreat", sum := "c53a35a6514845e4bf7e6ab685f8971c06c2510b568d31615d6690f2765f864c", func := "leadlight/leadlightlaw09.BenchesClocks", spec := "benchesClocks", unfollowed := true, recurses := true, plainKeys := false, apart := false }
def BenchesClocksSaid : Prop := benchesClocksRow.holds Tryz.pinned (OpenSpec.ofChange benchesClocksSpec)

/-- ITS FALSE NEIGHBOUR: 'it returns false'. Refute it at one input. -/
def benchesClocksWrong : ChangeSpec := { name := "benchesClocks", fn := fun _ => fun
  | [d1, d2, d3] => { results := [.lit (.bool false)], args := [d1, d2, d3] }
  | _ => none }
def BenchesClocksWrongFalsely : Prop := benchesClocksRow.holds Tryz.pinned (OpenSpec.ofChange benchesClocksWrong)

/- THE SECOND FORM. 'bulk': how many values and letters a reading holds, each counted each time it is reached (what is shared counts as often as it is met; a slice's spare places count too). A statement '..UptoSaid' is the law's where the arguments, and the package variables that the reading takes, are together of bulk at most 1048576: NARROWER than '..Said'. Prove '..Said' where nothing that the law and all that it calls make is longer than what came in: it says more and counts as full. Else prove '..UptoSaid'. A law counts once. -/
mutual
def uptoBulk {H : Type} : DataW H → Nat
  | .lit (.string bytes) => bytes.length + 1
  | .lit _ => 1
  | .nil => 1
  | .ptr d => uptoBulk d + 1
  | .slice elems spare => uptoBulkAll elems + uptoBulkAll spare + 1
  | .agg parts => uptoBulkAll parts + 1
  | .iface _ d => uptoBulk d + 1
  | .map entries => uptoBulkEntries entries + 1
  | .held _ => 1
def uptoBulkAll {H : Type} : List (DataW H) → Nat
  | [] => 0
  | d :: r => uptoBulk d + uptoBulkAll r
def uptoBulkEntries {H : Type} : List (Lit × DataW H) → Nat
  | [] => 0
  | x :: r => uptoBulkEntry x + uptoBulkEntries r
def uptoBulkEntry {H : Type} : Lit × DataW H → Nat
  | (.string bytes, d) => bytes.length + uptoBulk d + 1
  | (_, d) => uptoBulk d + 1
 end
def uptoSmall : (H : Type) → List (DataW H) → Bool := fun _ ds => decide (uptoBulkAll ds ≤ 1048576)
def OpenSpec.upto (s : _root_.Go.ChangeSpec) : _root_.Go.OpenSpec := { _root_.Go.OpenSpec.ofChange s with cond := some uptoSmall }

/-- 'leadlightlaw09.BenchesNotes', WHERE WHAT IT READS IS OF BULK AT MOST 1048576: true; the input reads as it did. -/
def benchesNotesUptoRow : OpenClaim := { program := "ytendmmhfjhgdaaagreat", sum := "c53a35a6514845e4bf7e6ab685f8971c06c2510b568d31615d6690f2765f864c", func := "leadlight/leadlightlaw09.BenchesNotes", spec := "benchesNotes", unfollowed := true, recurses := true, plainKeys := false, apart := false, narrowed := true }
def BenchesNotesUptoSaid : Prop := benchesNotesUptoRow.holds Tryz.pinned (OpenSpec.upto benchesNotesSpec)

/-- 'leadlightlaw09.BenchesStays', WHERE WHAT IT READS IS OF BULK AT MOST 1048576: true; the input reads as it did. -/
def benchesStaysUptoRow : OpenClaim := { program := "ytendmmhfjhgdaaagreat", sum := "c53a35a6514845e4bf7e6ab685f8971c06c2510b568d31615d6690f2765f864c", func := "leadlight/leadlightlaw09.BenchesStays", spec := "benchesStays", unfollowed := true, recurses := true, plainKeys := false, apart := false, narrowed := true }
def BenchesStaysUptoSaid : Prop := benchesStaysUptoRow.holds Tryz.pinned (OpenSpec.upto benchesStaysSpec)

/-- 'leadlightlaw09.BenchesMerges', WHERE WHAT IT READS IS OF BULK AT MOST 1048576: true; the input reads as it did. -/
def benchesMergesUptoRow : OpenClaim := { program := "ytendmmhfjhgdaaagreat", sum := "c53a35a6514845e4bf7e6ab685f8971c06c2510b568d31615d6690f2765f864c", func := "leadlight/leadlightlaw09.BenchesMerges", spec := "benchesMerges", unfollowed := true, recurses := true, plainKeys := false, apart := false, narrowed := true }
def BenchesMergesUptoSaid : Prop := benchesMergesUptoRow.holds Tryz.pinned (OpenSpec.upto benchesMergesSpec)

/-- 'leadlightlaw09.BenchesUnion', WHERE WHAT IT READS IS OF BULK AT MOST 1048576: true; the input reads as it did. -/
def benchesUnionUptoRow : OpenClaim := { program := "ytendmmhfjhgdaaagreat", sum := "c53a35a6514845e4bf7e6ab685f8971c06c2510b568d31615d6690f2765f864c", func := "leadlight/leadlightlaw09.BenchesUnion", spec := "benchesUnion", unfollowed := true, recurses := true, plainKeys := false, apart := false, narrowed := true }
def BenchesUnionUptoSaid : Prop := benchesUnionUptoRow.holds Tryz.pinned (OpenSpec.upto benchesUnionSpec)

/-- 'leadlightlaw09.BenchesTakesBack', WHERE WHAT IT READS IS OF BULK AT MOST 1048576: true; the input reads as it did. -/
def benchesTakesBackUptoRow : OpenClaim := { program := "ytendmmhfjhgdaaagreat", sum := "c53a35a6514845e4bf7e6ab685f8971c06c2510b568d31615d6690f2765f864c", func := "leadlight/leadlightlaw09.BenchesTakesBack", spec := "benchesTakesBack", unfollowed := true, recurses := true, plainKeys := false, apart := false, narrowed := true }
def BenchesTakesBackUptoSaid : Prop := benchesTakesBackUptoRow.holds Tryz.pinned (OpenSpec.upto benchesTakesBackSpec)

/-- 'leadlightlaw09.BenchesFolds', WHERE WHAT IT READS IS OF BULK AT MOST 1048576: true; the input reads as it did. -/
def benchesFoldsUptoRow : OpenClaim := { program := "ytendmmhfjhgdaaagreat", sum := "c53a35a6514845e4bf7e6ab685f8971c06c2510b568d31615d6690f2765f864c", func := "leadlight/leadlightlaw09.BenchesFolds", spec := "benchesFolds", unfollowed := true, recurses := true, plainKeys := false, apart := false, narrowed := true }
def BenchesFoldsUptoSaid : Prop := benchesFoldsUptoRow.holds Tryz.pinned (OpenSpec.upto benchesFoldsSpec)

/-- 'leadlightlaw09.BenchesReads', WHERE WHAT IT READS IS OF BULK AT MOST 1048576: true; the input reads as it did. -/
def benchesReadsUptoRow : OpenClaim := { program := "ytendmmhfjhgdaaagreat", sum := "c53a35a6514845e4bf7e6ab685f8971c06c2510b568d31615d6690f2765f864c", func := "leadlight/leadlightlaw09.BenchesReads", spec := "benchesReads", unfollowed := true, recurses := true, plainKeys := false, apart := false, narrowed := true }
def BenchesReadsUptoSaid : Prop := benchesReadsUptoRow.holds Tryz.pinned (OpenSpec.upto benchesReadsSpec)

/-- 'leadlightlaw09.BenchesOnePlace', WHERE WHAT IT READS IS OF BULK AT MOST 1048576: true; the input reads as it did. -/
def benchesOnePlaceUptoRow : OpenClaim := { program := "ytendmmhfjhgdaaagreat", sum := "c53a35a6514845e4bf7e6ab685f8971c06c2510b568d31615d6690f2765f864c", func := "leadlight/leadlightlaw09.BenchesOnePlace", spec := "benchesOnePlace", unfollowed := true, recurses := true, plainKeys := false, apart := false, narrowed := true }
def BenchesOnePlaceUptoSaid : Prop := benchesOnePlaceUptoRow.holds Tryz.pinned (OpenSpec.upto benchesOnePlaceSpec)

/-- 'leadlightlaw09.BenchesClocks', WHERE WHAT IT READS IS OF BULK AT MOST 1048576: true; the input reads as it did. -/
def benchesClocksUptoRow : OpenClaim := { program := "ytendmmhfjhgdaaagreat", sum := "c53a35a6514845e4bf7e6ab685f8971c06c2510b568d31615d6690f2765f864c", func := "leadlight/leadlightlaw09.BenchesClocks", spec := "benchesClocks", unfollowed := true, recurses := true, plainKeys := false, apart := false, narrowed := true }
def BenchesClocksUptoSaid : Prop := benchesClocksUptoRow.holds Tryz.pinned (OpenSpec.upto benchesClocksSpec)

end Rows
end Go.Proofs.YtendmmhfjhgdaaaGreat
