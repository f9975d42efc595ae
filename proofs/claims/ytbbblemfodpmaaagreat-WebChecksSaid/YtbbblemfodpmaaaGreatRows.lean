/-
  No cell of these rows narrows 'for every input' (looked for: loops, veiled, ifaces, maps, wideKeys, modest, calm, conditions, laid).
  DERIVED. THE GIVEN ROWS OF THIS SEAT. 10 by the template 'for every input the law returns true; each argument reads behind the call as it read before'; 0 by the template 'total and deterministic' (their statements: YtbbblemfodpmaaaGreatTotals.lean).
  GIVEN WITH THE SEED: the statements are not yours to turn. If you find one false, say at which input.
  Laid BY PROGRAM, IN A SANDBOX (cutbox-rows.mjs): the forced cells as the released guide's own fill.sh prints them over the translation c7f83a9367ef581d… (all of the seat's roots in one cut). By AI agents, Wed Nov 11 2026. No macro, syntax, notation, axiom, sorry.
-/
import Derived.Test.YtbbblemfodpmaaaGreatChecked
import GoSem.Claim
import GoSem.ClaimJoined
import GoSem.ClaimMapViews
import Derived.JoinedTies
import Derived.KernelRfl
namespace Go.Proofs.YtbbblemfodpmaaaGreat
/- THE CELL 'sum', in the pinned program and in every row, IS THE sha256 OF THE DUMP (.gsa) THAT YtbbblemfodpmaaaGreatProg.lean LOADS. Nothing in Lean hashes anything: it is a label: what it is worth is what the hold of that sum in a sandbox is worth. -/
noncomputable def Tryz.pinned : Pinned := { name := "ytbbblemfodpmaaagreat", sum := "c7f83a9367ef581de356a1b910fbae7ffdd8055ce9a063980d0c76e6148517eb", checked := Tryz.checked }
namespace Rows
def none {H : Type} : Left H := { results := [], args := [] }

/-- 'leadlightlaw02.WebSplits': WHATEVER THE INPUT: true; the input reads as it did. -/
def webSplitsSpec : ChangeSpec := { name := "webSplits", fn := fun _ => fun
  | [d1, d2] => { results := [.lit (.bool true)], args := [d1, d2] }
  | _ => none }
def webSplitsRow : OpenClaim := { program := "ytbbblemfodpmaaagreat", sum := "c7f83a9367ef581de356a1b910fbae7ffdd8055ce9a063980d0c76e6148517eb", func := "leadlight/leadlightlaw02.WebSplits", spec := "webSplits", unfollowed := true, recurses := true, plainKeys := false, apart := false }
def WebSplitsSaid : Prop := webSplitsRow.holds Tryz.pinned (OpenSpec.ofChange webSplitsSpec)

/-- ITS FALSE NEIGHBOUR: 'it returns false'. Refute it at one input. -/
def webSplitsWrong : ChangeSpec := { name := "webSplits", fn := fun _ => fun
  | [d1, d2] => { results := [.lit (.bool false)], args := [d1, d2] }
  | _ => none }
def WebSplitsWrongFalsely : Prop := webSplitsRow.holds Tryz.pinned (OpenSpec.ofChange webSplitsWrong)

/-- 'leadlightlaw02.WebChecks': WHATEVER THE INPUT: true; the input reads as it did. -/
def webChecksSpec : ChangeSpec := { name := "webChecks", fn := fun _ => fun
  | [d] => { results := [.lit (.bool true)], args := [d] }
  | _ => none }
def webChecksRow : OpenClaim := { program := "ytbbblemfodpmaaagreat", sum := "c7f83a9367ef581de356a1b910fbae7ffdd8055ce9a063980d0c76e6148517eb", func := "leadlight/leadlightlaw02.WebChecks", spec := "webChecks", unfollowed := true, recurses := true, plainKeys := false, apart := false }
def WebChecksSaid : Prop := webChecksRow.holds Tryz.pinned (OpenSpec.ofChange webChecksSpec)

/-- ITS FALSE NEIGHBOUR: 'it returns false'. Refute it at one input. -/
def webChecksWrong : ChangeSpec := { name := "webChecks", fn := fun _ => fun
  | [d] => { results := [.lit (.bool false)], args := [d] }
  | _ => none }
def WebChecksWrongFalsely : Prop := webChecksRow.holds Tryz.pinned (OpenSpec.ofChange webChecksWrong)

/-- 'leadlightlaw02.WebParts': WHATEVER THE INPUT: true; the input reads as it did. -/
def webPartsSpec : ChangeSpec := { name := "webParts", fn := fun _ => fun
  | [d] => { results := [.lit (.bool true)], args := [d] }
  | _ => none }
def webPartsRow : OpenClaim := { program := "ytbbblemfodpmaaagreat", sum := "c7f83a9367ef581de356a1b910fbae7ffdd8055ce9a063980d0c76e6148517eb", func := "leadlight/leadlightlaw02.WebParts", spec := "webParts", unfollowed := true, recurses := true, plainKeys := false, apart := false }
def WebPartsSaid : Prop := webPartsRow.holds Tryz.pinned (OpenSpec.ofChange webPartsSpec)

/-- ITS FALSE NEIGHBOUR: 'it returns false'. Refute it at one input. -/
def webPartsWrong : ChangeSpec := { name := "webParts", fn := fun _ => fun
  | [d] => { results := [.lit (.bool false)], args := [d] }
  | _ => none }
def WebPartsWrongFalsely : Prop := webPartsRow.holds Tryz.pinned (OpenSpec.ofChange webPartsWrong)

/-- 'leadlightlaw02.WebWalks': WHATEVER THE INPUT: true; the input reads as it did. -/
def webWalksSpec : ChangeSpec := { name := "webWalks", fn := fun _ => fun
  | [d1, d2] => { results := [.lit (.bool true)], args := [d1, d2] }
  | _ => none }
def webWalksRow : OpenClaim := { program := "ytbbblemfodpmaaagreat", sum := "c7f83a9367ef581de356a1b910fbae7ffdd8055ce9a063980d0c76e6148517eb", func := "leadlight/leadlightlaw02.WebWalks", spec := "webWalks", unfollowed := true, recurses := true, plainKeys := false, apart := false }
def WebWalksSaid : Prop := webWalksRow.holds Tryz.pinned (OpenSpec.ofChange webWalksSpec)

/-- ITS FALSE NEIGHBOUR: 'it returns false'. Refute it at one input. -/
def webWalksWrong : ChangeSpec := { name := "webWalks", fn := fun _ => fun
  | [d1, d2] => { results := [.lit (.bool false)], args := [d1, d2] }
  | _ => none }
def WebWalksWrongFalsely : Prop := webWalksRow.holds Tryz.pinned (OpenSpec.ofChange webWalksWrong)

/-- 'leadlightlaw02.WebRounds': WHATEVER THE INPUT: true; the input reads as it did. -/
def webRoundsSpec : ChangeSpec := { name := "webRounds", fn := fun _ => fun
  | [d] => { results := [.lit (.bool true)], args := [d] }
  | _ => none }
def webRoundsRow : OpenClaim := { program := "ytbbblemfodpmaaagreat", sum := "c7f83a9367ef581de356a1b910fbae7ffdd8055ce9a063980d0c76e6148517eb", func := "leadlight/leadlightlaw02.WebRounds", spec := "webRounds", unfollowed := true, recurses := true, plainKeys := false, apart := false }
def WebRoundsSaid : Prop := webRoundsRow.holds Tryz.pinned (OpenSpec.ofChange webRoundsSpec)

/-- ITS FALSE NEIGHBOUR: 'it returns false'. Refute it at one input. -/
def webRoundsWrong : ChangeSpec := { name := "webRounds", fn := fun _ => fun
  | [d] => { results := [.lit (.bool false)], args := [d] }
  | _ => none }
def WebRoundsWrongFalsely : Prop := webRoundsRow.holds Tryz.pinned (OpenSpec.ofChange webRoundsWrong)

/-- 'leadlightlaw02.WebUndo': WHATEVER THE INPUT: true; the input reads as it did. -/
def webUndoSpec : ChangeSpec := { name := "webUndo", fn := fun _ => fun
  | [d1, d2] => { results := [.lit (.bool true)], args := [d1, d2] }
  | _ => none }
def webUndoRow : OpenClaim := { program := "ytbbblemfodpmaaagreat", sum := "c7f83a9367ef581de356a1b910fbae7ffdd8055ce9a063980d0c76e6148517eb", func := "leadlight/leadlightlaw02.WebUndo", spec := "webUndo", unfollowed := true, recurses := true, plainKeys := false, apart := false }
def WebUndoSaid : Prop := webUndoRow.holds Tryz.pinned (OpenSpec.ofChange webUndoSpec)

/-- ITS FALSE NEIGHBOUR: 'it returns false'. Refute it at one input. -/
def webUndoWrong : ChangeSpec := { name := "webUndo", fn := fun _ => fun
  | [d1, d2] => { results := [.lit (.bool false)], args := [d1, d2] }
  | _ => none }
def WebUndoWrongFalsely : Prop := webUndoRow.holds Tryz.pinned (OpenSpec.ofChange webUndoWrong)

/-- 'leadlightlaw02.WebEdges': WHATEVER THE INPUT: true; the input reads as it did. -/
def webEdgesSpec : ChangeSpec := { name := "webEdges", fn := fun _ => fun
  | [d] => { results := [.lit (.bool true)], args := [d] }
  | _ => none }
def webEdgesRow : OpenClaim := { program := "ytbbblemfodpmaaagreat", sum := "c7f83a9367ef581de356a1b910fbae7ffdd8055ce9a063980d0c76e6148517eb", func := "leadlight/leadlightlaw02.WebEdges", spec := "webEdges", unfollowed := true, recurses := true, plainKeys := false, apart := false }
def WebEdgesSaid : Prop := webEdgesRow.holds Tryz.pinned (OpenSpec.ofChange webEdgesSpec)

/-- ITS FALSE NEIGHBOUR: 'it returns false'. Refute it at one input. -/
def webEdgesWrong : ChangeSpec := { name := "webEdges", fn := fun _ => fun
  | [d] => { results := [.lit (.bool false)], args := [d] }
  | _ => none }
def WebEdgesWrongFalsely : Prop := webEdgesRow.holds Tryz.pinned (OpenSpec.ofChange webEdgesWrong)

/-- 'leadlightlaw02.WebPanels': WHATEVER THE INPUT: true; the input reads as it did. -/
def webPanelsSpec : ChangeSpec := { name := "webPanels", fn := fun _ => fun
  | [d] => { results := [.lit (.bool true)], args := [d] }
  | _ => none }
def webPanelsRow : OpenClaim := { program := "ytbbblemfodpmaaagreat", sum := "c7f83a9367ef581de356a1b910fbae7ffdd8055ce9a063980d0c76e6148517eb", func := "leadlight/leadlightlaw02.WebPanels", spec := "webPanels", unfollowed := true, recurses := true, plainKeys := false, apart := false }
def WebPanelsSaid : Prop := webPanelsRow.holds Tryz.pinned (OpenSpec.ofChange webPanelsSpec)

/-- ITS FALSE NEIGHBOUR: 'it returns false'. Refute it at one input. -/
def webPanelsWrong : ChangeSpec := { name := "webPanels", fn := fun _ => fun
  | [d] => { results := [.lit (.bool false)], args := [d] }
  | _ => none }
def WebPanelsWrongFalsely : Prop := webPanelsRow.holds Tryz.pinned (OpenSpec.ofChange webPanelsWrong)

/-- 'leadlightlaw02.WebLooks': WHATEVER THE INPUT: true; the input reads as it did. -/
def webLooksSpec : ChangeSpec := { name := "webLooks", fn := fun _ => fun
  | [d1, d2, d3] => { results := [.lit (.bool true)], args := [d1, d2, d3] }
  | _ => none }
def webLooksRow : OpenClaim := { program := "ytbbblemfodpmaaagreat", sum := "c7f83a9367ef581de356a1b910fbae7ffdd8055ce9a063980d0c76e6148517eb", func := "leadlight/leadlightlaw02.WebLooks", spec := "webLooks", unfollowed := true, recurses := true, plainKeys := false, apart := false }
def WebLooksSaid : Prop := webLooksRow.holds Tryz.pinned (OpenSpec.ofChange webLooksSpec)

/-- ITS FALSE NEIGHBOUR: 'it returns false'. Refute it at one input. -/
def webLooksWrong : ChangeSpec := { name := "webLooks", fn := fun _ => fun
  | [d1, d2, d3] => { results := [.lit (.bool false)], args := [d1, d2, d3] }
  | _ => none }
def WebLooksWrongFalsely : Prop := webLooksRow.holds Tryz.pinned (OpenSpec.ofChange webLooksWrong)

/-- 'leadlightlaw02.WebPanes': WHATEVER THE INPUT: true; the input reads as it did. -/
def webPanesSpec : ChangeSpec := { name := "webPanes", fn := fun _ => fun
  | [d1, d2] => { results := [.lit (.bool true)], args := [d1, d2] }
  | _ => none }
def webPanesRow : OpenClaim := { program := "ytbbblemfodpmaaagreat", sum := "c7f83a9367ef581de356a1b910fbae7ffdd8055ce9a063980d0c76e6148517eb", func := "leadlight/leadlightlaw02.WebPanes", spec := "webPanes", unfollowed := true, recurses := true, plainKeys := false, apart := false }
def WebPanesSaid : Prop := webPanesRow.holds Tryz.pinned (OpenSpec.ofChange webPanesSpec)

/-- ITS FALSE NEIGHBOUR: 'it returns false'. Refute it at one input. -/
def webPanesWrong : ChangeSpec := { name := "webPanes", fn := fun _ => fun
  | [d1, d2] => { results := [.lit (.bool false)], args := [d1, d2] }
  | _ => none }
def WebPanesWrongFalsely : Prop := webPanesRow.holds Tryz.pinned (OpenSpec.ofChange webPanesWrong)

/- THE SECOND FORM. 'bulk': how many values and letters a reading holds, each counted each time it is reached (what is shared counts as often as it is met; a slice's spare places count too). A statement '..UptoSaid' is the law's where the arguments, and the package variables that the reading takes, are together of bulk at most 1048576: NARROWER than '..Said'. Prove '..Said' where nothing that the law and all that it calls make is longer than what came in: it says more and counts as full. Else prove '..UptoSaid'. A law counts once. -/
mutual
def uptoBulk {H : Type} : DataW H → Nat
  | .lit (.string bytes) => bytes.length + 1
  | .lit _ => 1
  | .nil => 1
  | .ptr d => uptoBulk d + 1
  | .slice elems spare => uptoBulkAll elems + uptoBulkAll spare + 1
  | .agg parts => uptoBulkAll parts + 1
  | .iface _ d => uptoBulk d + 1
  | .map entries => uptoBulkEntries entries + 1
  | .held _ => 1
def uptoBulkAll {H : Type} : List (DataW H) → Nat
  | [] => 0
  | d :: r => uptoBulk d + uptoBulkAll r
def uptoBulkEntries {H : Type} : List (Lit × DataW H) → Nat
  | [] => 0
  | x :: r => uptoBulkEntry x + uptoBulkEntries r
def uptoBulkEntry {H : Type} : Lit × DataW H → Nat
  | (.string bytes, d) => bytes.length + uptoBulk d + 1
  | (_, d) => uptoBulk d + 1
 end
def uptoSmall : (H : Type) → List (DataW H) → Bool := fun _ ds => decide (uptoBulkAll ds ≤ 1048576)
def OpenSpec.upto (s : _root_.Go.ChangeSpec) : _root_.Go.OpenSpec := { _root_.Go.OpenSpec.ofChange s with cond := some uptoSmall }

/-- 'leadlightlaw02.WebSplits', WHERE WHAT IT READS IS OF BULK AT MOST 1048576: true; the input reads as it did. -/
def webSplitsUptoRow : OpenClaim := { program := "ytbbblemfodpmaaagreat", sum := "c7f83a9367ef581de356a1b910fbae7ffdd8055ce9a063980d0c76e6148517eb", func := "leadlight/leadlightlaw02.WebSplits", spec := "webSplits", unfollowed := true, recurses := true, plainKeys := false, apart := false, narrowed := true }
def WebSplitsUptoSaid : Prop := webSplitsUptoRow.holds Tryz.pinned (OpenSpec.upto webSplitsSpec)

/-- 'leadlightlaw02.WebChecks', WHERE WHAT IT READS IS OF BULK AT MOST 1048576: true; the input reads as it did. -/
def webChecksUptoRow : OpenClaim := { program := "ytbbblemfodpmaaagreat", sum := "c7f83a9367ef581de356a1b910fbae7ffdd8055ce9a063980d0c76e6148517eb", func := "leadlight/leadlightlaw02.WebChecks", spec := "webChecks", unfollowed := true, recurses := true, plainKeys := false, apart := false, narrowed := true }
def WebChecksUptoSaid : Prop := webChecksUptoRow.holds Tryz.pinned (OpenSpec.upto webChecksSpec)

/-- 'leadlightlaw02.WebParts', WHERE WHAT IT READS IS OF BULK AT MOST 1048576: true; the input reads as it did. -/
def webPartsUptoRow : OpenClaim := { program := "ytbbblemfodpmaaagreat", sum := "c7f83a9367ef581de356a1b910fbae7ffdd8055ce9a063980d0c76e6148517eb", func := "leadlight/leadlightlaw02.WebParts", spec := "webParts", unfollowed := true, recurses := true, plainKeys := false, apart := false, narrowed := true }
def WebPartsUptoSaid : Prop := webPartsUptoRow.holds Tryz.pinned (OpenSpec.upto webPartsSpec)

/-- 'leadlightlaw02.WebWalks', WHERE WHAT IT READS IS OF BULK AT MOST 1048576: true; the input reads as it did. -/
def webWalksUptoRow : OpenClaim := { program := "ytbbblemfodpmaaagreat", sum := "c7f83a9367ef581de356a1b910fbae7ffdd8055ce9a063980d0c76e6148517eb", func := "leadlight/leadlightlaw02.WebWalks", spec := "webWalks", unfollowed := true, recurses := true, plainKeys := false, apart := false, narrowed := true }
def WebWalksUptoSaid : Prop := webWalksUptoRow.holds Tryz.pinned (OpenSpec.upto webWalksSpec)

/-- 'leadlightlaw02.WebRounds', WHERE WHAT IT READS IS OF BULK AT MOST 1048576: true; the input reads as it did. -/
def webRoundsUptoRow : OpenClaim := { program := "ytbbblemfodpmaaagreat", sum := "c7f83a9367ef581de356a1b910fbae7ffdd8055ce9a063980d0c76e6148517eb", func := "leadlight/leadlightlaw02.WebRounds", spec := "webRounds", unfollowed := true, recurses := true, plainKeys := false, apart := false, narrowed := true }
def WebRoundsUptoSaid : Prop := webRoundsUptoRow.holds Tryz.pinned (OpenSpec.upto webRoundsSpec)

/-- 'leadlightlaw02.WebUndo', WHERE WHAT IT READS IS OF BULK AT MOST 1048576: true; the input reads as it did. -/
def webUndoUptoRow : OpenClaim := { program := "ytbbblemfodpmaaagreat", sum := "c7f83a9367ef581de356a1b910fbae7ffdd8055ce9a063980d0c76e6148517eb", func := "leadlight/leadlightlaw02.WebUndo", spec := "webUndo", unfollowed := true, recurses := true, plainKeys := false, apart := false, narrowed := true }
def WebUndoUptoSaid : Prop := webUndoUptoRow.holds Tryz.pinned (OpenSpec.upto webUndoSpec)

/-- 'leadlightlaw02.WebEdges', WHERE WHAT IT READS IS OF BULK AT MOST 1048576: true; the input reads as it did. -/
def webEdgesUptoRow : OpenClaim := { program := "ytbbblemfodpmaaagreat", sum := "c7f83a9367ef581de356a1b910fbae7ffdd8055ce9a063980d0c76e6148517eb", func := "leadlight/leadlightlaw02.WebEdges", spec := "webEdges", unfollowed := true, recurses := true, plainKeys := false, apart := false, narrowed := true }
def WebEdgesUptoSaid : Prop := webEdgesUptoRow.holds Tryz.pinned (OpenSpec.upto webEdgesSpec)

/-- 'leadlightlaw02.WebPanels', WHERE WHAT IT READS IS OF BULK AT MOST 1048576: true; the input reads as it did. -/
def webPanelsUptoRow : OpenClaim := { program := "ytbbblemfodpmaaagreat", sum := "c7f83a9367ef581de356a1b910fbae7ffdd8055ce9a063980d0c76e6148517eb", func := "leadlight/leadlightlaw02.WebPanels", spec := "webPanels", unfollowed := true, recurses := true, plainKeys := false, apart := false, narrowed := true }
def WebPanelsUptoSaid : Prop := webPanelsUptoRow.holds Tryz.pinned (OpenSpec.upto webPanelsSpec)

/-- 'leadlightlaw02.WebLooks', WHERE WHAT IT READS IS OF BULK AT MOST 1048576: true; the input reads as it did. -/
def webLooksUptoRow : OpenClaim := { program := "ytbbblemfodpmaaagreat", sum := "c7f83a9367ef581de356a1b910fbae7ffdd8055ce9a063980d0c76e6148517eb", func := "leadlight/leadlightlaw02.WebLooks", spec := "webLooks", unfollowed := true, recurses := true, plainKeys := false, apart := false, narrowed := true }
def WebLooksUptoSaid : Prop := webLooksUptoRow.holds Tryz.pinned (OpenSpec.upto webLooksSpec)

/-- 'leadlightlaw02.WebPanes', WHERE WHAT IT READS IS OF BULK AT MOST 1048576: true; the input reads as it did. -/
def webPanesUptoRow : OpenClaim := { program := "ytbbblemfodpmaaagreat", sum := "c7f83a9367ef581de356a1b910fbae7ffdd8055ce9a063980d0c76e6148517eb", func := "leadlight/leadlightlaw02.WebPanes", spec := "webPanes", unfollowed := true, recurses := true, plainKeys := false, apart := false, narrowed := true }
def WebPanesUptoSaid : Prop := webPanesUptoRow.holds Tryz.pinned (OpenSpec.upto webPanesSpec)

end Rows
end Go.Proofs.YtbbblemfodpmaaaGreat
