/-
  No cell of these rows narrows 'for every input' (looked for: loops, veiled, ifaces, maps, wideKeys, modest, calm, conditions, laid).
  DERIVED. THE GIVEN ROWS OF THIS SEAT. 3 by the template 'for every input the law returns true; each argument reads behind the call as it read before'; 0 by the template 'total and deterministic' (their statements: YtnmgfnpphglphaaGreatTotals.lean).
  GIVEN WITH THE SEED: the statements are not yours to turn. If you find one false, say at which input.
  Laid BY PROGRAM, IN A SANDBOX (cutbox-rows.mjs): the forced cells as the released guide's own fill.sh prints them over the translation be748e82068ffbd4… (all of the seat's roots in one cut). By AI agents, Wed Nov 11 2026. No macro, syntax, notation, axiom, sorry.
-/
import Derived.Test.YtnmgfnpphglphaaGreatChecked
import GoSem.Claim
import GoSem.ClaimJoined
import GoSem.ClaimMapViews
import Derived.JoinedTies
import Derived.KernelRfl
namespace Go.Proofs.YtnmgfnpphglphaaGreat
/- THE CELL 'sum', in the pinned program and in every row, IS THE sha256 OF THE DUMP (.gsa) THAT YtnmgfnpphglphaaGreatProg.lean LOADS. Nothing in Lean hashes anything: it is a label: what it is worth is what the hold of that sum in a sandbox is worth. -/
noncomputable def Tryz.pinned : Pinned := { name := "ytnmgfnpphglphaagreat", sum := "be748e82068ffbd400014831f0c521f56da12e2ff51722513ec089eb573c63e6", checked := Tryz.checked }
namespace Rows
def none {H : Type} : Left H := { results := [], args := [] }

/-- 'leadlightlaw09.BenchesDisks': WHATEVER THE INPUT: true; the input reads as it did. -/
def benchesDisksSpec : ChangeSpec := { name := "benchesDisks", fn := fun _ => fun
  | [d] => { results := [.lit (.bool true)], args := [d] }
  | _ => none }
def benchesDisksRow : OpenClaim := { program := "ytnmgfnpphglphaagreat", sum := "be748e82068ffbd400014831f0c521f56da12e2ff51722513ec089eb573c63e6", func := "leadlight/leadlightlaw09.BenchesDisks", spec := "benchesDisks", unfollowed := true, recurses := true, plainKeys := false, apart := false }
def BenchesDisksSaid : Prop := benchesDisksRow.holds Tryz.pinned (OpenSpec.ofChange benchesDisksSpec)

/-- ITS FALSE NEIGHBOUR: 'it returns false'. Refute it at one input. -/
def benchesDisksWrong : ChangeSpec := { name := "benchesDisks", fn := fun _ => fun
  | [d] => { results := [.lit (.bool false)], args := [d] }
  | _ => none }
def BenchesDisksWrongFalsely : Prop := benchesDisksRow.holds Tryz.pinned (OpenSpec.ofChange benchesDisksWrong)

/-- 'leadlightlaw09.BenchesBytes': WHATEVER THE INPUT: true; the input reads as it did. -/
def benchesBytesSpec : ChangeSpec := { name := "benchesBytes", fn := fun _ => fun
  | [d1, d2] => { results := [.lit (.bool true)], args := [d1, d2] }
  | _ => none }
def benchesBytesRow : OpenClaim := { program := "ytnmgfnpphglphaagreat", sum := "be748e82068ffbd400014831f0c521f56da12e2ff51722513ec089eb573c63e6", func := "leadlight/leadlightlaw09.BenchesBytes", spec := "benchesBytes", unfollowed := true, recurses := true, plainKeys := false, apart := false }
def BenchesBytesSaid : Prop := benchesBytesRow.holds Tryz.pinned (OpenSpec.ofChange benchesBytesSpec)

/-- ITS FALSE NEIGHBOUR: 'it returns false'. Refute it at one input. -/
def benchesBytesWrong : ChangeSpec := { name := "benchesBytes", fn := fun _ => fun
  | [d1, d2] => { results := [.lit (.bool false)], args := [d1, d2] }
  | _ => none }
def BenchesBytesWrongFalsely : Prop := benchesBytesRow.holds Tryz.pinned (OpenSpec.ofChange benchesBytesWrong)

/-- 'leadlightlaw09.BenchesZero': WHATEVER THE INPUT: true; the input reads as it did. -/
def benchesZeroSpec : ChangeSpec := { name := "benchesZero", fn := fun _ => fun
  | [d1, d2, d3, d4, d5] => { results := [.lit (.bool true)], args := [d1, d2, d3, d4, d5] }
  | _ => none }
def benchesZeroRow : OpenClaim := { program := "ytnmgfnpphglphaagreat", sum := "be748e82068ffbd400014831f0c521f56da12e2ff51722513ec089eb573c63e6", func := "leadlight/leadlightlaw09.BenchesZero", spec := "benchesZero", inPlace := ["maps.clone"], unfollowed := true, recurses := true, plainKeys := false, apart := false }
def BenchesZeroSaid : Prop := benchesZeroRow.holds Tryz.pinned (OpenSpec.ofChange benchesZeroSpec)

/-- ITS FALSE NEIGHBOUR: 'it returns false'. Refute it at one input. -/
def benchesZeroWrong : ChangeSpec := { name := "benchesZero", fn := fun _ => fun
  | [d1, d2, d3, d4, d5] => { results := [.lit (.bool false)], args := [d1, d2, d3, d4, d5] }
  | _ => none }
def BenchesZeroWrongFalsely : Prop := benchesZeroRow.holds Tryz.pinned (OpenSpec.ofChange benchesZeroWrong)

/- THE SECOND FORM. 'bulk': how many values and letters a reading holds, each counted each time it is reached (what is shared counts as often as it is met; a slice's spare places count too). A statement '..UptoSaid' is the law's where the arguments, and the package variables that the reading takes, are together of bulk at most 1048576: NARROWER than '..Said'. Prove '..Said' where nothing that the law and all that it calls make is longer than what came in: it says more and counts as full. Else prove '..UptoSaid'. A law counts once. -/
mutual
def uptoBulk {H : Type} : DataW H → Nat
  | .lit (.string bytes) => bytes.length + 1
  | .lit _ => 1
  | .nil => 1
  | .ptr d => uptoBulk d + 1
  | .slice elems spare => uptoBulkAll elems + uptoBulkAll spare + 1
  | .agg parts => uptoBulkAll parts + 1
  | .iface _ d => uptoBulk d + 1
  | .map entries => uptoBulkEntries entries + 1
  | .held _ => 1
def uptoBulkAll {H : Type} : List (DataW H) → Nat
  | [] => 0
  | d :: r => uptoBulk d + uptoBulkAll r
def uptoBulkEntries {H : Type} : List (Lit × DataW H) → Nat
  | [] => 0
  | x :: r => uptoBulkEntry x + uptoBulkEntries r
def uptoBulkEntry {H : Type} : Lit × DataW H → Nat
  | (.string bytes, d) => bytes.length + uptoBulk d + 1
  | (_, d) => uptoBulk d + 1
 end
def uptoSmall : (H : Type) → List (DataW H) → Bool := fun _ ds => decide (uptoBulkAll ds ≤ 1048576)
def OpenSpec.upto (s : _root_.Go.ChangeSpec) : _root_.Go.OpenSpec := { _root_.Go.OpenSpec.ofChange s with cond := some uptoSmall }

/-- 'leadlightlaw09.BenchesDisks', WHERE WHAT IT READS IS OF BULK AT MOST 1048576: true; the input reads as it did. -/
def benchesDisksUptoRow : OpenClaim := { program := "ytnmgfnpphglphaagreat", sum := "be748e82068ffbd400014831f0c521f56da12e2ff51722513ec089eb573c63e6", func := "leadlight/leadlightlaw09.BenchesDisks", spec := "benchesDisks", unfollowed := true, recurses := true, plainKeys := false, apart := false, narrowed := true }
def BenchesDisksUptoSaid : Prop := benchesDisksUptoRow.holds Tryz.pinned (OpenSpec.upto benchesDisksSpec)

/-- 'leadlightlaw09.BenchesBytes', WHERE WHAT IT READS IS OF BULK AT MOST 1048576: true; the input reads as it did. -/
def benchesBytesUptoRow : OpenClaim := { program := "ytnmgfnpphglphaagreat", sum := "be748e82068ffbd400014831f0c521f56da12e2ff51722513ec089eb573c63e6", func := "leadlight/leadlightlaw09.BenchesBytes", spec := "benchesBytes", unfollowed := true, recurses := true, plainKeys := false, apart := false, narrowed := true }
def BenchesBytesUptoSaid : Prop := benchesBytesUptoRow.holds Tryz.pinned (OpenSpec.upto benchesBytesSpec)

/-- 'leadlightlaw09.BenchesZero', WHERE WHAT IT READS IS OF BULK AT MOST 1048576: true; the input reads as it did. -/
def benchesZeroUptoRow : OpenClaim := { program := "ytnmgfnpphglphaagreat", sum := "be748e82068ffbd400014831f0c521f56da12e2ff51722513ec089eb573c63e6", func := "leadlight/leadlightlaw09.BenchesZero", spec := "benchesZero", inPlace := ["maps.clone"], unfollowed := true, recurses := true, plainKeys := false, apart := false, narrowed := true }
def BenchesZeroUptoSaid : Prop := benchesZeroUptoRow.holds Tryz.pinned (OpenSpec.upto benchesZeroSpec)

end Rows
end Go.Proofs.YtnmgfnpphglphaaGreat
