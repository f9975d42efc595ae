/-
  No cell of these rows narrows 'for every input' (looked for: loops, veiled, ifaces, maps, wideKeys, modest, calm, conditions, laid).
  DERIVED. THE GIVEN ROWS OF THIS SEAT. 6 by the template 'for every input the law returns true; each argument reads behind the call as it read before'; 0 by the template 'total and deterministic' (their statements: YtcebcklecmppnaaGreatTotals.lean).
  GIVEN WITH THE SEED: the statements are not yours to turn. If you find one false, say at which input.
  Laid BY PROGRAM, IN A SANDBOX (cutbox-rows.mjs): the forced cells as the released guide's own fill.sh prints them over the translation eedff9dbd3111c04… (all of the seat's roots in one cut). By AI agents, Wed Nov 11 2026. No macro, syntax, notation, axiom, sorry.
-/
import Derived.Test.YtcebcklecmppnaaGreatChecked
import GoSem.Claim
import GoSem.ClaimJoined
import GoSem.ClaimMapViews
import Derived.JoinedTies
import Derived.KernelRfl
namespace Go.Proofs.YtcebcklecmppnaaGreat
/- THE CELL 'sum', in the pinned program and in every row, IS THE sha256 OF THE DUMP (.gsa) THAT YtcebcklecmppnaaGreatProg.lean LOADS. Nothing in Lean hashes anything: it is a label: what it is worth is what the hold of that sum in a sandbox is worth. -/
noncomputable def Tryz.pinned : Pinned := { name := "ytcebcklecmppnaagreat", sum := "eedff9dbd3111c04b239e44a207d49b1e0cf3d355589b25186060b2dda3cacab", checked := Tryz.checked }
namespace Rows
def none {H : Type} : Left H := { results := [], args := [] }

/-- 'leadlightlaw02.WebEuler': WHATEVER THE INPUT: true; the input reads as it did. -/
def webEulerSpec : ChangeSpec := { name := "webEuler", fn := fun _ => fun
  | [d] => { results := [.lit (.bool true)], args := [d] }
  | _ => none }
def webEulerRow : OpenClaim := { program := "ytcebcklecmppnaagreat", sum := "eedff9dbd3111c04b239e44a207d49b1e0cf3d355589b25186060b2dda3cacab", func := "leadlight/leadlightlaw02.WebEuler", spec := "webEuler", unfollowed := true, recurses := true, plainKeys := false, apart := false }
def WebEulerSaid : Prop := webEulerRow.holds Tryz.pinned (OpenSpec.ofChange webEulerSpec)

/-- ITS FALSE NEIGHBOUR: 'it returns false'. Refute it at one input. -/
def webEulerWrong : ChangeSpec := { name := "webEuler", fn := fun _ => fun
  | [d] => { results := [.lit (.bool false)], args := [d] }
  | _ => none }
def WebEulerWrongFalsely : Prop := webEulerRow.holds Tryz.pinned (OpenSpec.ofChange webEulerWrong)

/-- 'leadlightlaw02.WebDivides': WHATEVER THE INPUT: true; the input reads as it did. -/
def webDividesSpec : ChangeSpec := { name := "webDivides", fn := fun _ => fun
  | [d1, d2] => { results := [.lit (.bool true)], args := [d1, d2] }
  | _ => none }
def webDividesRow : OpenClaim := { program := "ytcebcklecmppnaagreat", sum := "eedff9dbd3111c04b239e44a207d49b1e0cf3d355589b25186060b2dda3cacab", func := "leadlight/leadlightlaw02.WebDivides", spec := "webDivides", unfollowed := true, recurses := true, plainKeys := false, apart := false }
def WebDividesSaid : Prop := webDividesRow.holds Tryz.pinned (OpenSpec.ofChange webDividesSpec)

/-- ITS FALSE NEIGHBOUR: 'it returns false'. Refute it at one input. -/
def webDividesWrong : ChangeSpec := { name := "webDivides", fn := fun _ => fun
  | [d1, d2] => { results := [.lit (.bool false)], args := [d1, d2] }
  | _ => none }
def WebDividesWrongFalsely : Prop := webDividesRow.holds Tryz.pinned (OpenSpec.ofChange webDividesWrong)

/-- 'leadlightlaw02.WebBridges': WHATEVER THE INPUT: true; the input reads as it did. -/
def webBridgesSpec : ChangeSpec := { name := "webBridges", fn := fun _ => fun
  | [d] => { results := [.lit (.bool true)], args := [d] }
  | _ => none }
def webBridgesRow : OpenClaim := { program := "ytcebcklecmppnaagreat", sum := "eedff9dbd3111c04b239e44a207d49b1e0cf3d355589b25186060b2dda3cacab", func := "leadlight/leadlightlaw02.WebBridges", spec := "webBridges", unfollowed := true, recurses := true, plainKeys := false, apart := false }
def WebBridgesSaid : Prop := webBridgesRow.holds Tryz.pinned (OpenSpec.ofChange webBridgesSpec)

/-- ITS FALSE NEIGHBOUR: 'it returns false'. Refute it at one input. -/
def webBridgesWrong : ChangeSpec := { name := "webBridges", fn := fun _ => fun
  | [d] => { results := [.lit (.bool false)], args := [d] }
  | _ => none }
def WebBridgesWrongFalsely : Prop := webBridgesRow.holds Tryz.pinned (OpenSpec.ofChange webBridgesWrong)

/-- 'leadlightlaw02.WebAreas': WHATEVER THE INPUT: true; the input reads as it did. -/
def webAreasSpec : ChangeSpec := { name := "webAreas", fn := fun _ => fun
  | [d] => { results := [.lit (.bool true)], args := [d] }
  | _ => none }
def webAreasRow : OpenClaim := { program := "ytcebcklecmppnaagreat", sum := "eedff9dbd3111c04b239e44a207d49b1e0cf3d355589b25186060b2dda3cacab", func := "leadlight/leadlightlaw02.WebAreas", spec := "webAreas", unfollowed := true, recurses := true, plainKeys := false, apart := false }
def WebAreasSaid : Prop := webAreasRow.holds Tryz.pinned (OpenSpec.ofChange webAreasSpec)

/-- ITS FALSE NEIGHBOUR: 'it returns false'. Refute it at one input. -/
def webAreasWrong : ChangeSpec := { name := "webAreas", fn := fun _ => fun
  | [d] => { results := [.lit (.bool false)], args := [d] }
  | _ => none }
def WebAreasWrongFalsely : Prop := webAreasRow.holds Tryz.pinned (OpenSpec.ofChange webAreasWrong)

/-- 'leadlightlaw02.WebTiles': WHATEVER THE INPUT: true; the input reads as it did. -/
def webTilesSpec : ChangeSpec := { name := "webTiles", fn := fun _ => fun
  | [d] => { results := [.lit (.bool true)], args := [d] }
  | _ => none }
def webTilesRow : OpenClaim := { program := "ytcebcklecmppnaagreat", sum := "eedff9dbd3111c04b239e44a207d49b1e0cf3d355589b25186060b2dda3cacab", func := "leadlight/leadlightlaw02.WebTiles", spec := "webTiles", unfollowed := true, recurses := true, plainKeys := false, apart := false }
def WebTilesSaid : Prop := webTilesRow.holds Tryz.pinned (OpenSpec.ofChange webTilesSpec)

/-- ITS FALSE NEIGHBOUR: 'it returns false'. Refute it at one input. -/
def webTilesWrong : ChangeSpec := { name := "webTiles", fn := fun _ => fun
  | [d] => { results := [.lit (.bool false)], args := [d] }
  | _ => none }
def WebTilesWrongFalsely : Prop := webTilesRow.holds Tryz.pinned (OpenSpec.ofChange webTilesWrong)

/-- 'leadlightlaw02.WebLocates': WHATEVER THE INPUT: true; the input reads as it did. -/
def webLocatesSpec : ChangeSpec := { name := "webLocates", fn := fun _ => fun
  | [d1, d2] => { results := [.lit (.bool true)], args := [d1, d2] }
  | _ => none }
def webLocatesRow : OpenClaim := { program := "ytcebcklecmppnaagreat", sum := "eedff9dbd3111c04b239e44a207d49b1e0cf3d355589b25186060b2dda3cacab", func := "leadlight/leadlightlaw02.WebLocates", spec := "webLocates", unfollowed := true, recurses := true, plainKeys := false, apart := false }
def WebLocatesSaid : Prop := webLocatesRow.holds Tryz.pinned (OpenSpec.ofChange webLocatesSpec)

/-- ITS FALSE NEIGHBOUR: 'it returns false'. Refute it at one input. -/
def webLocatesWrong : ChangeSpec := { name := "webLocates", fn := fun _ => fun
  | [d1, d2] => { results := [.lit (.bool false)], args := [d1, d2] }
  | _ => none }
def WebLocatesWrongFalsely : Prop := webLocatesRow.holds Tryz.pinned (OpenSpec.ofChange webLocatesWrong)

/- THE SECOND FORM. 'bulk': how many values and letters a reading holds, each counted each time it is reached (what is shared counts as often as it is met; a slice's spare places count too). A statement '..UptoSaid' is the law's where the arguments, and the package variables that the reading takes, are together of bulk at most 1048576: NARROWER than '..Said'. Prove '..Said' where nothing that the law and all that it calls make is longer than what came in: it says more and counts as full. Else prove '..UptoSaid'. A law counts once. -/
mutual
def uptoBulk {H : Type} : DataW H → Nat
  | .lit (.string bytes) => bytes.length + 1
  | .lit _ => 1
  | .nil => 1
  | .ptr d => uptoBulk d + 1
  | .slice elems spare => uptoBulkAll elems + uptoBulkAll spare + 1
  | .agg parts => uptoBulkAll parts + 1
  | .iface _ d => uptoBulk d + 1
  | .map entries => uptoBulkEntries entries + 1
  | .held _ => 1
def uptoBulkAll {H : Type} : List (DataW H) → Nat
  | [] => 0
  | d :: r => uptoBulk d + uptoBulkAll r
def uptoBulkEntries {H : Type} : List (Lit × DataW H) → Nat
  | [] => 0
  | x :: r => uptoBulkEntry x + uptoBulkEntries r
def uptoBulkEntry {H : Type} : Lit × DataW H → Nat
  | (.string bytes, d) => bytes.length + uptoBulk d + 1
  | (_, d) => uptoBulk d + 1
 end
def uptoSmall : (H : Type) → List (DataW H) → Bool := fun _ ds => decide (uptoBulkAll ds ≤ 1048576)
def OpenSpec.upto (s : _root_.Go.ChangeSpec) : _root_.Go.OpenSpec := { _root_.Go.OpenSpec.ofChange s with cond := some uptoSmall }

/-- 'leadlightlaw02.WebEuler', WHERE WHAT IT READS IS OF BULK AT MOST 1048576: true; the input reads as it did. -/
def webEulerUptoRow : OpenClaim := { program := "ytcebcklecmppnaagreat", sum := "eedff9dbd3111c04b239e44a207d49b1e0cf3d355589b25186060b2dda3cacab", func := "leadlight/leadlightlaw02.WebEuler", spec := "webEuler", unfollowed := true, recurses := true, plainKeys := false, apart := false, narrowed := true }
def WebEulerUptoSaid : Prop := webEulerUptoRow.holds Tryz.pinned (OpenSpec.upto webEulerSpec)

/-- 'leadlightlaw02.WebDivides', WHERE WHAT IT READS IS OF BULK AT MOST 1048576: true; the input reads as it did. -/
def webDividesUptoRow : OpenClaim := { program := "ytcebcklecmppnaagreat", sum := "eedff9dbd3111c04b239e44a207d49b1e0cf3d355589b25186060b2dda3cacab", func := "leadlight/leadlightlaw02.WebDivides", spec := "webDivides", unfollowed := true, recurses := true, plainKeys := false, apart := false, narrowed := true }
def WebDividesUptoSaid : Prop := webDividesUptoRow.holds Tryz.pinned (OpenSpec.upto webDividesSpec)

/-- 'leadlightlaw02.WebBridges', WHERE WHAT IT READS IS OF BULK AT MOST 1048576: true; the input reads as it did. -/
def webBridgesUptoRow : OpenClaim := { program := "ytcebcklecmppnaagreat", sum := "eedff9dbd3111c04b239e44a207d49b1e0cf3d355589b25186060b2dda3cacab", func := "leadlight/leadlightlaw02.WebBridges", spec := "webBridges", unfollowed := true, recurses := true, plainKeys := false, apart := false, narrowed := true }
def WebBridgesUptoSaid : Prop := webBridgesUptoRow.holds Tryz.pinned (OpenSpec.upto webBridgesSpec)

/-- 'leadlightlaw02.WebAreas', WHERE WHAT IT READS IS OF BULK AT MOST 1048576: true; the input reads as it did. -/
def webAreasUptoRow : OpenClaim := { program := "ytcebcklecmppnaagreat", sum := "eedff9dbd3111c04b239e44a207d49b1e0cf3d355589b25186060b2dda3cacab", func := "leadlight/leadlightlaw02.WebAreas", spec := "webAreas", unfollowed := true, recurses := true, plainKeys := false, apart := false, narrowed := true }
def WebAreasUptoSaid : Prop := webAreasUptoRow.holds Tryz.pinned (OpenSpec.upto webAreasSpec)

/-- 'leadlightlaw02.WebTiles', WHERE WHAT IT READS IS OF BULK AT MOST 1048576: true; the input reads as it did. -/
def webTilesUptoRow : OpenClaim := { program := "ytcebcklecmppnaagreat", sum := "eedff9dbd3111c04b239e44a207d49b1e0cf3d355589b25186060b2dda3cacab", func := "leadlight/leadlightlaw02.WebTiles", spec := "webTiles", unfollowed := true, recurses := true, plainKeys := false, apart := false, narrowed := true }
def WebTilesUptoSaid : Prop := webTilesUptoRow.holds Tryz.pinned (OpenSpec.upto webTilesSpec)

/-- 'leadlightlaw02.WebLocates', WHERE WHAT IT READS IS OF BULK AT MOST 1048576: true; the input reads as it did. -/
def webLocatesUptoRow : OpenClaim := { program := "ytcebcklecmppnaagreat", sum := "eedff9dbd3111c04b239e44a207d49b1e0cf3d355589b25186060b2dda3cacab", func := "leadlight/leadlightlaw02.WebLocates", spec := "webLocates", unfollowed := true, recurses := true, plainKeys := false, apart := false, narrowed := true }
def WebLocatesUptoSaid : Prop := webLocatesUptoRow.holds Tryz.pinned (OpenSpec.upto webLocatesSpec)

end Rows
end Go.Proofs.YtcebcklecmppnaaGreat
