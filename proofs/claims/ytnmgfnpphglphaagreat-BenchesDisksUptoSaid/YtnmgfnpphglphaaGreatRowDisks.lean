/-
  The row of 'BenchesDisks': what its statement comes to, if the walk's contract stands.
-/
import Derived.Test.YtnmgfnpphglphaaGreatOpenU
import Derived.JoinedCond
set_option maxHeartbeats 16000000
set_option maxRecDepth 100000
set_option linter.unusedVariables false
set_option linter.unusedSimpArgs false
namespace Go.Proofs.YtnmgfnpphglphaaGreat.benchesDisks
open Go.ChangeShapes Go.WideShapes Go.ChangeAt Go.RowKit
def Contract : Prop := ∀ (H : Type) (enc : TypeId × Value → H) (W : World) (base : Nat) (args : Array Value) (ds gs : List (DataW H)) (before : List MemPlace)
  (hval : ∀ (j : Nat) t v, Tryz.f3.params[j]? = some t → args[j]? = some v → Value.okWide Tryz.prog W .any base t v)
  (hW : DataW.Whole enc Tryz.prog Tryz.f3.params.toList Rows.benchesDisksSpec.vars false W args.toList ds gs before) (hk : Rows.uptoSmall H (ds ++ gs) = true),
  Calls Tryz.prog 3 args W fun e W' => ∃ v, e = .returned v ∧ Rows.benchesDisksSpec.post enc Tryz.prog Tryz.f3 false true false false W args v W'
theorem lifted (hc : Contract) (os : Os) (started : os.Started) (H : Type) (enc : TypeId × Value → H) (F_ : Stop.Interp) :
  ReturnsInHanded {} Tryz.checked os 3 .any ((Rows.OpenSpec.upto Rows.benchesDisksSpec).pre6 enc Tryz.prog Tryz.f3 Rows.benchesDisksUptoRow.domain false) (((Rows.OpenSpec.upto Rows.benchesDisksSpec).at F_).post enc Tryz.prog Tryz.f3 false true false false) := by
 refine returnsInHanded_of_cond (C := Tryz.checked) (s := Rows.OpenSpec.upto Rows.benchesDisksSpec) (k := Rows.uptoSmall) rfl ownKnob_none started (by kernel_rfl) Tryz.func3
  (OpenSpec.witness (enc := enc) (C := Tryz.checked) (s := Rows.OpenSpec.upto Rows.benchesDisksSpec) (k := Rows.uptoSmall) rfl false ⟨#[], #[.slice none 0 0], []⟩ 8 (by kernel_rfl) (by kernel_rfl) (by kernel_rfl)
   (x := ([.nil], [], [])) (by kernel_rfl) rfl (by kernel_rfl)) ?_
 intro W base args ds gs before hval hW _ hk _
 exact hc H enc W base args ds gs before hval hW hk
theorem said (hc : Contract) : Rows.BenchesDisksUptoSaid :=
 OpenClaim.holds_of_cond 3 Tryz.f3 rfl rfl rfl rfl rfl rfl rfl ⟨rfl, rfl, rfl, rfl, rfl⟩ rfl rfl rfl rfl rfl (by kernel_rfl) Tryz.func3 (by kernel_rfl)
  (of_decide_eq_true (by kernel_rfl)) (by unfold Func.isWrapper; first | (rw [if_pos (by decide +kernel)]; kernel_rfl) | (rw [if_neg (by decide +kernel)]; exact ⟨rfl, rfl⟩))
  (fun os started H enc _ F_ => lifted hc os started H enc F_)
end Go.Proofs.YtnmgfnpphglphaaGreat.benchesDisks
