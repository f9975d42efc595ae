/-The row of 'WebChecks': what its statement comes to, if the walk's contract stands.-/
import Derived.Test.YtbbblemfodpmaaaGreatWebGt
import Derived.Test.YtbbblemfodpmaaaGreatRows
set_option linter.unusedVariables false
set_option linter.unusedSimpArgs false
set_option maxHeartbeats 16000000
set_option maxRecDepth 100000
namespace Go.Proofs.YtbbblemfodpmaaaGreat.webChecks
open Go.ChangeShapes Go.WideShapes Go.ChangeAt Go.RowKit
def Contract : Prop:=∀ (H : Type) (enc : TypeId × Value→H) (W : World) (base : Nat) (args : Array Value) (ds gs : List (DataW H)) (before : List MemPlace)
  (hval : ∀ (j : Nat) t v,Tryz.f4.params[j]? = some t→args[j]? = some v→Value.okWide Tryz.prog W .any base t v)
  (hW : DataW.Whole enc Tryz.prog Tryz.f4.params.toList Rows.webChecksSpec.vars false W args.toList ds gs before),
  Calls Tryz.prog 4 args W fun e W'=>∃ v,e = .returned v∧Rows.webChecksSpec.post enc Tryz.prog Tryz.f4 false true false false W args v W'
theorem lifted (hc : Contract) (os : Os) (started : os.Started) (H : Type) (enc : TypeId × Value→H) :
  ReturnsInHanded {} Tryz.checked os 4 .any (Rows.webChecksSpec.pre6 enc Tryz.prog Tryz.f4 Rows.webChecksRow.domain false) (Rows.webChecksSpec.post enc Tryz.prog Tryz.f4 false true false false):=by
 refine returnsInHanded_of_change (C:=Tryz.checked) ownKnob_none started (by kernel_rfl) Tryz.func4
  (ChangeSpec.witness6 (enc:=enc) (C:=Tryz.checked) false ⟨#[],#[.agg #[.slice none 0 0, .slice none 0 0]],[]⟩ 8 (by kernel_rfl) (by kernel_rfl) (by kernel_rfl) (by kernel_rfl)) ?_
 intro W base args ds gs before hval hW _ _;exact hc H enc W base args ds gs before hval hW
theorem said (hc : Contract) : Rows.WebChecksSaid:=
 OpenClaim.holds_of_wide 4 Tryz.f4 rfl rfl rfl rfl rfl rfl rfl ⟨rfl,rfl,rfl,rfl,rfl⟩ rfl rfl rfl rfl rfl (by kernel_rfl) Tryz.func4 (by kernel_rfl)
  (of_decide_eq_true (by kernel_rfl)) (by unfold Func.isWrapper;first | (rw [if_pos (by decide +kernel)];kernel_rfl) | (rw [if_neg (by decide +kernel)];exact ⟨rfl,rfl⟩))
  (fun os started H enc _=>lifted hc os started H enc)
end Go.Proofs.YtbbblemfodpmaaaGreat.webChecks
