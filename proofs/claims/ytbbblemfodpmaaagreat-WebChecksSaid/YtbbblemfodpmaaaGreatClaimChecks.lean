/-'WebChecks' answers true for whatever web it is handed, and leaves its argument as it was: the first error and its ID, and whether the web is sound, are as specified.-/
import Derived.Test.YtbbblemfodpmaaaGreatRowChecks
import Derived.Test.YtbbblemfodpmaaaGreatWebLaw5
set_option linter.unusedVariables false
set_option linter.unusedSimpArgs false
set_option maxHeartbeats 16000000
set_option maxRecDepth 100000
namespace Go.Proofs.YtbbblemfodpmaaaGreat.webChecks
open Go.ChangeShapes Go.WideShapes Go.ChangeAt Go.RowKit
theorem any (a a2 : Option Addr) (l c l2 c2 : Nat) (W : World) (h1 : l ≤ 4294967296→∃ val : List Joint,val.length = l∧Sl.OK 3 zAh zAs (fun _=>False) W ⟨a,c,val⟩) (h2 : l2 ≤ 4294967296→∃ val : List Lead,val.length = l2∧Sl.OK 8 zAd zAA (fun _=>False) W ⟨a2,c2,val⟩) :
  Calls Tryz.prog 4 #[.agg #[.slice a l c, .slice a2 l2 c2]] W fun e W'=>e = .returned (.bool true)∧Below W.heap.size W W':=by
 cases hf : fewB l l2 with
 | false=>exact wchecks_big a a2 l c l2 c2 W hf
 | true=>
  have hlt:=few_lt hf;obtain ⟨vj,rfl,hj⟩:=h1 (by omega);obtain ⟨vl,rfl,hl⟩:=h2 (by omega);exact wchecks_any ⟨a,c,vj⟩ ⟨a2,c2,vl⟩ W hj hl hf
theorem contract : Contract:=by
 intro H enc W base args ds gs before hval hW;have hW':=hW;obtain ⟨p,q,hA0,hV,he,_,_⟩:=hW;have hA : DataW.TrodAll enc Tryz.prog W 0 (fun _=>true) true Tryz.f4.params.toList args.toList ds p:=hA0;rw [Tryz.params4] at hA hval;obtain ⟨v0,d0,rfl,rfl,h0⟩:=trodAll_one hA;obtain ⟨rfl,rfl⟩:=trodVars_none hV;obtain ⟨a,l,c,a2,l2,c2,rfl,h1,h2⟩:=opens_web (hval 0 _ v0 rfl rfl) h0;refine (any a a2 l c l2 c2 W h1 h2).mono fun e W' ⟨he',hb⟩=>?_;subst he';exact ⟨_,rfl,law_post rfl rfl (by kernel_rfl) hW' rfl hb⟩
theorem proved : Rows.WebChecksSaid:=said contract
#print axioms proved
end Go.Proofs.YtbbblemfodpmaaaGreat.webChecks
