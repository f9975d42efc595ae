/-
  'WebWalks' answers true for whatever web and side it is handed, and leaves its arguments as they were.
-/
import Derived.Test.YtbbblemfodpmaaaGreatRowWalks
import Derived.Test.YtbbblemfodpmaaaGreatWebHc
set_option linter.unusedVariables false
set_option linter.unusedSimpArgs false
set_option maxHeartbeats 16000000
set_option maxRecDepth 100000
namespace Go.Proofs.YtbbblemfodpmaaaGreat.webWalks
open Go.ChangeShapes Go.WideShapes Go.ChangeAt Go.RowKit
section
variable {H : Type} {enc : TypeId × Value → H} {W : World}
theorem opens_sideA {base : Nat} {v : Value} {d : DataW H} {p : List MemPlace} (hval : Value.okWide Tryz.prog W .any base 59 v) (h : DataW.Trod enc Tryz.prog W 0 (fun _ => true) true 59 v d p) : ∃ s : Side,v = .agg (zAa s) ∧ I64 s.lead := by
 obtain ⟨cs,rfl,_⟩ := okWide_struct zuA hval
 obtain ⟨m,hm⟩ := h
 obtain ⟨s,e,_,hk⟩ := opens_Side hm
 refine ⟨s, ?_,hk⟩
 have e' : cs.toList = (zAa s).toList := e
 rw [show cs = cs.toList.toArray by simp,e']
end
theorem any (a a2 : Option Addr) (l c l2 c2 : Nat) (s : Side) (W : World) (h1 : l ≤ 4294967296 → ∃ val : List Joint,val.length = l ∧ Sl.OK 3 zAi zAs (fun _ => False) W ⟨a,c,val⟩) (h2 : l2 ≤ 4294967296 → ∃ val : List Lead,val.length = l2 ∧ Sl.OK 8 zAf zAw (fun _ => False) W ⟨a2,c2,val⟩) (hs : I64 s.lead) :
  Calls Tryz.prog 6 #[.agg #[.slice a l c, .slice a2 l2 c2], .agg (zAa s)] W fun e w' => e = .returned (.bool true) ∧ Below W.heap.size W w' := by
 cases hf : fewB l l2 with
 | false => exact wwalks_big a a2 l c l2 c2 s W hf
 | true =>
  have hlt := few_lt hf
  obtain ⟨vj,rfl,hj⟩ := h1 (by omega)
  obtain ⟨vl,rfl,hl⟩ := h2 (by omega)
  exact wwalks_any ⟨a,c,vj⟩ ⟨a2,c2,vl⟩ s W hj hl hs hf
theorem contract : Contract := by
 intro H enc W base args ds gs before hval hW
 have hW' := hW
 obtain ⟨p,q,hA0,hV,he,_,_⟩ := hW
 have hA : DataW.TrodAll enc Tryz.prog W 0 (fun _ => true) true Tryz.f6.params.toList args.toList ds p := hA0
 rw [Tryz.params6] at hA hval
 obtain ⟨v0,v1,d0,d1,p0,p1,rfl,rfl,rfl,h0,h1⟩ := trodAll_two hA
 obtain ⟨rfl,rfl⟩ := trodVars_none hV
 obtain ⟨a,l,c,a2,l2,c2,rfl,g1,g2⟩ := opens_web (hval 0 _ v0 rfl rfl) h0
 obtain ⟨s,rfl,hs⟩ := opens_sideA (hval 1 _ v1 rfl rfl) h1
 refine (any a a2 l c l2 c2 s W g1 g2 hs).mono fun e W' ⟨he',hb⟩ => ?_
 subst he'
 exact ⟨_,rfl,law_post rfl rfl (by kernel_rfl) hW' rfl hb⟩
theorem proved : Rows.WebWalksSaid := said contract
#print axioms proved
end Go.Proofs.YtbbblemfodpmaaaGreat.webWalks
