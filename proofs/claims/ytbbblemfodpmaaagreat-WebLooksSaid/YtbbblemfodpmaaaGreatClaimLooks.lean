/-
  'WebLooks' answers true for whatever web, number and side it is handed, and leaves its arguments as they were.
-/
import Derived.Test.YtbbblemfodpmaaaGreatRowLooks
import Derived.Test.YtbbblemfodpmaaaGreatWebLaw1
set_option linter.unusedVariables false
set_option linter.unusedSimpArgs false
set_option maxHeartbeats 16000000
set_option maxRecDepth 100000
namespace Go.Proofs.YtbbblemfodpmaaaGreat.webLooks
open Go.ChangeShapes Go.WideShapes Go.ChangeAt Go.RowKit
section
variable {H : Type} {enc : TypeId × Value → H} {W : World}
theorem opens_intA {base : Nat} {v : Value} {d : DataW H} {p : List MemPlace} (hval : Value.okWide Tryz.prog W .any base 3 v) (h : DataW.Trod enc Tryz.prog W 0 (fun _ => true) true 3 v d p) : ∃ i,v = vi i ∧ I64 i := by
 obtain ⟨i,rfl⟩ := okWide_int Tryz.underlying3 hval
 obtain ⟨m,hm⟩ := h
 obtain ⟨j,he,hj⟩ := zBV hm
 simp only [Value.cells,List.cons.injEq,and_true] at he
 have e : i = j := by injection he
 exact ⟨i,rfl,by rw [e];exact hj⟩
theorem opens_sideA {base : Nat} {v : Value} {d : DataW H} {p : List MemPlace} (hval : Value.okWide Tryz.prog W .any base 59 v) (h : DataW.Trod enc Tryz.prog W 0 (fun _ => true) true 59 v d p) : ∃ s : Side,v = .agg (zAa s) ∧ I64 s.lead := by
 obtain ⟨cs,rfl,_⟩ := okWide_struct Tryz.underlying59 hval
 obtain ⟨m,hm⟩ := h
 obtain ⟨s,e,_,hk⟩ := opens_Side hm
 refine ⟨s, ?_,hk⟩
 have e' : cs.toList = (zAa s).toList := e
 rw [show cs = cs.toList.toArray by simp,e']
end
theorem any (a a2 : Option Addr) (l c l2 c2 : Nat) (id : Int) (s : Side) (W : World) (h1 : l ≤ 4294967296 → ∃ val : List Joint,val.length = l ∧ Sl.OK 3 zAh zAu (fun _ => False) W ⟨a,c,val⟩) (h2 : l2 ≤ 4294967296 → ∃ val : List Lead,val.length = l2 ∧ Sl.OK 8 zAf zAB (fun _ => False) W ⟨a2,c2,val⟩) (hi : I64 id) (hs : I64 s.lead) :
  Calls Tryz.prog 11 #[.agg #[.slice a l c, .slice a2 l2 c2], .int .i64 id, .agg (zAa s)] W fun e w' => e = .returned (.bool true) ∧ Below W.heap.size W w' := by
 cases hf : fewB l l2 with
 | false => exact looks_big a a2 l c l2 c2 id s W hf
 | true =>
  have hlt := few_lt hf
  obtain ⟨vj,rfl,hj⟩ := h1 (by omega)
  obtain ⟨vl,rfl,hl⟩ := h2 (by omega)
  exact looks_any ⟨a,c,vj⟩ ⟨a2,c2,vl⟩ id s W hj hl hi hs hf
theorem contract : Contract := by
 intro H enc W base args ds gs before hval hW
 have hW' := hW
 obtain ⟨p,q,hA0,hV,he,_,_⟩ := hW
 have hA : DataW.TrodAll enc Tryz.prog W 0 (fun _ => true) true Tryz.f11.params.toList args.toList ds p := hA0
 rw [Tryz.params11] at hA hval
 obtain ⟨v0,v1,v2,d0,d1,d2,p0,p1,p2,rfl,rfl,rfl,h0,h1,h2⟩ := trodAll_three hA
 obtain ⟨rfl,rfl⟩ := trodVars_none hV
 obtain ⟨a,l,c,a2,l2,c2,rfl,g1,g2⟩ := opens_web (hval 0 _ v0 rfl rfl) h0
 obtain ⟨id,rfl,hi⟩ := opens_intA (hval 1 _ v1 rfl rfl) h1
 obtain ⟨s,rfl,hs⟩ := opens_sideA (hval 2 _ v2 rfl rfl) h2
 refine (any a a2 l c l2 c2 id s W g1 g2 hi hs).mono fun e W' ⟨he',hb⟩ => ?_
 subst he'
 exact ⟨_,rfl,law_post rfl rfl (by kernel_rfl) hW' rfl hb⟩
theorem proved : Rows.WebLooksSaid := said contract
#print axioms proved
end Go.Proofs.YtbbblemfodpmaaaGreat.webLooks
