/-Arguments opened: what a slice of structs holds.-/
import Derived.Test.YtbbblemfodpmaaaGreatBase
import Derived.ProofKit
import Derived.OpenShut
import Derived.Deep.Slices
import Derived.WideKeyArgs
import Derived.Test.YtbbblemfodpmaaaGreatRows
set_option linter.unusedVariables false
set_option linter.unusedSimpArgs false
set_option maxHeartbeats 16000000
set_option maxRecDepth 100000
section
namespace Go.Proofs.YtbbblemfodpmaaaGreat
open Go.RowKit
open Go.ChangeShapes Go.WideShapes
set_option maxRecDepth 100000
variable {H : Type} {enc : TypeId × Value→H} {W : World} {n : Nat} {cs : List Value} {x : DataW H × List MemPlace}
abbrev RdT (enc : TypeId × Value→H) (W : World) (n : Nat) (t : TypeId) (cs : List Value) (x : DataW H × List MemPlace) : Prop:=DataW.trod enc Tryz.prog W 0 (fun _=>true) true n t cs = some x
theorem I64_wf {i : Int} (h : (Lit.int .i64 i).wf = true) : I64 i:=bounds_i64 h
theorem zB8 : Tryz.prog.cellsOf 3 = 1:=by kernel_rfl
theorem zB9 (h : RdT enc W n 3 cs x) : ∃ i : Int,cs = [vi i]∧I64 i:=by
 obtain ⟨i,rfl,_,hw⟩:=DataW.trod_int Tryz.underlying3 h;exact ⟨i,rfl,I64_wf hw⟩
theorem zFK {α : Type} [Inhabited α] {t e sz : Nat} {e' : α→Array Value} {ok : (Nat→Prop)→World→α→Prop} (ht : Tryz.prog.underlying t = some (.slice e)) (hc : Tryz.prog.cellsOf e = sz) (hsz : 0 < sz)
  (helem : ∀ m cs y,RdT enc W m e cs y→∃ z : α,cs = (e' z).toList∧(e' z).size = sz∧ok (fun _=>False) W z) (h : RdT enc W n t cs x) :
  ∃ a l c,cs = [.slice a l c]∧(l ≤ 4294967296→∃ val : List α,val.length = l∧Sl.OK sz e' ok (fun _=>False) W ⟨a,c,val⟩):=by
 rcases Go.Deep.open_slice ht h with ⟨rfl,_⟩ | ⟨a,len,cap,m,k,D,Pl,rfl,_,hl,_,hm,_,hi⟩
 ·exact ⟨none,0,0,rfl,fun _=>⟨[],rfl,Sl.OK.nil _ _ _ _ _⟩⟩
 ·refine ⟨some a,len,cap,rfl,fun hroom=>?_⟩;have hm' : m = cap:=by rw [hm];rfl
  rw [hc] at hi;obtain ⟨V,hV⟩:=Go.Deep.choose_lt (α:=α) (n:=len) (p:=fun i z=>(∀ j,j < sz→W.cell? (a.add (i * sz + j)) = (e' z)[j]?)∧(e' z).size = sz∧ok (fun _=>False) W z) (fun i hil=>by
   obtain ⟨cs',h1,h2⟩:=hi i (by omega);obtain ⟨z,rfl,h3,h4⟩:=helem _ _ _ h2;obtain ⟨_,hlen,hcell⟩:=World.cells?_some h1;refine ⟨z,fun j hj=>?_,h3,h4⟩;have h5:=hcell j (by omega);rw [← Go.Deep.add_add,h5];simp)
  refine ⟨(List.range len).map V,by simp, ?_⟩;have hspot : 0 < len→a.spot = none∧a.block < W.heap.size:=fun h0=>by
   obtain ⟨h1,h2,_⟩:=hV 0 h0;have h3:=h1 0 hsz;have h4 : (e' (V 0))[0]? = some (e' (V 0))[0]:=Array.getElem?_eq_getElem (by omega);rw [h4] at h3;have h5 : a.spot = none:=by simpa [Addr.add] using World.cell?_spot h3
   obtain ⟨b,o,sp⟩:=a;simp only at h5;subst h5;refine ⟨rfl, ?_⟩;rw [add_plain] at h3;exact Nat.lt_of_not_le fun hle=>by simp [World.cell?,Array.getElem?_eq_none hle] at h3
  refine ⟨by simpa using hl,by simpa using hroom,fun h0=>by simp at h0,fun p hp h0=>?_,fun z hz=>?_,fun b o ha i z hz j hj=>?_⟩
  ·simp at hp;subst hp;obtain ⟨h1,h2⟩:=hspot (by simpa using h0);exact ⟨h1,fun h=>h,h2⟩
  ·obtain ⟨i,hi,rfl⟩:=List.mem_map.1 hz;exact (hV i (List.mem_range.1 hi)).2.2
  ·simp at ha;subst ha;have hil : i < len:=by simpa using (List.getElem?_eq_some_iff.1 hz).1
   have hz' : z = V i:=by
    rw [List.getElem?_map,List.getElem?_range hil] at hz;simpa using hz.symm
   subst hz';have h1:=(hV i hil).1 j hj
   rwa [add_plain,← Nat.add_assoc] at h1
theorem zFL : Tryz.prog.cellsOf 27 = 2:=by kernel_rfl
theorem opens_Point (h : RdT enc W n 27 cs x) : ∃ z : Point,cs = (zAb z).toList∧(zAb z).size = 2∧okPoint (fun _=>False) W z:=by
 obtain ⟨xs,m,_,_,hl,hxl,hf⟩:=DataW.trod_struct zuB h;rw [zFL] at hl;replace hxl : xs.length = 2:=hxl
 match cs,hl,xs,hxl with
 | [c0,c1],_,[y0,y1],_=>
  have g0 : RdT enc W m 3 [c0] y0:=by
   have g : RdT enc W m 3 (([c0,c1].drop 0).take (Tryz.prog.cellsOf 3)) y0:=hf 0 _ rfl
   rwa [zB8] at g
  obtain ⟨z0,e0,k0⟩:=zB9 g0;have g1 : RdT enc W m 3 [c1] y1:=by
   have g : RdT enc W m 3 (([c0,c1].drop 1).take (Tryz.prog.cellsOf 3)) y1:=hf 1 _ rfl
   rwa [zB8] at g
  obtain ⟨z1,e1,k1⟩:=zB9 g1;refine ⟨⟨z0,z1⟩, ?_,rfl,⟨k0,k1⟩⟩;simp [zAb,zAb,vi] at *;simp [*]
theorem zFM : Tryz.prog.cellsOf 29 = 3:=by kernel_rfl
theorem opens_Joint (h : RdT enc W n 29 cs x) : ∃ z : Joint,cs = (zAh z).toList∧(zAh z).size = 3∧zAs (fun _=>False) W z:=by
 obtain ⟨xs,m,_,_,hl,hxl,hf⟩:=DataW.trod_struct zuG h;rw [zFM] at hl;replace hxl : xs.length = 2:=hxl
 match cs,hl,xs,hxl with
 | [c0,c1,c2],_,[y0,y1],_=>
  have g0 : RdT enc W m 3 [c0] y0:=by
   have g : RdT enc W m 3 (([c0,c1,c2].drop 0).take (Tryz.prog.cellsOf 3)) y0:=hf 0 _ rfl
   rwa [zB8] at g
  obtain ⟨z0,e0,k0⟩:=zB9 g0;have g1 : RdT enc W m 27 [c1,c2] y1:=by
   have g : RdT enc W m 27 (([c0,c1,c2].drop 1).take (Tryz.prog.cellsOf 27)) y1:=hf 1 _ rfl
   rwa [zFL] at g
  obtain ⟨z1,e1,_,k1⟩:=opens_Point g1;refine ⟨⟨z0,z1⟩, ?_,rfl,⟨k0,k1.1,k1.2⟩⟩;simp [zAh,zAb,vi] at *;simp [*]
theorem zGc : Tryz.prog.cellsOf 31 = 8:=by kernel_rfl
theorem opens_Lead (h : RdT enc W n 31 cs x) : ∃ z : Lead,cs = (zAd z).toList∧(zAd z).size = 8∧zAA (fun _=>False) W z:=by
 obtain ⟨xs,m,_,_,hl,hxl,hf⟩:=DataW.trod_struct zuD h;rw [zGc] at hl;replace hxl : xs.length = 8:=hxl
 match cs,hl,xs,hxl with
 | [c0,c1,c2,c3,c4,c5,c6,c7],_,[y0,y1,y2,y3,y4,y5,y6,y7],_=>
  have g0 : RdT enc W m 3 [c0] y0:=by
   have g : RdT enc W m 3 (([c0,c1,c2,c3,c4,c5,c6,c7].drop 0).take (Tryz.prog.cellsOf 3)) y0:=hf 0 _ rfl
   rwa [zB8] at g
  obtain ⟨z0,e0,k0⟩:=zB9 g0;have g1 : RdT enc W m 3 [c1] y1:=by
   have g : RdT enc W m 3 (([c0,c1,c2,c3,c4,c5,c6,c7].drop 1).take (Tryz.prog.cellsOf 3)) y1:=hf 1 _ rfl
   rwa [zB8] at g
  obtain ⟨z1,e1,k1⟩:=zB9 g1;have g2 : RdT enc W m 3 [c2] y2:=by
   have g : RdT enc W m 3 (([c0,c1,c2,c3,c4,c5,c6,c7].drop 2).take (Tryz.prog.cellsOf 3)) y2:=hf 2 _ rfl
   rwa [zB8] at g
  obtain ⟨z2,e2,k2⟩:=zB9 g2;have g3 : RdT enc W m 3 [c3] y3:=by
   have g : RdT enc W m 3 (([c0,c1,c2,c3,c4,c5,c6,c7].drop 3).take (Tryz.prog.cellsOf 3)) y3:=hf 3 _ rfl
   rwa [zB8] at g
  obtain ⟨z3,e3,k3⟩:=zB9 g3;have g4 : RdT enc W m 3 [c4] y4:=by
   have g : RdT enc W m 3 (([c0,c1,c2,c3,c4,c5,c6,c7].drop 4).take (Tryz.prog.cellsOf 3)) y4:=hf 4 _ rfl
   rwa [zB8] at g
  obtain ⟨z4,e4,k4⟩:=zB9 g4;have g5 : RdT enc W m 3 [c5] y5:=by
   have g : RdT enc W m 3 (([c0,c1,c2,c3,c4,c5,c6,c7].drop 5).take (Tryz.prog.cellsOf 3)) y5:=hf 5 _ rfl
   rwa [zB8] at g
  obtain ⟨z5,e5,k5⟩:=zB9 g5;have g6 : RdT enc W m 3 [c6] y6:=by
   have g : RdT enc W m 3 (([c0,c1,c2,c3,c4,c5,c6,c7].drop 6).take (Tryz.prog.cellsOf 3)) y6:=hf 6 _ rfl
   rwa [zB8] at g
  obtain ⟨z6,e6,k6⟩:=zB9 g6;have g7 : RdT enc W m 3 [c7] y7:=by
   have g : RdT enc W m 3 (([c0,c1,c2,c3,c4,c5,c6,c7].drop 7).take (Tryz.prog.cellsOf 3)) y7:=hf 7 _ rfl
   rwa [zB8] at g
  obtain ⟨z7,e7,k7⟩:=zB9 g7;refine ⟨⟨z0,z1,z2,z3,z4,z5,z6,z7⟩, ?_,rfl,⟨k0,k1,k2,k3,k4,k5,k6,k7⟩⟩;simp [zAd,zAb,vi] at *;simp [*]
theorem cells_Joints : Tryz.prog.cellsOf 22 = 1:=by kernel_rfl
theorem cells_Leads : Tryz.prog.cellsOf 23 = 1:=by kernel_rfl
theorem cells_Web : Tryz.prog.cellsOf 25 = 2:=by kernel_rfl
theorem opens_Web (h : RdT enc W n 25 cs x) : ∃ a l c a2 l2 c2,cs = [.slice a l c, .slice a2 l2 c2]∧(l ≤ 4294967296→∃ val : List Joint,val.length = l∧Sl.OK 3 zAh zAs (fun _=>False) W ⟨a,c,val⟩)∧(l2 ≤ 4294967296→∃ val : List Lead,val.length = l2∧Sl.OK 8 zAd zAA (fun _=>False) W ⟨a2,c2,val⟩):=by
 obtain ⟨xs,m,_,_,hl,hxl,hf⟩:=DataW.trod_struct zuC h;rw [cells_Web] at hl;replace hxl : xs.length = 2:=hxl
 match cs,hl,xs,hxl with
 | [c0,c1],_,[y0,y1],_=>
  have g0 : RdT enc W m 22 [c0] y0:=by
   have g : RdT enc W m 22 (([c0,c1].drop 0).take (Tryz.prog.cellsOf 22)) y0:=hf 0 _ rfl
   rwa [cells_Joints] at g
  have g1 : RdT enc W m 23 [c1] y1:=by
   have g : RdT enc W m 23 (([c0,c1].drop 1).take (Tryz.prog.cellsOf 23)) y1:=hf 1 _ rfl
   rwa [cells_Leads] at g
  obtain ⟨a,l,c,e0,h0⟩:=zFK (e':=zAh) (ok:=zAs) Tryz.underlying22 zFM (by decide) (fun m cs y h=>opens_Joint h) g0;obtain ⟨a2,l2,c2,e1,h1⟩:=zFK (e':=zAd) (ok:=zAA) Tryz.underlying23 zGc (by decide) (fun m cs y h=>opens_Lead h) g1;simp only [List.cons.injEq,and_true] at e0 e1;exact ⟨a,l,c,a2,l2,c2,by rw [e0,e1],h0,h1⟩
theorem opens_web {base : Nat} {v : Value} {d : DataW H} {p : List MemPlace} (hval : Value.okWide Tryz.prog W .any base 25 v) (h : DataW.Trod enc Tryz.prog W 0 (fun _=>true) true 25 v d p) :
  ∃ a l c a2 l2 c2,v = .agg #[.slice a l c, .slice a2 l2 c2]∧(l ≤ 4294967296→∃ val : List Joint,val.length = l∧Sl.OK 3 zAh zAs (fun _=>False) W ⟨a,c,val⟩)∧(l2 ≤ 4294967296→∃ val : List Lead,val.length = l2∧Sl.OK 8 zAd zAA (fun _=>False) W ⟨a2,c2,val⟩):=by
 obtain ⟨cs,rfl,_⟩:=okWide_struct zuC hval;obtain ⟨m,hm⟩:=h;obtain ⟨a,l,c,a2,l2,c2,e,h1,h2⟩:=opens_Web hm;refine ⟨a,l,c,a2,l2,c2, ?_,h1,h2⟩;have e' : cs.toList = [.slice a l c, .slice a2 l2 c2]:=e;rw [show cs = cs.toList.toArray by simp,e']
end Go.Proofs.YtbbblemfodpmaaaGreat
end
section
namespace Go.Proofs.YtbbblemfodpmaaaGreat
open Go.ChangeShapes Go.WideShapes Go.RowKit
set_option maxRecDepth 100000
theorem ownKnob_none : ownKnob Tryz.prog.godebug = none:=by kernel_rfl
theorem laidOut : laidOutB Tryz.prog = true:=by kernel_rfl
theorem trodAll_stays {P : Program} (hlo : laidOutB P = true) {H : Type} {enc : TypeId × Value→H} {W W' : World} (hb : Below W.heap.size W W') {sp : Nat→Bool} (ts : List TypeId) : ∀ (vs : List Value) (ds : List (DataW H)) (ps : List MemPlace),
  (∀ t ∈ ts,P.readableRec t = true∧t < P.types.size)→DataW.TrodAll enc P W 0 (fun _=>true) true ts vs ds ps→(∀ p ∈ ps,p.block < W.heap.size)→(∀ p ∈ ps,sp p.block = true)→DataW.TrodAll enc P W' 0 sp true ts vs ds ps:=by
 induction ts with
 | nil=>
  intro vs ds ps _ h _ _;obtain ⟨rfl,rfl,rfl⟩:=trodAll_nil h;exact trodAll_mk0
 | cons t ts ih=>
  intro vs ds ps ht h hl hs;obtain ⟨v,vs',d,ds',p,q,rfl,rfl,rfl,h1,h2⟩:=trodAll_cons h;have h0:=ht t (by simp);exact trodAll_cons_mk (WideElems.Trod_stays hlo h0.1 h0.2 h1 (fun x hx=>hb.same (hl x (List.mem_append_left _ hx))) (fun x hx=>hs x (List.mem_append_left _ hx)))
   (ih _ _ _ (fun t' h'=>ht t' (List.mem_cons_of_mem _ h')) h2 (fun x hx=>hl x (List.mem_append_right _ hx)) (fun x hx=>hs x (List.mem_append_right _ hx)))
theorem readable_of {P : Program} {ts : List TypeId} (h : (ts.all fun t=>P.readableRec t && decide (t < P.types.size)) = true) : ∀ t ∈ ts,P.readableRec t = true∧t < P.types.size:=fun t ht=>by
 have:=List.all_eq_true.1 h t ht;simpa using this
theorem law_post {H : Type} {enc : TypeId × Value→H} {f : Func} {s : ChangeSpec} {W W' : World} {args : Array Value} {ds gs : List (DataW H)} {before : List MemPlace} (hv : s.vars = []) (hr : f.resultTypes = #[4])
  (hts : (f.params.toList.all fun t=>Tryz.prog.readableRec t && decide (t < Tryz.prog.types.size)) = true) (hW : DataW.Whole enc Tryz.prog f.params.toList s.vars false W args.toList ds gs before)
  (hfn : s.fn H (ds ++ gs) = { results:=[.lit (.bool true)],args:=ds }) (hb : Below W.heap.size W W') : s.post enc Tryz.prog f false true false false W args (.bool true) W':=by
 have hW':=hW;obtain ⟨p,q,hA,hV,he,_,_⟩:=hW;rw [hv] at hV;obtain ⟨rfl,rfl⟩:=trodVars_none hV;rw [List.append_nil] at he;subst he;have hlt : ∀ x ∈ before,x.block < W.heap.size:=fun x hx=>by simpa using hW'.lt x hx
 refine ⟨ds,[],before,[],before,[],hW', ?_, ?_, ?_,hb.frame _,fun h=>by cases h⟩
 ·rw [hfn,hr];exact trodAll_mk1 (shut_bool Tryz.underlying4 _)
 ·rw [hfn];exact trodAll_stays laidOut hb _ _ _ _ (readable_of hts) hA hlt (fun x hx=>by simpa using hlt x hx)
 ·rw [hfn,hv]
  rfl
end Go.Proofs.YtbbblemfodpmaaaGreat
end
