/-Joints that hang together (plain).-/
import Derived.Test.YtbbblemfodpmaaaGreatWebGa
import Derived.RowKit
import Derived.Test.YtbbblemfodpmaaaGreatWebGk
import Derived.Test.YtbbblemfodpmaaaGreatWebGl
import Derived.Test.YtbbblemfodpmaaaGreatWebComp
import Derived.Test.YtbbblemfodpmaaaGreatWebGm
set_option linter.unusedVariables false
set_option linter.unusedSimpArgs false
set_option maxHeartbeats 16000000
set_option maxRecDepth 100000
section
namespace Go.Proofs.YtbbblemfodpmaaaGreat
open Go.RowKit
def AdjJ (ls : List Lead) (joint lead u v : Int) : Prop:=∃ l ∈ ls,l.id ≠ lead∧u ≠ joint∧v ≠ joint∧((l.a = u∧l.b = v) ∨ (l.a = v∧l.b = u))
inductive ConJ (ls : List Lead) (joint lead : Int) : Int→Int→Prop
 | refl (u : Int) : ConJ ls joint lead u u
 | step {u v x : Int} : ConJ ls joint lead u v→AdjJ ls joint lead v x→ConJ ls joint lead u x
theorem AdjJ.symm {ls : List Lead} {joint lead u v : Int} (h : AdjJ ls joint lead u v) : AdjJ ls joint lead v u:=by
 obtain ⟨l,h1,h2,h3,h4,h5⟩:=h;exact ⟨l,h1,h2,h4,h3,h5.elim (fun h=>.inr h) (fun h=>.inl h)⟩
theorem ConJ.trans {ls : List Lead} {joint lead u v x : Int} (h : ConJ ls joint lead u v) (k : ConJ ls joint lead v x) : ConJ ls joint lead u x:=by
 induction k with
 | refl=>exact h
 | step _ a ih=>exact .step ih a
theorem ConJ.one {ls : List Lead} {joint lead u v : Int} (h : AdjJ ls joint lead u v) : ConJ ls joint lead u v:=.step (.refl u) h
theorem ConJ.symm {ls : List Lead} {joint lead u v : Int} (h : ConJ ls joint lead u v) : ConJ ls joint lead v u:=by
 induction h with
 | refl=>exact .refl _
 | step _ a ih=>exact (ConJ.one a.symm).trans ih
theorem ValidW.adj_out {js : List Joint} {ls : List Lead} (V : ValidW js ls) {joint lead u v : Int} : AdjJ ls joint lead u v ↔ u ≠ joint∧v ≠ joint∧∃ s ∈ outA js ls u,s.lead ≠ lead∧(zAl ls s).2 = v:=by
 constructor
 ·rintro ⟨l,hl,h1,h2,h3,h4⟩;refine ⟨h2,h3, ?_⟩
  rcases h4 with ⟨ha,hb⟩ | ⟨ha,hb⟩
  ·exact ⟨⟨l.id,false⟩,zDm.2 (zCH.2 ⟨l,hl, .inl ⟨ha,rfl⟩⟩),h1,by rw [V.sideEnds hl];exact hb⟩
  ·exact ⟨⟨l.id,true⟩,zDm.2 (zCH.2 ⟨l,hl, .inr ⟨hb,rfl⟩⟩),h1,by rw [V.sideEnds hl];exact ha⟩
 ·rintro ⟨h1,h2,s,hs,h3,h4⟩;obtain ⟨l,hl,h | h⟩:=zCH.1 (zDm.1 hs)
  ·obtain ⟨ha,rfl⟩:=h;rw [V.sideEnds hl] at h4;exact ⟨l,hl,h3,h1,h2, .inl ⟨ha,h4⟩⟩
  ·obtain ⟨ha,rfl⟩:=h;rw [V.sideEnds hl] at h4;exact ⟨l,hl,h3,h1,h2, .inr ⟨h4,ha⟩⟩
end Go.Proofs.YtbbblemfodpmaaaGreat
end
section
namespace Go.Proofs.YtbbblemfodpmaaaGreat
open Go.RowKit
structure VisitS (ls : List Lead) (joint lead first j : Int) (m m' : List (Int × Int)) : Prop where
 keep : ∀ i v,aget m i = some v→aget m' i = some v
 new : ∀ i v,aget m i = none→aget m' i = some v→v = first∧ConJ ls joint lead j i∧i ≠ joint
 closed : ∀ i,aget m i = none→(aget m' i).isSome = true→∀ k,AdjJ ls joint lead i k→(aget m' k).isSome = true
theorem VisitS.refl {ls : List Lead} {joint lead first j : Int} (m : List (Int × Int)) : VisitS ls joint lead first j m m:=
 ⟨fun _ _ h=>h,fun i v h1 h2=>(by rw [h1] at h2;cases h2),fun i h1 h2=>(by rw [h1] at h2;cases h2)⟩
theorem some_of {m : List (Int × Int)} {i : Int} (h : (aget m i).isSome = true) : ∃ v,aget m i = some v:=Option.isSome_iff_exists.1 h
theorem VisitS.trans {ls : List Lead} {joint lead first j : Int} {m m1 m2 : List (Int × Int)} (h : VisitS ls joint lead first j m m1) (k : VisitS ls joint lead first j m1 m2) : VisitS ls joint lead first j m m2:=by
 refine ⟨fun i v e=>k.keep i v (h.keep i v e),fun i v e1 e2=>?_,fun i e1 e2 q hq=>?_⟩
 ·cases e : aget m1 i with
  | none=>exact k.new i v e e2
  | some u=>
   have:=k.keep i u e;rw [e2] at this;cases this;exact h.new i v e1 e
 ·cases e : aget m1 i with
  | none=>exact k.closed i e e2 q hq
  | some u=>
   obtain ⟨v,hv⟩:=some_of (h.closed i e1 (by rw [e];rfl) q hq);rw [k.keep q v hv];rfl
theorem VisitS.has {ls : List Lead} {joint lead first j : Int} {m m1 : List (Int × Int)} (h : VisitS ls joint lead first j m m1) {i : Int} (hi : (aget m i).isSome = true) : (aget m1 i).isSome = true:=by
 obtain ⟨v,hv⟩:=some_of hi;rw [h.keep i v hv];rfl
theorem zFw (js : List Joint) (ls : List Lead) (joint lead first : Int) (f : Nat) (m : List (Int × Int)) : zAT js ls joint lead first f m joint = m:=by
 cases f with
 | zero=>rfl
 | succ f=>simp [zAT]
theorem ahas_get {m : List (Int × Int)} {i : Int} : ahas m i = (aget m i).isSome:=by
 unfold ahas aget;rw [Option.isSome_map,List.isSome_find?]
theorem ValidW.end_there {js : List Joint} {ls : List Lead} (V : ValidW js ls) {s : Side} (h : zAM ls s) : ∃ x ∈ js,x.id = (zAl ls s).2:=by
 obtain ⟨l,hl,e⟩:=h;obtain ⟨i,hi,k,hk,e1,e2,_⟩:=V.ends hl;obtain ⟨sl,sb⟩:=s;simp only at e;subst e;rw [V.sideEnds hl]
 cases sb
 ·exact ⟨k,hk,e2⟩
 ·exact ⟨i,hi,e1⟩
theorem ValidW.visit_spec {js : List Joint} {ls : List Lead} (V : ValidW js ls) (joint lead first : Int) : ∀ (f : Nat) (m : List (Int × Int)) (j : Int),zCw js m < f→(∃ x ∈ js,x.id = j)→
  VisitS ls joint lead first j m (zAT js ls joint lead first f m j)∧(j ≠ joint→(aget (zAT js ls joint lead first f m j) j).isSome = true)
 | 0,m,j,h,_=>by omega
 | f + 1,m,j,h,hj=>by
  by_cases hc : (ahas m j || decide (j = joint)) = true
  ·have e : zAT js ls joint lead first (f + 1) m j = m:=by simp only [zAT];rw [if_pos hc]
   rw [e];refine ⟨VisitS.refl m,fun hn=>?_⟩;simp only [Bool.or_eq_true,decide_eq_true_eq] at hc
   rcases hc with hc | hc
   ·rw [← ahas_get];exact hc
   ·exact absurd hc hn
  ·have e : zAT js ls joint lead first (f + 1) m j = (outA js ls j).foldl (fun m s=>if s.lead = lead then m else zAT js ls joint lead first f m (zAl ls s).2) (aput m j first):=by simp only [zAT];rw [if_neg hc]
   simp only [Bool.or_eq_true,decide_eq_true_eq,not_or,Bool.not_eq_true] at hc;obtain ⟨hc1,hc2⟩:=hc;have hm0 : aget m j = none:=by rw [ahas_get] at hc1;simpa using hc1
   have hl0 : zCw js (aput m j first) < f:=by have:=left_put (v:=first) hj hc1;omega
   have key : ∀ (l : List Side) (acc : List (Int × Int)),(∀ s ∈ l,s ∈ outA js ls j)→zCw js acc < f→
     VisitS ls joint lead first j acc (l.foldl (fun m s=>if s.lead = lead then m else zAT js ls joint lead first f m (zAl ls s).2) acc)∧
     ∀ s ∈ l,s.lead ≠ lead→(zAl ls s).2 ≠ joint→(aget (l.foldl (fun m s=>if s.lead = lead then m else zAT js ls joint lead first f m (zAl ls s).2) acc) (zAl ls s).2).isSome = true:=by
    intro l
    induction l with
    | nil=>intro acc _ _;exact ⟨VisitS.refl acc,fun s hs=>by cases hs⟩
    | cons s l ih=>
     intro acc hs hacc;simp only [List.foldl_cons]
     by_cases h1 : s.lead = lead
     ·rw [if_pos h1];obtain ⟨a1,a2⟩:=ih acc (fun t ht=>hs t (List.mem_cons_of_mem _ ht)) hacc;refine ⟨a1,fun t ht h2 h3=>?_⟩
      rcases List.mem_cons.1 ht with rfl | ht
      ·exact absurd h1 h2
      ·exact a2 t ht h2 h3
     ·rw [if_neg h1];have hside:=V.of_leave (zDm.1 (hs s (by simp)));have hto : ∃ x ∈ js,x.id = (zAl ls s).2:=V.end_there hside.1;obtain ⟨b1,b2⟩:=V.visit_spec joint lead first f acc (zAl ls s).2 hacc hto
      have b3 : VisitS ls joint lead first j acc (zAT js ls joint lead first f acc (zAl ls s).2):=by
       by_cases hz : (zAl ls s).2 = joint
       ·rw [hz,zFw];exact VisitS.refl acc
       ·have hadj : AdjJ ls joint lead j (zAl ls s).2:=V.adj_out.2 ⟨hc2,hz,s,hs s (by simp),h1,rfl⟩;exact ⟨b1.keep,fun i v e1 e2=>⟨(b1.new i v e1 e2).1,(ConJ.one hadj).trans (b1.new i v e1 e2).2.1,(b1.new i v e1 e2).2.2⟩,b1.closed⟩
      have hacc2 : zCw js (zAT js ls joint lead first f acc (zAl ls s).2) < f:=Nat.lt_of_le_of_lt (zFo fun i hi=>zE1 js ls joint lead first f acc _ i hi) hacc;obtain ⟨a1,a2⟩:=ih _ (fun t ht=>hs t (List.mem_cons_of_mem _ ht)) hacc2;refine ⟨b3.trans a1,fun t ht h2 h3=>?_⟩
      rcases List.mem_cons.1 ht with rfl | ht
      ·exact a1.has (b2 h3)
      ·exact a2 t ht h2 h3
   obtain ⟨a1,a2⟩:=key (outA js ls j) (aput m j first) (fun _ h=>h) hl0;rw [e];have hjj : aget (aput m j first) j = some first:=by rw [zBS,if_pos rfl]
   have hne : ∀ i,i ≠ j→aget (aput m j first) i = aget m i:=fun i hi=>by rw [zBS,if_neg hi]
   have hij : ∀ i v,aget m i = some v→i ≠ j:=fun i v h1 h2=>by rw [h2,hm0] at h1;cases h1
   refine ⟨⟨fun i v h1=>a1.keep i v (by rw [hne i (hij i v h1)];exact h1),fun i v h1 h2=>?_,fun i h1 h2 q hq=>?_⟩,fun _=>a1.has (by rw [hjj];rfl)⟩
   ·by_cases hi : i = j
    ·subst hi;have:=a1.keep i first hjj
     rw [h2] at this;cases this;exact ⟨rfl, .refl _,hc2⟩
    ·exact a1.new i v (by rw [hne i hi];exact h1) h2
   ·by_cases hi : i = j
    ·subst hi;obtain ⟨_,h4,s,hs,h5,rfl⟩:=V.adj_out.1 hq;exact a2 s hs h5 h4
    ·exact a1.closed i (by rw [hne i hi];exact h1) h2 q hq
structure TogI (js : List Joint) (ls : List Lead) (joint lead : Int) (k : Nat) (m : List (Int × Int)) : Prop where
 closed : ∀ i,(aget m i).isSome = true→∀ q,AdjJ ls joint lead i q→(aget m q).isSome = true
 val : ∀ i v,aget m i = some v→i ≠ joint∧∃ r x,js[r]? = some x∧r < k∧x.id = v∧v ≠ joint∧ConJ ls joint lead v i∧∀ r' x',js[r']? = some x'→r' < r→¬ ConJ ls joint lead x'.id i
 has : ∀ r x,js[r]? = some x→r < k→x.id ≠ joint→(aget m x.id).isSome = true
theorem TogI.con {js : List Joint} {ls : List Lead} {joint lead : Int} {k : Nat} {m : List (Int × Int)} (h : TogI js ls joint lead k m) {i q : Int} (hi : (aget m i).isSome = true) (hc : ConJ ls joint lead i q) : (aget m q).isSome = true:=by
 induction hc with
 | refl=>exact hi
 | step _ a ih=>exact h.closed _ ih _ a
theorem ValidW.tog_step {js : List Joint} {ls : List Lead} (V : ValidW js ls) (joint lead : Int) {k : Nat} {x : Joint} {m : List (Int × Int)} (hx : js[k]? = some x) (h : TogI js ls joint lead k m) : TogI js ls joint lead (k + 1) (zAT js ls joint lead x.id (js.length + 1) m x.id):=by
 have hle : zCw js m < js.length + 1:=by
  have : zCw js m ≤ js.length:=List.length_filter_le _ _;omega
 obtain ⟨a1,a2⟩:=V.visit_spec joint lead x.id (js.length + 1) m x.id hle ⟨x,List.mem_of_getElem? hx,rfl⟩;refine ⟨fun i hi q hq=>?_,fun i v e=>?_,fun r y hy hr hn=>?_⟩
 ·cases e : aget m i with
  | none=>exact a1.closed i e hi q hq
  | some v=>exact a1.has (h.closed i (by rw [e];rfl) q hq)
 ·cases e0 : aget m i with
  | some u=>
   have:=a1.keep i u e0;rw [e] at this;cases this;obtain ⟨b1,r,y,c1,c2,c3⟩:=h.val i v e0;exact ⟨b1,r,y,c1,by omega,c3⟩
  | none=>
   obtain ⟨rfl,c1,c2⟩:=a1.new i v e0 e;have hxj : x.id ≠ joint:=by
    intro hxj;rw [hxj,zFw,e0] at e
    cases e
   refine ⟨c2,k,x,hx,by omega,rfl,hxj,c1,fun r' x' hx' hr' hc=>?_⟩;have hj' : x'.id ≠ joint:=by
    intro hj';rw [hj'] at hc;have : ∀ q,ConJ ls joint lead joint q→q = joint:=fun q hq=>by
     induction hq with
     | refl=>rfl
     | step _ a ih=>obtain ⟨_,_,_,hne,_⟩:=a;exact absurd ih hne
    exact c2 (this i hc)
   have:=h.con (h.has r' x' hx' hr' hj') hc;rw [e0] at this;cases this
 ·rcases Nat.lt_or_ge r k with hr2 | hr2
  ·exact a1.has (h.has r y hy hr2 hn)
  ·have : r = k:=by omega
   subst this;rw [hx] at hy;cases hy;exact a2 hn
theorem ValidW.tog_spec {js : List Joint} {ls : List Lead} (V : ValidW js ls) (joint lead : Int) : TogI js ls joint lead js.length (togA js ls joint lead):=by
 have key : ∀ k,k ≤ js.length→TogI js ls joint lead k ((js.take k).foldl (fun m x=>zAT js ls joint lead x.id (js.length + 1) m x.id) []):=by
  intro k
  induction k with
  | zero=>intro _;exact ⟨fun i h=>(by cases h),fun i v h=>(by cases h),fun r x _ h=>(by omega)⟩
  | succ k ih=>
   intro hk;obtain ⟨x,hx⟩ : ∃ x,js[k]? = some x:=⟨_,List.getElem?_eq_getElem (by omega)⟩
   rw [List.take_add_one,hx,List.foldl_append];exact V.tog_step joint lead hx (ih (by omega))
 have:=key js.length (Nat.le_refl _)
 rwa [List.take_length] at this
end Go.Proofs.YtbbblemfodpmaaaGreat
end
section
namespace Go.Proofs.YtbbblemfodpmaaaGreat
open Go.RowKit
theorem ValidW.id_lt {js : List Joint} {ls : List Lead} (V : ValidW js ls) {a b : Nat} {x y : Joint} (ha : js[a]? = some x) (hb : js[b]? = some y) (h : a < b) : x.id < y.id:=by
 obtain ⟨h1,rfl⟩:=List.getElem?_eq_some_iff.1 ha;obtain ⟨h2,rfl⟩:=List.getElem?_eq_some_iff.1 hb;exact (List.pairwise_iff_getElem.1 V.jid) a b h1 h2 h
theorem ValidW.id_inj {js : List Joint} {ls : List Lead} (V : ValidW js ls) {a b : Nat} {x y : Joint} (ha : js[a]? = some x) (hb : js[b]? = some y) (h : x.id = y.id) : a = b:=by
 rcases Nat.lt_trichotomy a b with q | q | q
 ·have:=V.id_lt ha hb q;omega
 ·exact q
 ·have:=V.id_lt hb ha q;omega
def labOf (js : List Joint) (T : List (Int × Int)) (x : Joint) : Int:=match aget T x.id with
 | none=>-1
 | some v=>idxI (fun y=>decide (y.id = v)) js
def labA (js : List Joint) (ls : List Lead) (joint lead : Int) : List Int:=js.map (labOf js (togA js ls joint lead))
structure LabI (js : List Joint) (ls : List Lead) (joint lead : Int) (L : List Int) : Prop where
 len : L.length = js.length
 out : ∀ (r : Nat) x,js[r]? = some x→x.id = joint→L[r]? = some (-1)
 lab : ∀ (r : Nat) x,js[r]? = some x→x.id ≠ joint→∃ (q : Nat) (y : Joint),L[r]? = some (q : Int)∧q ≤ r∧js[q]? = some y∧y.id ≠ joint∧ConJ ls joint lead y.id x.id
def LabF (js : List Joint) (ls : List Lead) (lead : Int) (L : List Int) : Prop:=∀ l ∈ ls,l.id ≠ lead→∀ (a b : Nat) (x y : Joint),js[a]? = some x→js[b]? = some y→x.id = l.a→y.id = l.b→∀ u v : Int,L[a]? = some u→L[b]? = some v→u < 0 ∨ v < 0 ∨ u = v
theorem ValidW.lab_con {js : List Joint} {ls : List Lead} (V : ValidW js ls) {joint lead : Int} {L : List Int} (hI : LabI js ls joint lead L) (hF : LabF js ls lead L) {u w : Int} (h : ConJ ls joint lead u w) :
  ∀ (a : Nat) (x : Joint),js[a]? = some x→x.id = u→u ≠ joint→w ≠ joint∧∃ (b : Nat) (y : Joint),js[b]? = some y∧y.id = w∧L[b]? = L[a]?:=by
 induction h with
 | refl=>intro a x ha hx hu;exact ⟨hu,a,x,ha,hx,rfl⟩
 | step _ hadj ih=>
  intro a x ha hx hu;obtain ⟨h1,b,y,hb,hy,he⟩:=ih a x ha hx hu;obtain ⟨l,hl,hlead,_,h2,hends⟩:=hadj;obtain ⟨i,hi,k,hk,e1,e2,_⟩:=V.ends hl;obtain ⟨ia,hia⟩:=List.getElem?_of_mem hi;obtain ⟨kb,hkb⟩:=List.getElem?_of_mem hk;refine ⟨h2, ?_⟩;have hf:=hF l hl hlead ia kb i k hia hkb e1 e2
  rcases hends with ⟨g1,g2⟩ | ⟨g1,g2⟩
  ·have e3 : b = ia:=V.id_inj hb hia (by rw [hy,e1,g1]);subst e3;obtain ⟨q1,y1,c1,_⟩:=hI.lab b i hia (by rw [e1,g1];exact h1);obtain ⟨q2,y2,d1,_⟩:=hI.lab kb k hkb (by rw [e2,g2];exact h2);have:=hf q1 q2 c1 d1;refine ⟨kb,k,hkb,by rw [e2,g2], ?_⟩;rw [← he,d1,c1]
   congr 1
   omega
  ·have e3 : b = kb:=V.id_inj hb hkb (by rw [hy,e2,g2]);subst e3;obtain ⟨q1,y1,c1,_⟩:=hI.lab b k hkb (by rw [e2,g2];exact h1);obtain ⟨q2,y2,d1,_⟩:=hI.lab ia i hia (by rw [e1,g1];exact h2);have:=hf q2 q1 d1 c1;refine ⟨ia,i,hia,by rw [e1,g1], ?_⟩;rw [← he,d1,c1]
   congr 1
   omega
theorem ValidW.idx_at {js : List Joint} {ls : List Lead} (V : ValidW js ls) {r : Nat} {x : Joint} (h : js[r]? = some x) : idxI (fun y=>decide (y.id = x.id)) js = (r : Int):=
 zCg h (fun j y hj hy=>by have:=V.id_lt hy h hj;simp;omega) (by simp)
theorem ValidW.lab_done {js : List Joint} {ls : List Lead} (V : ValidW js ls) {joint lead : Int} {L : List Int} (hI : LabI js ls joint lead L) (hF : LabF js ls lead L) : L = labA js ls joint lead:=by
 have hT:=V.tog_spec joint lead;refine List.ext_getElem? fun r=>?_;unfold labA;rw [List.getElem?_map]
 cases hx : js[r]? with
 | none=>
  have:=hI.len;rw [List.getElem?_eq_none_iff] at hx;rw [List.getElem?_eq_none_iff.2 (by omega)];rfl
 | some x=>
  simp only [Option.map_some];have hr : r < js.length:=(List.getElem?_eq_some_iff.1 hx).1;unfold labOf
  by_cases hj : x.id = joint
  ·rw [hI.out r x hx hj]
   cases e : aget (togA js ls joint lead) x.id with
   | none=>rfl
   | some v=>exact absurd hj (hT.val _ _ e).1
  ·obtain ⟨v,hv⟩:=some_of (hT.has r x hx hr hj);rw [hv];simp only;obtain ⟨_,r0,y0,c1,c2,c3,c4,c5,c6⟩:=hT.val _ _ hv;obtain ⟨q,y,d1,d2,d3,d4,d5⟩:=hI.lab r x hx hj;obtain ⟨q0,z0,f1,f2,f3,f4,f5⟩:=hI.lab r0 y0 c1 (by rw [c3];exact c4);obtain ⟨_,b,yb,g1,g2,g3⟩:=V.lab_con hI hF c5 r0 y0 c1 c3 c4;have e3 : b = r:=V.id_inj g1 hx g2;subst e3;have e4 : q0 = r0:=by
    rcases Nat.lt_or_ge q0 r0 with h | h
    ·exact absurd ((c3 ▸ f5).trans c5) (c6 q0 z0 f3 h)
    ·omega
   subst e4;rw [g3,f1,← c3,V.idx_at c1]
end Go.Proofs.YtbbblemfodpmaaaGreat
end
section
namespace Go.Proofs.YtbbblemfodpmaaaGreat
open Go.RowKit
def RootJ (js : List Joint) (ls : List Lead) (joint lead : Int) (r : Nat) (x : Joint) : Prop:=∀ (r' : Nat) x',js[r']? = some x'→r' < r→¬ ConJ ls joint lead x'.id x.id
theorem ValidW.part_root {js : List Joint} {ls : List Lead} (V : ValidW js ls) (joint lead : Int) {r : Nat} {x : Joint} (hx : js[r]? = some x) (hj : x.id ≠ joint) :
  ∃ (r0 : Nat) (y : Joint),js[r0]? = some y∧aget (togA js ls joint lead) x.id = some y.id∧y.id ≠ joint∧ConJ ls joint lead y.id x.id∧RootJ js ls joint lead r0 y∧r0 ≤ r∧labOf js (togA js ls joint lead) x = (r0 : Int):=by
 have hT:=V.tog_spec joint lead;have hr : r < js.length:=(List.getElem?_eq_some_iff.1 hx).1;obtain ⟨v,hv⟩:=some_of (hT.has r x hx hr hj);obtain ⟨_,r0,y0,c1,c2,c3,c4,c5,c6⟩:=hT.val _ _ hv;refine ⟨r0,y0,c1,by rw [hv,c3],by rw [c3];exact c4,by rw [c3];exact c5,fun r' x' h1 h2 h3=>c6 r' x' h1 h2 (h3.trans (by rw [c3];exact c5)), ?_, ?_⟩
 ·rcases Nat.lt_or_ge r r0 with h | h
  ·exact absurd (.refl _) (c6 r x hx h)
  ·exact h
 ·unfold labOf;rw [hv];simp only;rw [← c3,V.idx_at c1]
theorem ValidW.root_eq {js : List Joint} {ls : List Lead} {joint lead : Int} {a b : Nat} {x y : Joint} (V : ValidW js ls) (ha : js[a]? = some x) (hb : js[b]? = some y) (h1 : RootJ js ls joint lead a x) (h2 : RootJ js ls joint lead b y) (hc : ConJ ls joint lead x.id y.id) : a = b:=by
 rcases Nat.lt_trichotomy a b with q | q | q
 ·exact absurd hc (h2 a x ha q)
 ·exact q
 ·exact absurd hc.symm (h1 b y hb q)
theorem ValidW.lab_root {js : List Joint} {ls : List Lead} (V : ValidW js ls) (joint lead : Int) {r : Nat} {x : Joint} (hx : js[r]? = some x) (hj : x.id ≠ joint) : labOf js (togA js ls joint lead) x = (r : Int) ↔ RootJ js ls joint lead r x:=by
 obtain ⟨r0,y,h1,_,_,h4,h5,h6,h7⟩:=V.part_root joint lead hx hj;rw [h7]
 constructor
 ·intro h;have : r0 = r:=by omega
  subst this;rw [hx] at h1;cases h1;exact h5
 ·intro h;have:=V.root_eq h1 hx h5 h h4;omega
theorem ValidW.part_eq {js : List Joint} {ls : List Lead} (V : ValidW js ls) (joint lead : Int) {a b : Nat} {x y : Joint} (ha : js[a]? = some x) (hb : js[b]? = some y) (h1 : x.id ≠ joint) (h2 : y.id ≠ joint) : zA8 (togA js ls joint lead) x.id = zA8 (togA js ls joint lead) y.id ↔ ConJ ls joint lead x.id y.id:=by
 obtain ⟨r1,u,c1,c2,_,c4,c5,_⟩:=V.part_root joint lead ha h1;obtain ⟨r2,v,d1,d2,_,d4,d5,_⟩:=V.part_root joint lead hb h2;unfold zA8;rw [c2,d2];simp only [Option.getD_some]
 constructor
 ·intro h;rw [h] at c4;exact c4.symm.trans d4
 ·intro h;have:=V.root_eq c1 d1 c5 d5 ((c4.trans h).trans d4.symm);subst this;rw [c1] at d1;cases d1;rfl
def zDG (L : List Int) : Nat:=((List.range L.length).filter fun r : Nat=>L[r]? == some (r : Int)).length
theorem ValidW.lab_at {js : List Joint} {ls : List Lead} (V : ValidW js ls) (joint lead : Int) {r : Nat} {x : Joint} (hx : js[r]? = some x) : ((labA js ls joint lead)[r]? == some (r : Int)) = true ↔ x.id ≠ joint∧RootJ js ls joint lead r x:=by
 unfold labA;rw [List.getElem?_map,hx];simp only [Option.map_some,beq_iff_eq,Option.some.injEq]
 by_cases hj : x.id = joint
 ·constructor
  ·intro h;unfold labOf at h
   cases e : aget (togA js ls joint lead) x.id with
   | none=>rw [e] at h;simp only at h;omega
   | some v=>exact absurd hj ((V.tog_spec joint lead).val _ _ e).1
  ·intro h;exact absurd hj h.1
 ·rw [V.lab_root joint lead hx hj];exact ⟨fun h=>⟨hj,h⟩,fun h=>h.2⟩
theorem ConJ.weak {ls : List Lead} {joint lead lead' u v : Int} (h : ConJ ls joint lead u v) (hl : ∀ l ∈ ls,l.id ≠ lead→l.id ≠ lead') : ConJ ls joint lead' u v:=by
 induction h with
 | refl=>exact .refl _
 | step _ a ih=>
  obtain ⟨l,h1,h2,h3⟩:=a;exact .step ih ⟨l,h1,hl l h1 h2,h3⟩
theorem filter_lt {α : Type} {p q : α→Bool} : ∀ {l : List α},(∀ x ∈ l,p x = true→q x = true)→(∃ x ∈ l,q x = true∧p x = false)→(l.filter p).length < (l.filter q).length
 | [],_,h=>by obtain ⟨x,hx,_⟩:=h;cases hx
 | a :: l,h1,h2=>by
  have hle : ∀ l : List α,(∀ x ∈ l,p x = true→q x = true)→(l.filter p).length ≤ (l.filter q).length:=by
   intro l
   induction l with
   | nil=>intro _;exact Nat.le_refl _
   | cons a l ih=>
    intro h;have:=ih fun x hx=>h x (List.mem_cons_of_mem _ hx);simp only [List.filter_cons]
    by_cases hp : p a = true
    ·rw [if_pos hp,if_pos (h a (by simp) hp)];simp only [List.length_cons];omega
    ·rw [if_neg hp]
     split
     ·simp only [List.length_cons];omega
     ·exact this
  simp only [List.filter_cons];obtain ⟨x,hx,hq,hp⟩:=h2
  rcases List.mem_cons.1 hx with rfl | hx
  ·rw [if_neg (by simp [hp]),if_pos hq];have:=hle l fun x hx=>h1 x (List.mem_cons_of_mem _ hx);simp only [List.length_cons];omega
  ·have ih:=filter_lt (l:=l) (fun x hx=>h1 x (List.mem_cons_of_mem _ hx)) ⟨x,hx,hq,hp⟩
   by_cases hpa : p a = true
   ·rw [if_pos hpa,if_pos (h1 a (by simp) hpa)];simp only [List.length_cons];omega
   ·rw [if_neg hpa]
    split
    ·simp only [List.length_cons];omega
    ·exact ih
theorem ValidW.ids_pos {js : List Joint} {ls : List Lead} (V : ValidW js ls) {x : Joint} (hx : x ∈ js) : x.id ≠ 0:=by
 have:=(V.jok x hx).1;unfold zBg at this;simp only [Bool.and_eq_true,decide_eq_true_eq] at this;omega
theorem ValidW.lead_pos {js : List Joint} {ls : List Lead} (V : ValidW js ls) {l : Lead} (hl : l ∈ ls) : l.id ≠ 0:=by
 have:=V.lok l hl;unfold zBI zBg at this;simp only [Bool.and_eq_true,decide_eq_true_eq] at this;omega
theorem ValidW.lead_inj {js : List Joint} {ls : List Lead} (V : ValidW js ls) {l m : Lead} (hl : l ∈ ls) (hm : m ∈ ls) (h : l.id = m.id) : l = m:=by
 have h1:=V.lead hl;have h2:=V.lead hm;rw [h] at h1;rw [h1] at h2;exact Option.some.inj h2
theorem zC4 (js : List Joint) (ls : List Lead) (joint lead : Int) : (labA js ls joint lead).length = js.length:=by unfold labA;simp
theorem ValidW.bridge {js : List Joint} {ls : List Lead} (V : ValidW js ls) {l : Lead} (hl : l ∈ ls) : decide (zDG (labA js ls 0 0) < zDG (labA js ls 0 l.id)) = zBF js ls l:=by
 obtain ⟨i,hi,k,hk,e1,e2,_⟩:=V.ends hl;obtain ⟨a,ha⟩:=List.getElem?_of_mem hi;obtain ⟨b,hb⟩:=List.getElem?_of_mem hk;have hw : ∀ {u v : Int},ConJ ls 0 l.id u v→ConJ ls 0 0 u v:=fun h=>h.weak fun m hm _=>V.lead_pos hm;have hadj : ConJ ls 0 0 i.id k.id:=ConJ.one ⟨l,hl,V.lead_pos hl,V.ids_pos hi,V.ids_pos hk, .inl ⟨e1.symm,e2.symm⟩⟩;have hat : ∀ (lead : Int) (r : Nat) (x : Joint),js[r]? = some x→(((labA js ls 0 lead)[r]? == some (r : Int)) = true ↔ RootJ js ls 0 lead r x):=fun lead r x hx=>by
  rw [V.lab_at 0 lead hx];exact ⟨fun h=>h.2,fun h=>⟨V.ids_pos (List.mem_of_getElem? hx),h⟩⟩
 have hp:=V.part_eq 0 l.id ha hb (V.ids_pos hi) (V.ids_pos hk);unfold zBF;rw [← e1,← e2]
 by_cases hc : ConJ ls 0 l.id i.id k.id
 ·rw [decide_eq_true (hp.2 hc),Bool.not_true,decide_eq_false_iff_not];have hback : ∀ {u v : Int},ConJ ls 0 0 u v→ConJ ls 0 l.id u v:=fun h=>by
   induction h with
   | refl=>exact .refl _
   | step _ hd ih=>
    obtain ⟨m,hm,_,h2,h3,h4⟩:=hd
    by_cases hml : m.id = l.id
    ·have:=V.lead_inj hm hl hml;subst this
     rcases h4 with ⟨g1,g2⟩ | ⟨g1,g2⟩
     ·rw [← g1,← e1] at ih;rw [← g2,← e2];exact ih.trans hc
     ·rw [← g2,← e2] at ih;rw [← g1,← e1];exact ih.trans hc.symm
    ·exact .step ih ⟨m,hm,hml,h2,h3,h4⟩
  have : zDG (labA js ls 0 l.id) = zDG (labA js ls 0 0):=by
   unfold zDG;rw [zC4,zC4]
   congr 1
   refine List.filter_congr fun r hr=>?_;obtain ⟨x,hx⟩ : ∃ x,js[r]? = some x:=⟨_,List.getElem?_eq_getElem (List.mem_range.1 hr)⟩
   have h1:=hat l.id r x hx;have h2:=hat 0 r x hx;have h3 : RootJ js ls 0 l.id r x ↔ RootJ js ls 0 0 r x:=⟨fun h r' x' g1 g2 g3=>h r' x' g1 g2 (hback g3),fun h r' x' g1 g2 g3=>h r' x' g1 g2 (hw g3)⟩
   rw [Bool.eq_iff_iff,h1,h2,h3]
  omega
 ·rw [decide_eq_false (fun h=>hc (hp.1 h)),Bool.not_false,decide_eq_true_eq];unfold zDG;rw [zC4,zC4];refine filter_lt (fun r hr h=>?_) ?_
  ·obtain ⟨x,hx⟩ : ∃ x,js[r]? = some x:=⟨_,List.getElem?_eq_getElem (List.mem_range.1 hr)⟩
   rw [hat 0 r x hx] at h;rw [hat l.id r x hx];exact fun r' x' g1 g2 g3=>h r' x' g1 g2 (hw g3)
  ·obtain ⟨r1,u,c1,_,_,c4,c5,_⟩:=V.part_root 0 l.id ha (V.ids_pos hi);obtain ⟨r2,v,d1,_,_,d4,d5,_⟩:=V.part_root 0 l.id hb (V.ids_pos hk);have huv : ConJ ls 0 0 u.id v.id:=((hw c4).trans hadj).trans (hw d4).symm;have hne : r1 ≠ r2:=by
    intro e;subst e;rw [c1] at d1;cases d1;exact hc (c4.symm.trans d4)
   have hlt : ∀ (r : Nat) (x : Joint),js[r]? = some x→r ∈ List.range js.length:=fun r x h=>List.mem_range.2 (List.getElem?_eq_some_iff.1 h).1
   rcases Nat.lt_or_ge r1 r2 with q | q
   ·refine ⟨r2,hlt _ _ d1,(hat l.id r2 v d1).2 d5, ?_⟩;rw [← Bool.not_eq_true,hat 0 r2 v d1];exact fun h=>h r1 u c1 q huv
   ·refine ⟨r1,hlt _ _ c1,(hat l.id r1 u c1).2 c5, ?_⟩;rw [← Bool.not_eq_true,hat 0 r1 u c1];exact fun h=>h r2 v d1 (by omega) huv.symm
end Go.Proofs.YtbbblemfodpmaaaGreat
end
section
namespace Go.Proofs.YtbbblemfodpmaaaGreat
open Go.RowKit
def zEJ (l rest : List Int) (i : Nat) (a : Int × Bool) (k : Nat) : Int × Bool:=
 if (decide (k = i) || !(decide ((l[k]?).getD 0 = (l[i]?).getD 0))) = true then a
 else ((if a.1 < 0 then (rest[k]?).getD 0 else a.1),a.2 || !decide ((rest[k]?).getD 0 = (if a.1 < 0 then (rest[k]?).getD 0 else a.1)))
def pinR (l rest : List Int) (i n : Nat) : Int × Bool:=(List.range n).foldl (zEJ l rest i) (-1,false)
def zC5 (l : List Int) (i k : Nat) : Prop:=k ≠ i∧(l[k]?).getD 0 = (l[i]?).getD 0
theorem pinR_spec (l rest : List Int) (i : Nat) (hr : ∀ k,zC5 l i k→k < rest.length→0 ≤ (rest[k]?).getD 0) : ∀ n,n ≤ rest.length→
  ((pinR l rest i n).1 < 0 ↔ ∀ k,k < n→¬ zC5 l i k)∧(0 ≤ (pinR l rest i n).1→∃ k,k < n∧zC5 l i k∧(rest[k]?).getD 0 = (pinR l rest i n).1)∧
  ((pinR l rest i n).2 = true ↔ ∃ k,k < n∧zC5 l i k∧(rest[k]?).getD 0 ≠ (pinR l rest i n).1)
 | 0,_=>by
  unfold pinR;refine ⟨by simp,fun h=>?_, ?_⟩
  ·simp at h
  ·simp
 | n + 1,hn=>by
  obtain ⟨h1,h2,h3⟩:=pinR_spec l rest i hr n (by omega);have e : pinR l rest i (n + 1) = zEJ l rest i (pinR l rest i n) n:=by
   unfold pinR;rw [List.range_succ,List.foldl_append];rfl
  rw [e];generalize pinR l rest i n = a at h1 h2 h3;obtain ⟨a1,a2⟩:=a;simp only at h1 h2 h3;unfold zEJ
  by_cases hc : zC5 l i n
  ·have hc2 : (decide (n = i) || !(decide ((l[n]?).getD 0 = (l[i]?).getD 0))) = false:=by simp [hc.1,hc.2]
   rw [if_neg (by rw [hc2];decide)];have hrn:=hr n hc (by omega)
   by_cases ha : a1 < 0
   ·simp only [if_pos ha];have hno:=h1.1 ha;refine ⟨⟨fun h=>by omega,fun h=>absurd hc (h n (by omega))⟩,fun _=>⟨n,by omega,hc,rfl⟩, ?_⟩;have ha2 : a2 = false:=by
     cases a2 with
     | false=>rfl
     | true=>obtain ⟨k,k1,k2,_⟩:=h3.1 rfl;exact absurd k2 (hno k k1)
    rw [ha2];simp only [decide_true,Bool.not_true,Bool.or_self]
    constructor
    ·intro h;cases h
    ·rintro ⟨k,k1,k2,k3⟩
     rcases Nat.lt_or_ge k n with q | q
     ·exact absurd k2 (hno k q)
     ·have : k = n:=by omega
      subst this;exact absurd rfl k3
   ·simp only [if_neg ha];refine ⟨⟨fun h=>absurd h ha,fun h=>absurd hc (h n (by omega))⟩,fun h=>?_, ?_⟩
    ·obtain ⟨k,k1,k2,k3⟩:=h2 h;exact ⟨k,by omega,k2,k3⟩
    ·simp only [Bool.or_eq_true,Bool.not_eq_true',decide_eq_false_iff_not,h3]
     constructor
     ·rintro (⟨k,k1,k2,k3⟩ | h)
      ·exact ⟨k,by omega,k2,k3⟩
      ·exact ⟨n,by omega,hc,h⟩
     ·rintro ⟨k,k1,k2,k3⟩
      rcases Nat.lt_or_ge k n with q | q
      ·exact .inl ⟨k,q,k2,k3⟩
      ·have : k = n:=by omega
       subst this;exact .inr k3
  ·have hc2 : (decide (n = i) || !(decide ((l[n]?).getD 0 = (l[i]?).getD 0))) = true:=by
    unfold zC5 at hc
    by_cases q : n = i
    ·simp [q]
    ·have : ¬ (l[n]?).getD 0 = (l[i]?).getD 0:=fun h=>hc ⟨q,h⟩;simp [this]
   rw [if_pos hc2];have hiff : ∀ p : Nat→Prop,(∃ k,k < n + 1∧zC5 l i k∧p k) ↔ ∃ k,k < n∧zC5 l i k∧p k:=fun p=>by
    constructor
    ·rintro ⟨k,k1,k2,k3⟩
     rcases Nat.lt_or_ge k n with q | q
     ·exact ⟨k,q,k2,k3⟩
     ·have : k = n:=by omega
      subst this;exact absurd k2 hc
    ·rintro ⟨k,k1,k2,k3⟩;exact ⟨k,by omega,k2,k3⟩
   refine ⟨?_,fun h=>?_, ?_⟩
   ·rw [h1]
    constructor
    ·intro h k k1
     rcases Nat.lt_or_ge k n with q | q
     ·exact h k q
     ·have : k = n:=by omega
      subst this;exact hc
    ·intro h k k1;exact h k (by omega)
   ·rw [hiff];exact h2 h
   ·rw [hiff];exact h3
theorem ValidW.con_in {js : List Joint} {ls : List Lead} (V : ValidW js ls) {joint lead u w : Int} (hu : ∃ (a : Nat) (x : Joint),js[a]? = some x∧x.id = u) (h : ConJ ls joint lead u w) : ∃ (a : Nat) (x : Joint),js[a]? = some x∧x.id = w:=by
 induction h with
 | refl=>exact hu
 | step _ hd _=>
  obtain ⟨l,hl,_,_,_,h4⟩:=hd;obtain ⟨i,hi,k,hk,e1,e2,_⟩:=V.ends hl;obtain ⟨ia,hia⟩:=List.getElem?_of_mem hi;obtain ⟨kb,hkb⟩:=List.getElem?_of_mem hk
  rcases h4 with ⟨_,g2⟩ | ⟨g1,_⟩
  ·exact ⟨kb,k,hkb,by rw [e2,g2]⟩
  ·exact ⟨ia,i,hia,by rw [e1,g1]⟩
theorem ValidW.lab_part {js : List Joint} {ls : List Lead} (V : ValidW js ls) (joint lead : Int) {a b : Nat} {x y : Joint} (ha : js[a]? = some x) (hb : js[b]? = some y) (h1 : x.id ≠ joint) (h2 : y.id ≠ joint) : labOf js (togA js ls joint lead) x = labOf js (togA js ls joint lead) y ↔ zA8 (togA js ls joint lead) x.id = zA8 (togA js ls joint lead) y.id:=by
 obtain ⟨r1,u,c1,c2,_,_,_,_,c7⟩:=V.part_root joint lead ha h1;obtain ⟨r2,v,d1,d2,_,_,_,_,d7⟩:=V.part_root joint lead hb h2;unfold zA8;rw [c2,d2,c7,d7];simp only [Option.getD_some]
 constructor
 ·intro h;have : r1 = r2:=by omega
  subst this;rw [c1] at d1;cases d1;rfl
 ·intro h;rw [V.id_inj c1 d1 h]
theorem zDx (js : List Joint) (ls : List Lead) (joint lead : Int) {k : Nat} {y : Joint} (hy : js[k]? = some y) : ((labA js ls joint lead)[k]?).getD 0 = labOf js (togA js ls joint lead) y:=by
 unfold labA;rw [List.getElem?_map,hy];rfl
theorem two_of {α : Type} [DecidableEq α] : ∀ {l : List α},l.Nodup→(1 < l.length ↔ ∃ a ∈ l,∃ b ∈ l,a ≠ b)
 | [],_=>by simp
 | [a],_=>by simp
 | a :: b :: l,h=>by
  constructor
  ·intro _;refine ⟨a,by simp,b,by simp,fun e=>?_⟩;subst e;simp at h
  ·intro _;simp
theorem zFx (js : List Joint) (ls : List Lead) (joint lead first : Int) : ∀ (f : Nat) (m : List (Int × Int)) (j : Int),(m.map Prod.fst).Nodup→((zAT js ls joint lead first f m j).map Prod.fst).Nodup
 | 0,m,j,h=>h
 | f + 1,m,j,h=>by
  simp only [zAT]
  split
  ·exact h
  ·have key : ∀ (l : List Side) (acc : List (Int × Int)),(acc.map Prod.fst).Nodup→((l.foldl (fun m s=>if s.lead = lead then m else zAT js ls joint lead first f m (zAl ls s).2) acc).map Prod.fst).Nodup:=by
    intro l
    induction l with
    | nil=>exact fun acc h=>h
    | cons s l ih=>
     intro acc h;rw [List.foldl_cons];refine ih _ ?_
     split
     ·exact h
     ·exact zFx js ls joint lead first f acc _ h
   exact key _ _ (zET h _ _)
theorem tog_nodup (js : List Joint) (ls : List Lead) (joint lead : Int) : ((togA js ls joint lead).map Prod.fst).Nodup:=by
 have key : ∀ (l : List Joint) (m : List (Int × Int)),(m.map Prod.fst).Nodup→((l.foldl (fun m x=>zAT js ls joint lead x.id (js.length + 1) m x.id) m).map Prod.fst).Nodup:=by
  intro l
  induction l with
  | nil=>exact fun m h=>h
  | cons x l ih=>exact fun m h=>by rw [List.foldl_cons];exact ih _ (zFx js ls joint lead x.id _ m _ h)
 exact key js [] (by simp)
theorem mem_of_get {m : List (Int × Int)} {k v : Int} (h : aget m k = some v) : (k,v) ∈ m:=by
 unfold aget at h
 cases hf : m.find? (fun p=>decide (p.1 = k)) with
 | none=>rw [hf] at h;cases h
 | some p=>
  rw [hf] at h;have h1:=List.find?_some hf;have h2:=List.mem_of_find?_eq_some hf;simp only [decide_eq_true_eq] at h1;simp only [Option.map_some,Option.some.injEq] at h;obtain ⟨p1,p2⟩:=p;simp only at h1 h;rw [← h1,← h];exact h2
theorem ValidW.pinch {js : List Joint} {ls : List Lead} (V : ValidW js ls) {i : Nat} {x : Joint} (hx : js[i]? = some x) : (pinR (labA js ls 0 0) (labA js ls x.id 0) i js.length).2 = zCd js ls x:=by
 have hpos : ∀ {k : Nat} {y : Joint},js[k]? = some y→y.id ≠ 0:=fun h=>V.ids_pos (List.mem_of_getElem? h);have hin : ∀ (k : Nat) (y : Joint),js[k]? = some y→(zC5 (labA js ls 0 0) i k ↔ y.id ≠ x.id∧zA8 (togA js ls 0 0) y.id = zA8 (togA js ls 0 0) x.id):=fun k y hy=>by
  unfold zC5;rw [zDx js ls 0 0 hy,zDx js ls 0 0 hx,V.lab_part 0 0 hy hx (hpos hy) (hpos hx)]
  constructor
  ·rintro ⟨h1,h2⟩;exact ⟨fun e=>h1 (V.id_inj hy hx e),h2⟩
  ·rintro ⟨h1,h2⟩;refine ⟨fun e=>?_,h2⟩;subst e;rw [hx] at hy;cases hy;exact h1 rfl
 have hrest : ∀ (k : Nat) (y : Joint),js[k]? = some y→y.id ≠ x.id→0 ≤ ((labA js ls x.id 0)[k]?).getD 0:=fun k y hy hn=>by
  rw [zDx js ls x.id 0 hy];obtain ⟨r0,_,_,_,_,_,_,_,h⟩:=V.part_root x.id 0 hy hn;rw [h];omega
 obtain ⟨s1,s2,s3⟩:=pinR_spec (labA js ls 0 0) (labA js ls x.id 0) i (fun k hk hkl=>by
  rw [zC4] at hkl;obtain ⟨y,hy⟩ : ∃ y,js[k]? = some y:=⟨_,List.getElem?_eq_getElem hkl⟩
  exact hrest k y hy ((hin k y hy).1 hk).1) js.length (by rw [zC4];exact Nat.le_refl _)
 have hL : (pinR (labA js ls 0 0) (labA js ls x.id 0) i js.length).2 = true ↔ ∃ (a b : Nat) (y z : Joint),js[a]? = some y∧js[b]? = some z∧zC5 (labA js ls 0 0) i a∧zC5 (labA js ls 0 0) i b∧((labA js ls x.id 0)[a]?).getD 0 ≠ ((labA js ls x.id 0)[b]?).getD 0:=by
  rw [s3]
  constructor
  ·rintro ⟨k,k1,k2,k3⟩;have h0 : 0 ≤ (pinR (labA js ls 0 0) (labA js ls x.id 0) i js.length).1:=by
    refine Decidable.byContradiction fun q=>?_;exact s1.1 (by omega) k k1 k2
   obtain ⟨k',q1,q2,q3⟩:=s2 h0;exact ⟨k,k',_,_,List.getElem?_eq_getElem k1,List.getElem?_eq_getElem q1,k2,q2,by rw [q3];exact k3⟩
  ·rintro ⟨a,b,y,z,h1,h2,h3,h4,h5⟩
   by_cases e : ((labA js ls x.id 0)[a]?).getD 0 = (pinR (labA js ls 0 0) (labA js ls x.id 0) i js.length).1
   ·exact ⟨b,(List.getElem?_eq_some_iff.1 h2).1,h4,fun e2=>h5 (e.trans e2.symm)⟩
   ·exact ⟨a,(List.getElem?_eq_some_iff.1 h1).1,h3,e⟩
 rw [Bool.eq_iff_iff,hL];unfold zCd;rw [decide_eq_true_eq,← List.length_map (f:=Prod.fst),two_of (zFE _ _)];have hkey : ∀ v,v ∈ (restL (togA js ls x.id 0) fun p=>decide (zA8 (togA js ls 0 0) p.1 = zA8 (togA js ls 0 0) x.id)).map Prod.fst ↔ ∃ (a : Nat) (y : Joint),js[a]? = some y∧zC5 (labA js ls 0 0) i a∧aget (togA js ls x.id 0) y.id = some v:=fun v=>by
  rw [← zES,restL_has]
  constructor
  ·rintro ⟨⟨p1,p2⟩,hp,hc,rfl⟩;simp only [decide_eq_true_eq] at hc;have hg:=zCl (tog_nodup js ls x.id 0) hp;simp only at hg;obtain ⟨hne,r,y0,c1,_,c3,_,c5,_⟩:=(V.tog_spec x.id 0).val _ _ hg;obtain ⟨a,y,hy,hyi⟩:=V.con_in ⟨r,y0,c1,c3⟩ c5;refine ⟨a,y,hy,(hin a y hy).2 ⟨by rw [hyi];exact hne,by rw [hyi];exact hc⟩,by rw [hyi];exact hg⟩
  ·rintro ⟨a,y,hy,hi,hg⟩;exact ⟨(y.id,v),mem_of_get hg,by simpa using ((hin a y hy).1 hi).2,rfl⟩
 constructor
 ·rintro ⟨a,b,y,z,h1,h2,h3,h4,h5⟩;have hy:=((hin a y h1).1 h3).1;have hz:=((hin b z h2).1 h4).1;obtain ⟨r1,u,c1,c2,_⟩:=V.part_root x.id 0 h1 hy;obtain ⟨r2,v,d1,d2,_⟩:=V.part_root x.id 0 h2 hz;refine ⟨u.id,(hkey _).2 ⟨a,y,h1,h3,c2⟩,v.id,(hkey _).2 ⟨b,z,h2,h4,d2⟩,fun e=>h5 ?_⟩;rw [zDx js ls x.id 0 h1,zDx js ls x.id 0 h2,V.lab_part x.id 0 h1 h2 hy hz];unfold zA8;rw [c2,d2,e]
 ·rintro ⟨u,hu,v,hv,hne⟩;obtain ⟨a,y,h1,h3,c2⟩:=(hkey u).1 hu;obtain ⟨b,z,h2,h4,d2⟩:=(hkey v).1 hv;refine ⟨a,b,y,z,h1,h2,h3,h4,fun e=>hne ?_⟩;rw [zDx js ls x.id 0 h1,zDx js ls x.id 0 h2,V.lab_part x.id 0 h1 h2 ((hin a y h1).1 h3).1 ((hin b z h2).1 h4).1] at e;unfold zA8 at e;rw [c2,d2] at e;simpa using e
end Go.Proofs.YtbbblemfodpmaaaGreat
end
section
namespace Go.Proofs.YtbbblemfodpmaaaGreat
open Go.RowKit
end Go.Proofs.YtbbblemfodpmaaaGreat
end
section
namespace Go.Proofs.YtbbblemfodpmaaaGreat
open Go.RowKit
end Go.Proofs.YtbbblemfodpmaaaGreat
end
section
namespace Go.Proofs.YtbbblemfodpmaaaGreat
open Go.RowKit
def jIx (js : List Joint) (id : Int) : Nat:=(idxI (fun x=>decide (x.id = id)) js).toNat
def lbl (L : List Int) (i : Nat) : Int:=(L[i]?).getD 0
def noLab (js : List Joint) (lead : Int) (L : List Int) (l : Lead) : Bool:=l.id == lead || decide (lbl L (jIx js l.a) < 0) || decide (lbl L (jIx js l.b) < 0) || lbl L (jIx js l.a) == lbl L (jIx js l.b)
def setLab (js : List Joint) (L : List Int) (l : Lead) : List Int:=(L.set (jIx js l.a) (min (lbl L (jIx js l.a)) (lbl L (jIx js l.b)))).set (jIx js l.b) (min (lbl L (jIx js l.a)) (lbl L (jIx js l.b)))
def zEK (js : List Joint) (lead : Int) (a : List Int × Bool) (l : Lead) : List Int × Bool:=if noLab js lead a.1 l = true then a else (setLab js a.1 l,true)
def sumL (L : List Int) : Nat:=(L.map Int.toNat).sum
theorem sum_set : ∀ (L : List Int) (i : Nat) (x y : Int),L[i]? = some y→sumL (L.set i x) + y.toNat = sumL L + x.toNat
 | [],i,x,y,h=>by simp at h
 | a :: L,0,x,y,h=>by
  simp only [List.getElem?_cons_zero,Option.some.injEq] at h;subst h;simp only [List.set_cons_zero,sumL,List.map_cons,List.sum_cons];omega
 | a :: L,i + 1,x,y,h=>by
  have:=sum_set L i x y (by simpa using h);simp only [List.set_cons_succ,sumL,List.map_cons,List.sum_cons] at this ⊢;omega
theorem ValidW.jIx_at {js : List Joint} {ls : List Lead} (V : ValidW js ls) {a : Nat} {x : Joint} (h : js[a]? = some x) : jIx js x.id = a:=by
 unfold jIx;rw [V.idx_at h];rfl
theorem ValidW.lab_set {js : List Joint} {ls : List Lead} (V : ValidW js ls) {joint lead : Int} {L : List Int} (hI : LabI js ls joint lead L) {l : Lead} (hl : l ∈ ls) (hn : noLab js lead L l = false) :
  LabI js ls joint lead (setLab js L l)∧sumL (setLab js L l) < sumL L:=by
 obtain ⟨i,hi,k,hk,e1,e2,e3,_⟩:=V.ends hl;obtain ⟨a,ha⟩:=List.getElem?_of_mem hi;obtain ⟨b,hb⟩:=List.getElem?_of_mem hk;unfold noLab at hn;simp only [Bool.or_eq_false_iff,beq_eq_false_iff_ne,decide_eq_false_iff_not,ne_eq] at hn;obtain ⟨⟨⟨n1,n2⟩,n3⟩,n4⟩:=hn;rw [← e1,← e2] at n4;rw [← e1] at n2;rw [← e2] at n3;unfold setLab;rw [← e1,← e2];rw [V.jIx_at ha,V.jIx_at hb] at *;have hab : a ≠ b:=fun e=>by
  subst e;rw [ha] at hb;cases hb;exact e3 (e1.symm.trans e2)
 have hij : i.id ≠ joint:=fun e=>by
  have:=hI.out a i ha e;unfold lbl at n2;rw [this] at n2;simp at n2
 have hkj : k.id ≠ joint:=fun e=>by
  have:=hI.out b k hb e;unfold lbl at n3;rw [this] at n3;simp at n3
 obtain ⟨q1,y1,c1,c2,c3,c4,c5⟩:=hI.lab a i ha hij;obtain ⟨q2,y2,d1,d2,d3,d4,d5⟩:=hI.lab b k hb hkj;have u1 : lbl L a = q1:=by unfold lbl;rw [c1];rfl
 have u2 : lbl L b = q2:=by unfold lbl;rw [d1];rfl
 rw [u1,u2] at n4 ⊢;have hadj : AdjJ ls joint lead i.id k.id:=⟨l,hl,n1,hij,hkj, .inl ⟨e1.symm,e2.symm⟩⟩
 obtain ⟨q,hq⟩ : ∃ q,min q1 q2 = q:=⟨_,rfl⟩
 have hmin : min (q1 : Int) (q2 : Int) = (q : Int):=by omega
 rw [hmin];obtain ⟨y,f1,f2,f3,f4⟩ : ∃ y,js[q]? = some y∧y.id ≠ joint∧ConJ ls joint lead y.id i.id∧ConJ ls joint lead y.id k.id:=by
  rcases Nat.le_total q1 q2 with h | h
  ·have : q = q1:=by omega
   subst this;exact ⟨y1,c3,c4,c5,c5.trans (.one hadj)⟩
  ·have : q = q2:=by omega
   subst this;exact ⟨y2,d3,d4,d5.trans (.one hadj.symm),d5⟩
 have la : a < L.length:=(List.getElem?_eq_some_iff.1 c1).1;have lb : b < L.length:=(List.getElem?_eq_some_iff.1 d1).1;have hget : ∀ r,((L.set a (q : Int)).set b (q : Int))[r]? = if r = a ∨ r = b then some (q : Int) else L[r]?:=fun r=>by
  rw [List.getElem?_set,List.getElem?_set];simp only [List.length_set]
  by_cases h1 : b = r
  ·subst h1;simp [lb]
  ·by_cases h2 : a = r
   ·subst h2;simp [h1,la]
   ·have h3 : ¬ (r = a ∨ r = b):=fun e=>e.elim (fun e=>h2 e.symm) fun e=>h1 e.symm;rw [if_neg h1,if_neg h2,if_neg h3]
 refine ⟨⟨by simp only [List.length_set];exact hI.len,fun r x hx hxj=>?_,fun r x hx hxj=>?_⟩, ?_⟩
 ·rw [hget,if_neg ?_]
  ·exact hI.out r x hx hxj
  ·rintro (rfl | rfl)
   ·rw [ha] at hx;cases hx;exact hij hxj
   ·rw [hb] at hx;cases hx;exact hkj hxj
 ·by_cases h : r = a ∨ r = b
  ·refine ⟨q,y,by rw [hget,if_pos h], ?_,f1,f2, ?_⟩
   ·rcases h with rfl | rfl <;> omega
   ·rcases h with rfl | rfl
    ·rw [ha] at hx;cases hx;exact f3
    ·rw [hb] at hx;cases hx;exact f4
  ·obtain ⟨q',y',g1,g2⟩:=hI.lab r x hx hxj;exact ⟨q',y',by rw [hget,if_neg h];exact g1,g2⟩
 ·have s1:=sum_set L a (q : Int) (q1 : Int) c1;have s2:=sum_set (L.set a (q : Int)) b (q : Int) (q2 : Int) (by rw [List.getElem?_set,if_neg hab];exact d1);simp only [Int.toNat_natCast] at s1 s2;omega
theorem lab_none {js : List Joint} {ls : List Lead} (V : ValidW js ls) {joint lead : Int} {L : List Int} (hI : LabI js ls joint lead L) (h : ∀ l ∈ ls,noLab js lead L l = true) : LabF js ls lead L:=fun l hl hn a b x y hx hy e1 e2 u v hu hv=>by
 have h1:=h l hl;unfold noLab at h1;rw [← e1,← e2,V.jIx_at hx,V.jIx_at hy] at h1;unfold lbl at h1;rw [hu,hv] at h1;simp only [Option.getD_some,Bool.or_eq_true,beq_iff_eq,decide_eq_true_eq] at h1
 rcases h1 with ((h1 | h1) | h1) | h1
 ·exact absurd h1 hn
 ·exact .inl h1
 ·exact .inr (.inl h1)
 ·exact .inr (.inr h1)
structure RoundI (js : List Joint) (ls : List Lead) (joint lead : Int) (L0 : List Int) (k : Nat) (L : List Int) (ch : Bool) : Prop where
 inv : LabI js ls joint lead L
 same : ch = false→L = L0∧∀ l ∈ ls.take k,noLab js lead L0 l = true
 less : ch = true→sumL L < sumL L0
theorem ValidW.round_step {js : List Joint} {ls : List Lead} (V : ValidW js ls) {joint lead : Int} {L0 L : List Int} {k : Nat} {ch : Bool} {l : Lead} (hl : ls[k]? = some l) (h : RoundI js ls joint lead L0 k L ch) : RoundI js ls joint lead L0 (k + 1) (zEK js lead (L,ch) l).1 (zEK js lead (L,ch) l).2:=by
 unfold zEK;simp only
 cases hn : noLab js lead L l with
 | true=>
  simp only [if_true];refine ⟨h.inv,fun e=>⟨(h.same e).1,fun m hm=>?_⟩,h.less⟩;rw [List.take_add_one,hl] at hm
  rcases List.mem_append.1 hm with hm | hm
  ·exact (h.same e).2 m hm
  ·obtain rfl : m = l:=by simpa using hm
   rw [← (h.same e).1];exact hn
 | false=>
  simp only [Bool.false_eq_true,if_false];obtain ⟨h1,h2⟩:=V.lab_set h.inv (List.mem_of_getElem? hl) hn;refine ⟨h1,fun e=>(by cases e),fun _=>?_⟩
  cases ch with
  | false=>rw [← (h.same rfl).1];exact h2
  | true=>exact Nat.lt_trans h2 (h.less rfl)
theorem ValidW.round_done {js : List Joint} {ls : List Lead} (V : ValidW js ls) {joint lead : Int} {L0 L : List Int} (h : RoundI js ls joint lead L0 ls.length L false) : L = labA js ls joint lead:=by
 obtain ⟨rfl,h2⟩:=h.same rfl;rw [List.take_length] at h2;exact V.lab_done h.inv (lab_none V h.inv h2)
def zBC (js : List Joint) (joint : Int) (k : Nat) : List Int:=(List.range k).map fun r : Nat=>if ((js[r]?).map (·.id)).getD 0 = joint then -1 else (r : Int)
theorem lab_start (js : List Joint) (ls : List Lead) (joint lead : Int) : LabI js ls joint lead (zBC js joint js.length):=by
 have hg : ∀ (r : Nat) (x : Joint),js[r]? = some x→(zBC js joint js.length)[r]? = some (if x.id = joint then -1 else (r : Int)):=fun r x hx=>by
  unfold zBC;rw [List.getElem?_map,List.getElem?_range (List.getElem?_eq_some_iff.1 hx).1,Option.map_some,hx]
  rfl
 refine ⟨by unfold zBC;simp,fun r x hx h=>by rw [hg r x hx,if_pos h],fun r x hx h=>⟨r,x,by rw [hg r x hx,if_neg h],Nat.le_refl _,hx,h, .refl _⟩⟩
end Go.Proofs.YtbbblemfodpmaaaGreat
end
section
namespace Go.Proofs.YtbbblemfodpmaaaGreat
open Go.RowKit
end Go.Proofs.YtbbblemfodpmaaaGreat
end
