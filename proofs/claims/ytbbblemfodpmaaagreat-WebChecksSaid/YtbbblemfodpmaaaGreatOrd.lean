/-A statement whose order Go leaves open, walked in ONE order: operations that yield the same value in every world that lies above the one at hand-/
import Derived.Deep.RegionHeld3
import Derived.Below
set_option linter.unusedVariables false
set_option linter.unusedSimpArgs false
set_option maxHeartbeats 16000000
set_option maxRecDepth 100000
section
namespace Go.Proofs.YtbbblemfodpmaaaGreat
open Go.RowKit
section
variable {P : Program} {ops : Array Oper} {Q : Exit→Act→World→Prop}
theorem pTs (l : List Value) (ds : List Deferred) (n : Nat) (v : Value) : Act.put ⟨l.toArray,ds⟩ (some n) v = ⟨(l.set n v).toArray,ds⟩:=by simp [Act.put]
theorem pTn (a : Act) (v : Value) : a.put none v = a:=rfl
theorem pTz {α : Type} (x y : α) (l : List α) : (x :: l).set 0 y = y :: l:=rfl
theorem pTc {α : Type} (x y : α) (l : List α) (n : Nat) : (x :: l).set (n + 1) y = x :: l.set n y:=rfl
theorem pT : (∀ (l : List Value) (ds : List Deferred) (n : Nat) (v : Value),Act.put ⟨l.toArray,ds⟩ (some n) v = ⟨(l.set n v).toArray,ds⟩)∧(∀ (a : Act) (v : Value),a.put none v = a)∧(∀ (x y : Value) (l : List Value),(x :: l).set 0 y = y :: l)∧∀ (x y : Value) (l : List Value) (n : Nat),(x :: l).set (n + 1) y = x :: l.set n y:=
 ⟨fun l ds n v=>pTs l ds n v,fun a v=>pTn a v,fun x y l=>pTz x y l,fun x y l n=>pTc x y l n⟩
theorem zFz {md : Region.Mode} {S S' : World→Prop} (hS : ∀ W,S W→S' W) : ∀ (fuel : Nat) (listed : Array Bool) (a : Act) (w : World),
  wpAnyH P md ops Q S fuel listed a w→wpAnyH P md ops Q S' fuel listed a w
 | 0,_,_,_,h=>h
 | fuel + 1,_,_,_,h=>⟨h.1,fun i hi=>wpOp_mono (fun a' w' h'=>⟨hS _ h'.1,zFz hS fuel _ a' w' h'.2⟩) (h.2 i hi)⟩
def zCE (ops : Array Oper) : List (Nat × Bool)→Array Bool→Bool
 | [],listed=>(Region.ready .any ops listed).isEmpty
 | (i,f) :: rest,listed=>
  (if f then (Region.ready .any ops listed).contains i && Region.free .any ops listed i else Region.ready .any ops listed == [i]) && zCE ops rest (listed.setIfInBounds i true)
def wpB (P : Program) (ops : Array Oper) (Q : Exit→Act→World→Prop) : List (Nat × Bool)→Act→World→Prop
 | [],a,w=>Q .normal a w
 | (i,true) :: rest,a,w=>∃ o v,ops[i]? = some o∧YieldsIf P ops (Below w.heap.size w) o v a∧wpB P ops Q rest (a.put o.dst v) w
 | (i,false) :: rest,a,w=>wpOp P ops Q i (fun a' w'=>Below w.heap.size w w'∧wpB P ops Q rest a' w') a w
theorem zFg (hs : Region.noSelect ops = true) (hQ : ∀ d c (a : Act) v w,Q (.panic c) (a.put d v) w→Q (.panic c) a w) : ∀ (ord : List (Nat × Bool)) (fuel : Nat) (listed : Array Bool) (a : Act) (w : World),
  zCE ops ord listed = true→ord.length ≤ fuel→wpB P ops Q ord a w→wpAnyH P .any ops Q (Below w.heap.size w) fuel listed a w
 | [],fuel,listed,a,w,hok,_,h=>wpAnyH_done (by simpa [zCE] using hok) h fuel
 | (i,true) :: rest,0,_,_,_,_,hl,_=>by simp at hl
 | (i,false) :: rest,0,_,_,_,_,hl,_=>by simp at hl
 | (i,true) :: rest,fuel + 1,listed,a,w,hok,hl,h=>by
  obtain ⟨o,v,hi,hy,hrest⟩:=h;simp only [zCE,if_true,Bool.and_eq_true] at hok;obtain ⟨⟨hr,hf⟩,hok'⟩:=hok;exact wpAnyH_first hi (Region.noSelect_spec hs) (fun c a w h=>hQ o.dst c a v w h) fuel listed a w (Region.free_spec hi hf) (by simpa using hr) hy (Below.refl _ _)
   (zFg hs hQ rest fuel _ _ w hok' (by simpa using hl) hrest)
 | (i,false) :: rest,fuel + 1,listed,a,w,hok,hl,h=>by
  simp only [zCE,Bool.false_eq_true,if_false,Bool.and_eq_true,beq_iff_eq] at hok;obtain ⟨hr,hok'⟩:=hok;refine wpAnyH_all hr (by simp) fun j hj=>?_;obtain rfl : j = i:=by simpa using hj
  exact wpOp_mono (fun a' w' h'=>⟨h'.1,zFz (fun W hW=>h'.1.trans (hW.mono h'.1.size)) fuel _ a' w' (zFg hs hQ rest fuel _ a' w' hok' (by simpa using hl) h'.2)⟩) h
theorem wp_region_ord (ord : List (Nat × Bool)) {id : Nat} {a : Act} {w : World} (hm : P.follows .mixedOrders = true) (hs : Region.noSelect ops = true)
  (hok : (decide (ord.length ≤ ops.size) && zCE ops ord (Array.replicate ops.size false)) = true)
  (hQ : ∀ d c (a : Act) v w,Q (.panic c) (a.put d v) w→Q (.panic c) a w) (h : wpB P ops Q ord a w.drew) : (Code.region id ops true).wp P Q a w:=by
 simp only [Bool.and_eq_true,decide_eq_true_eq] at hok;exact wp_region_held (S:=Below w.drew.heap.size w.drew) hm (zFg hs hQ ord ops.size _ a w.drew hok.2 hok.1 h)
theorem rgO (ord : List (Nat × Bool)) {id : Nat} {a : Act} {w : World} (h : wpB P ops Q ord a w.drew) (hm : P.follows .mixedOrders = true:=by rfl) (hs : Region.noSelect ops = true:=by kernel_rfl) (hok : (decide (ord.length ≤ ops.size) && zCE ops ord (Array.replicate ops.size false)) = true:=by kernel_rfl) (hQ : ∀ d c (a : Act) v w,Q (.panic c) (a.put d v) w→Q (.panic c) a w:=by intro d c a v w h;cases d <;> exact h) : (Code.region id ops true).wp P Q a w:=
 wp_region_ord ord hm hs hok hQ h
theorem zAf {i : Nat} {rest : List (Nat × Bool)} {a : Act} {w : World} {dst : Option Tmp} {op : Op} {ty : TypeId} {pos : String} {after : Array Edge} {g : Option (Nat × Bool)} {v : Value} (hi : ops[i]? = some ⟨dst,op,ty,pos,after,g⟩)
  (hw : Region.wanted ⟨dst,op,ty,pos,after,g⟩ (yielded ops a.tmps) = true)
  (hrun : ∀ W,Below w.heap.size w W→(execOp a.eval ⟨dst,op,ty,pos,after,g⟩).run P W = .ok (.value v) W) (h : wpB P ops Q rest (a.put dst v) w) : wpB P ops Q ((i,true) :: rest) a w:=
 ⟨_,v,hi, .inl ⟨hw,hrun⟩,h⟩
theorem wB {i : Nat} {rest : List (Nat × Bool)} {a : Act} {w : World} {dst : Option Tmp} {op : Op} {ty : TypeId} {pos : String} {after : Array Edge} {g : Option (Nat × Bool)} {v : Value} (hi : ops[i]? = some ⟨dst,op,ty,pos,after,g⟩) (h : wpB P ops Q rest (a.put dst v) w) (hw : Region.wanted ⟨dst,op,ty,pos,after,g⟩ (yielded ops a.tmps) = true:=by exact rfl) (hrun : ∀ W,Below w.heap.size w W→(execOp a.eval ⟨dst,op,ty,pos,after,g⟩).run P W = .ok (.value v) W:=by intro W hW;go_simp;with_reducible rfl) : wpB P ops Q ((i,true) :: rest) a w:=
 zAf hi hw hrun h
theorem wpB_skip {i : Nat} {rest : List (Nat × Bool)} {a : Act} {w : World} {dst : Option Tmp} {op : Op} {ty : TypeId} {pos : String} {after : Array Edge} {g : Option (Nat × Bool)} (hi : ops[i]? = some ⟨dst,op,ty,pos,after,g⟩)
  (hw : Region.wanted ⟨dst,op,ty,pos,after,g⟩ (yielded ops a.tmps) = false)
  (h : wpB P ops Q rest (a.put dst undef) w) : wpB P ops Q ((i,true) :: rest) a w:=
 ⟨_,undef,hi, .inr ⟨hw,rfl⟩,h⟩
theorem wK {i : Nat} {rest : List (Nat × Bool)} {a : Act} {w : World} {dst : Option Tmp} {op : Op} {ty : TypeId} {pos : String} {after : Array Edge} {g : Option (Nat × Bool)} (hi : ops[i]? = some ⟨dst,op,ty,pos,after,g⟩) (h : wpB P ops Q rest (a.put dst undef) w) (hw : Region.wanted ⟨dst,op,ty,pos,after,g⟩ (yielded ops a.tmps) = false:=by exact rfl) : wpB P ops Q ((i,true) :: rest) a w:=
 wpB_skip hi hw h
theorem zAG {i : Nat} {rest : List (Nat × Bool)} {a : Act} {w : World} {dst : Option Tmp} {op : Op} {ty : TypeId} {pos : String} {after : Array Edge} {g : Option (Nat × Bool)} (hi : ops[i]? = some ⟨dst,op,ty,pos,after,g⟩)
  (hw : Region.wanted ⟨dst,op,ty,pos,after,g⟩ (yielded ops a.tmps) = true)
  (h : ∀ K : Act→World→Prop,(∀ a' w',Below w.heap.size w w'→wpB P ops Q rest a' w'→K a' w')→Oper.wp P ⟨dst,op,ty,pos,after,g⟩ a w K Q) : wpB P ops Q ((i,false) :: rest) a w:=by
 unfold wpB wpOp;simp only [hi,hw,if_true];exact .inl (h _ fun a' w' hb hr=>⟨hb,hr⟩)
theorem wpB_skip_act {i : Nat} {rest : List (Nat × Bool)} {a : Act} {w : World} {dst : Option Tmp} {op : Op} {ty : TypeId} {pos : String} {after : Array Edge} {g : Option (Nat × Bool)} (hi : ops[i]? = some ⟨dst,op,ty,pos,after,g⟩)
  (hw : Region.wanted ⟨dst,op,ty,pos,after,g⟩ (yielded ops a.tmps) = false)
  (h : wpB P ops Q rest (a.put dst undef) w) : wpB P ops Q ((i,false) :: rest) a w:=by
 unfold wpB wpOp;simp only [hi,hw,Bool.false_eq_true,if_false];exact ⟨Below.refl _ _,h⟩
theorem wL {i : Nat} {rest : List (Nat × Bool)} {a : Act} {w : World} {dst : Option Tmp} {op : Op} {ty : TypeId} {pos : String} {after : Array Edge} {g : Option (Nat × Bool)} (hi : ops[i]? = some ⟨dst,op,ty,pos,after,g⟩) (h : wpB P ops Q rest (a.put dst undef) w) (hw : Region.wanted ⟨dst,op,ty,pos,after,g⟩ (yielded ops a.tmps) = false:=by exact rfl) : wpB P ops Q ((i,false) :: rest) a w:=
 wpB_skip_act hi hw h
end
end Go.Proofs.YtbbblemfodpmaaaGreat
end
section
namespace Go.Proofs.YtbbblemfodpmaaaGreat
open Go.RowKit
section
variable {P : Program} {ops : Array Oper} {Q : Exit→Act→World→Prop} {md : Region.Mode} {S : World→Prop}
def zCO (P : Program) (md : Region.Mode) (ops : Array Oper) (Q : Exit→Act→World→Prop) (S : World→Prop) (m : Nat) : Nat→Array Bool→Act→World→Prop
 | 0,listed,a,w=>Region.ready md ops listed = []∧Q .normal a w
 | fuel + 1,listed,a,w=>
  (Region.ready md ops listed = []→Q .normal a w)∧
  ∀ i ∈ Region.ready md ops listed,wpOp P ops Q i (fun a' w'=>((listed.setIfInBounds i true).getD m true = false→S w')∧zCO P md ops Q S m fuel (listed.setIfInBounds i true) a' w') a w
theorem zEU {m : Nat} : ∀ (fuel : Nat) (listed : Array Bool) (a : Act) (w : World),zCO P md ops Q S m fuel listed a w→wpAny P md ops Q fuel listed a w
 | 0,_,_,_,h=>h
 | fuel + 1,_,_,_,h=>⟨h.1,fun i hi=>wpOp_mono (fun a' w' h'=>zEU fuel _ a' w' h'.2) (h.2 i hi)⟩
theorem zFA {m : Nat} {S' : World→Prop} (hS : ∀ W,S W→S' W) : ∀ (fuel : Nat) (listed : Array Bool) (a : Act) (w : World),
  zCO P md ops Q S m fuel listed a w→zCO P md ops Q S' m fuel listed a w
 | 0,_,_,_,h=>h
 | fuel + 1,_,_,_,h=>⟨h.1,fun i hi=>wpOp_mono (fun a' w' h'=>⟨fun hm=>hS _ (h'.1 hm),zFA hS fuel _ a' w' h'.2⟩) (h.2 i hi)⟩
theorem zEB {m : Nat} {S' : World→Prop} : ∀ (fuel : Nat) (listed : Array Bool) (a : Act) (w : World),listed.getD m true = true→
  zCO P md ops Q S m fuel listed a w→zCO P md ops Q S' m fuel listed a w
 | 0,_,_,_,_,h=>h
 | fuel + 1,listed,_,_,hl,h=>⟨h.1,fun i hi=>wpOp_mono (fun a' w' h'=>by
   have hl' : (listed.setIfInBounds i true).getD m true = true:=by
    by_cases him : i = m
    ·subst him
     rcases Nat.lt_or_ge i listed.size with h1 | h1
     ·simp [h1]
     ·simp [Array.getElem?_eq_none,h1]
    ·rw [getD_set_ne true him];exact hl
   exact ⟨fun hm=>absurd (hl'.symm.trans hm) (by simp),zEB fuel _ a' w' hl' h'.2⟩) (h.2 i hi)⟩
def ancB (md : Region.Mode) (ops : Array Oper) (listed : Array Bool) (i : Nat) : Nat→Nat→Bool
 | 0,_=>false
 | n + 1,m=>match ops[m]? with
  | some om=>om.after.any fun e=>Region.binds md e && (e.on == i || (!listed.getD e.on true && ancB md ops listed i n e.on))
  | none=>false
theorem anc_step {listed : Array Bool} {i n m : Nat} (h : ancB md ops listed i (n + 1) m = true) : ∃ om,ops[m]? = some om∧∃ e ∈ om.after,Region.binds md e = true∧(e.on = i ∨ (listed.getD e.on true = false∧ancB md ops listed i n e.on = true)):=by
 unfold ancB at h
 cases hom : ops[m]? with
 | none=>simp [hom] at h
 | some om=>simpa only [hom,Array.any_eq_true',Bool.and_eq_true,Bool.or_eq_true,Bool.not_eq_true',beq_iff_eq,Option.some.injEq,exists_eq_left'] using h
theorem anc_no {listed : Array Bool} {i n m j : Nat} {oj : Oper} (h : ancB md ops listed i n m = true) (hoj : ops[j]? = some oj) (hall : ∀ e ∈ oj.after,Region.binds md e = true→(listed.setIfInBounds i true).getD e.on false = true)
  (hnot : ∀ e ∈ oj.after,Region.binds md e = true→e.on ≠ i) : j ≠ m:=fun e=>by
 subst e
 cases n with
 | zero=>simp [ancB] at h
 | succ n=>
  obtain ⟨om,hom,e,he,hb,h1⟩:=anc_step h;rw [hoj] at hom;cases hom
  rcases h1 with h1 | ⟨h1,_⟩
  ·exact hnot e he hb h1
  ·have h2:=hall e he hb;rw [getD_set_ne false (Ne.symm (hnot e he hb))] at h2
   rcases Nat.lt_or_ge e.on listed.size with h' | h'
   ·simp [h'] at h1 h2;rw [h1] at h2;cases h2
   ·simp [Array.getElem?_eq_none h'] at h2
theorem anc_keep {listed : Array Bool} {i j : Nat} {oj : Oper} (hoj : ops[j]? = some oj) (hall : ∀ e ∈ oj.after,Region.binds md e = true→(listed.setIfInBounds i true).getD e.on false = true)
  (hnot : ∀ e ∈ oj.after,Region.binds md e = true→e.on ≠ i) : ∀ (n m : Nat),ancB md ops listed i n m = true→ancB md ops (listed.setIfInBounds j true) i n m = true
 | 0,_,h=>by simp [ancB] at h
 | n + 1,m,h=>by
  obtain ⟨om,hom,e,he,hb,h1⟩:=anc_step h;unfold ancB;simp only [hom,Array.any_eq_true',Bool.and_eq_true,Bool.or_eq_true,Bool.not_eq_true',beq_iff_eq];refine ⟨e,he,hb, ?_⟩
  rcases h1 with h1 | ⟨h1,h2⟩
  ·exact .inl h1
  ·exact .inr ⟨by rw [getD_set_ne true (anc_no h2 hoj hall hnot)];exact h1,anc_keep hoj hall hnot n _ h2⟩
theorem zFh {m i d : Nat} {oi : Oper} {v : Value} (hi : ops[i]? = some oi) (him : i ≠ m)
  (hsel : ∀ (j : Nat) (o : Oper) cs b,ops[j]? = some o→o.op ≠ .select cs b)
  (hQ : ∀ c a w,Q (.panic c) (a.put oi.dst v) w→Q (.panic c) a w) :
  ∀ (fuel : Nat) (listed : Array Bool) (a : Act) (w : World),ancB md ops listed i d m = true→
   (∀ j oj,ops[j]? = some oj→j ≠ i→listed.getD j true = false→(∀ e ∈ oj.after,Region.binds md e = true→e.on ≠ i)→oi.apart ops oj = true)→
   i ∈ Region.ready md ops listed→YieldsIf P ops S oi v a→S w→listed.getD m true = false→
   zCO P md ops Q S m fuel (listed.setIfInBounds i true) (a.put oi.dst v) w→zCO P md ops Q S m (fuel + 1) listed a w:=by
 intro fuel
 induction fuel with
 | zero=>
  intro listed a w _ _ hr hy hS hm H;refine ⟨fun h=>(by rw [h] at hr;cases hr),fun j hj=>?_⟩
  by_cases hji : j = i
  ·subst hji;exact hy.wpOp hi hS ⟨fun _=>hS,H⟩
  ·have:=ready_mono hj hji;rw [H.1] at this
   cases this
 | succ fuel ih=>
  intro listed a w hanc hfree hr hy hS hm H;refine ⟨fun h=>(by rw [h] at hr;cases hr),fun j hj=>?_⟩
  by_cases hji : j = i
  ·subst hji;exact hy.wpOp hi hS ⟨fun _=>hS,H⟩
  ·have h1:=H.2 j (ready_mono hj hji);have hj2:=ready_mono hj hji;obtain ⟨hjun,oj,hoj,hall⟩:=mem_ready.1 hj;have hnot : ∀ e ∈ oj.after,Region.binds md e = true→e.on ≠ i:=fun e he hb heq=>by
    have h1:=hall e he hb;have h0:=(mem_ready.1 hr).1;rw [heq] at h1
    rcases Nat.lt_or_ge i listed.size with h' | h'
    ·simp [h'] at h0 h1;rw [h0] at h1;cases h1
    ·simp [Array.getElem?_eq_none h'] at h1
   have hall2 : ∀ e ∈ oj.after,Region.binds md e = true→(listed.setIfInBounds i true).getD e.on false = true:=fun e he hb=>by
    obtain ⟨_,oj',hoj',hall'⟩:=mem_ready.1 hj2;rw [hoj] at hoj';cases hoj';exact hall' e he hb
   have hjm : j ≠ m:=anc_no hanc hoj hall2 hnot;have h2:=wpOp_putIf hoj (hfree j oj hoj hji hjun hnot) (fun cs b=>hsel i oi cs b hi) (fun cs b=>hsel j oj cs b hoj) hQ hy h1;have hfree' : ∀ k ok,ops[k]? = some ok→k ≠ i→(listed.setIfInBounds j true).getD k true = false→
     (∀ e ∈ ok.after,Region.binds md e = true→e.on ≠ i)→oi.apart ops ok = true:=fun k ok hk hki hun hno=>by
    refine hfree k ok hk hki ?_ hno
    by_cases hjk : j = k
    ·subst hjk;exact hjun
    ·rw [getD_set_ne true hjk] at hun;exact hun
   have hm1 : ((listed.setIfInBounds i true).setIfInBounds j true).getD m true = false:=by rw [getD_set_ne true hjm,getD_set_ne true him];exact hm
   have hm2 : (listed.setIfInBounds j true).getD m true = false:=by rw [getD_set_ne true hjm];exact hm
   refine wpOp_mono (fun a' w' h3=>⟨fun _=>h3.2.1 hm1,ih (listed.setIfInBounds j true) a' w' (anc_keep hoj hall2 hnot d m hanc) hfree' (ready_mono hr (Ne.symm hji)) h3.1 (h3.2.1 hm1) hm2 ?_⟩) h2;rw [Array.setIfInBounds_comm _ _ hji];exact h3.2.2
theorem zFB {m i : Nat} {oi : Oper} {v : Value} (hi : ops[i]? = some oi) (him : i ≠ m)
  (hsel : ∀ (j : Nat) (o : Oper) cs b,ops[j]? = some o→o.op ≠ .select cs b)
  (hQ : ∀ c a w,Q (.panic c) (a.put oi.dst v) w→Q (.panic c) a w) :
  ∀ (fuel : Nat) (listed : Array Bool) (a : Act) (w : World),
   (∀ j oj,ops[j]? = some oj→j ≠ i→listed.getD j true = false→(∀ e ∈ oj.after,Region.binds md e = true→e.on ≠ i)→oi.apart ops oj = true)→
   i ∈ Region.ready md ops listed→YieldsIf P ops (fun _=>True) oi v a→(listed.getD m true = false→S w)→
   zCO P md ops Q S m fuel (listed.setIfInBounds i true) (a.put oi.dst v) w→zCO P md ops Q S m (fuel + 1) listed a w:=by
 intro fuel
 induction fuel with
 | zero=>
  intro listed a w _ hr hy hS H;refine ⟨fun h=>(by rw [h] at hr;cases hr),fun j hj=>?_⟩
  by_cases hji : j = i
  ·subst hji;exact hy.wpOp hi trivial ⟨fun hm=>hS (by rwa [getD_set_ne true him] at hm),H⟩
  ·have:=ready_mono hj hji;rw [H.1] at this
   cases this
 | succ fuel ih=>
  intro listed a w hfree hr hy hS H;refine ⟨fun h=>(by rw [h] at hr;cases hr),fun j hj=>?_⟩
  by_cases hji : j = i
  ·subst hji;exact hy.wpOp hi trivial ⟨fun hm=>hS (by rwa [getD_set_ne true him] at hm),H⟩
  ·have h1:=H.2 j (ready_mono hj hji);obtain ⟨hjun,oj,hoj,hall⟩:=mem_ready.1 hj;have hnot : ∀ e ∈ oj.after,Region.binds md e = true→e.on ≠ i:=fun e he hb heq=>by
    have h1:=hall e he hb;have h0:=(mem_ready.1 hr).1;rw [heq] at h1
    rcases Nat.lt_or_ge i listed.size with h' | h'
    ·simp [h'] at h0 h1;rw [h0] at h1;cases h1
    ·simp [Array.getElem?_eq_none h'] at h1
   have h2:=wpOp_putIf hoj (hfree j oj hoj hji hjun hnot) (fun cs b=>hsel i oi cs b hi) (fun cs b=>hsel j oj cs b hoj) hQ hy h1;have hfree' : ∀ k ok,ops[k]? = some ok→k ≠ i→(listed.setIfInBounds j true).getD k true = false→
     (∀ e ∈ ok.after,Region.binds md e = true→e.on ≠ i)→oi.apart ops ok = true:=fun k ok hk hki hun hno=>by
    refine hfree k ok hk hki ?_ hno
    by_cases hjk : j = k
    ·subst hjk;exact hjun
    ·rw [getD_set_ne true hjk] at hun;exact hun
   have hcm : (listed.setIfInBounds i true).setIfInBounds j true = (listed.setIfInBounds j true).setIfInBounds i true:=Array.setIfInBounds_comm _ _ (Ne.symm hji);refine wpOp_mono (fun a' w' h3=>?_) h2;have hS' : (listed.setIfInBounds j true).getD m true = false→S w':=fun hm=>h3.2.1 (by rw [hcm,getD_set_ne true him];exact hm);refine ⟨hS',ih (listed.setIfInBounds j true) a' w' hfree' (ready_mono hr (Ne.symm hji)) h3.1 hS' ?_⟩;rw [← hcm];exact h3.2.2
def zDq (ops : Array Oper) (m : Nat) (p : Bool) (listed : Array Bool) (i : Nat) : Option Bool→Bool
 | none=>(Region.ready .any ops listed).contains i && Region.free .any ops listed i && !(i == m)
 | some true=>!p && (Region.ready .any ops listed).contains i && Region.free .any ops listed i && ancB .any ops listed i 4 m && !(i == m)
 | some false=>Region.ready .any ops listed == [i]
def zCh (ops : Array Oper) (m : Nat) : List (Nat × Option Bool)→Bool→Array Bool→Bool
 | [],_,listed=>(Region.ready .any ops listed).isEmpty
 | (i,f) :: rest,p,listed=>zDq ops m p listed i f && zCh ops m rest (p || (f == some false && i == m)) (listed.setIfInBounds i true)
def wpC (P : Program) (ops : Array Oper) (Q : Exit→Act→World→Prop) (m : Nat) : List (Nat × Option Bool)→Bool→Act→World→Prop
 | [],_,a,w=>Q .normal a w
 | (i,none) :: rest,p,a,w=>∃ o v,ops[i]? = some o∧YieldsIf P ops (fun _=>True) o v a∧wpC P ops Q m rest p (a.put o.dst v) w
 | (i,some true) :: rest,p,a,w=>∃ o v,ops[i]? = some o∧YieldsIf P ops (Below w.heap.size w) o v a∧wpC P ops Q m rest p (a.put o.dst v) w
 | (i,some false) :: rest,false,a,w=>wpOp P ops Q i (fun a' w'=>(i ≠ m→Below w.heap.size w w')∧wpC P ops Q m rest (i == m) a' w') a w
 | (i,some false) :: rest,true,a,w=>wpOp P ops Q i (fun a' w'=>wpC P ops Q m rest true a' w') a w
theorem zDO {m : Nat} (hs : Region.noSelect ops = true) (hQ : ∀ d c (a : Act) v w,Q (.panic c) (a.put d v) w→Q (.panic c) a w) : ∀ (ord : List (Nat × Option Bool)) (p : Bool) (fuel : Nat) (listed : Array Bool) (a : Act) (w : World),
  zCh ops m ord p listed = true→ord.length ≤ fuel→listed.getD m true = p→wpC P ops Q m ord p a w→zCO P .any ops Q (Below w.heap.size w) m fuel listed a w
 | [],p,fuel,listed,a,w,hok,_,_,h=>by
  have hr : Region.ready .any ops listed = []:=by simpa [zCh] using hok
  cases fuel with
  | zero=>exact ⟨hr,h⟩
  | succ _=>exact ⟨fun _=>h,by rw [hr];simp⟩
 | (i,f) :: rest,p,0,_,_,_,_,hl,_,_=>by simp at hl
 | (i,none) :: rest,p,fuel + 1,listed,a,w,hok,hl,hp,h=>by
  obtain ⟨o,v,hi,hy,hrest⟩:=h;simp only [zCh,zDq,Bool.and_eq_true,Bool.not_eq_true'] at hok;obtain ⟨⟨⟨hr,hf⟩,him⟩,hok'⟩:=hok;have him' : i ≠ m:=by simpa using him
  exact zFB hi him' (Region.noSelect_spec hs) (fun c a w h=>hQ o.dst c a v w h) fuel listed a w (Region.free_spec hi hf) (by simpa using hr) hy (fun _=>Below.refl _ _)
   (zDO hs hQ rest p fuel _ _ w (by simpa using hok') (by simpa using hl) (by rw [getD_set_ne true him'];exact hp) hrest)
 | (i,some true) :: rest,p,fuel + 1,listed,a,w,hok,hl,hp,h=>by
  obtain ⟨o,v,hi,hy,hrest⟩:=h;simp only [zCh,zDq,Bool.and_eq_true,Bool.not_eq_true'] at hok;obtain ⟨⟨⟨⟨⟨hpf,hr⟩,hf⟩,hd⟩,him⟩,hok'⟩:=hok;subst hpf;have him' : i ≠ m:=by simpa using him
  exact zFh hi him' (Region.noSelect_spec hs) (fun c a w h=>hQ o.dst c a v w h) fuel listed a w hd (Region.free_spec hi hf) (by simpa using hr) hy (Below.refl _ _) hp
   (zDO hs hQ rest false fuel _ _ w (by simpa using hok') (by simpa using hl) (by rw [getD_set_ne true him'];exact hp) hrest)
 | (i,some false) :: rest,false,fuel + 1,listed,a,w,hok,hl,hp,h=>by
  simp only [zCh,zDq,Bool.and_eq_true,beq_iff_eq,beq_self_eq_true,Bool.true_and,Bool.false_or] at hok;obtain ⟨hr,hok'⟩:=hok;refine ⟨fun h0=>absurd (hr ▸ h0) (by simp),fun j hj=>?_⟩;rw [hr] at hj;obtain rfl : j = i:=by simpa using hj
  have hsz : j < listed.size ∨ listed.size ≤ j:=Nat.lt_or_ge j listed.size;have hl2 : (listed.setIfInBounds j true).getD m true = (j == m):=by
   by_cases hjm : j = m
   ·subst hjm
    rcases hsz with h1 | h1
    ·simp [h1]
    ·simp [Array.getElem?_eq_none,h1]
   ·rw [getD_set_ne true hjm,hp];simp [hjm]
  refine wpOp_mono (fun a' w' h'=>⟨fun hm=>?_, ?_⟩) h
  ·rw [hl2] at hm;exact h'.1 (by simpa using hm)
  ·have ih:=zDO hs hQ rest (j == m) fuel _ a' w' hok' (by simpa using hl) hl2 h'.2
   by_cases hjm : j = m
   ·exact zEB fuel _ a' w' (by rw [hl2];simp [hjm]) ih
   ·have hb:=h'.1 hjm;exact zFA (fun W hW=>hb.trans (hW.mono hb.size)) fuel _ a' w' ih
 | (i,some false) :: rest,true,fuel + 1,listed,a,w,hok,hl,hp,h=>by
  simp only [zCh,zDq,Bool.and_eq_true,beq_iff_eq,beq_self_eq_true,Bool.true_and,Bool.true_or] at hok;obtain ⟨hr,hok'⟩:=hok;refine ⟨fun h0=>absurd (hr ▸ h0) (by simp),fun j hj=>?_⟩;rw [hr] at hj;obtain rfl : j = i:=by simpa using hj
  have hl2 : (listed.setIfInBounds j true).getD m true = true:=by
   by_cases hjm : j = m
   ·subst hjm
    rcases Nat.lt_or_ge j listed.size with h1 | h1
    ·simp [h1]
    ·simp [Array.getElem?_eq_none,h1]
   ·rw [getD_set_ne true hjm,hp]
  refine wpOp_mono (fun a' w' h'=>⟨fun hm=>absurd (hl2.symm.trans hm) (by simp), ?_⟩) h;exact zEB fuel _ a' w' hl2 (zDO hs hQ rest true fuel _ a' w' hok' (by simpa using hl) hl2 h')
theorem zGl (m : Nat) (ord : List (Nat × Option Bool)) {id : Nat} {a : Act} {w : World} (hm : P.follows .mixedOrders = true) (hs : Region.noSelect ops = true)
  (hok : (decide (ord.length ≤ ops.size) && decide (m < ops.size) && zCh ops m ord false (Array.replicate ops.size false)) = true)
  (hQ : ∀ d c (a : Act) v w,Q (.panic c) (a.put d v) w→Q (.panic c) a w) (h : wpC P ops Q m ord false a w.drew) : (Code.region id ops true).wp P Q a w:=by
 simp only [Bool.and_eq_true,decide_eq_true_eq] at hok;exact wp_region_any hm (zEU (S:=Below w.drew.heap.size w.drew) _ _ _ _ (zDO hs hQ ord false ops.size _ a w.drew hok.2 hok.1.1 (by simp [hok.1.2]) h))
theorem rgM (m : Nat) (ord : List (Nat × Option Bool)) {id : Nat} {a : Act} {w : World} (h : wpC P ops Q m ord false a w.drew) (hm : P.follows .mixedOrders = true:=by rfl) (hs : Region.noSelect ops = true:=by kernel_rfl) (hok : (decide (ord.length ≤ ops.size) && decide (m < ops.size) && zCh ops m ord false (Array.replicate ops.size false)) = true:=by kernel_rfl) (hQ : ∀ d c (a : Act) v w,Q (.panic c) (a.put d v) w→Q (.panic c) a w:=by intro d c a v w h;cases d <;> exact h) : (Code.region id ops true).wp P Q a w:=
 zGl m ord hm hs hok hQ h
theorem zAq {m i : Nat} {p : Bool} {rest : List (Nat × Option Bool)} {a : Act} {w : World} {dst : Option Tmp} {op : Op} {ty : TypeId} {pos : String} {after : Array Edge} {g : Option (Nat × Bool)} {v : Value} (hi : ops[i]? = some ⟨dst,op,ty,pos,after,g⟩)
  (hw : Region.wanted ⟨dst,op,ty,pos,after,g⟩ (yielded ops a.tmps) = true)
  (hrun : ∀ W,(execOp a.eval ⟨dst,op,ty,pos,after,g⟩).run P W = .ok (.value v) W) (h : wpC P ops Q m rest p (a.put dst v) w) : wpC P ops Q m ((i,none) :: rest) p a w:=
 ⟨_,v,hi, .inl ⟨hw,fun W _=>hrun W⟩,h⟩
theorem wC {m i : Nat} {p : Bool} {rest : List (Nat × Option Bool)} {a : Act} {w : World} {dst : Option Tmp} {op : Op} {ty : TypeId} {pos : String} {after : Array Edge} {g : Option (Nat × Bool)} {v : Value} (hi : ops[i]? = some ⟨dst,op,ty,pos,after,g⟩) (h : wpC P ops Q m rest p (a.put dst v) w) (hw : Region.wanted ⟨dst,op,ty,pos,after,g⟩ (yielded ops a.tmps) = true:=by exact rfl) (hrun : ∀ W,(execOp a.eval ⟨dst,op,ty,pos,after,g⟩).run P W = .ok (.value v) W:=by intro W;go_simp;with_reducible rfl) : wpC P ops Q m ((i,none) :: rest) p a w:=
 zAq hi hw hrun h
theorem zAN {m i : Nat} {p : Bool} {rest : List (Nat × Option Bool)} {a : Act} {w : World} {dst : Option Tmp} {op : Op} {ty : TypeId} {pos : String} {after : Array Edge} {g : Option (Nat × Bool)} {v : Value} (hi : ops[i]? = some ⟨dst,op,ty,pos,after,g⟩)
  (hw : Region.wanted ⟨dst,op,ty,pos,after,g⟩ (yielded ops a.tmps) = true)
  (hrun : ∀ W,Below w.heap.size w W→(execOp a.eval ⟨dst,op,ty,pos,after,g⟩).run P W = .ok (.value v) W) (h : wpC P ops Q m rest p (a.put dst v) w) : wpC P ops Q m ((i,some true) :: rest) p a w:=
 ⟨_,v,hi, .inl ⟨hw,hrun⟩,h⟩
theorem wpC_act {m i : Nat} {rest : List (Nat × Option Bool)} {a : Act} {w : World} {dst : Option Tmp} {op : Op} {ty : TypeId} {pos : String} {after : Array Edge} {g : Option (Nat × Bool)} (hi : ops[i]? = some ⟨dst,op,ty,pos,after,g⟩)
  (hw : Region.wanted ⟨dst,op,ty,pos,after,g⟩ (yielded ops a.tmps) = true) (hm : (i == m) = false)
  (h : ∀ K : Act→World→Prop,(∀ a' w',Below w.heap.size w w'→wpC P ops Q m rest false a' w'→K a' w')→Oper.wp P ⟨dst,op,ty,pos,after,g⟩ a w K Q) : wpC P ops Q m ((i,some false) :: rest) false a w:=by
 unfold wpC wpOp;simp only [hi,hw,if_true,hm];exact .inl (h _ fun a' w' hb hr=>⟨fun _=>hb,hr⟩)
theorem zBk {m : Nat} {rest : List (Nat × Option Bool)} {a : Act} {w : World} {dst : Option Tmp} {op : Op} {ty : TypeId} {pos : String} {after : Array Edge} {g : Option (Nat × Bool)} (hi : ops[m]? = some ⟨dst,op,ty,pos,after,g⟩)
  (hw : Region.wanted ⟨dst,op,ty,pos,after,g⟩ (yielded ops a.tmps) = true)
  (h : ∀ K : Act→World→Prop,(∀ a' w',wpC P ops Q m rest true a' w'→K a' w')→Oper.wp P ⟨dst,op,ty,pos,after,g⟩ a w K Q) : wpC P ops Q m ((m,some false) :: rest) false a w:=by
 unfold wpC wpOp;simp only [hi,hw,if_true,beq_self_eq_true];exact .inl (h _ fun a' w' hr=>⟨fun hne=>absurd rfl hne,hr⟩)
theorem zBy {m i : Nat} {rest : List (Nat × Option Bool)} {a : Act} {w : World} {dst : Option Tmp} {op : Op} {ty : TypeId} {pos : String} {after : Array Edge} {g : Option (Nat × Bool)} (hi : ops[i]? = some ⟨dst,op,ty,pos,after,g⟩)
  (hw : Region.wanted ⟨dst,op,ty,pos,after,g⟩ (yielded ops a.tmps) = true)
  (h : ∀ K : Act→World→Prop,(∀ a' w',wpC P ops Q m rest true a' w'→K a' w')→Oper.wp P ⟨dst,op,ty,pos,after,g⟩ a w K Q) : wpC P ops Q m ((i,some false) :: rest) true a w:=by
 unfold wpC wpOp;simp only [hi,hw,if_true];exact .inl (h _ fun a' w' hr=>hr)
end
end Go.Proofs.YtbbblemfodpmaaaGreat
end
section
namespace Go.Proofs.YtbbblemfodpmaaaGreat
open Go.RowKit
section
variable {P : Program} {ops : Array Oper} {Q : Exit→Act→World→Prop} {S : World→Prop}
def wpS (P : Program) (ops : Array Oper) (Q : Exit→Act→World→Prop) (S : World→Prop) : List (Nat × Bool)→Act→World→Prop
 | [],a,w=>Q .normal a w
 | (i,true) :: rest,a,w=>∃ o v,ops[i]? = some o∧YieldsIf P ops S o v a∧wpS P ops Q S rest (a.put o.dst v) w
 | (i,false) :: rest,a,w=>wpOp P ops Q i (fun a' w'=>S w'∧wpS P ops Q S rest a' w') a w
theorem zDP (hs : Region.noSelect ops = true) (hQ : ∀ d c (a : Act) v w,Q (.panic c) (a.put d v) w→Q (.panic c) a w) : ∀ (ord : List (Nat × Bool)) (fuel : Nat) (listed : Array Bool) (a : Act) (w : World),
  zCE ops ord listed = true→ord.length ≤ fuel→S w→wpS P ops Q S ord a w→wpAnyH P .any ops Q S fuel listed a w
 | [],fuel,listed,a,w,hok,_,_,h=>wpAnyH_done (by simpa [zCE] using hok) h fuel
 | (i,true) :: rest,0,_,_,_,_,hl,_,_=>by simp at hl
 | (i,false) :: rest,0,_,_,_,_,hl,_,_=>by simp at hl
 | (i,true) :: rest,fuel + 1,listed,a,w,hok,hl,hS,h=>by
  obtain ⟨o,v,hi,hy,hrest⟩:=h;simp only [zCE,if_true,Bool.and_eq_true] at hok;obtain ⟨⟨hr,hf⟩,hok'⟩:=hok;exact wpAnyH_first hi (Region.noSelect_spec hs) (fun c a w h=>hQ o.dst c a v w h) fuel listed a w (Region.free_spec hi hf) (by simpa using hr) hy hS
   (zDP hs hQ rest fuel _ _ w hok' (by simpa using hl) hS hrest)
 | (i,false) :: rest,fuel + 1,listed,a,w,hok,hl,hS,h=>by
  simp only [zCE,Bool.false_eq_true,if_false,Bool.and_eq_true,beq_iff_eq] at hok;obtain ⟨hr,hok'⟩:=hok;refine wpAnyH_all hr (by simp) fun j hj=>?_;obtain rfl : j = i:=by simpa using hj
  exact wpOp_mono (fun a' w' h'=>⟨h'.1,zDP hs hQ rest fuel _ a' w' hok' (by simpa using hl) h'.1 h'.2⟩) h
theorem zCQ (S : World→Prop) (ord : List (Nat × Bool)) {id : Nat} {a : Act} {w : World} (hm : P.follows .mixedOrders = true) (hs : Region.noSelect ops = true)
  (hok : (decide (ord.length ≤ ops.size) && zCE ops ord (Array.replicate ops.size false)) = true)
  (hQ : ∀ d c (a : Act) v w,Q (.panic c) (a.put d v) w→Q (.panic c) a w) (hS : S w.drew) (h : wpS P ops Q S ord a w.drew) : (Code.region id ops true).wp P Q a w:=by
 simp only [Bool.and_eq_true,decide_eq_true_eq] at hok;exact wp_region_held (S:=S) hm (zDP hs hQ ord ops.size _ a w.drew hok.2 hok.1 hS h)
theorem zBw {i : Nat} {rest : List (Nat × Bool)} {a : Act} {w : World} {dst : Option Tmp} {op : Op} {ty : TypeId} {pos : String} {after : Array Edge} {g : Option (Nat × Bool)} {v : Value} (hi : ops[i]? = some ⟨dst,op,ty,pos,after,g⟩)
  (hw : Region.wanted ⟨dst,op,ty,pos,after,g⟩ (yielded ops a.tmps) = true)
  (hrun : ∀ W,S W→(execOp a.eval ⟨dst,op,ty,pos,after,g⟩).run P W = .ok (.value v) W) (h : wpS P ops Q S rest (a.put dst v) w) : wpS P ops Q S ((i,true) :: rest) a w:=
 ⟨_,v,hi, .inl ⟨hw,hrun⟩,h⟩
theorem wS {i : Nat} {rest : List (Nat × Bool)} {a : Act} {w : World} {dst : Option Tmp} {op : Op} {ty : TypeId} {pos : String} {after : Array Edge} {g : Option (Nat × Bool)} {v : Value} (hi : ops[i]? = some ⟨dst,op,ty,pos,after,g⟩) (h : wpS P ops Q S rest (a.put dst v) w) (hw : Region.wanted ⟨dst,op,ty,pos,after,g⟩ (yielded ops a.tmps) = true:=by exact rfl) (hrun : ∀ W,S W→(execOp a.eval ⟨dst,op,ty,pos,after,g⟩).run P W = .ok (.value v) W:=by intro W hW;go_simp;with_reducible rfl) : wpS P ops Q S ((i,true) :: rest) a w:=
 zBw hi hw hrun h
theorem zCo {i : Nat} {rest : List (Nat × Bool)} {a : Act} {w : World} {dst : Option Tmp} {op : Op} {ty : TypeId} {pos : String} {after : Array Edge} {g : Option (Nat × Bool)} (hi : ops[i]? = some ⟨dst,op,ty,pos,after,g⟩)
  (hw : Region.wanted ⟨dst,op,ty,pos,after,g⟩ (yielded ops a.tmps) = true)
  (h : ∀ K : Act→World→Prop,(∀ a' w',S w'→wpS P ops Q S rest a' w'→K a' w')→Oper.wp P ⟨dst,op,ty,pos,after,g⟩ a w K Q) : wpS P ops Q S ((i,false) :: rest) a w:=by
 unfold wpS wpOp;simp only [hi,hw,if_true];exact .inl (h _ fun a' w' hb hr=>⟨hb,hr⟩)
end
end Go.Proofs.YtbbblemfodpmaaaGreat
end
section
namespace Go.Proofs.YtbbblemfodpmaaaGreat
open Go.RowKit
section
variable {P : Program} {ops : Array Oper} {Q : Exit→Act→World→Prop} {S : World→Prop}
def wpE (P : Program) (ops : Array Oper) (Q : Exit→Act→World→Prop) (S : World→Prop) (m : Nat) : List (Nat × Option Bool)→Bool→Act→World→Prop
 | [],_,a,w=>Q .normal a w
 | (i,none) :: rest,p,a,w=>∃ o v,ops[i]? = some o∧YieldsIf P ops (fun _=>True) o v a∧wpE P ops Q S m rest p (a.put o.dst v) w
 | (i,some true) :: rest,p,a,w=>∃ o v,ops[i]? = some o∧YieldsIf P ops S o v a∧wpE P ops Q S m rest p (a.put o.dst v) w
 | (i,some false) :: rest,false,a,w=>wpOp P ops Q i (fun a' w'=>(i ≠ m→S w')∧wpE P ops Q S m rest (i == m) a' w') a w
 | (i,some false) :: rest,true,a,w=>wpOp P ops Q i (fun a' w'=>wpE P ops Q S m rest true a' w') a w
theorem zDQ {m : Nat} (hs : Region.noSelect ops = true) (hQ : ∀ d c (a : Act) v w,Q (.panic c) (a.put d v) w→Q (.panic c) a w) : ∀ (ord : List (Nat × Option Bool)) (p : Bool) (fuel : Nat) (listed : Array Bool) (a : Act) (w : World),
  zCh ops m ord p listed = true→ord.length ≤ fuel→listed.getD m true = p→(p = false→S w)→wpE P ops Q S m ord p a w→zCO P .any ops Q S m fuel listed a w
 | [],p,fuel,listed,a,w,hok,_,_,_,h=>by
  have hr : Region.ready .any ops listed = []:=by simpa [zCh] using hok
  cases fuel with
  | zero=>exact ⟨hr,h⟩
  | succ _=>exact ⟨fun _=>h,by rw [hr];simp⟩
 | (i,f) :: rest,p,0,_,_,_,_,hl,_,_,_=>by simp at hl
 | (i,none) :: rest,p,fuel + 1,listed,a,w,hok,hl,hp,hS,h=>by
  obtain ⟨o,v,hi,hy,hrest⟩:=h;simp only [zCh,zDq,Bool.and_eq_true,Bool.not_eq_true'] at hok;obtain ⟨⟨⟨hr,hf⟩,him⟩,hok'⟩:=hok;have him' : i ≠ m:=by simpa using him
  exact zFB hi him' (Region.noSelect_spec hs) (fun c a w h=>hQ o.dst c a v w h) fuel listed a w (Region.free_spec hi hf) (by simpa using hr) hy (fun hm=>hS (hp.symm.trans hm))
   (zDQ hs hQ rest p fuel _ _ w (by simpa using hok') (by simpa using hl) (by rw [getD_set_ne true him'];exact hp) hS hrest)
 | (i,some true) :: rest,p,fuel + 1,listed,a,w,hok,hl,hp,hS,h=>by
  obtain ⟨o,v,hi,hy,hrest⟩:=h;simp only [zCh,zDq,Bool.and_eq_true,Bool.not_eq_true'] at hok;obtain ⟨⟨⟨⟨⟨hpf,hr⟩,hf⟩,hd⟩,him⟩,hok'⟩:=hok;subst hpf;have him' : i ≠ m:=by simpa using him
  exact zFh hi him' (Region.noSelect_spec hs) (fun c a w h=>hQ o.dst c a v w h) fuel listed a w hd (Region.free_spec hi hf) (by simpa using hr) hy (hS rfl) hp
   (zDQ hs hQ rest false fuel _ _ w (by simpa using hok') (by simpa using hl) (by rw [getD_set_ne true him'];exact hp) hS hrest)
 | (i,some false) :: rest,false,fuel + 1,listed,a,w,hok,hl,hp,hS,h=>by
  simp only [zCh,zDq,Bool.and_eq_true,beq_iff_eq,beq_self_eq_true,Bool.true_and,Bool.false_or] at hok;obtain ⟨hr,hok'⟩:=hok;refine ⟨fun h0=>absurd (hr ▸ h0) (by simp),fun j hj=>?_⟩;rw [hr] at hj;obtain rfl : j = i:=by simpa using hj
  have hl2 : (listed.setIfInBounds j true).getD m true = (j == m):=by
   by_cases hjm : j = m
   ·subst hjm
    rcases Nat.lt_or_ge j listed.size with h1 | h1
    ·simp [h1]
    ·simp [Array.getElem?_eq_none,h1]
   ·rw [getD_set_ne true hjm,hp];simp [hjm]
  refine wpOp_mono (fun a' w' h'=>⟨fun hm=>?_, ?_⟩) h
  ·rw [hl2] at hm;exact h'.1 (by simpa using hm)
  ·exact zDQ hs hQ rest (j == m) fuel _ a' w' hok' (by simpa using hl) hl2 (fun hj=>h'.1 (by simpa using hj)) h'.2
 | (i,some false) :: rest,true,fuel + 1,listed,a,w,hok,hl,hp,hS,h=>by
  simp only [zCh,zDq,Bool.and_eq_true,beq_iff_eq,beq_self_eq_true,Bool.true_and,Bool.true_or] at hok;obtain ⟨hr,hok'⟩:=hok;refine ⟨fun h0=>absurd (hr ▸ h0) (by simp),fun j hj=>?_⟩;rw [hr] at hj;obtain rfl : j = i:=by simpa using hj
  have hl2 : (listed.setIfInBounds j true).getD m true = true:=by
   by_cases hjm : j = m
   ·subst hjm
    rcases Nat.lt_or_ge j listed.size with h1 | h1
    ·simp [h1]
    ·simp [Array.getElem?_eq_none,h1]
   ·rw [getD_set_ne true hjm,hp]
  refine wpOp_mono (fun a' w' h'=>⟨fun hm=>absurd (hl2.symm.trans hm) (by simp), ?_⟩) h;exact zDQ hs hQ rest true fuel _ a' w' hok' (by simpa using hl) hl2 (fun h=>absurd h (by simp)) h'
theorem zCb (S : World→Prop) (m : Nat) (ord : List (Nat × Option Bool)) {id : Nat} {a : Act} {w : World} (hm : P.follows .mixedOrders = true) (hs : Region.noSelect ops = true)
  (hok : (decide (ord.length ≤ ops.size) && decide (m < ops.size) && zCh ops m ord false (Array.replicate ops.size false)) = true)
  (hQ : ∀ d c (a : Act) v w,Q (.panic c) (a.put d v) w→Q (.panic c) a w) (hS : S w.drew) (h : wpE P ops Q S m ord false a w.drew) : (Code.region id ops true).wp P Q a w:=by
 simp only [Bool.and_eq_true,decide_eq_true_eq] at hok;exact wp_region_any hm (zEU (S:=S) _ _ _ _ (zDQ hs hQ ord false ops.size _ a w.drew hok.2 hok.1.1 (by simp [hok.1.2]) (fun _=>hS) h))
theorem zBQ {m i : Nat} {p : Bool} {rest : List (Nat × Option Bool)} {a : Act} {w : World} {dst : Option Tmp} {op : Op} {ty : TypeId} {pos : String} {after : Array Edge} {g : Option (Nat × Bool)} {v : Value} (hi : ops[i]? = some ⟨dst,op,ty,pos,after,g⟩)
  (hw : Region.wanted ⟨dst,op,ty,pos,after,g⟩ (yielded ops a.tmps) = true)
  (hrun : ∀ W,(execOp a.eval ⟨dst,op,ty,pos,after,g⟩).run P W = .ok (.value v) W) (h : wpE P ops Q S m rest p (a.put dst v) w) : wpE P ops Q S m ((i,none) :: rest) p a w:=
 ⟨_,v,hi, .inl ⟨hw,fun W _=>hrun W⟩,h⟩
theorem zBA {m i : Nat} {p : Bool} {rest : List (Nat × Option Bool)} {a : Act} {w : World} {dst : Option Tmp} {op : Op} {ty : TypeId} {pos : String} {after : Array Edge} {g : Option (Nat × Bool)} {v : Value} (hi : ops[i]? = some ⟨dst,op,ty,pos,after,g⟩)
  (hw : Region.wanted ⟨dst,op,ty,pos,after,g⟩ (yielded ops a.tmps) = true)
  (hrun : ∀ W,S W→(execOp a.eval ⟨dst,op,ty,pos,after,g⟩).run P W = .ok (.value v) W) (h : wpE P ops Q S m rest p (a.put dst v) w) : wpE P ops Q S m ((i,some true) :: rest) p a w:=
 ⟨_,v,hi, .inl ⟨hw,hrun⟩,h⟩
theorem zCp {m i : Nat} {rest : List (Nat × Option Bool)} {a : Act} {w : World} {dst : Option Tmp} {op : Op} {ty : TypeId} {pos : String} {after : Array Edge} {g : Option (Nat × Bool)} (hi : ops[i]? = some ⟨dst,op,ty,pos,after,g⟩)
  (hw : Region.wanted ⟨dst,op,ty,pos,after,g⟩ (yielded ops a.tmps) = true) (hm : (i == m) = false)
  (h : ∀ K : Act→World→Prop,(∀ a' w',S w'→wpE P ops Q S m rest false a' w'→K a' w')→Oper.wp P ⟨dst,op,ty,pos,after,g⟩ a w K Q) : wpE P ops Q S m ((i,some false) :: rest) false a w:=by
 unfold wpE wpOp;simp only [hi,hw,if_true,hm];exact .inl (h _ fun a' w' hb hr=>⟨fun _=>hb,hr⟩)
theorem zDz {m : Nat} {rest : List (Nat × Option Bool)} {a : Act} {w : World} {dst : Option Tmp} {op : Op} {ty : TypeId} {pos : String} {after : Array Edge} {g : Option (Nat × Bool)} (hi : ops[m]? = some ⟨dst,op,ty,pos,after,g⟩)
  (hw : Region.wanted ⟨dst,op,ty,pos,after,g⟩ (yielded ops a.tmps) = true)
  (h : ∀ K : Act→World→Prop,(∀ a' w',wpE P ops Q S m rest true a' w'→K a' w')→Oper.wp P ⟨dst,op,ty,pos,after,g⟩ a w K Q) : wpE P ops Q S m ((m,some false) :: rest) false a w:=by
 unfold wpE wpOp;simp only [hi,hw,if_true,beq_self_eq_true];exact .inl (h _ fun a' w' hr=>⟨fun hne=>absurd rfl hne,hr⟩)
end
end Go.Proofs.YtbbblemfodpmaaaGreat
end
