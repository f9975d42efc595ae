/-Joints that hang together: what the visit does (plain).-/
import Derived.Test.YtbbblemfodpmaaaGreatWebGk
import Derived.Test.YtbbblemfodpmaaaGreatWebTx
import Derived.Test.YtbbblemfodpmaaaGreatWebGl
import Derived.Test.YtbbblemfodpmaaaGreatWebComp
import Derived.Test.YtbbblemfodpmaaaGreatWebGm
set_option linter.unusedVariables false
set_option linter.unusedSimpArgs false
set_option maxHeartbeats 16000000
set_option maxRecDepth 100000
section
namespace Go.Proofs.YtbbblemfodpmaaaGreat
open Go.RowKit
structure VisitS (ls : List Lead) (joint lead first j : Int) (m m' : List (Int × Int)) : Prop where
 keep : ∀ i v,aget m i = some v → aget m' i = some v
 new : ∀ i v,aget m i = none → aget m' i = some v → v = first ∧ ConJ ls joint lead j i ∧ i ≠ joint
 closed : ∀ i,aget m i = none → (aget m' i).isSome = true → ∀ k,AdjJ ls joint lead i k → (aget m' k).isSome = true
theorem VisitS.refl {ls : List Lead} {joint lead first j : Int} (m : List (Int × Int)) : VisitS ls joint lead first j m m :=
 ⟨fun _ _ h => h,fun i v h1 h2 => (by rw [h1] at h2;cases h2),fun i h1 h2 => (by rw [h1] at h2;cases h2)⟩
theorem some_of {m : List (Int × Int)} {i : Int} (h : (aget m i).isSome = true) : ∃ v,aget m i = some v := Option.isSome_iff_exists.1 h
theorem VisitS.trans {ls : List Lead} {joint lead first j : Int} {m m1 m2 : List (Int × Int)} (h : VisitS ls joint lead first j m m1) (k : VisitS ls joint lead first j m1 m2) : VisitS ls joint lead first j m m2 := by
 refine ⟨fun i v e => k.keep i v (h.keep i v e),fun i v e1 e2 => ?_,fun i e1 e2 q hq => ?_⟩
 ·cases e : aget m1 i with
  | none => exact k.new i v e e2
  | some u =>
   have := k.keep i u e;rw [e2] at this;cases this;exact h.new i v e1 e
 ·cases e : aget m1 i with
  | none => exact k.closed i e e2 q hq
  | some u =>
   obtain ⟨v,hv⟩ := some_of (h.closed i e1 (by rw [e];rfl) q hq);rw [k.keep q v hv];rfl
theorem VisitS.has {ls : List Lead} {joint lead first j : Int} {m m1 : List (Int × Int)} (h : VisitS ls joint lead first j m m1) {i : Int} (hi : (aget m i).isSome = true) : (aget m1 i).isSome = true := by
 obtain ⟨v,hv⟩ := some_of hi;rw [h.keep i v hv];rfl
theorem zFK (js : List Joint) (ls : List Lead) (joint lead first : Int) (f : Nat) (m : List (Int × Int)) : zAK js ls joint lead first f m joint = m := by
 cases f with
 | zero => rfl
 | succ f => simp [zAK]
theorem ahas_get {m : List (Int × Int)} {i : Int} : ahas m i = (aget m i).isSome := by
 unfold ahas aget;rw [Option.isSome_map,List.isSome_find?]
theorem ValidW.end_there {js : List Joint} {ls : List Lead} (V : ValidW js ls) {s : Side} (h : zAE ls s) : ∃ x ∈ js,x.id = (zAj ls s).2 := by
 obtain ⟨l,hl,e⟩ := h;obtain ⟨i,hi,k,hk,e1,e2,_⟩ := V.ends hl;obtain ⟨sl,sb⟩ := s;simp only at e;subst e;rw [V.sideEnds hl]
 cases sb
 ·exact ⟨k,hk,e2⟩
 ·exact ⟨i,hi,e1⟩
theorem ValidW.visit_spec {js : List Joint} {ls : List Lead} (V : ValidW js ls) (joint lead first : Int) : ∀ (f : Nat) (m : List (Int × Int)) (j : Int),zB8 js m < f → (∃ x ∈ js,x.id = j) →
  VisitS ls joint lead first j m (zAK js ls joint lead first f m j) ∧ (j ≠ joint → (aget (zAK js ls joint lead first f m j) j).isSome = true)
 | 0,m,j,h,_ => by omega
 | f + 1,m,j,h,hj => by
  by_cases hc : (ahas m j || decide (j = joint)) = true
  ·have e : zAK js ls joint lead first (f + 1) m j = m := by simp only [zAK];rw [if_pos hc]
   rw [e];refine ⟨VisitS.refl m,fun hn => ?_⟩;simp only [Bool.or_eq_true,decide_eq_true_eq] at hc
   rcases hc with hc | hc
   ·rw [← ahas_get];exact hc
   ·exact absurd hc hn
  ·have e : zAK js ls joint lead first (f + 1) m j = (outA js ls j).foldl (fun m s => if s.lead = lead then m else zAK js ls joint lead first f m (zAj ls s).2) (aput m j first) := by simp only [zAK];rw [if_neg hc]
   simp only [Bool.or_eq_true,decide_eq_true_eq,not_or,Bool.not_eq_true] at hc;obtain ⟨hc1,hc2⟩ := hc;have hm0 : aget m j = none := by rw [ahas_get] at hc1;simpa using hc1
   have hl0 : zB8 js (aput m j first) < f := by have := left_put (v := first) hj hc1;omega
   have key : ∀ (l : List Side) (acc : List (Int × Int)),(∀ s ∈ l,s ∈ outA js ls j) → zB8 js acc < f →
     VisitS ls joint lead first j acc (l.foldl (fun m s => if s.lead = lead then m else zAK js ls joint lead first f m (zAj ls s).2) acc) ∧
     ∀ s ∈ l,s.lead ≠ lead → (zAj ls s).2 ≠ joint → (aget (l.foldl (fun m s => if s.lead = lead then m else zAK js ls joint lead first f m (zAj ls s).2) acc) (zAj ls s).2).isSome = true := by
    intro l
    induction l with
    | nil => intro acc _ _;exact ⟨VisitS.refl acc,fun s hs => by cases hs⟩
    | cons s l ih =>
     intro acc hs hacc;simp only [List.foldl_cons]
     by_cases h1 : s.lead = lead
     ·rw [if_pos h1];obtain ⟨a1,a2⟩ := ih acc (fun t ht => hs t (List.mem_cons_of_mem _ ht)) hacc;refine ⟨a1,fun t ht h2 h3 => ?_⟩
      rcases List.mem_cons.1 ht with rfl | ht
      ·exact absurd h1 h2
      ·exact a2 t ht h2 h3
     ·rw [if_neg h1];have hside := V.of_leave (zB2.1 (hs s (by simp)));have hto : ∃ x ∈ js,x.id = (zAj ls s).2 := V.end_there hside.1;obtain ⟨b1,b2⟩ := V.visit_spec joint lead first f acc (zAj ls s).2 hacc hto
      have b3 : VisitS ls joint lead first j acc (zAK js ls joint lead first f acc (zAj ls s).2) := by
       by_cases hz : (zAj ls s).2 = joint
       ·rw [hz,zFK];exact VisitS.refl acc
       ·have hadj : AdjJ ls joint lead j (zAj ls s).2 := V.adj_out.2 ⟨hc2,hz,s,hs s (by simp),h1,rfl⟩;exact ⟨b1.keep,fun i v e1 e2 => ⟨(b1.new i v e1 e2).1,(ConJ.one hadj).trans (b1.new i v e1 e2).2.1,(b1.new i v e1 e2).2.2⟩,b1.closed⟩
      have hacc2 : zB8 js (zAK js ls joint lead first f acc (zAj ls s).2) < f := Nat.lt_of_le_of_lt (zFo fun i hi => zEU js ls joint lead first f acc _ i hi) hacc;obtain ⟨a1,a2⟩ := ih _ (fun t ht => hs t (List.mem_cons_of_mem _ ht)) hacc2;refine ⟨b3.trans a1,fun t ht h2 h3 => ?_⟩
      rcases List.mem_cons.1 ht with rfl | ht
      ·exact a1.has (b2 h3)
      ·exact a2 t ht h2 h3
   obtain ⟨a1,a2⟩ := key (outA js ls j) (aput m j first) (fun _ h => h) hl0;rw [e];have hjj : aget (aput m j first) j = some first := by rw [zBv,if_pos rfl]
   have hne : ∀ i,i ≠ j → aget (aput m j first) i = aget m i := fun i hi => by rw [zBv,if_neg hi]
   have hij : ∀ i v,aget m i = some v → i ≠ j := fun i v h1 h2 => by rw [h2,hm0] at h1;cases h1
   refine ⟨⟨fun i v h1 => a1.keep i v (by rw [hne i (hij i v h1)];exact h1),fun i v h1 h2 => ?_,fun i h1 h2 q hq => ?_⟩,fun _ => a1.has (by rw [hjj];rfl)⟩
   ·by_cases hi : i = j
    ·subst hi;have := a1.keep i first hjj
     rw [h2] at this;cases this;exact ⟨rfl, .refl _,hc2⟩
    ·exact a1.new i v (by rw [hne i hi];exact h1) h2
   ·by_cases hi : i = j
    ·subst hi;obtain ⟨_,h4,s,hs,h5,rfl⟩ := V.adj_out.1 hq;exact a2 s hs h5 h4
    ·exact a1.closed i (by rw [hne i hi];exact h1) h2 q hq
structure TogI (js : List Joint) (ls : List Lead) (joint lead : Int) (k : Nat) (m : List (Int × Int)) : Prop where
 closed : ∀ i,(aget m i).isSome = true → ∀ q,AdjJ ls joint lead i q → (aget m q).isSome = true
 val : ∀ i v,aget m i = some v → i ≠ joint ∧ ∃ r x,js[r]? = some x ∧ r < k ∧ x.id = v ∧ v ≠ joint ∧ ConJ ls joint lead v i ∧ ∀ r' x',js[r']? = some x' → r' < r → ¬ ConJ ls joint lead x'.id i
 has : ∀ r x,js[r]? = some x → r < k → x.id ≠ joint → (aget m x.id).isSome = true
theorem TogI.con {js : List Joint} {ls : List Lead} {joint lead : Int} {k : Nat} {m : List (Int × Int)} (h : TogI js ls joint lead k m) {i q : Int} (hi : (aget m i).isSome = true) (hc : ConJ ls joint lead i q) : (aget m q).isSome = true := by
 induction hc with
 | refl => exact hi
 | step _ a ih => exact h.closed _ ih _ a
theorem ValidW.tog_step {js : List Joint} {ls : List Lead} (V : ValidW js ls) (joint lead : Int) {k : Nat} {x : Joint} {m : List (Int × Int)} (hx : js[k]? = some x) (h : TogI js ls joint lead k m) : TogI js ls joint lead (k + 1) (zAK js ls joint lead x.id (js.length + 1) m x.id) := by
 have hle : zB8 js m < js.length + 1 := by
  have : zB8 js m ≤ js.length := List.length_filter_le _ _;omega
 obtain ⟨a1,a2⟩ := V.visit_spec joint lead x.id (js.length + 1) m x.id hle ⟨x,List.mem_of_getElem? hx,rfl⟩;refine ⟨fun i hi q hq => ?_,fun i v e => ?_,fun r y hy hr hn => ?_⟩
 ·cases e : aget m i with
  | none => exact a1.closed i e hi q hq
  | some v => exact a1.has (h.closed i (by rw [e];rfl) q hq)
 ·cases e0 : aget m i with
  | some u =>
   have := a1.keep i u e0;rw [e] at this;cases this;obtain ⟨b1,r,y,c1,c2,c3⟩ := h.val i v e0;exact ⟨b1,r,y,c1,by omega,c3⟩
  | none =>
   obtain ⟨rfl,c1,c2⟩ := a1.new i v e0 e;have hxj : x.id ≠ joint := by
    intro hxj;rw [hxj,zFK,e0] at e
    cases e
   refine ⟨c2,k,x,hx,by omega,rfl,hxj,c1,fun r' x' hx' hr' hc => ?_⟩;have hj' : x'.id ≠ joint := by
    intro hj';rw [hj'] at hc;have : ∀ q,ConJ ls joint lead joint q → q = joint := fun q hq => by
     induction hq with
     | refl => rfl
     | step _ a ih => obtain ⟨_,_,_,hne,_⟩ := a;exact absurd ih hne
    exact c2 (this i hc)
   have := h.con (h.has r' x' hx' hr' hj') hc;rw [e0] at this;cases this
 ·rcases Nat.lt_or_ge r k with hr2 | hr2
  ·exact a1.has (h.has r y hy hr2 hn)
  ·have : r = k := by omega
   subst this;rw [hx] at hy;cases hy;exact a2 hn
theorem ValidW.tog_spec {js : List Joint} {ls : List Lead} (V : ValidW js ls) (joint lead : Int) : TogI js ls joint lead js.length (togA js ls joint lead) := by
 have key : ∀ k,k ≤ js.length → TogI js ls joint lead k ((js.take k).foldl (fun m x => zAK js ls joint lead x.id (js.length + 1) m x.id) []) := by
  intro k
  induction k with
  | zero => intro _;exact ⟨fun i h => (by cases h),fun i v h => (by cases h),fun r x _ h => (by omega)⟩
  | succ k ih =>
   intro hk;obtain ⟨x,hx⟩ : ∃ x,js[k]? = some x := ⟨_,List.getElem?_eq_getElem (by omega)⟩
   rw [List.take_add_one,hx,List.foldl_append];exact V.tog_step joint lead hx (ih (by omega))
 have := key js.length (Nat.le_refl _)
 rwa [List.take_length] at this
end Go.Proofs.YtbbblemfodpmaaaGreat
end
section
namespace Go.Proofs.YtbbblemfodpmaaaGreat
open Go.RowKit
theorem ValidW.id_lt {js : List Joint} {ls : List Lead} (V : ValidW js ls) {a b : Nat} {x y : Joint} (ha : js[a]? = some x) (hb : js[b]? = some y) (h : a < b) : x.id < y.id := by
 obtain ⟨h1,rfl⟩ := List.getElem?_eq_some_iff.1 ha;obtain ⟨h2,rfl⟩ := List.getElem?_eq_some_iff.1 hb;exact (List.pairwise_iff_getElem.1 V.jid) a b h1 h2 h
def labOf (js : List Joint) (T : List (Int × Int)) (x : Joint) : Int := match aget T x.id with
 | none => -1
 | some v => idxI (fun y => decide (y.id = v)) js
theorem ValidW.idx_at {js : List Joint} {ls : List Lead} (V : ValidW js ls) {r : Nat} {x : Joint} (h : js[r]? = some x) : idxI (fun y => decide (y.id = x.id)) js = (r : Int) :=
 zCx h (fun j y hj hy => by have := V.id_lt hy h hj;simp;omega) (by simp)
end Go.Proofs.YtbbblemfodpmaaaGreat
end
section
namespace Go.Proofs.YtbbblemfodpmaaaGreat
open Go.RowKit
def RootJ (js : List Joint) (ls : List Lead) (joint lead : Int) (r : Nat) (x : Joint) : Prop := ∀ (r' : Nat) x',js[r']? = some x' → r' < r → ¬ ConJ ls joint lead x'.id x.id
theorem ValidW.part_root {js : List Joint} {ls : List Lead} (V : ValidW js ls) (joint lead : Int) {r : Nat} {x : Joint} (hx : js[r]? = some x) (hj : x.id ≠ joint) :
  ∃ (r0 : Nat) (y : Joint),js[r0]? = some y ∧ aget (togA js ls joint lead) x.id = some y.id ∧ y.id ≠ joint ∧ ConJ ls joint lead y.id x.id ∧ RootJ js ls joint lead r0 y ∧ r0 ≤ r ∧ labOf js (togA js ls joint lead) x = (r0 : Int) := by
 have hT := V.tog_spec joint lead;have hr : r < js.length := (List.getElem?_eq_some_iff.1 hx).1;obtain ⟨v,hv⟩ := some_of (hT.has r x hx hr hj);obtain ⟨_,r0,y0,c1,c2,c3,c4,c5,c6⟩ := hT.val _ _ hv;refine ⟨r0,y0,c1,by rw [hv,c3],by rw [c3];exact c4,by rw [c3];exact c5,fun r' x' h1 h2 h3 => c6 r' x' h1 h2 (h3.trans (by rw [c3];exact c5)), ?_, ?_⟩
 ·rcases Nat.lt_or_ge r r0 with h | h
  ·exact absurd (.refl _) (c6 r x hx h)
  ·exact h
 ·unfold labOf;rw [hv];simp only;rw [← c3,V.idx_at c1]
theorem ValidW.root_eq {js : List Joint} {ls : List Lead} {joint lead : Int} {a b : Nat} {x y : Joint} (V : ValidW js ls) (ha : js[a]? = some x) (hb : js[b]? = some y) (h1 : RootJ js ls joint lead a x) (h2 : RootJ js ls joint lead b y) (hc : ConJ ls joint lead x.id y.id) : a = b := by
 rcases Nat.lt_trichotomy a b with q | q | q
 ·exact absurd hc (h2 a x ha q)
 ·exact q
 ·exact absurd hc.symm (h1 b y hb q)
theorem ValidW.part_eq {js : List Joint} {ls : List Lead} (V : ValidW js ls) (joint lead : Int) {a b : Nat} {x y : Joint} (ha : js[a]? = some x) (hb : js[b]? = some y) (h1 : x.id ≠ joint) (h2 : y.id ≠ joint) : zBx (togA js ls joint lead) x.id = zBx (togA js ls joint lead) y.id ↔ ConJ ls joint lead x.id y.id := by
 obtain ⟨r1,u,c1,c2,_,c4,c5,_⟩ := V.part_root joint lead ha h1;obtain ⟨r2,v,d1,d2,_,d4,d5,_⟩ := V.part_root joint lead hb h2;unfold zBx;rw [c2,d2];simp only [Option.getD_some]
 constructor
 ·intro h;rw [h] at c4;exact c4.symm.trans d4
 ·intro h;have := V.root_eq c1 d1 c5 d5 ((c4.trans h).trans d4.symm);subst this;rw [c1] at d1;cases d1;rfl
end Go.Proofs.YtbbblemfodpmaaaGreat
end
section
namespace Go.Proofs.YtbbblemfodpmaaaGreat
open Go.RowKit
end Go.Proofs.YtbbblemfodpmaaaGreat
end
section
namespace Go.Proofs.YtbbblemfodpmaaaGreat
open Go.RowKit
end Go.Proofs.YtbbblemfodpmaaaGreat
end
section
namespace Go.Proofs.YtbbblemfodpmaaaGreat
open Go.RowKit
end Go.Proofs.YtbbblemfodpmaaaGreat
end
section
namespace Go.Proofs.YtbbblemfodpmaaaGreat
open Go.RowKit
section
variable {js : List Joint} {ls : List Lead} (V : ValidW js ls)
include V
theorem ValidW.bridge_walk {s : Side} {l : Lead} (hl : l ∈ ls) (hs : l.id = s.lead) : revA s ∈ zAr js ls s ↔ zAW js ls l = true := by
 obtain ⟨i,hi,k,hk,e1,e2,_⟩ := V.ends hl;obtain ⟨a,ha⟩ := List.getElem?_of_mem hi;obtain ⟨b,hb⟩ := List.getElem?_of_mem hk;have hp := V.part_eq 0 l.id ha hb (V.jpos hi) (V.jpos hk);rw [e1,e2] at hp;rw [V.walk_bridge hl hs,← hp];unfold zAW;simp
end
end Go.Proofs.YtbbblemfodpmaaaGreat
end
