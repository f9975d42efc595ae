/-Joints that hang together: what the visit does (plain).-/
import Derived.Test.YtcebcklecmppnaaGreatWebGk
import Derived.Test.YtcebcklecmppnaaGreatWebTx
import Derived.Test.YtcebcklecmppnaaGreatWebGl
import Derived.Test.YtcebcklecmppnaaGreatWebComp
import Derived.Test.YtcebcklecmppnaaGreatWebGm
set_option linter.unusedVariables false
set_option linter.unusedSimpArgs false
set_option maxHeartbeats 16000000
set_option maxRecDepth 100000
section
namespace Go.Proofs.YtcebcklecmppnaaGreat
open Go.RowKit
structure VisitS (ls : List Lead) (joint lead first j : Int) (m m' : List (Int × Int)) : Prop where
 keep : ∀ i v,aget m i = some v → aget m' i = some v
 new : ∀ i v,aget m i = none → aget m' i = some v → v = first ∧ ConJ ls joint lead j i ∧ i ≠ joint
 closed : ∀ i,aget m i = none → (aget m' i).isSome = true → ∀ k,AdjJ ls joint lead i k → (aget m' k).isSome = true
theorem VisitS.refl {ls : List Lead} {joint lead first j : Int} (m : List (Int × Int)) : VisitS ls joint lead first j m m :=
 ⟨fun _ _ h => h,fun i v h1 h2 => (by rw [h1] at h2;cases h2),fun i h1 h2 => (by rw [h1] at h2;cases h2)⟩
theorem some_of {m : List (Int × Int)} {i : Int} (h : (aget m i).isSome = true) : ∃ v,aget m i = some v := Option.isSome_iff_exists.1 h
theorem VisitS.trans {ls : List Lead} {joint lead first j : Int} {m m1 m2 : List (Int × Int)} (h : VisitS ls joint lead first j m m1) (k : VisitS ls joint lead first j m1 m2) : VisitS ls joint lead first j m m2 := by
 refine ⟨fun i v e => k.keep i v (h.keep i v e),fun i v e1 e2 => ?_,fun i e1 e2 q hq => ?_⟩
 ·cases e : aget m1 i with
  | none => exact k.new i v e e2
  | some u =>
   have := k.keep i u e;rw [e2] at this;cases this;exact h.new i v e1 e
 ·cases e : aget m1 i with
  | none => exact k.closed i e e2 q hq
  | some u =>
   obtain ⟨v,hv⟩ := some_of (h.closed i e1 (by rw [e];rfl) q hq);rw [k.keep q v hv];rfl
theorem VisitS.has {ls : List Lead} {joint lead first j : Int} {m m1 : List (Int × Int)} (h : VisitS ls joint lead first j m m1) {i : Int} (hi : (aget m i).isSome = true) : (aget m1 i).isSome = true := by
 obtain ⟨v,hv⟩ := some_of hi;rw [h.keep i v hv];rfl
theorem zFU (js : List Joint) (ls : List Lead) (joint lead first : Int) (f : Nat) (m : List (Int × Int)) : zAJ js ls joint lead first f m joint = m := by
 cases f with
 | zero => rfl
 | succ f => simp [zAJ]
theorem ahas_get {m : List (Int × Int)} {i : Int} : ahas m i = (aget m i).isSome := by
 unfold ahas aget;rw [Option.isSome_map,List.isSome_find?]
theorem ValidW.end_there {js : List Joint} {ls : List Lead} (V : ValidW js ls) {s : Side} (h : zAs ls s) : ∃ x ∈ js,x.id = (zAi ls s).2 := by
 obtain ⟨l,hl,e⟩ := h;obtain ⟨i,hi,k,hk,e1,e2,_⟩ := V.ends hl;obtain ⟨sl,sb⟩ := s;simp only at e;subst e;rw [V.sideEnds hl]
 cases sb
 ·exact ⟨k,hk,e2⟩
 ·exact ⟨i,hi,e1⟩
theorem ValidW.visit_spec {js : List Joint} {ls : List Lead} (V : ValidW js ls) (joint lead first : Int) : ∀ (f : Nat) (m : List (Int × Int)) (j : Int),zCa js m < f → (∃ x ∈ js,x.id = j) →
  VisitS ls joint lead first j m (zAJ js ls joint lead first f m j) ∧ (j ≠ joint → (aget (zAJ js ls joint lead first f m j) j).isSome = true)
 | 0,m,j,h,_ => by omega
 | f + 1,m,j,h,hj => by
  by_cases hc : (ahas m j || decide (j = joint)) = true
  ·have e : zAJ js ls joint lead first (f + 1) m j = m := by simp only [zAJ];rw [if_pos hc]
   rw [e];refine ⟨VisitS.refl m,fun hn => ?_⟩;simp only [Bool.or_eq_true,decide_eq_true_eq] at hc
   rcases hc with hc | hc
   ·rw [← ahas_get];exact hc
   ·exact absurd hc hn
  ·have e : zAJ js ls joint lead first (f + 1) m j = (outA js ls j).foldl (fun m s => if s.lead = lead then m else zAJ js ls joint lead first f m (zAi ls s).2) (aput m j first) := by simp only [zAJ];rw [if_neg hc]
   simp only [Bool.or_eq_true,decide_eq_true_eq,not_or,Bool.not_eq_true] at hc;obtain ⟨hc1,hc2⟩ := hc;have hm0 : aget m j = none := by rw [ahas_get] at hc1;simpa using hc1
   have hl0 : zCa js (aput m j first) < f := by have := left_put (v := first) hj hc1;omega
   have key : ∀ (l : List Side) (acc : List (Int × Int)),(∀ s ∈ l,s ∈ outA js ls j) → zCa js acc < f →
     VisitS ls joint lead first j acc (l.foldl (fun m s => if s.lead = lead then m else zAJ js ls joint lead first f m (zAi ls s).2) acc) ∧
     ∀ s ∈ l,s.lead ≠ lead → (zAi ls s).2 ≠ joint → (aget (l.foldl (fun m s => if s.lead = lead then m else zAJ js ls joint lead first f m (zAi ls s).2) acc) (zAi ls s).2).isSome = true := by
    intro l
    induction l with
    | nil => intro acc _ _;exact ⟨VisitS.refl acc,fun s hs => by cases hs⟩
    | cons s l ih =>
     intro acc hs hacc;simp only [List.foldl_cons]
     by_cases h1 : s.lead = lead
     ·rw [if_pos h1];obtain ⟨a1,a2⟩ := ih acc (fun t ht => hs t (List.mem_cons_of_mem _ ht)) hacc;refine ⟨a1,fun t ht h2 h3 => ?_⟩
      rcases List.mem_cons.1 ht with rfl | ht
      ·exact absurd h1 h2
      ·exact a2 t ht h2 h3
     ·rw [if_neg h1];have hside := V.of_leave (zBe.1 (hs s (by simp)));have hto : ∃ x ∈ js,x.id = (zAi ls s).2 := V.end_there hside.1;obtain ⟨b1,b2⟩ := V.visit_spec joint lead first f acc (zAi ls s).2 hacc hto
      have b3 : VisitS ls joint lead first j acc (zAJ js ls joint lead first f acc (zAi ls s).2) := by
       by_cases hz : (zAi ls s).2 = joint
       ·rw [hz,zFU];exact VisitS.refl acc
       ·have hadj : AdjJ ls joint lead j (zAi ls s).2 := V.adj_out.2 ⟨hc2,hz,s,hs s (by simp),h1,rfl⟩;exact ⟨b1.keep,fun i v e1 e2 => ⟨(b1.new i v e1 e2).1,(ConJ.one hadj).trans (b1.new i v e1 e2).2.1,(b1.new i v e1 e2).2.2⟩,b1.closed⟩
      have hacc2 : zCa js (zAJ js ls joint lead first f acc (zAi ls s).2) < f := Nat.lt_of_le_of_lt (zFx fun i hi => zEX js ls joint lead first f acc _ i hi) hacc;obtain ⟨a1,a2⟩ := ih _ (fun t ht => hs t (List.mem_cons_of_mem _ ht)) hacc2;refine ⟨b3.trans a1,fun t ht h2 h3 => ?_⟩
      rcases List.mem_cons.1 ht with rfl | ht
      ·exact a1.has (b2 h3)
      ·exact a2 t ht h2 h3
   obtain ⟨a1,a2⟩ := key (outA js ls j) (aput m j first) (fun _ h => h) hl0;rw [e];have hjj : aget (aput m j first) j = some first := by rw [zBv,if_pos rfl]
   have hne : ∀ i,i ≠ j → aget (aput m j first) i = aget m i := fun i hi => by rw [zBv,if_neg hi]
   have hij : ∀ i v,aget m i = some v → i ≠ j := fun i v h1 h2 => by rw [h2,hm0] at h1;cases h1
   refine ⟨⟨fun i v h1 => a1.keep i v (by rw [hne i (hij i v h1)];exact h1),fun i v h1 h2 => ?_,fun i h1 h2 q hq => ?_⟩,fun _ => a1.has (by rw [hjj];rfl)⟩
   ·by_cases hi : i = j
    ·subst hi;have := a1.keep i first hjj
     rw [h2] at this;cases this;exact ⟨rfl, .refl _,hc2⟩
    ·exact a1.new i v (by rw [hne i hi];exact h1) h2
   ·by_cases hi : i = j
    ·subst hi;obtain ⟨_,h4,s,hs,h5,rfl⟩ := V.adj_out.1 hq;exact a2 s hs h5 h4
    ·exact a1.closed i (by rw [hne i hi];exact h1) h2 q hq
structure TogI (js : List Joint) (ls : List Lead) (joint lead : Int) (k : Nat) (m : List (Int × Int)) : Prop where
 closed : ∀ i,(aget m i).isSome = true → ∀ q,AdjJ ls joint lead i q → (aget m q).isSome = true
 val : ∀ i v,aget m i = some v → i ≠ joint ∧ ∃ r x,js[r]? = some x ∧ r < k ∧ x.id = v ∧ v ≠ joint ∧ ConJ ls joint lead v i ∧ ∀ r' x',js[r']? = some x' → r' < r → ¬ ConJ ls joint lead x'.id i
 has : ∀ r x,js[r]? = some x → r < k → x.id ≠ joint → (aget m x.id).isSome = true
theorem TogI.con {js : List Joint} {ls : List Lead} {joint lead : Int} {k : Nat} {m : List (Int × Int)} (h : TogI js ls joint lead k m) {i q : Int} (hi : (aget m i).isSome = true) (hc : ConJ ls joint lead i q) : (aget m q).isSome = true := by
 induction hc with
 | refl => exact hi
 | step _ a ih => exact h.closed _ ih _ a
theorem ValidW.tog_step {js : List Joint} {ls : List Lead} (V : ValidW js ls) (joint lead : Int) {k : Nat} {x : Joint} {m : List (Int × Int)} (hx : js[k]? = some x) (h : TogI js ls joint lead k m) : TogI js ls joint lead (k + 1) (zAJ js ls joint lead x.id (js.length + 1) m x.id) := by
 have hle : zCa js m < js.length + 1 := by
  have : zCa js m ≤ js.length := List.length_filter_le _ _;omega
 obtain ⟨a1,a2⟩ := V.visit_spec joint lead x.id (js.length + 1) m x.id hle ⟨x,List.mem_of_getElem? hx,rfl⟩;refine ⟨fun i hi q hq => ?_,fun i v e => ?_,fun r y hy hr hn => ?_⟩
 ·cases e : aget m i with
  | none => exact a1.closed i e hi q hq
  | some v => exact a1.has (h.closed i (by rw [e];rfl) q hq)
 ·cases e0 : aget m i with
  | some u =>
   have := a1.keep i u e0;rw [e] at this;cases this;obtain ⟨b1,r,y,c1,c2,c3⟩ := h.val i v e0;exact ⟨b1,r,y,c1,by omega,c3⟩
  | none =>
   obtain ⟨rfl,c1,c2⟩ := a1.new i v e0 e;have hxj : x.id ≠ joint := by
    intro hxj;rw [hxj,zFU,e0] at e
    cases e
   refine ⟨c2,k,x,hx,by omega,rfl,hxj,c1,fun r' x' hx' hr' hc => ?_⟩;have hj' : x'.id ≠ joint := by
    intro hj';rw [hj'] at hc;have : ∀ q,ConJ ls joint lead joint q → q = joint := fun q hq => by
     induction hq with
     | refl => rfl
     | step _ a ih => obtain ⟨_,_,_,hne,_⟩ := a;exact absurd ih hne
    exact c2 (this i hc)
   have := h.con (h.has r' x' hx' hr' hj') hc;rw [e0] at this;cases this
 ·rcases Nat.lt_or_ge r k with hr2 | hr2
  ·exact a1.has (h.has r y hy hr2 hn)
  ·have : r = k := by omega
   subst this;rw [hx] at hy;cases hy;exact a2 hn
theorem ValidW.tog_spec {js : List Joint} {ls : List Lead} (V : ValidW js ls) (joint lead : Int) : TogI js ls joint lead js.length (togA js ls joint lead) := by
 have key : ∀ k,k ≤ js.length → TogI js ls joint lead k ((js.take k).foldl (fun m x => zAJ js ls joint lead x.id (js.length + 1) m x.id) []) := by
  intro k
  induction k with
  | zero => intro _;exact ⟨fun i h => (by cases h),fun i v h => (by cases h),fun r x _ h => (by omega)⟩
  | succ k ih =>
   intro hk;obtain ⟨x,hx⟩ : ∃ x,js[k]? = some x := ⟨_,List.getElem?_eq_getElem (by omega)⟩
   rw [List.take_add_one,hx,List.foldl_append];exact V.tog_step joint lead hx (ih (by omega))
 have := key js.length (Nat.le_refl _)
 rwa [List.take_length] at this
end Go.Proofs.YtcebcklecmppnaaGreat
end
section
namespace Go.Proofs.YtcebcklecmppnaaGreat
open Go.RowKit
theorem ValidW.id_lt {js : List Joint} {ls : List Lead} (V : ValidW js ls) {a b : Nat} {x y : Joint} (ha : js[a]? = some x) (hb : js[b]? = some y) (h : a < b) : x.id < y.id := by
 obtain ⟨h1,rfl⟩ := List.getElem?_eq_some_iff.1 ha;obtain ⟨h2,rfl⟩ := List.getElem?_eq_some_iff.1 hb;exact (List.pairwise_iff_getElem.1 V.jid) a b h1 h2 h
theorem ValidW.id_inj {js : List Joint} {ls : List Lead} (V : ValidW js ls) {a b : Nat} {x y : Joint} (ha : js[a]? = some x) (hb : js[b]? = some y) (h : x.id = y.id) : a = b := by
 rcases Nat.lt_trichotomy a b with q | q | q
 ·have := V.id_lt ha hb q;omega
 ·exact q
 ·have := V.id_lt hb ha q;omega
def labOf (js : List Joint) (T : List (Int × Int)) (x : Joint) : Int := match aget T x.id with
 | none => -1
 | some v => idxI (fun y => decide (y.id = v)) js
def labA (js : List Joint) (ls : List Lead) (joint lead : Int) : List Int := js.map (labOf js (togA js ls joint lead))
theorem ValidW.idx_at {js : List Joint} {ls : List Lead} (V : ValidW js ls) {r : Nat} {x : Joint} (h : js[r]? = some x) : idxI (fun y => decide (y.id = x.id)) js = (r : Int) :=
 zCN h (fun j y hj hy => by have := V.id_lt hy h hj;simp;omega) (by simp)
end Go.Proofs.YtcebcklecmppnaaGreat
end
section
namespace Go.Proofs.YtcebcklecmppnaaGreat
open Go.RowKit
def RootJ (js : List Joint) (ls : List Lead) (joint lead : Int) (r : Nat) (x : Joint) : Prop := ∀ (r' : Nat) x',js[r']? = some x' → r' < r → ¬ ConJ ls joint lead x'.id x.id
theorem ValidW.part_root {js : List Joint} {ls : List Lead} (V : ValidW js ls) (joint lead : Int) {r : Nat} {x : Joint} (hx : js[r]? = some x) (hj : x.id ≠ joint) :
  ∃ (r0 : Nat) (y : Joint),js[r0]? = some y ∧ aget (togA js ls joint lead) x.id = some y.id ∧ y.id ≠ joint ∧ ConJ ls joint lead y.id x.id ∧ RootJ js ls joint lead r0 y ∧ r0 ≤ r ∧ labOf js (togA js ls joint lead) x = (r0 : Int) := by
 have hT := V.tog_spec joint lead;have hr : r < js.length := (List.getElem?_eq_some_iff.1 hx).1;obtain ⟨v,hv⟩ := some_of (hT.has r x hx hr hj);obtain ⟨_,r0,y0,c1,c2,c3,c4,c5,c6⟩ := hT.val _ _ hv;refine ⟨r0,y0,c1,by rw [hv,c3],by rw [c3];exact c4,by rw [c3];exact c5,fun r' x' h1 h2 h3 => c6 r' x' h1 h2 (h3.trans (by rw [c3];exact c5)), ?_, ?_⟩
 ·rcases Nat.lt_or_ge r r0 with h | h
  ·exact absurd (.refl _) (c6 r x hx h)
  ·exact h
 ·unfold labOf;rw [hv];simp only;rw [← c3,V.idx_at c1]
theorem ValidW.root_eq {js : List Joint} {ls : List Lead} {joint lead : Int} {a b : Nat} {x y : Joint} (V : ValidW js ls) (ha : js[a]? = some x) (hb : js[b]? = some y) (h1 : RootJ js ls joint lead a x) (h2 : RootJ js ls joint lead b y) (hc : ConJ ls joint lead x.id y.id) : a = b := by
 rcases Nat.lt_trichotomy a b with q | q | q
 ·exact absurd hc (h2 a x ha q)
 ·exact q
 ·exact absurd hc.symm (h1 b y hb q)
theorem ValidW.lab_root {js : List Joint} {ls : List Lead} (V : ValidW js ls) (joint lead : Int) {r : Nat} {x : Joint} (hx : js[r]? = some x) (hj : x.id ≠ joint) : labOf js (togA js ls joint lead) x = (r : Int) ↔ RootJ js ls joint lead r x := by
 obtain ⟨r0,y,h1,_,_,h4,h5,h6,h7⟩ := V.part_root joint lead hx hj;rw [h7]
 constructor
 ·intro h;have : r0 = r := by omega
  subst this;rw [hx] at h1;cases h1;exact h5
 ·intro h;have := V.root_eq h1 hx h5 h h4;omega
theorem ValidW.lab_at {js : List Joint} {ls : List Lead} (V : ValidW js ls) (joint lead : Int) {r : Nat} {x : Joint} (hx : js[r]? = some x) : ((labA js ls joint lead)[r]? == some (r : Int)) = true ↔ x.id ≠ joint ∧ RootJ js ls joint lead r x := by
 unfold labA;rw [List.getElem?_map,hx];simp only [Option.map_some,beq_iff_eq,Option.some.injEq]
 by_cases hj : x.id = joint
 ·constructor
  ·intro h;unfold labOf at h
   cases e : aget (togA js ls joint lead) x.id with
   | none => rw [e] at h;simp only at h;omega
   | some v => exact absurd hj ((V.tog_spec joint lead).val _ _ e).1
  ·intro h;exact absurd hj h.1
 ·rw [V.lab_root joint lead hx hj];exact ⟨fun h => ⟨hj,h⟩,fun h => h.2⟩
theorem ValidW.ids_pos {js : List Joint} {ls : List Lead} (V : ValidW js ls) {x : Joint} (hx : x ∈ js) : x.id ≠ 0 := by
 have := (V.jok x hx).1;unfold zBB at this;simp only [Bool.and_eq_true,decide_eq_true_eq] at this;omega
end Go.Proofs.YtcebcklecmppnaaGreat
end
section
namespace Go.Proofs.YtcebcklecmppnaaGreat
open Go.RowKit
end Go.Proofs.YtcebcklecmppnaaGreat
end
section
namespace Go.Proofs.YtcebcklecmppnaaGreat
open Go.RowKit
def zBO (L : List Int) (k : Nat) : List Nat := (List.range k).filter fun r : Nat => L[r]? == some (r : Int)
def grpL (js : List Joint) (L : List Int) (k i : Nat) : List Int := ((List.range k).filter fun q : Nat => L[q]? == some (i : Int)).filterMap fun q => (js[q]?).map (·.id)
def refC (js : List Joint) (L : List Int) (k : Nat) : List (List Int) := (zBO L k).map (grpL js L k)
theorem zGq (L : List Int) (k : Nat) : zBO L (k + 1) = zBO L k ++ if (L[k]? == some (k : Int)) = true then [k] else [] := by
 unfold zBO;rw [List.range_succ,List.filter_append];congr 1;simp only [List.filter_cons,List.filter_nil]
theorem grp_succ {js : List Joint} {L : List Int} {k i : Nat} {x : Joint} (hx : js[k]? = some x) : grpL js L (k + 1) i = grpL js L k i ++ if (L[k]? == some (i : Int)) = true then [x.id] else [] := by
 unfold grpL;rw [List.range_succ,List.filter_append,List.filterMap_append];congr 1;simp only [List.filter_cons,List.filter_nil]
 split
 ·simp [hx]
 ·rfl
theorem grp_none {js : List Joint} {L : List Int} {k i : Nat} (h : ∀ q,q < k → L[q]? ≠ some (i : Int)) : grpL js L k i = [] := by
 unfold grpL;rw [List.filter_eq_nil_iff.2 fun q hq => by simpa using h q (List.mem_range.1 hq)]
 rfl
structure CmpI (js : List Joint) (L : List Int) (k : Nat) (a : List (List Int) × List (Int × Int)) : Prop where
 eq : a.1 = refC js L k
 ix : ∀ (r : Nat) (x : Joint),js[r]? = some x → r < k → L[r]? = some (r : Int) → ∃ p : Nat,aget a.2 x.id = some (p : Int) ∧ (zBO L k)[p]? = some r
theorem ValidW.cmp_step {js : List Joint} {ls : List Lead} (V : ValidW js ls) {k : Nat} {x : Joint} (hx : js[k]? = some x) {a : List (List Int) × List (Int × Int)} (h : CmpI js (labA js ls 0 0) k a) : CmpI js (labA js ls 0 0) (k + 1) (zAX (togA js ls 0 0) a x.id) := by
 have hpos : ∀ {k : Nat} {y : Joint},js[k]? = some y → y.id ≠ 0 := fun h => V.ids_pos (List.mem_of_getElem? h);have hlab : ∀ {q : Nat} {y : Joint},js[q]? = some y → (labA js ls 0 0)[q]? = some (labOf js (togA js ls 0 0) y) := fun hy => by unfold labA;rw [List.getElem?_map,hy];rfl
 obtain ⟨r0,y,c1,c2,_,c4,c5,c6,c7⟩ := V.part_root 0 0 hx (hpos hx);have hLk : (labA js ls 0 0)[k]? = some (r0 : Int) := by rw [hlab hx,c7]
 have hlt : ∀ q,q < k → ∀ i : Nat,(labA js ls 0 0)[q]? = some (i : Int) → i ≤ q := fun q hq i e => by
  obtain ⟨z,hz⟩ : ∃ z,js[q]? = some z := ⟨_,List.getElem?_eq_getElem (Nat.lt_trans hq (List.getElem?_eq_some_iff.1 hx).1)⟩
  obtain ⟨r1,_,_,_,_,_,_,d6,d7⟩ := V.part_root 0 0 hz (hpos hz);rw [hlab hz,d7] at e;have := Option.some.inj e;omega
 unfold zAX;rw [c2];simp only [Option.getD_some]
 by_cases hr : y.id = x.id
 ·have e0 : r0 = k := V.id_inj c1 hx hr;subst e0;rw [if_pos hr];have hR : zBO (labA js ls 0 0) (r0 + 1) = zBO (labA js ls 0 0) r0 ++ [r0] := by rw [zGq,hLk];simp
  have hlen : a.1.length = (zBO (labA js ls 0 0) r0).length := by rw [h.eq];unfold refC;simp
  refine ⟨?_,fun r z hz hrk hroot => ?_⟩
  ·simp only;unfold refC;rw [hR,List.map_append,h.eq];unfold refC
   congr 1
   ·refine List.map_congr_left fun i hi => ?_;have hik : i < r0 := List.mem_range.1 (List.mem_filter.1 hi).1;rw [grp_succ hx,hLk,if_neg (by simp;omega),List.append_nil]
   ·simp only [List.map_cons,List.map_nil];rw [grp_succ hx,hLk,grp_none fun q hq e => by have := hlt q hq r0 e;omega];simp
  ·simp only;rw [zBv,hR]
   by_cases e : r = r0
   ·subst e;rw [hx] at hz;cases hz;exact ⟨a.1.length,by rw [if_pos rfl],by rw [hlen,List.getElem?_append_right (Nat.le_refl _)];simp⟩
   ·obtain ⟨p,p1,p2⟩ := h.ix r z hz (by omega) hroot;refine ⟨p,by rw [if_neg (fun e2 => e (V.id_inj hz hx e2))];exact p1, ?_⟩;rw [List.getElem?_append_left (List.getElem?_eq_some_iff.1 p2).1];exact p2
 ·have hlk : r0 < k := by
   rcases Nat.lt_or_ge r0 k with q | q
   ·exact q
   ·have : r0 = k := by omega
    subst this;rw [hx] at c1;cases c1;exact absurd rfl hr
  rw [if_neg hr];have hroot : (labA js ls 0 0)[r0]? = some (r0 : Int) := by rw [hlab c1,(V.lab_root 0 0 c1 (hpos c1)).2 c5]
  obtain ⟨p,p1,p2⟩ := h.ix r0 y c1 hlk hroot;have hR : zBO (labA js ls 0 0) (k + 1) = zBO (labA js ls 0 0) k := by rw [zGq,hLk,if_neg (by simp;omega),List.append_nil]
  refine ⟨?_,fun r z hz hrk hrt => ?_⟩
  ·simp only;rw [p1];simp only [Option.getD_some,Int.toNat_natCast];unfold refC;rw [hR,h.eq];unfold refC;refine List.ext_getElem? fun j => ?_;rw [List.getElem?_modify,List.getElem?_map,List.getElem?_map]
   cases hj : (zBO (labA js ls 0 0) k)[j]? with
   | none => simp
   | some i =>
    simp only [Option.map_some,Option.some.injEq];rw [grp_succ hx,hLk];have hn : (zBO (labA js ls 0 0) k).Nodup := List.Nodup.sublist (List.filter_sublist) List.nodup_range
    by_cases e : p = j
    ·subst e;rw [p2] at hj;cases hj;simp
    ·have : r0 ≠ i := fun e2 => by
      subst e2;obtain ⟨g1,g2⟩ := List.getElem?_eq_some_iff.1 p2;obtain ⟨g3,g4⟩ := List.getElem?_eq_some_iff.1 hj;exact e ((List.getElem_inj hn).1 (g2.trans g4.symm))
     rw [if_neg (by simp;omega)];simp [e]
  ·simp only;rw [hR];have : r ≠ k := fun e => by
    subst e;rw [hLk] at hrt;have := Option.some.inj hrt;omega
   exact h.ix r z hz (by omega) hrt
theorem ValidW.comps_ref {js : List Joint} {ls : List Lead} (V : ValidW js ls) : zBF js ls = refC js (labA js ls 0 0) js.length := by
 have key : ∀ k,k ≤ js.length → CmpI js (labA js ls 0 0) k (((js.take k).map (·.id)).foldl (zAX (togA js ls 0 0)) ([],[])) := by
  intro k
  induction k with
  | zero => intro _;exact ⟨rfl,fun r x _ h => (by omega)⟩
  | succ k ih =>
   intro hk;obtain ⟨x,hx⟩ : ∃ x,js[k]? = some x := ⟨_,List.getElem?_eq_getElem (by omega)⟩
   rw [comp_next rfl hx];exact V.cmp_step hx (ih (by omega))
 have := (key js.length (Nat.le_refl _)).eq
 rwa [List.take_length] at this
end Go.Proofs.YtcebcklecmppnaaGreat
end
section
namespace Go.Proofs.YtcebcklecmppnaaGreat
open Go.RowKit
end Go.Proofs.YtcebcklecmppnaaGreat
end
section
namespace Go.Proofs.YtcebcklecmppnaaGreat
open Go.RowKit
section
variable {js : List Joint} {ls : List Lead} (V : ValidW js ls)
include V
end
end Go.Proofs.YtcebcklecmppnaaGreat
end
