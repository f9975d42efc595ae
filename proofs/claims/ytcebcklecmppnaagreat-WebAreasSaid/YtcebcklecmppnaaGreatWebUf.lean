/-The areas of the walks of each component, as the program counts them (plain).-/
import Derived.Test.YtcebcklecmppnaaGreatWebUx
import Derived.Test.YtcebcklecmppnaaGreatWebPx
set_option linter.unusedVariables false
set_option linter.unusedSimpArgs false
set_option maxHeartbeats 16000000
set_option maxRecDepth 100000
namespace Go.Proofs.YtcebcklecmppnaaGreat
open Go.RowKit
theorem zFX {α : Type} (f : α → Nat) : ∀ {Q : List α} {R : List Nat},R.Nodup → (∀ q ∈ Q,f q ∈ R) → (R.map fun r => (Q.filter fun q => f q == r).length).sum = Q.length
 | [],R,_,_ => by
  have : ∀ R : List Nat,(R.map fun r => (([] : List α).filter fun q => f q == r).length).sum = 0 := fun R => by
   induction R with
   | nil => rfl
   | cons r R ih => rw [List.map_cons,List.sum_cons,ih];rfl
  exact this R
 | q :: Q,R,hR,hQ => by
  have ih := zFX f (Q := Q) hR fun x hx => hQ x (by simp [hx]);have one : ∀ R : List Nat,(R.map fun r => ((q :: Q).filter fun q => f q == r).length).sum = (R.map fun r => (Q.filter fun q => f q == r).length).sum + R.count (f q) := fun R => by
   induction R with
   | nil => rfl
   | cons r R ih =>
    rw [List.map_cons,List.sum_cons,ih,List.map_cons,List.sum_cons,List.count_cons,List.filter_cons]
    by_cases h : f q = r
    ·subst h;simp;omega
    ·rw [if_neg (by simpa using h),if_neg (by simpa using fun e : r = f q => h e.symm)];omega
  rw [one,ih,List.length_cons,zEo hR (hQ q (by simp))]
section
variable {js : List Joint} {ls : List Lead} (V : ValidW js ls)
include V
theorem ValidW.roots_mem {i : Nat} : i ∈ zBO (labA js ls 0 0) js.length ↔ ∃ y,js[i]? = some y ∧ RootJ js ls 0 0 i y := by
 unfold zBO;rw [List.mem_filter,List.mem_range]
 constructor
 ·rintro ⟨h1,h2⟩;have hy := List.getElem?_eq_getElem h1;exact ⟨_,hy,((V.lab_at 0 0 hy).1 h2).2⟩
 ·rintro ⟨y,hy,hr⟩;exact ⟨(List.getElem?_eq_some_iff.1 hy).1,(V.lab_at 0 0 hy).2 ⟨V.jpos (List.mem_of_getElem? hy),hr⟩⟩
theorem ValidW.lab_iff {i q : Nat} {x y : Joint} (hy : js[i]? = some y) (hr : RootJ js ls 0 0 i y) (hx : js[q]? = some x) : ((labA js ls 0 0)[q]? == some (i : Int)) = true ↔ ConJ ls 0 0 y.id x.id := by
 obtain ⟨r0,z,h1,_,_,h4,h5,_,h7⟩ := V.part_root 0 0 hx (V.jpos (List.mem_of_getElem? hx));have e : (labA js ls 0 0)[q]? = some (r0 : Int) := by
  unfold labA;rw [List.getElem?_map,hx,Option.map_some,h7]
 rw [e];simp only [beq_iff_eq,Option.some.injEq,Int.natCast_inj]
 constructor
 ·intro h;subst h;rw [h1] at hy
  injection hy with hy
  subst hy;exact h4
 ·intro h;have hc := h4.trans h.symm
  rcases Nat.lt_trichotomy r0 i with q | q | q
  ·exact absurd hc (hr r0 z h1 q)
  ·exact q
  ·exact absurd hc.symm (h5 i y hy q)
theorem ValidW.grp_mem {i : Nat} {y : Joint} (hy : js[i]? = some y) (hr : RootJ js ls 0 0 i y) {x : Joint} (hx : x ∈ js) : x.id ∈ grpL js (labA js ls 0 0) js.length i ↔ ConJ ls 0 0 y.id x.id := by
 unfold grpL;rw [List.mem_filterMap]
 constructor
 ·rintro ⟨q,hq,e⟩;obtain ⟨h1,h2⟩ := List.mem_filter.1 hq;obtain ⟨z,hz⟩ : ∃ z,js[q]? = some z := ⟨_,List.getElem?_eq_getElem (List.mem_range.1 h1)⟩
  rw [hz,Option.map_some,Option.some.injEq] at e;rw [← e];exact (V.lab_iff hy hr hz).1 h2
 ·intro h;obtain ⟨q,hq⟩ := List.getElem?_of_mem hx;exact ⟨q,List.mem_filter.2 ⟨List.mem_range.2 (List.getElem?_eq_some_iff.1 hq).1,(V.lab_iff hy hr hq).2 h⟩,by rw [hq];rfl⟩
theorem ValidW.comps_total : ((zBF js ls).map (·.length)).sum = js.length := by
 rw [V.comps_ref];unfold refC;rw [List.map_map];have hf : ∀ q : Nat,q < js.length → ∃ r0 : Nat,r0 ∈ zBO (labA js ls 0 0) js.length ∧ (labA js ls 0 0)[q]? = some (r0 : Int) := fun q hq => by
  have hx := List.getElem?_eq_getElem hq;obtain ⟨r0,z,h1,_,_,h4,h5,_,h7⟩ := V.part_root 0 0 hx (V.jpos (List.mem_of_getElem? hx));exact ⟨r0,V.roots_mem.2 ⟨z,h1,h5⟩,by unfold labA;rw [List.getElem?_map,hx,Option.map_some,h7]⟩
 have hlen : ∀ i,(grpL js (labA js ls 0 0) js.length i).length = ((List.range js.length).filter fun q : Nat => (labA js ls 0 0)[q]? == some (i : Int)).length := fun i => by
  unfold grpL;have key : ∀ Q : List Nat,(∀ q ∈ Q,q < js.length) → (Q.filterMap fun q => (js[q]?).map (·.id)).length = Q.length := fun Q => by
   induction Q with
   | nil => intro _;rfl
   | cons q Q ih =>
    intro h;rw [List.filterMap_cons,List.getElem?_eq_getElem (h q (by simp))];simp [ih fun x hx => h x (by simp [hx])]
  exact key _ fun q hq => List.mem_range.1 (List.mem_filter.1 hq).1
 have hnd : (zBO (labA js ls 0 0) js.length).Nodup := by
  unfold zBO;exact List.nodup_range.filter _
 have := zFX (fun q : Nat => (((labA js ls 0 0)[q]?).getD 0).toNat) (Q := List.range js.length) hnd fun q hq => by
  obtain ⟨r0,h1,h2⟩ := hf q (List.mem_range.1 hq);rw [h2];exact h1
 rw [List.length_range] at this;refine Eq.trans ?_ this
 congr 1
 refine List.map_congr_left fun i _ => ?_;simp only [Function.comp_apply];rw [hlen]
 congr 1
 refine List.filter_congr fun q hq => ?_;obtain ⟨r0,h1,h2⟩ := hf q (List.mem_range.1 hq);rw [h2,Bool.eq_iff_iff];simp;omega
theorem ValidW.walk_area {s : Side} (hs : zAs ls s) : 8192 * zAW js ls (zAI js ls s) = sumS (aS js ls) (zAI js ls s) := by
 have hnd := V.walk_nodup hs;have hmem := fun t (ht : t ∈ zAI js ls s) => V.walk_next hs ht;have hback : ∀ t ∈ zAI js ls s,∃ u ∈ zAI js ls s,zAC js ls u = t := fun t ht => by
  obtain ⟨k,hk⟩ := List.getElem?_of_mem ht;have hlt := (List.getElem?_eq_some_iff.1 hk).1;obtain ⟨k',hk',e⟩ : ∃ k',k' < (zAI js ls s).length ∧ (k' + 1) % (zAI js ls s).length = k := by
   refine ⟨(k + (zAI js ls s).length - 1) % (zAI js ls s).length, ?_, ?_⟩
   ·exact (zEM hlt).2
   ·exact (zEM hlt).1
  have hu := List.getElem?_eq_getElem hk';refine ⟨_,List.mem_of_getElem? hu, ?_⟩;have := V.walk_step hs hu;rw [e,hk] at this
  injection this with this
  exact this.symm
 generalize zAI js ls s = L at *;have hp : (L.map (zAC js ls)).Perm L := by
  refine zEn ?_ hnd fun x => ?_
  ·rw [List.nodup_iff_pairwise_ne,List.pairwise_map];rw [List.nodup_iff_pairwise_ne] at hnd;exact hnd.imp_of_mem fun {a b} ha hb hab e => hab (V.next_inj (hmem a ha).1 (hmem b hb).1 e)
  ·rw [List.mem_map];exact ⟨fun ⟨y,hy,e⟩ => e ▸ (hmem y hy).2,fun hx => hback x hx⟩
 obtain ⟨f,hf⟩ : ∃ f : Side → Int,∀ t,f t = (ptA js (zAi ls t).1).x * ht (ptA js (zAi ls t).1) := ⟨_,fun _ => rfl⟩
 have e1 : sumS (fun t => f (zAC js ls t)) L = sumS f L := by rw [zE6 f,zDL f hp]
 have e2 : 8192 * zAW js ls L = sumS (fun t => aS js ls t - (f (zAC js ls t) - f t)) L := by
  have key : ∀ M : List Side,(∀ t ∈ M,t ∈ L) → 8192 * zAW js ls M = sumS (fun t => aS js ls t - (f (zAC js ls t) - f t)) M := fun M => by
   induction M with
   | nil => intro _;rfl
   | cons t M ih =>
    intro h;have e : zAW js ls (t :: M) = zCV js ls t + zAW js ls M := by simp [zAW]
    rw [e,zAZ,← ih fun x hx => h x (by simp [hx]),hf,hf];have := (V.next (hmem t (h t (by simp))).1).2.1;rw [this];unfold zCV aS ht
    grind
  exact key L fun _ h => h
 rw [e2,zE5,zE5,e1];omega
end
def ownW (js : List Joint) (ls : List Lead) (c : List Int) (x : List Side) : Bool := c.contains (zAi ls (x.headD zCF)).1
theorem one_of {α : Type} {p : α → Bool} {x0 : α} : ∀ {L : List α},L.Nodup → x0 ∈ L → (∀ x ∈ L,p x = true ↔ x = x0) → (L.filter p).length = 1
 | [],_,h,_ => by cases h
 | y :: L,hn,h,hp => by
  obtain ⟨n1,n2⟩ := List.nodup_cons.1 hn;rw [List.filter_cons]
  by_cases e : y = x0
  ·subst e;rw [if_pos ((hp _ (by simp)).2 rfl),List.filter_eq_nil_iff.2 fun x hx q => by have e := (hp x (List.mem_cons_of_mem _ hx)).1 q;rw [e] at hx;exact n1 hx];rfl
  ·have h : x0 ∈ L := (List.mem_cons.1 h).resolve_left fun q => e q.symm;rw [if_neg fun q => e ((hp y (by simp)).1 q),one_of n2 h fun x hx => hp x (by simp [hx])]
theorem flat_sub {α : Type} (p : List α → Bool) : ∀ L : List (List α),(L.filter p).flatten.Sublist L.flatten
 | [] => List.Sublist.refl _
 | x :: L => by
  rw [List.filter_cons,List.flatten_cons]
  split
  ·rw [List.flatten_cons];exact (List.Sublist.refl _).append (flat_sub p L)
  ·exact (flat_sub p L).trans (List.sublist_append_right _ _)
theorem area_sum (js : List Joint) (ls : List Lead) : ∀ O : List (List Side),(∀ x ∈ O,8192 * zAW js ls x = sumS (aS js ls) x) → 8192 * (O.map (zAW js ls)).sum = sumS (aS js ls) O.flatten
 | [],_ => rfl
 | x :: O,h => by
  rw [List.map_cons,List.sum_cons,List.flatten_cons,zDy,← h x (by simp),← area_sum js ls O fun y hy => h y (by simp [hy])];omega
section
variable {js : List Joint} {ls : List Lead} (V : ValidW js ls)
include V
theorem ValidW.walk_con {s t : Side} (hs : zAs ls s) (ht : t ∈ zAI js ls s) : ConJ ls 0 0 (zAi ls s).1 (zAi ls t).1 := by
 obtain ⟨n,rfl⟩ : ∃ n,itA (zAC js ls) n s = t := (V.orb_walk hs).2 ht;clear ht
 induction n with
 | zero => exact .refl _
 | succ n ih =>
  rw [zC6];have hi := V.it_side hs n;rw [(V.next hi).2.1];refine ih.trans (ConJ.one (V.adj_side hi ?_));obtain ⟨l,hl,e⟩ := hi;rw [← e];exact V.lpos hl
theorem ValidW.walk_of {x : List Side} (hx : x ∈ zBo js ls) : ∃ s,zAs ls s ∧ x = zAI js ls s ∧ x.headD zCF = s := by
 obtain ⟨s,hs,rfl⟩ := V.walks_inv.1 x hx;exact ⟨s,hs,rfl,rfl⟩
theorem ValidW.areas {c : List Int} (hc : c ∈ zBF js ls) (hO : 0 < ((zBo js ls).filter (ownW js ls c)).length) : (((zBo js ls).filter (ownW js ls c)).map (zAW js ls)).sum = 0 ∧ (((zBo js ls).filter (ownW js ls c)).filter fun x => decide (zAW js ls x ≤ 0)).length = 1 := by
 rw [V.comps_ref] at hc;unfold refC at hc;obtain ⟨i,hi,rfl⟩ := List.mem_map.1 hc;obtain ⟨y,hy,hr⟩ := V.roots_mem.1 hi;have hcon : ∀ s,zAs ls s → ((grpL js (labA js ls 0 0) js.length i).contains (zAi ls s).1 = true ↔ ConJ ls 0 0 y.id (zAi ls s).1) := fun s hs => by
  have hv : ∃ x ∈ js,x.id = (zAi ls s).1 := by
   obtain ⟨l,hl,_,_,e2⟩ := V.sidePts hs;obtain ⟨-, -,i,hi,k,hk,e3,e4,_⟩ := V.lh hl
   rcases e2 with ⟨_,b,_⟩ | ⟨_,b,_⟩
   ·exact ⟨i,hi,by rw [b,e3]⟩
   ·exact ⟨k,hk,by rw [b,e4]⟩
  obtain ⟨x,hx,e⟩ := hv;rw [List.contains_iff_mem,← e];exact V.grp_mem hy hr hx
 generalize grpL js (labA js ls 0 0) js.length i = c at *;clear hc hi hr;have hmemO : ∀ x,x ∈ (zBo js ls).filter (ownW js ls c) ↔ x ∈ zBo js ls ∧ ∃ s,zAs ls s ∧ x = zAI js ls s ∧ ConJ ls 0 0 y.id (zAi ls s).1 := fun x => by
  rw [List.mem_filter];refine and_congr_right fun hx => ?_;obtain ⟨s,hs,e,e2⟩ := V.walk_of hx;unfold ownW;rw [e2,hcon s hs]
  constructor
  ·intro h;exact ⟨s,hs,e,h⟩
  ·rintro ⟨t,ht,e3,h⟩;have : s ∈ zAI js ls t := by rw [← e3,e];exact zCI hs
   exact h.trans (V.walk_con ht this)
 obtain ⟨O,hOd⟩ : ∃ O,O = (zBo js ls).filter (ownW js ls c) := ⟨_,rfl⟩
 rw [← hOd] at hmemO hO ⊢;have hfl : O.flatten.Nodup := by
  refine List.Nodup.sublist ?_ V.walks_inv.2;rw [hOd];exact flat_sub _ _
 have hin : ∀ t,t ∈ O.flatten ↔ zAs ls t ∧ ConJ ls 0 0 y.id (zAi ls t).1 := fun t => by
  rw [List.mem_flatten]
  constructor
  ·rintro ⟨x,hx,ht⟩;obtain ⟨_,s,hs,rfl,h⟩ := (hmemO x).1 hx;exact ⟨(V.walk_next hs ht).1,h.trans (V.walk_con hs ht)⟩
  ·rintro ⟨ht,h⟩;have h1 := V.walks_once ht;have h2 : t ∈ (zBo js ls).flatten := List.count_pos_iff.1 (by omega);obtain ⟨x,hx,hxt⟩ := List.mem_flatten.1 h2;obtain ⟨s,hs,e,_⟩ := V.walk_of hx;refine ⟨x,(hmemO x).2 ⟨hx,s,hs,e, ?_⟩,hxt⟩;rw [e] at hxt;exact h.trans (V.walk_con hs hxt).symm
 have har : ∀ x ∈ O,8192 * zAW js ls x = sumS (aS js ls) x := fun x hx => by
  obtain ⟨_,s,hs,rfl,_⟩ := (hmemO x).1 hx;exact V.walk_area hs
 have htot : sumS (aS js ls) O.flatten = 0 := by
  have hp : (O.flatten.map revA).Perm O.flatten := by
   refine zEn ?_ hfl fun x => ?_
   ·rw [List.nodup_iff_pairwise_ne,List.pairwise_map];rw [List.nodup_iff_pairwise_ne] at hfl;exact hfl.imp fun {a b} hab e => hab (by have := congrArg revA e;rwa [zCB,zCB] at this)
   ·have key : ∀ z,z ∈ O.flatten → revA z ∈ O.flatten := fun z hz => by
     obtain ⟨h1,h2⟩ := (hin z).1 hz;refine (hin _).2 ⟨zCk h1, ?_⟩;rw [V.rev_ends h1];refine h2.trans (ConJ.one (V.adj_side h1 ?_));obtain ⟨l,hl,e⟩ := h1;rw [← e];exact V.lpos hl
    rw [List.mem_map]
    constructor
    ·rintro ⟨z,hz,rfl⟩;exact key z hz
    ·intro hx;exact ⟨revA x,key x hx,zCB x⟩
  have e1 := zE6 (aS js ls) revA O.flatten;rw [zDL _ hp] at e1;have e2 : sumS (fun s => aS js ls (revA s) + aS js ls s) O.flatten = 0 := by
   have z : ∀ M : List Side,sumS (fun _ => 0) M = 0 := fun M => by
    induction M with
    | nil => rfl
    | cons t M ih => rw [zAZ,ih];rfl
   rw [zE4 (h := fun _ => 0) (fun s hs => by rw [V.aS_rev ((hin s).1 hs).1];omega),z]
  have e3 : sumS (fun s => aS js ls (revA s) + aS js ls s) O.flatten = sumS (fun s => aS js ls (revA s)) O.flatten + sumS (aS js ls) O.flatten := by
   have z : ∀ M : List Side,sumS (fun s => aS js ls (revA s) + aS js ls s) M = sumS (fun s => aS js ls (revA s)) M + sumS (aS js ls) M := fun M => by
    induction M with
    | nil => rfl
    | cons t M ih => rw [zAZ,zAZ,zAZ,ih];omega
   exact z _
  omega
 have hsum : (O.map (zAW js ls)).sum = 0 := by
  have := area_sum js ls O har;omega
 refine ⟨hsum, ?_⟩;obtain ⟨x1,hx1⟩ : ∃ x,x ∈ O := List.exists_mem_of_length_pos hO;obtain ⟨_,s1,hs1,_,hcs1⟩ := (hmemO x1).1 hx1;obtain ⟨s0,g1,g2,g3⟩ := V.area_pos hs1;obtain ⟨x0,hx0,hs0⟩ := List.mem_flatten.1 ((hin s0).2 ⟨g1,hcs1.trans g2⟩);have hposO : ∀ x ∈ O,x ≠ x0 → 0 < zAW js ls x := fun x hx hne => by
  obtain ⟨hxw,s,hs,e,h⟩ := (hmemO x).1 hx;have hns : s0 ∉ x := fun q => by
   obtain ⟨_,t,ht,e2,_⟩ := (hmemO x0).1 hx0;have a1 := V.walk_back hs (e ▸ q);have a2 := V.walk_back ht (e2 ▸ hs0);obtain ⟨n,hn⟩ := List.getElem_of_mem hxw;obtain ⟨k,hk⟩ := List.getElem_of_mem ((hmemO x0).1 hx0).1;obtain ⟨hn,rfl⟩ := hn;obtain ⟨hk,rfl⟩ := hk;have hpw := (List.pairwise_flatten.1 (List.nodup_iff_pairwise_ne.1 V.walks_inv.2)).2
   rcases Nat.lt_trichotomy n k with c | c | c
   ·exact (List.pairwise_iff_getElem.1 hpw n k hn hk c) s0 q s0 hs0 rfl
   ·subst c;exact hne rfl
   ·exact (List.pairwise_iff_getElem.1 hpw k n hk hn c) s0 hs0 s0 q rfl
  have hm : areaM (fun t => decide (t ∈ x)) js ls = sumS (aS js ls) x := by
   unfold areaM;rw [← zFW (fun t => decide (t ∈ x))];refine zDL _ (zEn (V.sides_nodup.filter _) (by rw [e];exact V.walk_nodup hs) fun t => ?_);rw [List.mem_filter,decide_eq_true_iff,zBD];exact ⟨fun h => h.2,fun h => ⟨(V.walk_next hs (e ▸ h)).1,h⟩⟩
  have := g3 (fun t => decide (t ∈ x)) (fun t ht => by
   rw [Bool.eq_iff_iff,decide_eq_true_iff,decide_eq_true_iff]
   constructor
   ·intro q;rw [e] at q ⊢;have h1 := V.walk_back hs q;obtain ⟨n,hn⟩ := (V.orb_walk ht).2 (show s ∈ zAI js ls t from by
     have : Orb (zAC js ls) t s := (Orb.one _ t).trans ((V.orb_walk (V.next ht).1).2 h1);exact (V.orb_walk ht).1 this)
    have := V.walk_back ht ((V.orb_walk ht).1 ⟨n,hn⟩);exact this
   ·intro q;rw [e] at q ⊢;exact (V.walk_next hs q).2) (fun t q => by
   have q := of_decide_eq_true q;rw [e] at q;exact ⟨(V.walk_next hs q).1,hcs1.symm.trans (h.trans (V.walk_con hs q))⟩) (decide_eq_false hns) s (decide_eq_true (by rw [e];exact zCI hs))
  rw [hm,← har x hx] at this;omega
 have hndO : O.Nodup := by
  rw [List.nodup_iff_pairwise_ne];have := (List.pairwise_flatten.1 (List.nodup_iff_pairwise_ne.1 hfl)).2;refine this.imp_of_mem fun {a b} ha hb q e => ?_;subst e;obtain ⟨_,s,hs,e,_⟩ := (hmemO a).1 ha;have : s ∈ a := by rw [e];exact zCI hs
  exact q s this s this rfl
 refine one_of hndO hx0 fun x hx => ?_;rw [decide_eq_true_iff]
 constructor
 ·intro h
  by_cases q : x = x0
  ·exact q
  ·have := hposO x hx q;omega
 ·rintro rfl;have key : ∀ M : List (List Side),(∀ z ∈ M,z ∈ O) → M.Nodup → x ∉ M → 0 ≤ (M.map (zAW js ls)).sum := fun M => by
   induction M with
   | nil => intro _ _ _;exact Int.le_refl _
   | cons z M ih =>
    intro h1 h2 h3;rw [List.map_cons,List.sum_cons];have a := hposO z (h1 z (by simp)) fun q => h3 (by simp [q]);have b := ih (fun q hq => h1 q (by simp [hq])) (List.nodup_cons.1 h2).2 fun q => h3 (by simp [q]);omega
  obtain ⟨A,B,hAB⟩ := List.append_of_mem hx;rw [hAB] at hsum hndO key;rw [List.map_append,List.sum_append,List.map_cons,List.sum_cons] at hsum;have hd := List.nodup_append.1 hndO;have hd2 := List.nodup_cons.1 hd.2.1;have k1 := key A (fun z hz => by simp [hz]) hd.1 fun q => hd.2.2 x q x (by simp) rfl;have k2 := key B (fun z hz => by simp [hz]) hd2.2 hd2.1;omega
end
end Go.Proofs.YtcebcklecmppnaaGreat
