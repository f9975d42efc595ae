/-Panes in order: the library's sort at panes.-/
import Derived.Test.YtbbblemfodpmaaaGreatWebGo
import Derived.Test.YtbbblemfodpmaaaGreatWebGg
import Derived.Shelf.SlSortCmp.WholeK
set_option linter.unusedVariables false
set_option linter.unusedSimpArgs false
set_option maxHeartbeats 16000000
set_option maxRecDepth 100000
section
namespace Go.Proofs.YtbbblemfodpmaaaGreat
open Go.RowKit
open Go.Sort (grow SWO PermIn SortedIn)
open Go.Shelf (Ren)
section
variable {α : Type}
theorem zF9 [Inhabited α] {enc : α→Array Value} {sz : Nat} (hsz : ∀ x,(enc x).size = sz) (h0 : 0 < sz) (l : List α) : Sort.flatK (fun x=>(enc x).toList) sz l.toArray = (flat enc l).toArray:=by
 apply Array.ext
 ·simp [zBn hsz]
 ·intro i h1 h2;have hi : i < l.length * sz:=by simpa using h1
  have hd : i / sz < l.length:=(Nat.div_lt_iff_lt_mul h0).2 hi;have hm : i % sz < sz:=Nat.mod_lt _ h0;have e:=zC6 (enc:=enc) hsz l (i / sz) l[i / sz] (List.getElem?_eq_getElem hd) (i % sz) hm;rw [show i / sz * sz + i % sz = i by rw [Nat.mul_comm];exact Nat.div_add_mod i sz] at e;have h3:=Sort.get_flatK (fun x=>(enc x).toList) sz l.toArray i (by simpa using hi);rw [getElem!_pos _ i h1] at h3;rw [h3];have e1 : (l.toArray)[i / sz]! = l[i / sz]:=by simp [hd]
  rw [e1,getElem!_pos _ _ (by simpa [hsz] using hm)];have e2 : (flat enc l)[i]? = some ((flat enc l)[i]'(by simpa using h2)):=List.getElem?_eq_getElem _;rw [e2,Array.getElem?_eq_getElem (by simpa [hsz] using hm)] at e;simpa using (Option.some.inj e).symm
theorem run_enter {g : Nat} {fn : Func} {c : Code} (hf : Tryz.prog.funcs[g]? = some fn) (hn : (fn.name == "runtime.NumGoroutine") = false) (hb : fn.body = some c) : ∀ args w,(callFunc g args).run Tryz.prog w = .ok (.enter g args) w:=
 enters_of hf hn hb
theorem putRow_block (w : World) (blk : Nat) (F : Array Value) (cur : Array Value) (T : TypeId) (hb : w.heap[blk]? = some (.cells cur T)) : (Sort.putRow id w blk 0 F).heap[blk]? = some (.cells (Sort.putCells id 0 F cur) T):=by
 simp [Sort.putRow,Sort.mapBlock,Array.getElem?_modify,hb,Sort.onCells]
theorem zFH (w : World) (blk : Nat) (F : Array Value) (k : Nat) (hk : k ≠ blk) : (Sort.putRow id w blk 0 F).heap[k]? = w.heap[k]?:=by
 simp [Sort.putRow,Sort.mapBlock,Array.getElem?_modify,Ne.symm hk]
theorem sort_rows [Inhabited α] {ρ : Ren} (L : SlLaysF0.n6 Tryz.prog ρ) {enc : α→Array Value} {sz : Nat} (h0 : 0 < sz) (aE : ∀ w,(isAgg (ρ.t 24)).run Tryz.prog w = .ok true w) (zE : ∀ w,(Go.sizeOf (ρ.t 24)).run Tryz.prog w = .ok sz w)
  (hsz : ∀ x,(enc x).size = sz) (hone : ∀ x,(enc x).all (·.oneCell') = true) (cf : α→α→Int) (hO : SWO (ltOf cf)) (g : Nat) (eg : ∀ args w,(callFunc g args).run Tryz.prog w = .ok (.enter g args) w)
  (W : World) (base : Nat) (e : TypeId) (v : Value) (l : List α) (hown : OwnL enc sz W base e v l) (hlen : l.length ≤ 4294967296) (hne : l ≠ [])
  (hcmp : ∀ x y W2,W.grownBy W2 v.ownBlock→Calls Tryz.prog g #[.agg (enc x), .agg (enc y)] W2 fun e W'=>e = .returned (.int .i64 (cf x y))∧Lays W2 W') :
  Calls Tryz.prog (ρ.f 6) #[v, .func (.func g) #[] #[]] W fun r W'=>r = .returned (.tuple #[])∧∃ l' : List α,l'.Perm l∧l'.Pairwise (fun a b=>ltOf cf b a = false)∧OwnL enc sz W' base e v l'∧W.grownBy W' v.ownBlock:=by
 obtain ⟨hfl,h | ⟨blk,cap,cur,rfl,h3,h4,h5,h6,h7,h8⟩⟩:=hown
 ·obtain ⟨rfl,hl⟩:=h;exact absurd (List.eq_nil_of_length_eq_zero hl) hne
 ·have hbl:=(Array.getElem?_eq_some_iff.1 h4).1;have hH : Sort.HoldsK (fun x=>(enc x).toList) sz W blk 0 l.toArray:=by
   unfold Sort.HoldsK;rw [zF9 hsz h0];intro j hj;simp only [List.size_toArray] at hj;refine ⟨?_, ?_⟩
   ·simp only [World.cell?,h4,Nat.zero_add,id];rw [getElem!_pos _ j (by simpa using hj)];have : cur[j]? = some ((flat enc l)[j]'hj):=by
     have h9 : (flat enc l)[j]? = some ((flat enc l)[j]'hj):=List.getElem?_eq_getElem hj;have h10 : (cur.toList.take (l.length * sz))[j]? = cur.toList[j]?:=List.getElem?_take_of_lt (by rw [hfl] at hj;exact hj);rw [h8,h9] at h10;simpa using h10.symm
    simpa using this
   ·simp [World.frozen?,h4]
  refine (AnyQ.slices_SortFunc L sz aE zE (fun x=>(enc x).toList) (fun x=>by simp [hsz]) (fun x u hu=>by have:=hone x;rw [Array.all_eq_true_iff_forall_mem] at this;exact this u (by simpa using hu)) cf hO g #[] blk 0 cap l.toArray W eg ?_ hH hbl (by simp;omega)).mono ?_
  ·intro m os dk hdk x y;refine (hcmp x y _ ?_).mono ?_
   ·refine ⟨rfl,rfl,rfl,by simp [sortWorldK,grow,Sort.putRowK],fun k hk hn=>?_⟩;have hkb : k ≠ blk:=fun e1=>hn (by simp [Value.ownBlock,e1]);have hs2 : (Sort.putRowK (fun x=>(enc x).toList) sz (Sort.ahead W m) blk 0 dk).heap.size = W.heap.size:=by simp [Sort.putRowK]
    exact (Array.getElem?_append_left (by rw [hs2];exact hk)).trans (zFH _ _ _ _ hkb)
   rintro r W' ⟨rfl,q,os',rfl⟩;exact ⟨rfl,q,os',rfl⟩
  ·rintro r W' ⟨rfl,d',n,os,hp,hs,rfl⟩;obtain ⟨hp1,_,hp3⟩:=hp;have hd : d' = d'.toList.toArray:=by simp
   have hpl : d'.toList.Perm l:=by
    have e1 : (d'.extract 0 l.toArray.size) = d':=by rw [← hp1];exact Array.extract_size
    have e2 : (l.toArray.extract 0 l.toArray.size) = l.toArray:=Array.extract_size;rw [e1,e2] at hp3;simpa using hp3
   have hlen' : d'.toList.length = l.length:=hpl.length_eq;have hw : sortWorldK (fun x=>(enc x).toList) sz W blk 0 n d' os = grow (Sort.putRow id (Sort.ahead W n) blk 0 (flat enc d'.toList).toArray) os:=by
    unfold sortWorldK Sort.putRowK;rw [hd,zF9 hsz h0]
   rw [hw];have hb1 : (Sort.putRow id (Sort.ahead W n) blk 0 (flat enc d'.toList).toArray).heap[blk]? = some (.cells (Sort.putCells id 0 (flat enc d'.toList).toArray cur) e):=putRow_block _ _ _ _ _ h4;have hsz2 : (Sort.putRow id (Sort.ahead W n) blk 0 (flat enc d'.toList).toArray).heap.size = W.heap.size:=by simp
   have hfl' : (flat enc d'.toList).length = l.length * sz:=by rw [zBn hsz,hlen']
   have hcs : l.length * sz ≤ cur.size:=by rw [h7];exact Nat.mul_le_mul_right _ h5
   refine ⟨rfl,d'.toList,hpl, ?_, ?_, ?_⟩
   ·rw [List.pairwise_iff_getElem];intro i j hi hj hij;have:=hs i j (Nat.zero_le _) hij (by simp at hj;rw [← hp1];exact hj);simp at hi hj;rw [getElem!_pos d' i (by simpa using hi),getElem!_pos d' j (by simpa using hj)] at this;simpa using this
   ·unfold OwnL;refine ⟨by rw [hfl',hlen'], .inr ⟨blk,cap,Sort.putCells id 0 (flat enc d'.toList).toArray cur,by rw [hlen'],h3, ?_,by rw [hlen'];exact h5,h6,by simpa [Sort.putCells] using h7, ?_⟩⟩
    ·show (Array.append _ os)[blk]? = _
     have : (Sort.putRow id (Sort.ahead W n) blk 0 (flat enc d'.toList).toArray).heap ++ os = (Sort.putRow id (Sort.ahead W n) blk 0 (flat enc d'.toList).toArray).heap ++ os:=rfl;exact (Array.getElem?_append_left (by rw [hsz2];exact hbl)).trans hb1
    ·apply List.ext_getElem?
     intro i;rw [List.getElem?_take,hlen']
     split
     ·rename_i hi;have hi2 : i < (flat enc d'.toList).length:=by rw [hfl'];exact hi
      have hi3 : i < cur.size:=Nat.lt_of_lt_of_le hi hcs;rw [List.getElem?_eq_getElem hi2];simp [Sort.putCells,hi3,hi2]
     ·rename_i hi;exact (List.getElem?_eq_none (by rw [hfl'];omega)).symm
   ·refine ⟨rfl,rfl,rfl,by simp [grow],fun k hk hne=>?_⟩;have hkb : k ≠ blk:=fun e1=>hne (by simp [Value.ownBlock,e1]);exact (Array.getElem?_append_left (by rw [hsz2];exact hk)).trans (zFH _ _ _ _ hkb)
end
def ltPt (p q : Point) : Prop:=p.x < q.x ∨ (p.x = q.x∧p.y < q.y)
theorem zE5 {p q : Point} : zCj p q < 0 ↔ ltPt p q:=by
 unfold zCj orZ2 cmpZ ltPt
 repeat' split
 all_goals omega
theorem zB6 {p q : Point} : zCj p q = 0 ↔ p = q:=by
 obtain ⟨a,b⟩:=p;obtain ⟨c,d⟩:=q;unfold zCj orZ2 cmpZ;simp only [Point.mk.injEq]
 repeat' split
 all_goals omega
theorem cmpPt_gt {p q : Point} : 0 < zCj p q ↔ ltPt q p:=by
 unfold zCj orZ2 cmpZ ltPt
 repeat' split
 all_goals omega
theorem ltPt_trans {p q r : Point} (h : ltPt p q) (k : ltPt q r) : ltPt p r:=by unfold ltPt at *;omega
theorem zDe : ∀ {l m : List Point},zA0 l m = 0 ↔ l = m
 | [],[]=>by simp [zA0]
 | [],_ :: _=>by simp [zA0]
 | _ :: _,[]=>by simp [zA0]
 | p :: l,q :: m=>by
  unfold zA0
  split
  ·rename_i h;rw [zDe (l:=l) (m:=m),zB6.1 h];simp
  ·rename_i h
   constructor
   ·exact fun e=>absurd e h
   ·intro e;simp only [List.cons.injEq] at e;exact absurd (zB6.2 e.1) h
theorem zEE : ∀ {l m : List Point},(zA0 l m < 0 ↔ 0 < zA0 m l)
 | [],[]=>by simp [zA0]
 | [],_ :: _=>by simp [zA0]
 | _ :: _,[]=>by simp [zA0]
 | p :: l,q :: m=>by
  by_cases h : p = q
  ·have e1:=zB6.2 h;have e2:=zB6.2 h.symm;simp only [zA0,if_pos e1,if_pos e2];exact zEE
  ·have e1 : ¬ zCj p q = 0:=fun e=>h (zB6.1 e);have e2 : ¬ zCj q p = 0:=fun e=>h (zB6.1 e).symm;simp only [zA0,if_neg e1,if_neg e2];rw [zE5,cmpPt_gt]
theorem zDt : ∀ {l m n : List Point},zA0 l m < 0→zA0 m n < 0→zA0 l n < 0
 | [],[],_,h,_=>by simp [zA0] at h
 | _ :: _,[],_,h,_=>by simp [zA0] at h
 | _,_ :: _,[],_,k=>by simp [zA0] at k
 | [],_ :: _,_ :: _,_,_=>by simp [zA0]
 | p :: l,q :: m,r :: n,h,k=>by
  by_cases hpq : p = q
  ·subst hpq;have e1:=(zB6 (p:=p) (q:=p)).2 rfl;simp only [zA0,if_pos e1] at h
   by_cases hpr : p = r
   ·subst hpr;simp only [zA0,if_pos e1] at k ⊢;exact zDt h k
   ·have e2 : ¬ zCj p r = 0:=fun e=>hpr (zB6.1 e);simp only [zA0,if_neg e2] at k ⊢;exact k
  ·have e1 : ¬ zCj p q = 0:=fun e=>hpq (zB6.1 e);simp only [zA0,if_neg e1] at h
   by_cases hqr : q = r
   ·subst hqr;simp only [zA0,if_neg e1];exact h
   ·have e2 : ¬ zCj q r = 0:=fun e=>hqr (zB6.1 e);simp only [zA0,if_neg e2] at k;have h3:=ltPt_trans (zE5.1 h) (zE5.1 k);have e3:=zE5.2 h3;simp only [zA0,if_neg (show ¬ zCj p r = 0 by omega)];exact e3
theorem cmpPts_swo {α : Type} (f : α→List Point) : SWO (Go.Proofs.ltOf fun x y : α=>zA0 (f x) (f y)):=by
 refine ⟨fun x=>?_,fun x y z h k=>?_,fun x y z h k=>?_⟩
 ·simp [Go.Proofs.ltOf,zDe.2]
 ·simp only [Go.Proofs.ltOf,decide_eq_true_eq] at *;exact zDt h k
 ·simp only [Go.Proofs.ltOf,decide_eq_false_iff_not] at *;intro hxz
  rcases Int.lt_trichotomy (zA0 (f x) (f y)) 0 with h1 | h1 | h1
  ·exact h h1
  ·rw [zDe.1 h1] at hxz;exact k hxz
  ·exact k (zDt (zEE.2 h1) hxz)
end Go.Proofs.YtbbblemfodpmaaaGreat
end
section
namespace Go.Proofs.YtbbblemfodpmaaaGreat
open Go.RowKit
structure PaneM where
 id : Int
 o : Sl Point
 e : Sl (Sl Side)
def zAJ (x : PaneM) : Array Value:=#[vi x.id, .slice x.o.a x.o.val.length x.o.cap, .slice x.e.a x.e.val.length x.e.cap]
theorem zFp (x : PaneM) : (zAJ x).all (·.oneCell') = true:=by simp [zAJ,Value.oneCell']
theorem einfo_Pane : zBU Tryz.prog 35 82 3 56:=⟨Tryz.underlying35,by kernel_rfl⟩
def PaneM.plain (x : PaneM) : PaneP:=⟨x.id,x.o.val,x.e.val.map Sl.val⟩
structure PaneLies (W : World) (N : Nat) (x : PaneM) : Prop where
 out : OwnL zAb 2 W N 27 x.o.v x.o.val
 eds : OwnL zBV 1 W N 62 x.e.v x.e.val
 sds : ∀ s ∈ x.e.val,OwnL zAa 2 W N 59 s.v s.val
theorem PaneLies.kept {W W' : World} {N : Nat} {x : PaneM} (h : PaneLies W N x) (hb : ∀ (g : Nat) (cur : Array Value) (T : TypeId),W.heap[g]? = some (.cells cur T (0,0))→(T = 27 ∨ T = 62 ∨ T = 59)→W'.heap[g]? = W.heap[g]?) : PaneLies W' N x:=by
 refine ⟨h.out.kept fun g hg=>?_,h.eds.kept fun g hg=>?_,fun s hs=>(h.sds s hs).kept fun g hg=>?_⟩
 ·obtain ⟨a,cur,b⟩:=h.out.cellsAt hg;exact hb g cur _ b (.inl rfl)
 ·obtain ⟨a,cur,b⟩:=h.eds.cellsAt hg;exact hb g cur _ b (.inr (.inl rfl))
 ·obtain ⟨a,cur,b⟩:=(h.sds s hs).cellsAt hg;exact hb g cur _ b (.inr (.inr rfl))
theorem PaneLies.belowAll {W W' : World} {N : Nat} {x : PaneM} (h : PaneLies W N x) (hb : Below W.heap.size W W') : PaneLies W' N x:=h.kept fun g cur T hg _=>hb.block g (Array.getElem?_eq_some_iff.1 hg).1
theorem PaneLies.base_le {W : World} {N N' : Nat} {x : PaneM} (h : PaneLies W N x) (hN : N' ≤ N) : PaneLies W N' x:=⟨h.out.base_le hN,h.eds.base_le hN,fun s hs=>(h.sds s hs).base_le hN⟩
theorem PaneLies.turnT {W W' : World} {N b : Nat} {x : PaneM} (h : PaneLies W N x) (hT : Turn b W W') (hb : ∀ cur T,W.heap[b]? = some (.cells cur T (0,0))→T ≠ 27∧T ≠ 62∧T ≠ 59) : PaneLies W' N x:=h.kept fun g cur T hg hT2=>hT.block g fun e=>by
 subst e;obtain ⟨a,b,c⟩:=hb cur T hg
 rcases hT2 with h | h | h
 ·exact a h
 ·exact b h
 ·exact c h
theorem PaneLies.grownT {W W' : World} {N : Nat} {r : Option Nat} {x : PaneM} (h : PaneLies W N x) (hg : W.grownBy W' r) (hb : ∀ b,r = some b→∀ cur T,W.heap[b]? = some (.cells cur T (0,0))→T ≠ 27∧T ≠ 62∧T ≠ 59) : PaneLies W' N x:=h.kept fun g cur T hgc hT2=>hg.block g (Array.getElem?_eq_some_iff.1 hgc).1 fun e=>by
 obtain ⟨a,b,c⟩:=hb g e.symm cur T hgc
 rcases hT2 with h | h | h
 ·exact a h
 ·exact b h
 ·exact c h
theorem corners_small {js : List Joint} {ls : List Lead} {l : List Side} (h : l.length ≤ 800) : (zDE (zAI js ls l)).length ≤ 800:=by
 unfold zDE;rw [List.length_map,List.length_range];unfold zBb;have h1:=List.length_filter_le (zBL (zAI js ls l)) (List.range (zAI js ls l).length);have hp : (zAI js ls l).length = l.length:=by unfold zAI;rw [List.length_map]
 rw [List.length_range] at h1;exact Nat.le_trans h1 (by rw [hp];exact h)
theorem paneM_any {b : Nat} {sj : Sl Joint} {sl : Sl Lead} (V : ValidW sj.val sl.val) (l : List Side) (hl8 : l.length ≤ 800) (hI : ∀ x ∈ l,I64 x.lead) (hne : zBb (zAI sj.val sl.val l) ≠ []) (N0 : Nat) (lv : Value) (w : World) (hN : zA5 w b sj sl) (hv : OwnL zAa 2 w N0 59 lv l) :
  Calls Tryz.prog 137 #[.pointer (some ⟨b,0,none⟩),lv] w fun e w'=>∃ m,e = .returned (.agg (zAJ m))∧PaneLies w' w.heap.size m∧m.plain = zDi sj.val sl.val l∧Below w.heap.size w w':=by
 refine (pane_any V l hl8 hI hne N0 lv w hN hv).mono ?_;rintro e w' ⟨ov,ev,rfl,ho,⟨ss,he,hs,hm⟩,hb⟩;obtain ⟨oa,oc,rfl⟩:=ho.shape;obtain ⟨ea,ec,rfl⟩:=he.shape;refine ⟨⟨0,⟨oa,oc,(zDi sj.val sl.val l).outline⟩,⟨ea,ec,ss⟩⟩,rfl,⟨ho,he,hs⟩, ?_,hb⟩;unfold PaneM.plain;simp only [hm]
 rfl
theorem panes1_any (x y : PaneM) (w : World) {N : Nat} (hx : OwnL zAb 2 w N 27 x.o.v x.o.val) (hy : OwnL zAb 2 w N 27 y.o.v y.o.val) (hlx : x.o.val.length ≤ 4294967296) (hly : y.o.val.length ≤ 4294967296) :
  Calls Tryz.prog 139 #[.agg (zAJ x), .agg (zAJ y)] w fun e w'=>e = .returned (.int .i64 (zA0 x.o.val y.o.val))∧Lays w w':=by
 have hB : Below w.heap.size w ((w.alloc (.cells (zAJ x) 82)).alloc (.cells (zAJ y) 82)):=(((Lays.refl w).alloc _).alloc _).below (Nat.le_refl _);have h0 : zAe ((w.alloc (.cells (zAJ x) 82)).alloc (.cells (zAJ y) 82)) w.heap.size 82 (zAJ x):=(zAe.new _ _ _).alloc _;have h1 : zAe ((w.alloc (.cells (zAJ x) 82)).alloc (.cells (zAJ y) 82)) (w.heap.size + 1) 82 (zAJ y):=by have h:=zAe.new (w.alloc (.cells (zAJ x) 82)) 82 (zAJ y);rw [World.size_alloc] at h;exact h
 have HC : Hid (Calls Tryz.prog 140 #[.slice x.o.a x.o.val.length x.o.cap, .slice y.o.a y.o.val.length y.o.cap, .func (.func 141) #[] #[]] ((w.alloc (.cells (zAJ x) 82)).alloc (.cells (zAJ y) 82)) fun e w'=>e = .returned (.int .i64 (zA0 x.o.val y.o.val))∧Lays ((w.alloc (.cells (zAJ x) 82)).alloc (.cells (zAJ y) 82)) w'):=zz (by
  obtain ⟨s,hs,hsv,hsok,_⟩:=OwnL.sl (enc:=zAb) (sz:=2) (hx.belowAll hB) (fun _=>rfl) (fun _ _ _=>True) (fun _=>False) (fun _ _=>trivial) (fun _ _ h=>h) hlx;obtain ⟨t,ht,htv,htok,_⟩:=OwnL.sl (enc:=zAb) (sz:=2) (hy.belowAll hB) (fun _=>rfl) (fun _ _ _=>True) (fun _=>False) (fun _ _=>trivial) (fun _ _ h=>h) hly;have h:=zGr s t _ hsok htok;rw [hsv,htv] at h;have e1 : Value.slice x.o.a x.o.val.length x.o.cap = .slice s.a x.o.val.length s.cap:=by
   have h2 : x.o.v = .slice s.a s.val.length s.cap:=hs;rw [hsv] at h2;exact h2
  have e2 : Value.slice y.o.a y.o.val.length y.o.cap = .slice t.a y.o.val.length t.cap:=by
   have h2 : y.o.v = .slice t.a t.val.length t.cap:=ht;rw [htv] at h2;exact h2
  rw [e1,e2];exact h)
 have q0:=(h0.cell 1).trans (show _ = some (.slice x.o.a x.o.val.length x.o.cap) from rfl);have q1:=(h1.cell 1).trans (show _ = some (.slice y.o.a y.o.val.length y.o.cap) from rfl);clear hx hy;go_enter Tryz.func139,Tryz.ntmps139
 go_wp2_with (first
  | (go_at_call 140;refine HC.out.mono ?_;rintro e w3 ⟨rfl,l3⟩))
 go_ret;exact ⟨rfl,(((Lays.refl w).alloc _).alloc _).trans l3⟩
def zDY (js : List Joint) (ls : List Lead) : List PaneP:=(zBu js ls).map (zDi js ls)
def zEi (a b : PaneP) : Bool:=decide (zA0 a.outline b.outline < 0)
def zCt (l : List PaneP) : List PaneP:=l.zipIdx.map fun x=>{ x.1 with id:=(x.2 : Int) + 1 }
def zEj (js : List Joint) (ls : List Lead) : List PaneP:=zCt (sortB zEi (zDY js ls))
def Told (js : List Joint) (ls : List Lead) : Prop:=(∀ l ∈ zBu js ls,zBb (zAI js ls l) ≠ [])∧∀ a ∈ zDY js ls,∀ b ∈ zDY js ls,a.outline = b.outline→a = b
theorem pane_ord {js : List Joint} {ls : List Lead} (h : Told js ls) : OrdOn zEi (· ∈ zDY js ls):=by
 refine ⟨fun a _=>?_,fun a b c _ _ _ h k=>?_,fun a b ha hb hab hba=>h.2 a ha b hb ?_⟩
 ·simp [zEi,zDe.2]
 ·simp only [zEi,decide_eq_true_eq] at *;exact zDt h k
 ·simp only [zEi,decide_eq_false_iff_not] at hab hba
  rcases Int.lt_trichotomy (zA0 a.outline b.outline) 0 with h1 | h1 | h1
  ·exact absurd h1 hab
  ·exact zDe.1 h1
  ·exact absurd (zEE.2 h1) hba
def ofA (l : List PaneP) : List (Side × Int):=l.foldl (fun m p=>p.edges.foldl (fun m e=>e.foldl (fun m s=>aput m s p.id) m) m) []
end Go.Proofs.YtbbblemfodpmaaaGreat
end
section
namespace Go.Proofs.YtbbblemfodpmaaaGreat
open Go.RowKit
theorem sub_flat {α : Type} {enc : α→Array Value} {l : List α} (m : List { x // x ∈ l }) : flat (fun x : { x // x ∈ l }=>enc x.1) m = flat enc (m.map Subtype.val):=by
 unfold flat;rw [List.flatMap_map]
theorem OwnL.sub {α : Type} {enc : α→Array Value} {sz : Nat} {W : World} {N : Nat} {T : TypeId} {v : Value} {l : List α} (h : OwnL enc sz W N T v l) : OwnL (fun x : { x // x ∈ l }=>enc x.1) sz W N T v l.attach:=by
 unfold OwnL at *;rw [sub_flat,List.attach_map_subtype_val,List.length_attach];exact h
theorem OwnL.unsub {α : Type} {enc : α→Array Value} {sz : Nat} {W : World} {N : Nat} {T : TypeId} {v : Value} {l : List α} {m : List { x // x ∈ l }} (h : OwnL (fun x : { x // x ∈ l }=>enc x.1) sz W N T v m) : OwnL enc sz W N T v (m.map Subtype.val):=by
 unfold OwnL at *;rw [sub_flat] at h;rw [List.length_map];exact h
def zE6 : Prop:=∀ a m c w,Calls Tryz.prog 138 #[.slice a 0 m,c] w fun e w'=>e = .returned (.tuple #[])∧w' = w
theorem panes_sort (W : World) (N M : Nat) (v : Value) (ms : List PaneM) (hne : ms = []→zE6) (hown : OwnL zAJ 3 W N 82 v ms) (hlen : ms.length ≤ 4294967296) (hl : ∀ m ∈ ms,PaneLies W M m∧m.o.val.length ≤ 4294967296) :
  Calls Tryz.prog 138 #[v, .func (.func 139) #[] #[]] W fun e W'=>e = .returned (.tuple #[])∧∃ ms' : List PaneM,ms'.Perm ms∧(ms'.Pairwise fun a b=>¬ zA0 b.o.val a.o.val < 0)∧OwnL zAJ 3 W' N 82 v ms'∧(∀ m ∈ ms',PaneLies W' M m)∧W.grownBy W' v.ownBlock:=by
 by_cases hn : ms = []
 ·subst hn;obtain ⟨a,m,rfl⟩:=hown.shape;refine (hne rfl a m _ W).mono ?_;rintro e w' ⟨rfl,rfl⟩;exact ⟨rfl,[], .refl _, .nil,hown,by simp, .refl _ _⟩
 obtain ⟨x0,hx0⟩:=List.exists_mem_of_ne_nil _ hn
 haveI : Inhabited { x // x ∈ ms }:=⟨⟨x0,hx0⟩⟩
 have h:=sort_rows Tryz.sortPane (enc:=fun x : { x // x ∈ ms }=>zAJ x.1) (sz:=3) (by decide) (fun w=>by kernel_rfl) (fun w=>by kernel_rfl) (fun _=>rfl) (fun x=>zFp x.1) (fun x y=>zA0 x.1.o.val y.1.o.val) (cmpPts_swo _) 139 (run_enter Tryz.func139 rfl rfl)
  W N 82 v ms.attach hown.sub (by simpa using hlen) (by simpa using hn) (fun x y W2 hg=>by
   have key : ∀ x : { x // x ∈ ms },OwnL zAb 2 W2 M 27 x.1.o.v x.1.o.val:=fun x=>(hl x.1 x.2).1.out.kept fun g hgg=>by
    obtain ⟨_,cur,hc⟩:=(hl x.1 x.2).1.out.cellsAt hgg;exact hg.block g (Array.getElem?_eq_some_iff.1 hc).1 fun e=>hown.other (hl x.1 x.2).1.out (by decide) e.symm hgg
   exact panes1_any x.1 y.1 W2 (key x) (key y) (hl x.1 x.2).2 (hl y.1 y.2).2)
 refine h.mono ?_;rintro e W' ⟨rfl,l',hp,hs,ho,hg⟩;refine ⟨rfl,l'.map Subtype.val, ?_, ?_,ho.unsub,fun m hm=>?_,hg⟩
 ·have h1:=hp.map Subtype.val
  rwa [List.attach_map_subtype_val] at h1
 ·rw [List.pairwise_map];refine hs.imp fun h=>?_;simpa [Go.Proofs.ltOf] using h
 ·obtain ⟨x,_,rfl⟩:=List.mem_map.1 hm;refine (hl x.1 x.2).1.grownT hg fun g hgg cur T hc=>?_;obtain ⟨_,c2,h2⟩:=hown.cellsAt hgg;rw [hc] at h2;simp only [Option.some.injEq,Obj.cells.injEq] at h2;rw [h2.2.1];exact ⟨by decide,by decide,by decide⟩
theorem zFI : ∀ (vs : List Value) (cs : Array Value) (o : Nat),(∀ j,j < vs.length→cs[o + j]? = vs[j]?)→zAx cs o vs = cs
 | [],_,_,_=>rfl
 | v :: r,cs,o,h=>by
  have h0:=h 0 (by simp);rw [Nat.add_zero] at h0;have e : cs.setIfInBounds o v = cs:=by
   apply Array.ext_getElem?
   intro i;rw [Array.getElem?_setIfInBounds]
   split
   ·rename_i hi;subst hi
    split
    ·rw [h0];rfl
    ·rename_i hlt;rw [Array.getElem?_eq_none (by omega)] at h0;simp at h0
   ·rfl
  show zAx (cs.setIfInBounds o v) (o + 1) r = cs
  rw [e];exact zFI r cs (o + 1) fun j hj=>by
   have h1:=h (j + 1) (by simpa using hj);rw [← Nat.add_assoc,Nat.add_right_comm] at h1;simpa using h1
theorem OwnL.setId {W : World} {N : Nat} {v : Value} {l : List PaneM} (h : OwnL zAJ 3 W N 82 v l) {i : Nat} {x : PaneM} (hi : l[i]? = some x) :
  ∃ g cap cur,v = .slice (some ⟨g,0,none⟩) l.length cap∧zAe W g 82 cur∧i * 3 + 3 ≤ cur.size∧∀ W' n,zAe W' g 82 (zAx cur (i * 3) [.int .i64 n])→OwnL zAJ 3 W' N 82 v (l.set i { x with id:=n }):=by
 obtain ⟨g,cap,cur,e,hb,hs,hset⟩:=OwnL.store (enc:=zAJ) (sz:=3) (fun _=>rfl) h (List.getElem?_eq_some_iff.1 hi).1;obtain ⟨g2,cap2,e2,_,_,hc⟩:=OwnL.cellOf (enc:=zAJ) (sz:=3) (fun _=>rfl) h hi;have hg : g2 = g:=by
  rw [e] at e2;simp only [Value.slice.injEq,Option.some.injEq,Addr.mk.injEq] at e2;exact e2.1.1.symm
 subst hg;refine ⟨g2,cap,cur,e,hb,hs,fun W' n hW=>hset W' { x with id:=n } (hW.eqv ?_)⟩;have c1:=hc 1 (by decide);have c2:=hc 2 (by decide);rw [hb.cell] at c1 c2
 show zAx cur (i * 3) [.int .i64 n] = zAx (cur.setIfInBounds (i * 3) (.int .i64 n)) (i * 3 + 1) [.slice x.o.a x.o.val.length x.o.cap, .slice x.e.a x.e.val.length x.e.cap]
 symm
 refine (zFI _ _ _ fun j hj=>?_).trans rfl
 rcases j with _ | _ | j
 ·rw [Array.getElem?_setIfInBounds_ne (by omega)];exact c1
 ·rw [Array.getElem?_setIfInBounds_ne (by omega)];exact c2
 ·simp at hj;omega
def zCG (l : List PaneM) (k : Nat) : List PaneM:=l.zipIdx.map fun x=>if x.2 < k then { x.1 with id:=(x.2 : Int) + 1 } else x.1
theorem zCM (l : List PaneM) (k i : Nat) : (zCG l k)[i]? = (l[i]?).map fun x=>if i < k then { x with id:=(i : Int) + 1 } else x:=by
 unfold zCG;rw [List.getElem?_map,List.getElem?_zipIdx]
 cases l[i]? <;> simp
theorem zGa (l : List PaneM) (k : Nat) : (zCG l k).length = l.length:=by unfold zCG;simp
theorem setIds_zero (l : List PaneM) : zCG l 0 = l:=by
 apply List.ext_getElem?
 intro i;rw [zCM]
 cases l[i]? <;> simp
theorem setIds_step {l : List PaneM} {k : Nat} {x : PaneM} (hx : l[k]? = some x) : zCG l (k + 1) = (zCG l k).set k { x with id:=(k : Int) + 1 }:=by
 apply List.ext_getElem?
 intro i;rw [zCM,List.getElem?_set,zGa];have hkl:=(List.getElem?_eq_some_iff.1 hx).1
 by_cases e : k = i
 ·subst e;rw [if_pos rfl,if_pos hkl,hx];simp
 ·rw [if_neg e,zCM]
  cases l[i]? with
  | none=>rfl
  | some y=>
   simp only [Option.map_some]
   by_cases h1 : i < k
   ·rw [if_pos h1,if_pos (by omega)]
   ·rw [if_neg h1,if_neg (by omega)]
theorem zFq (l : List PaneP) (i : Nat) : (zCt l)[i]? = (l[i]?).map fun x=>{ x with id:=(i : Int) + 1 }:=by
 unfold zCt;rw [List.getElem?_map,List.getElem?_zipIdx]
 cases l[i]? <;> simp
theorem setIds_all (l : List PaneM) : (zCG l l.length).map PaneM.plain = zCt (l.map PaneM.plain):=by
 apply List.ext_getElem?
 intro i;rw [List.getElem?_map,zCM,zFq,List.getElem?_map]
 cases h : l[i]? with
 | none=>rfl
 | some y=>
  have:=(List.getElem?_eq_some_iff.1 h).1;simp only [Option.map_some];rw [if_pos this];rfl
def ofEdge (n : Int) (m : List (Side × Int)) (e : List Side) : List (Side × Int):=e.foldl (fun m s=>aput m s n) m
def ofStep (m : List (Side × Int)) (p : PaneP) : List (Side × Int):=p.edges.foldl (ofEdge p.id) m
theorem ofA_fold (l : List PaneP) : ofA l = l.foldl ofStep []:=rfl
theorem zFr {A W : World} {b : Nat} (hg : A.grownBy W (some b)) {g : Nat} (hlt : g < A.heap.size) (hne : g ≠ b) : W.heap[g]? = A.heap[g]?:=hg.block g hlt fun e=>hne (by simpa using e)
theorem OwnL.grownM {α κ ν : Type} [DecidableEq κ] {enc : α→Array Value} {sz : Nat} {A W : World} {N b : Nat} {T : TypeId} {v : Value} {l : List α} {K : κ→Value} {V : ν→Value} {good : κ→Prop} {m : List (κ × ν)} (h : OwnL enc sz A N T v l) (hm : MapAt K V good A b m) (hg : A.grownBy W (some b)) : OwnL enc sz W N T v l:=h.kept fun g hgg=>by
 obtain ⟨_,c,hc⟩:=h.cellsAt hgg;exact zFr hg (Array.getElem?_eq_some_iff.1 hc).1 fun e=>h.no_map hm (e ▸ hgg)
theorem edges_small {js : List Joint} {ls : List Lead} {l : List Side} (h : l.length ≤ 800) (hne : l ≠ []) : (zDi js ls l).edges.length ≤ 800∧∀ e ∈ (zDi js ls l).edges,e.length ≤ 800:=by
 have hn : 0 < l.length:=Nat.pos_of_ne_zero fun h=>hne (List.eq_nil_of_length_eq_zero h);have hp : (zAI js ls l).length = l.length:=by unfold zAI;rw [List.length_map]
 constructor
 ·show (zDF l (zAI js ls l)).length ≤ 800
  unfold zDF;rw [List.length_map,List.length_range];have h1:=List.length_filter_le (zBL (zAI js ls l)) (List.range (zAI js ls l).length);rw [List.length_range] at h1;exact Nat.le_trans h1 (by rw [hp];exact h)
 ·intro e he;have he2 : e ∈ zDF l (zAI js ls l):=he;unfold zDF at he2;obtain ⟨k,_,rfl⟩:=List.mem_map.1 he2;unfold zCL;rw [List.length_map,List.length_range];exact Nat.le_trans (zF8 hn) h
structure PanedAt (W : World) (B b bo N : Nat) (sj : Sl Joint) (sl : Sl Lead) (v : Value) (ms : List PaneM) (of : List (Side × Int)) : Prop where
 box : zAe W B 112 #[.pointer (some ⟨b,0,none⟩),v, .map (some bo)]
 net : zA5 W b sj sl
 own : OwnL zAJ 3 W N 82 v ms
 lies : ∀ m ∈ ms,PaneLies W N m
 map : MapAt zCv vi (fun _=>True) W bo of
theorem panes_ok (sj : Sl Joint) (sl : Sl Lead) (w : World) (hj : sj.OK 3 zAh zAs (fun _=>False) w) (hl : sl.OK 8 zAd zAA (fun _=>False) w) (h0 : (zAK sj.val sl.val).1 = 0) (hs0 : zBW sj.val sl.val = 0) (hT : Told sj.val sl.val) (hne : zBu sj.val sl.val = []→zE6) :
  Calls Tryz.prog 71 #[.agg #[.slice sj.a sj.val.length sj.cap, .slice sl.a sl.val.length sl.cap]] w fun e w'=>∃ B b bo v ms,e = .returned (.tuple #[.pointer (some ⟨B,0,none⟩), .int .i64 0])∧ms.map PaneM.plain = zEj sj.val sl.val∧PanedAt w' B b bo w.heap.size sj sl v ms (ofA (zEj sj.val sl.val))∧Below w.heap.size w w':=by
 have HV:=zz (zDB h0);have HTL:=zz hT;have HJ:=zz hj;have HL:=zz hl;have hB : Below w.heap.size w (w.alloc (.cells #[.slice sj.a sj.val.length sj.cap, .slice sl.a sl.val.length sl.cap] 25)):=(Below.refl _ _).alloc (Nat.le_refl _) _;have hb : zAe (w.alloc (.cells #[.slice sj.a sj.val.length sj.cap, .slice sl.a sl.val.length sl.cap] 25)) w.heap.size 25 #[.slice sj.a sj.val.length sj.cap, .slice sl.a sl.val.length sl.cap]:=zAe.new _ _ _;have HVA:=zz (zEd sj sl _ (hj.jmoved hB) (hl.lmoved hB) h0);have hmm:=@run_makeMap Tryz.prog;obtain ⟨L,hL⟩ : ∃ L,zBu sj.val sl.val = L:=⟨_,rfl⟩
 have HLE:=zz hL;have HLG : Hid (∀ l ∈ L,l ≠ []∧l.length ≤ 800∧(∀ x ∈ l,I64 x.lead)∧zBb (zAI sj.val sl.val l) ≠ []):=zz fun l hl=>by
  rw [← hL] at hl;obtain ⟨a,b,c⟩:=zD6 HV.out (List.mem_filter.1 hl).1;exact ⟨a,b,c,hT.1 l hl⟩
 have hL8 : L.length ≤ 800:=by
  rw [← hL];have h1:=List.length_filter_le (fun l=>decide (0 < zBd sj.val sl.val l)) (zBv sj.val sl.val);have h2:=zDJ HV.out;exact Nat.le_trans h1 h2
 have HSD : Hid (∀ b W,zA5 W b sj sl→Below w.heap.size w W→Calls Tryz.prog 87 #[.pointer (some ⟨b,0,none⟩)] W fun e w'=>∃ v,e = .returned (.tuple #[v, .int .i64 0])∧zAW w' W.heap.size v L∧Below W.heap.size W w'):=zz fun b W hN hW=>by
  have h:=sound_any (sj:=sj) HV.out W hN (HJ.out.jmoved hW) (HL.out.lmoved hW);have e : zDd sj.val sl.val = L:=by unfold zDd;rw [if_pos hs0,hL]
  simp only [hs0,e] at h;exact h
 have HLN0 : Hid (L = []→zE6):=zz (hL ▸ hne);clear hj hl h0 hs0 hT hL hne;go_enter Tryz.func71,Tryz.ntmps71
 go_wp2_with (first
  | (refine zLd 16 hb #[.slice sj.a sj.val.length sj.cap, .slice sl.a sl.val.length sl.cap] zuC ?_)
  | (go_at_call 86;refine HVA.out.mono ?_;rintro e w1 ⟨b,rfl,hbb,hn1,hb1⟩;have hB1:=hB.trans (hb1.mono hB.size))
  | (go_at_call 87;refine (HSD.out b w1 hn1 hB1).mono ?_;rintro e w2 ⟨bv,rfl,ho2,hb2⟩;have hB2:=hB1.trans (hb2.mono hB1.size);obtain ⟨ba,bc,rfl⟩:=ho2.shape))
 have HB2:=zz hB2;have HN2:=zz (hn1.below hb2);have HO2:=zz ho2;have HW1:=zz hB1.size;clear hb hB hn1 hb1 hB1 ho2 hb2 hB2;have HB4 : Hid (Below w2.heap.size w2 ((w2.alloc (.map #[] 0)).alloc (.cells #[.pointer (some ⟨b,0,none⟩), .slice none 0 0, .map (some w2.heap.size)] 112))):=zz ((((Lays.refl w2).alloc _).alloc _).below (Nat.le_refl _));have HX4 : Hid (zAe ((w2.alloc (.map #[] 0)).alloc (.cells #[.pointer (some ⟨b,0,none⟩), .slice none 0 0, .map (some w2.heap.size)] 112)) (w2.heap.size + 1) 112 #[.pointer (some ⟨b,0,none⟩), .slice none 0 0, .map (some w2.heap.size)]):=zz (by
  have h:=zAe.new (w2.alloc (.map #[] 0)) 112 #[.pointer (some ⟨b,0,none⟩), .slice none 0 0, .map (some w2.heap.size)];rw [World.size_alloc] at h;exact h)
 have HM4 : Hid (MapAt zCv vi (fun _=>True) ((w2.alloc (.map #[] 0)).alloc (.cells #[.pointer (some ⟨b,0,none⟩), .slice none 0 0, .map (some w2.heap.size)] 112)) w2.heap.size []):=zz ((MapAt.made _ _ _ _).alloc _);obtain ⟨bo,hbo⟩ : ∃ z,w2.heap.size = z:=⟨_,rfl⟩
 obtain ⟨B,hBB⟩ : ∃ z,bo + 1 = z:=⟨_,rfl⟩
 obtain ⟨N1,hN1⟩ : ∃ z,B + 1 = z:=⟨_,rfl⟩
 have HBO:=zz hbo;have HBB:=zz hBB;have HN1:=zz hN1;have HS4 : Hid (N1 ≤ ((w2.alloc (.map #[] 0)).alloc (.cells #[.pointer (some ⟨b,0,none⟩), .slice none 0 0, .map (some w2.heap.size)] 112)).heap.size):=zz (by simp;omega);simp only [hbo,hBB] at HB4 HX4 HM4 HS4 ⊢;clear hbo hBB hN1
 go_loopw [37] (fun i wr=>∃ (k : Nat) (va : Option Addr) (vc : Nat) (ms : List PaneM),k ≤ L.length∧i = .int .i64 k∧Hid (zAe wr B 112 #[.pointer (some ⟨b,0,none⟩), .slice va ms.length vc, .map (some bo)])∧Hid (OwnL zAJ 3 wr N1 82 (.slice va ms.length vc) ms)∧Hid (∀ m ∈ ms,PaneLies wr N1 m)∧Hid (ms.map PaneM.plain = (L.take k).map (zDi sj.val sl.val))∧Hid (MapAt zCv vi (fun _=>True) wr bo [])∧Hid (Below bo w2 wr)∧Hid (N1 ≤ wr.heap.size)) (fun i _=>L.length - (intOf i).toNat)
 case atStart=>exact ⟨0,none,0,[],Nat.zero_le _,rfl,HX4,zz (OwnL.nil _ _ _ _ _),zz (by simp),zz rfl,HM4,HB4,HS4⟩
 case round=>
  obtain ⟨k,va,vc,ms,hk,rfl,HX,HO,HP,HM,HMP,HB,HS⟩:=hrel
  by_cases hlt : k < L.length
  ·obtain ⟨l,hl⟩ : ∃ l,L[k]? = some l:=⟨_,List.getElem?_eq_getElem hlt⟩
   have hB2w : Below w2.heap.size w2 wr:=by rw [HBO.out];exact HB.out
   obtain ⟨g,cap,s,e,_,hgl,hgc,hsv,hso⟩:=(HO2.out.belowAll hB2w).place hl;simp only [Value.slice.injEq] at e;obtain ⟨rfl,_,rfl⟩:=e;obtain ⟨sa,sc,sv⟩:=s;simp only at hsv hgc hso;subst hsv;obtain ⟨g1,g2,g3,g4⟩:=HLG.out sv (List.mem_of_getElem? hl);have hdr : Below wr.heap.size wr wr.drew:=(Lays.refl wr).drew.below (Nat.le_refl _);have HPN : Hid (Calls Tryz.prog 137 #[.pointer (some ⟨b,0,none⟩), .slice sa sv.length sc] wr.drew fun e w'=>∃ m,e = .returned (.agg (zAJ m))∧PaneLies w' N1 m∧m.plain = zDi sj.val sl.val sv∧Below wr.drew.heap.size wr.drew w'):=zz ((paneM_any HV.out sv g2 g3 g4 _ _ wr.drew ((HN2.out.below hB2w).below hdr) (hso.belowAll hdr)).mono (by
    rintro e w' ⟨m,rfl,a,b,c⟩;exact ⟨m,rfl,a.base_le HS.out,b,c⟩))
   have HS1 : Hid ((fun W=>zAe W B 112 #[.pointer (some ⟨b,0,none⟩), .slice va ms.length vc, .map (some bo)]) wr.drew):=zz HX.out.drew;have HOW : Hid (OwnL zAJ 3 wr.drew N1 82 (.slice va ms.length vc) ms):=zz (HO.out.belowAll hdr);have hms : ms.length = k:=by have h:=congrArg List.length HM.out;rw [List.length_map,List.length_map,List.length_take] at h;omega
   have HLN : Hid (ms.length + 1 ≤ 4294967296):=zz (by omega);have HSZ : Hid (N1 ≤ wr.drew.heap.size):=zz HS.out;have HKP : Hid (∀ (w6 w7 : World) {m : PaneM},Below wr.drew.heap.size wr.drew w6→(w6.alloc (.cells (zAJ m) 82)).grownBy w7 (Value.slice va ms.length vc).ownBlock→zAe w7 B 112 #[.pointer (some ⟨b,0,none⟩), .slice va ms.length vc, .map (some bo)]):=zz fun w6 w7 m hb6 hg7=>by
    have h1:=(HS1.out.belowAll hb6).alloc (.cells (zAJ m) 82);exact h1.of_block (hg7.block _ h1.lt fun e=>by have:=(HOW.out.block _ e.symm).1;have:=HN1.out;omega)
   have HLK:=zz hl;clear hl hgl hso g1 g2 g3 g4 hdr hms hB2w;go_wp2;refine zCb (fun W=>zAe W B 112 #[.pointer (some ⟨b,0,none⟩), .slice va ms.length vc, .map (some bo)]) 12 [(0,none),(1,none),(2,none),(3,none),(5,none),(6,none),(4,some true),(7,some false),(8,some false),(9,some false),(10,none),(11,none),(12,some false)] rfl (by kernel_rfl) (by kernel_rfl) (fun d _ _ _ _ h=>by cases d <;> exact h) HS1.out ?_;iterate 6 (refine zBQ rfl rfl (fun W=>by go_simp;with_reducible rfl) ?_;simp only [pT])
   refine zBA (v:=.slice va ms.length vc) rfl rfl (fun W hW=>by have e : W.cell? ⟨B,1,none⟩ = some (.slice va ms.length vc):=(hW.cell 1).trans rfl;go_simp) ?_;simp only [pT];refine zCp rfl rfl rfl (fun K hK=>?_)
   go_simp
   refine HPN.out.mono ?_;rintro e w6 ⟨m,rfl,hm6,hp6,hb6⟩;refine hK _ _ (HS1.out.belowAll hb6) ?_;clear hK K
   try simp only [pT]
   refine zCp rfl rfl rfl (fun K hK=>?_)
   go_simp
   refine hK _ _ ((HS1.out.belowAll hb6).alloc _) ?_;clear hK K
   try simp only [pT]
   refine zCp rfl rfl rfl (fun K hK=>?_);refine zCa _ _ 35 rfl N1 einfo_Pane (fun _=>rfl) (by decide) zFp (by decide) (.slice va ms.length vc) ms rfl ((HOW.out.belowAll hb6).belowAll ((Below.refl _ _).alloc (Nat.le_refl _) _)) w6.heap.size 0 1 m rfl (fun j hj=>by have h:=(zAe.new w6 82 (zAJ m)).cell (0 + j);rw [Nat.zero_add] at h ⊢;exact h) HLN.out (Nat.le_trans HSZ.out (Nat.le_trans hb6.size (by simp))) ?_;intro v7 w7 ho7 hg7 hv7;obtain ⟨a7,c7,rfl⟩:=ho7.shape;have hbx7:=HKP.out w6 w7 hb6 hg7;refine hK _ _ hbx7 ?_;clear hK K
   try simp only [pT]
   iterate 2 (refine zBQ rfl rfl (fun W=>by go_simp;with_reducible rfl) ?_;simp only [pT])
   refine zDz rfl rfl (fun K hK=>?_);refine zAr hbx7 _ _ _ rfl rfl (.slice a7 (ms ++ [m]).length c7) rfl (by kernel_rfl) rfl (by simp [Value.cells,Value.oneCell']) ?_;intro w8 hb8 hT8;refine hK _ _ ?_;clear hK K
   try simp only [pT]
   simp only [wpE];go_wp2;go_roundw
   case rel=>
    have h6a : Below wr.heap.size wr (w6.alloc (.cells (zAJ m) 82)):=((Lays.refl wr).drew.below (Nat.le_refl _)).trans (hb6.trans ((Below.refl w6.heap.size w6).alloc (Nat.le_refl _) _ |>.mono hb6.size));have hN:=HN1.out;have hBo:=HBB.out;have how:=HO.out.belowAll h6a;have hgt : ∀ b,(Value.slice va ms.length vc).ownBlock = some b→∀ cur T,(w6.alloc (.cells (zAJ m) 82)).heap[b]? = some (.cells cur T (0,0))→T ≠ 27∧T ≠ 62∧T ≠ 59:=fun g hg cur T hc=>by
     obtain ⟨_,c2,h2⟩:=how.cellsAt hg;rw [hc] at h2;simp only [Option.some.injEq,Obj.cells.injEq] at h2;rw [h2.2.1];exact ⟨by decide,by decide,by decide⟩
    have htt : ∀ cur T,w7.heap[B]? = some (.cells cur T (0,0))→T ≠ 27∧T ≠ 62∧T ≠ 59:=fun cur T hc=>by
     have h2:=hbx7;unfold zAe at h2;rw [hc] at h2;simp only [Option.some.injEq,Obj.cells.injEq] at h2;rw [h2.2.1];exact ⟨by decide,by decide,by decide⟩
    have hsz7 : (w6.alloc (.cells (zAJ m) 82)).heap.size ≤ w7.heap.size:=hg7.size;refine ⟨k + 1,a7,c7,ms ++ [m],by omega,by go_num,zz (hb8.eqv rfl),zz (ho7.turn hT8 fun e=>by have:=(ho7.block _ e).1;omega),zz fun x hx=>?_,zz ?_,zz ?_,zz ?_,zz (by rw [hT8.size];exact Nat.le_trans HS.out (Nat.le_trans h6a.size hsz7))⟩
    ·have hx6 : PaneLies (w6.alloc (.cells (zAJ m) 82)) N1 x:=by
      rcases List.mem_append.1 hx with hx | hx
      ·exact (HP.out x hx).belowAll h6a
      ·obtain rfl : x = m:=by simpa using hx
       exact hm6.belowAll ((Below.refl _ _).alloc (Nat.le_refl _) _)
     exact (hx6.grownT hg7 hgt).turnT hT8 htt
    ·rw [List.map_append,HM.out,map_take HLK.out,List.map_singleton,hp6]
    ·have h1:=(HMP.out.below h6a HMP.out.lt)
     exact (h1.of_block (hg7.block _ h1.lt fun e=>how.no_map h1 e.symm)).turn hT8 (by omega)
    ·exact ((HB.out.trans (h6a.mono (Nat.le_trans (by omega) HS.out))).grown hg7 (Nat.le_trans (Nat.le_trans (by omega) HS.out) h6a.size) fun g e=>by have:=(how.block g e).1;omega).trans (hT8.below (by omega))
   case measure=>simp [intOf];omega
  ·have hkv : k = L.length:=by omega
   subst hkv;rw [List.take_length] at HM;have hpl : ms.map PaneM.plain = zDY sj.val sl.val:=by rw [HM.out];unfold zDY;rw [HLE.out]
   have hml : ms.length = L.length:=by have h:=congrArg List.length HM.out;rwa [List.length_map,List.length_map] at h
   have HMLEN : Hid (ms.length ≤ 800):=zz (by rw [hml];exact hL8);have HSRT:=zz (panes_sort wr N1 N1 (.slice va ms.length vc) ms (fun h=>HLN0.out (List.eq_nil_of_length_eq_zero (by rw [← hml,h];rfl))) HO.out (by have:=HMLEN.out;omega) (fun m hm=>by
    refine ⟨HP.out m hm, ?_⟩;have h1 : m.plain ∈ ms.map PaneM.plain:=List.mem_map.2 ⟨m,hm,rfl⟩;rw [HM.out] at h1;obtain ⟨l,hl,e⟩:=List.mem_map.1 h1;have h2:=corners_small (js:=sj.val) (ls:=sl.val) (HLG.out l hl).2.1;have h3 : m.o.val = zDE (zAI sj.val sl.val l):=by
     have h4:=congrArg PaneP.outline e;exact h4.symm
    rw [h3];omega))
   have q0:=(HX.out.cell 1).trans (show _ = some (.slice va ms.length vc) from rfl);have HPL:=zz hpl;clear hpl hml
   go_wp2_with (first
    | (go_at_call 138;refine HSRT.out.mono ?_;rintro e w5 ⟨rfl,ms2,hpm,hpw,ho5,hl5,hg5⟩;have hx5:=HX.out.of_block (hg5.block _ HX.out.lt (fun e=>by have:=(HO.out.block _ e.symm).1;have:=HN1.out;omega));have q5:=(hx5.cell 1).trans (show _ = some (.slice va ms.length vc) from rfl)))
   have HLM : Hid (ms2.length = ms.length):=zz hpm.length_eq;have HQ : Hid (ms2.map PaneM.plain = sortB zEi (zDY sj.val sl.val)):=zz (by
    have hp2 : (ms2.map PaneM.plain).Perm (zDY sj.val sl.val):=by rw [← HPL.out];exact hpm.map _
    refine upB_eq (pane_ord HTL.out) (fun a ha=>hp2.mem_iff.1 ha) (hp2.trans (zB2 _ _).symm) ?_ (sortB_up (pane_ord HTL.out) _ fun a h=>h);unfold UpB;rw [List.pairwise_map];exact hpw.imp fun h=>by unfold zEi PaneM.plain;exact decide_eq_false (Int.not_lt.2 (by simpa using h)))
   have HES : Hid (∀ x ∈ ms2,x.e.val.length ≤ 800∧∀ s ∈ x.e.val,s.val.length ≤ 800):=zz fun x hx=>by
    have h1 : x.plain ∈ ms.map PaneM.plain:=List.mem_map.2 ⟨x,hpm.mem_iff.1 hx,rfl⟩;rw [HM.out] at h1;obtain ⟨l,hl,e⟩:=List.mem_map.1 h1;obtain ⟨g1,g2,_⟩:=HLG.out l hl;obtain ⟨k1,k2⟩:=edges_small (js:=sj.val) (ls:=sl.val) g2 g1;have h3 : (zDi sj.val sl.val l).edges = x.e.val.map Sl.val:=congrArg PaneP.edges e;rw [h3] at k1 k2;rw [List.length_map] at k1;exact ⟨k1,fun s hs=>k2 s.val (List.mem_map.2 ⟨s,hs,rfl⟩)⟩
   have HX5:=zz hx5;have HL5:=zz hl5;have HO5 : Hid (OwnL zAJ 3 w5 N1 82 (.slice va ms.length vc) (zCG ms2 0)):=zz (by rw [setIds_zero];exact ho5);have HM5 : Hid (MapAt zCv vi (fun _=>True) w5 bo []):=zz (HMP.out.of_block (hg5.block _ HMP.out.lt fun e=>HO.out.no_map HMP.out e.symm));have HB5 : Hid (Below bo w2 w5):=zz (HB.out.grown hg5 (by have:=HMP.out.lt;omega) fun g e=>by have:=(HO.out.block g e).1;have:=HN1.out;have:=HBB.out;omega);obtain ⟨n,hn⟩ : ∃ z,ms.length = z:=⟨_,rfl⟩
   simp only [hn] at HX5 HO5 HLM HMLEN ⊢;have hn8:=HMLEN.out;clear hpm hpw ho5 hl5 hg5 hx5 q0 q5 HX HO HP HM HMP HB HSRT HPL hn HS
   go_loopw [64] (fun i wr=>∃ (k : Nat) (m : List (Side × Int)),k ≤ n∧i = .int .i64 k∧Hid (OwnL zAJ 3 wr N1 82 (.slice va n vc) (zCG ms2 k))∧Hid (MapAt zCv vi (fun _=>True) wr bo m)∧Hid (m = ((zCt (ms2.map PaneM.plain)).take k).foldl ofStep [])∧Hid (zAe wr B 112 #[.pointer (some ⟨b,0,none⟩), .slice va n vc, .map (some bo)])∧Hid (∀ x ∈ ms2,PaneLies wr N1 x)∧Hid (Below bo w2 wr)) (fun i _=>n - (intOf i).toNat)
   case atStart=>exact ⟨0,[],Nat.zero_le _,rfl,HO5,HM5,zz rfl,HX5,HL5,HB5⟩
   case round=>
    obtain ⟨k,m0,hk,rfl,HO,HM,HMF,HX,HP,HB⟩:=hrel
    by_cases hlt : k < n
    ·obtain ⟨x,hx⟩ : ∃ x,ms2[k]? = some x:=⟨_,List.getElem?_eq_getElem (by rw [HLM.out];exact hlt)⟩
     have hx0 : (zCG ms2 k)[k]? = some x:=by rw [zCM,hx];simp
     obtain ⟨g,cap,cur,e,hgb,hgs,hset⟩:=HO.out.setId hx0;rw [zGa,HLM.out] at e;simp only [Value.slice.injEq] at e;obtain ⟨rfl,_,rfl⟩:=e;have HFIT : Hid (Nat.ble (k * 3 + 1) cur.size = true):=zz (Nat.ble_eq_true_of_le (by omega));have q1:=(HX.out.cell 1).trans (show _ = some (.slice (some ⟨g,0,none⟩) n vc) from rfl);have hki : (k : Int) < (n : Int):=by omega
     have k1 : IntKind.i64.wrap ((k : Int) + 1) = (k : Int) + 1:=IntWalk.i64_in _ (by omega);have HSET : Hid (∀ W',zAe W' g 82 (zAx cur (k * 3) [.int .i64 ((k : Int) + 1)])→OwnL zAJ 3 W' N1 82 (.slice (some ⟨g,0,none⟩) n vc) (zCG ms2 (k + 1))):=zz fun W' hW=>by
      rw [setIds_step hx];exact hset W' _ hW
     have hgN : N1 ≤ g:=(HO.out.block g rfl).1;have HXK:=zz hx;have HGB:=zz hgb;clear hx hx0 hset hgs
     go_wp2_with (first
      | ((with_reducible refine zAv 3 ?_);refine zAS HGB.out rfl _ _ _ rfl rfl (.int .i64 ((k : Int) + 1)) rfl (by kernel_rfl) HFIT.out (by simp [Value.cells,Value.oneCell']) ?_;intro w6 hb6 hT6;have hx6:=HX.out.turn hT6 (by have:=HN1.out;omega);have q2:=(hx6.cell 1).trans (show _ = some (.slice (some ⟨g,0,none⟩) n vc) from rfl);have ho6:=HSET.out w6 hb6;have q3 : w6.cell? ⟨g,k * 3 + 2,none⟩ = some (.slice x.e.a x.e.val.length x.e.cap):=(by obtain ⟨g2,c2,e2,_,_,hc⟩:=OwnL.cellOf (enc:=zAJ) (sz:=3) (fun _=>rfl) ho6 (k:=k) (x:={ x with id:=(k : Int) + 1 }) (by rw [zCM,HXK.out];simp);simp only [Value.slice.injEq,Option.some.injEq,Addr.mk.injEq] at e2;obtain ⟨⟨rfl,_⟩,_⟩:=e2;exact (hc 2 (by decide)).trans rfl)))
     have HX6:=zz hx6;have HKL:=zz hlt;have HO6:=zz ho6;have hN:=HN1.out;have hBB:=HBB.out;have HM6 : Hid (MapAt zCv vi (fun _=>True) w6 bo m0):=zz (HM.out.turn hT6 (by omega));have HP6 : Hid (∀ x ∈ ms2,PaneLies w6 N1 x):=zz fun y hy=>(HP.out y hy).turnT hT6 fun cur2 T hc=>by
      have h2:=HGB.out;unfold zAe at h2;rw [hc] at h2;simp only [Option.some.injEq,Obj.cells.injEq] at h2;rw [h2.2.1];exact ⟨by decide,by decide,by decide⟩
     have HB6 : Hid (Below bo w2 w6):=zz (HB.out.trans (hT6.below (by omega)));have HPX : Hid (PaneLies w6 N1 x):=zz (HP6.out x (List.mem_of_getElem? HXK.out));have HMF2 : Hid (((zCt (ms2.map PaneM.plain)).take (k + 1)).foldl ofStep [] = (x.e.val.map Sl.val).foldl (ofEdge ((k : Int) + 1)) m0):=zz (by
      have hg : (zCt (ms2.map PaneM.plain))[k]? = some { x.plain with id:=(k : Int) + 1 }:=by rw [zFq,List.getElem?_map,HXK.out];rfl
      rw [zEu hg,← HMF.out];rfl)
     have hes:=HES.out x (List.mem_of_getElem? HXK.out);obtain ⟨xi,⟨xoa,xoc,xov⟩,⟨ea,ec,es⟩⟩:=x;simp only at HPX HMF2 q3 hes;obtain ⟨hes8,hes2⟩:=hes;have HE2:=zz hes2;clear hes2;clear q1 q2 hx6 ho6 hb6 hT6 HO HM HMF HX HP HB HGB HSET HFIT;go_wp2
     go_loopw [85] (fun i wr=>∃ (q : Nat) (m1 : List (Side × Int)),q ≤ es.length∧i = .int .i64 q∧Hid (MapAt zCv vi (fun _=>True) wr bo m1)∧Hid (m1 = ((es.take q).map Sl.val).foldl (ofEdge ((k : Int) + 1)) m0)∧Hid (w6.grownBy wr (some bo))) (fun i _=>es.length - (intOf i).toNat)
     case atStart=>exact ⟨0,m0,Nat.zero_le _,rfl,HM6,zz rfl,zz (World.grownBy.refl _ _)⟩
     case round=>
      obtain ⟨q,m1,hq,rfl,HM1,HF1,HG1⟩:=hrel
      by_cases hql : q < es.length
      ·obtain ⟨s,hs⟩ : ∃ s,es[q]? = some s:=⟨_,List.getElem?_eq_getElem hql⟩
       obtain ⟨ge,gc,e2,_,_,hc⟩:=OwnL.cellOf (enc:=zBV) (sz:=1) (fun _=>rfl) (HPX.out.eds.grownM HM6.out HG1.out) hs;simp only [Sl.v,Value.slice.injEq] at e2;obtain ⟨rfl,_,rfl⟩:=e2;have q4 : wr.cell? ⟨ge,q,none⟩ = some (.slice s.a s.val.length s.cap):=by
        have h:=hc 0 Nat.one_pos;rw [Nat.mul_one,Nat.add_zero] at h;exact h.trans rfl
       have HSO : Hid (OwnL zAa 2 wr N1 59 s.v s.val):=zz ((HPX.out.sds s (List.mem_of_getElem? hs)).grownM HM6.out HG1.out);have HF1N : Hid (((es.take (q + 1)).map Sl.val).foldl (ofEdge ((k : Int) + 1)) m0 = ofEdge ((k : Int) + 1) m1 s.val):=zz (by
        rw [List.map_take,zEu (by rw [List.getElem?_map,hs];rfl),← List.map_take,← HF1.out])
       have hsv8:=HE2.out s (List.mem_of_getElem? hs);obtain ⟨sa,sc,sv⟩:=s;simp only at q4 HSO HF1N hsv8;have HWR:=zz HG1.out;have HQL:=zz hql;obtain ⟨w7,hw7⟩ : ∃ W,W = wr:=⟨_,rfl⟩
       subst hw7;clear hs hc HF1 HG1;go_wp2
       go_loopw [91] (fun i wr=>∃ (r : Nat) (m2 : List (Side × Int)),r ≤ sv.length∧i = .int .i64 r∧Hid (MapAt zCv vi (fun _=>True) wr bo m2)∧Hid (m2 = (sv.take r).foldl (fun m s=>aput m s ((k : Int) + 1)) m1)∧Hid (w7.grownBy wr (some bo))) (fun i _=>sv.length - (intOf i).toNat)
       case atStart=>exact ⟨0,m1,Nat.zero_le _,rfl,HM1,zz rfl,zz (World.grownBy.refl _ _)⟩
       case round=>
        obtain ⟨r,m2,hr,rfl,HM2,HF2,HG2⟩:=hrel
        by_cases hrl : r < sv.length
        ·obtain ⟨y,hy⟩ : ∃ y,sv[r]? = some y:=⟨_,List.getElem?_eq_getElem hrl⟩
         obtain ⟨gs,gsc,e3,_,_,hc⟩:=OwnL.cellOf (enc:=zAa) (sz:=2) (fun _=>rfl) (HSO.out.grownM HM1.out HG2.out) hy;simp only [Sl.v,Value.slice.injEq] at e3;obtain ⟨rfl,_,rfl⟩:=e3;have HCY : Hid (∀ j,j < (zAa y).size→wr.cell? ⟨gs,r * 2 + j,none⟩ = (zAa y)[j]?):=zz hc;have hg6 : w6.grownBy wr (some bo):=zCB HWR.out HG2.out;have hx7 : zAe wr B 112 #[.pointer (some ⟨b,0,none⟩), .slice (some ⟨g,0,none⟩) n vc, .map (some bo)]:=HX6.out.of_block (zFr hg6 HX6.out.lt (by omega));have HBX7 : Hid (zAe (wr.alloc (.cells (zAa y) 59)).drew B 112 #[.pointer (some ⟨b,0,none⟩), .slice (some ⟨g,0,none⟩) n vc, .map (some bo)]):=zz (hx7.alloc _).drew;have HYB : Hid (zAe (wr.alloc (.cells (zAa y) 59)).drew wr.heap.size 59 (zAa y)):=zz (zAe.new _ _ _).drew;have HMY : Hid (MapAt zCv vi (fun _=>True) (wr.alloc (.cells (zAa y) 59)).drew bo m2):=zz ((HM2.out.alloc _).of_block rfl);have HF2N : Hid ((sv.take (r + 1)).foldl (fun m s=>aput m s ((k : Int) + 1)) m1 = aput m2 y ((k : Int) + 1)):=zz (by rw [zEu hy,← HF2.out]);have HGA : Hid (w7.grownBy (wr.alloc (.cells (zAa y) 59)).drew (some bo)):=zz (zCB HG2.out (zCR (((Lays.refl wr).alloc _).drew.below (Nat.le_refl _))));obtain ⟨yb,hyb⟩ : ∃ z,wr.heap.size = z:=⟨_,rfl⟩
         rw [hyb] at HYB;have HYN:=zz hyb;clear hy hc hg6 hx7 hyb
         go_wp2_with (first
          | ((with_reducible refine zAm 94 ?_);refine zLe 94 gs (r * 2) (zAa y) HCY.out zuA ?_)
          | ((with_reducible refine zAv 59 ?_);refine zAk (cs:=zAa y) rfl 59 _ _ rfl rfl rfl rfl (by kernel_rfl) rfl (zAn _) ?_))
         simp only [HYN.out];refine rgM 7 [(0,none),(1,none),(2,none),(5,none),(6,none),(3,some true),(4,some true),(7,some false)] ?_;iterate 5 (refine wC rfl ?_;simp only [pT])
         refine zAN (v:=.map (some bo)) rfl rfl (fun W hW=>by have e : W.cell? ⟨B,2,none⟩ = some (.map (some bo)):=((HBX7.out.belowAll hW).cell 2).trans rfl;go_simp) ?_;simp only [pT];refine zAN (v:=.agg (zAa y)) rfl rfl (fun W hW=>zAc (zAa y) (HYB.out.belowAll hW) rfl (zAg _) zuA) ?_;simp only [pT];refine zBk rfl rfl (fun K hK=>?_);refine zDT _ _ _ 110 rfl sideKey Tryz.underlying110 rfl HMY.out y trivial rfl ((k : Int) + 1) rfl ?_;intro w9 hm9 hT9;refine hK _ _ ?_;clear hK K
         try simp only [pT]
         simp only [wpC];go_wp2;go_roundw
         case rel=>exact ⟨r + 1,_,by omega,by go_num,zz hm9,zz HF2N.out.symm,zz (zCB HGA.out hT9.grown)⟩
         case measure=>simp [intOf];omega
        ·have hrv : r = sv.length:=by omega
         subst hrv;have e:=HF2.out;rw [List.take_length] at e;have HE:=zz e;clear e;go_wp2;go_roundw
         case rel=>exact ⟨q + 1,m2,by have:=HQL.out;omega,by go_num,HM2,zz (by rw [HF1N.out,HE.out];rfl),zz (zCB HWR.out HG2.out)⟩
         case measure=>have:=HQL.out;simp [intOf];omega
      ·have hqv : q = es.length:=by omega
       subst hqv;have e:=HF1.out;rw [List.take_length] at e;have HE:=zz e;clear e;go_wp2;go_roundw
       case rel=>
        refine ⟨k + 1,m1,by have:=HKL.out;omega,by go_num,zz (HO6.out.grownM HM6.out HG1.out),HM1,zz (by rw [HMF2.out,HE.out]),zz (HX6.out.of_block (zFr HG1.out HX6.out.lt (by omega))),zz fun y hy=>?_,zz (HB6.out.grown HG1.out (Nat.le_of_lt HM6.out.lt) fun g e=>by simp at e;omega)⟩;have hp:=HP6.out y hy;exact ⟨hp.out.grownM HM6.out HG1.out,hp.eds.grownM HM6.out HG1.out,fun s hs=>(hp.sds s hs).grownM HM6.out HG1.out⟩
       case measure=>have:=HKL.out;simp [intOf];omega
    ·have hkv : k = n:=by omega
     subst hkv;go_wp2;go_ret2;have e1 : (zCt (ms2.map PaneM.plain)).take k = zCt (ms2.map PaneM.plain):=by
      rw [List.take_of_length_le];unfold zCt;rw [List.length_map,List.length_zipIdx,List.length_map,HLM.out];exact Nat.le_refl _
     have e2 : zEj sj.val sl.val = zCt (ms2.map PaneM.plain):=by unfold zEj;rw [HQ.out]
     have hle : w.heap.size ≤ N1:=by have h1:=HB2.out.size;have:=HN1.out;have:=HBB.out;have:=HBO.out;omega
     refine ⟨B,b,bo,_,zCG ms2 k,rfl, ?_,⟨HX.out,HN2.out.below (by rw [HBO.out];exact HB.out),HO.out.base_le hle,fun m hm=>?_, ?_⟩, ?_⟩
     ·rw [e2,← setIds_all,HLM.out]
     ·obtain ⟨i,hi⟩:=List.mem_iff_getElem?.1 hm;rw [zCM] at hi
      cases hy : ms2[i]? with
      | none=>rw [hy] at hi;cases hi
      | some y=>
       rw [hy] at hi;have hp:=(HP.out y (List.mem_of_getElem? hy)).base_le hle;simp only [Option.map_some,Option.some.injEq] at hi
       split at hi <;> subst hi
       ·exact ⟨hp.out,hp.eds,hp.sds⟩
       ·exact hp
     ·have h:=HM.out;rw [HMF.out,e1,← ofA_fold,← e2] at h;exact h
     ·exact HB2.out.trans (HB.out.mono (by have h1:=HB2.out.size;have:=HBO.out;omega))
theorem Panes_ok (sj : Sl Joint) (sl : Sl Lead) (w : World) (hj : sj.OK 3 zAh zAs (fun _=>False) w) (hl : sl.OK 8 zAd zAA (fun _=>False) w) (h0 : (zAK sj.val sl.val).1 = 0) (hs0 : zBW sj.val sl.val = 0) (hT : Told sj.val sl.val) (hne : zBu sj.val sl.val = []→zE6) :
  Calls Tryz.prog 14 #[.agg #[.slice sj.a sj.val.length sj.cap, .slice sl.a sl.val.length sl.cap]] w fun e w'=>∃ v ms,e = .returned (.tuple #[v, .int .i64 0])∧ms.map PaneM.plain = zEj sj.val sl.val∧OwnL zAJ 3 w' w.heap.size 82 v ms∧(∀ m ∈ ms,PaneLies w' w.heap.size m)∧Below w.heap.size w w':=by
 have hB : Below w.heap.size w (w.alloc (.cells #[.slice sj.a sj.val.length sj.cap, .slice sl.a sl.val.length sl.cap] 25)):=(Below.refl _ _).alloc (Nat.le_refl _) _;have hb : zAe (w.alloc (.cells #[.slice sj.a sj.val.length sj.cap, .slice sl.a sl.val.length sl.cap] 25)) w.heap.size 25 #[.slice sj.a sj.val.length sj.cap, .slice sl.a sl.val.length sl.cap]:=zAe.new _ _ _;have HC:=zz (panes_ok sj sl _ (hj.jmoved hB) (hl.lmoved hB) h0 hs0 hT hne);clear hj hl h0 hs0 hT hne;go_enter Tryz.func14,Tryz.ntmps14
 go_wp2_with (first
  | (refine zLd 7 hb #[.slice sj.a sj.val.length sj.cap, .slice sl.a sl.val.length sl.cap] zuC ?_)
  | (go_at_call 71;refine HC.out.mono ?_;rintro e w1 ⟨B,b,bo,v,ms,rfl,hm,hp,hb1⟩;obtain ⟨va,vc,rfl⟩:=hp.own.shape;have q1:=(hp.box.cell 1).trans (show _ = some (.slice va ms.length vc) from rfl)))
 go_ret2;have hle : w.heap.size ≤ (w.alloc (.cells #[.slice sj.a sj.val.length sj.cap, .slice sl.a sl.val.length sl.cap] 25)).heap.size:=hB.size;exact ⟨_,ms,rfl,hm,hp.own.base_le hle,fun m hm=>(hp.lies m hm).base_le hle,hB.trans (hb1.mono hle)⟩
end Go.Proofs.YtbbblemfodpmaaaGreat
end
