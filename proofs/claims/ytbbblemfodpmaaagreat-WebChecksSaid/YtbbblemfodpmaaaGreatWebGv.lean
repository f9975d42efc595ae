/-A statement whose order Go leaves open, of operations that yield one value in every world above the one at hand (loads, sums, calls) and of new boxes, and then a tail: one walk, no order named.-/
import Derived.Test.YtbbblemfodpmaaaGreatOrdA
import Derived.Test.YtbbblemfodpmaaaGreatWebK
import Derived.Test.YtbbblemfodpmaaaGreatWebGj
import Derived.Test.YtbbblemfodpmaaaGreatWebGq
set_option linter.unusedVariables false
set_option linter.unusedSimpArgs false
set_option maxHeartbeats 16000000
set_option maxRecDepth 100000
section
namespace Go.Proofs.YtbbblemfodpmaaaGreat
open Go.RowKit
section
variable {P : Program} {ops : Array Oper} {Q : Exit→Act→World→Prop}
def zDZ (P : Program) (ops : Array Oper) (w0 : World) (o : Oper) (v : Value) (a : Act) : Prop:=
 (Region.wanted o (yielded ops a.tmps) = true∧∀ W,Below w0.heap.size w0 W→(execOp a.eval o).run P W = .ok (.value v) W ∨ ∃ f args,(execOp a.eval o).run P W = .ok (.enter f args) W∧Calls P f args W fun e w'=>e = .returned v∧Below W.heap.size W w') ∨
 (Region.wanted o (yielded ops a.tmps) = false∧v = undef)
theorem zDZ.of_same {w0 : World} {o : Oper} {v : Value} {a a' : Act} (hy : zDZ P ops w0 o v a) (he : execOp a'.eval o = execOp a.eval o) (hw : Region.wanted o (yielded ops a'.tmps) = Region.wanted o (yielded ops a.tmps)) : zDZ P ops w0 o v a':=by
 unfold zDZ at *;rw [he,hw];exact hy
theorem zDZ.wpOp {w0 : World} {i : Nat} {o : Oper} {v : Value} {a : Act} (hi : ops[i]? = some o) (hy : zDZ P ops w0 o v a) {K : Act→World→Prop} {w : World} (hb : Below w0.heap.size w0 w) (h : ∀ w',Below w.heap.size w w'→K (a.put o.dst v) w') : wpOp P ops Q i K a w:=by
 unfold Go.wpOp;simp only [hi]
 rcases hy with ⟨hw,hv⟩ | ⟨hw,rfl⟩
 ·simp only [hw,if_true];refine .inl ?_;unfold Oper.wp
  rcases hv w hb with e | ⟨f,args,e,hc⟩
  ·rw [e];exact h w (Below.refl _ _)
  ·rw [e];refine Calls.mono hc fun e w' he=>?_;obtain ⟨rfl,hb'⟩:=he;exact h w' hb'
 ·simp only [hw,Bool.false_eq_true,if_false];exact h w (Below.refl _ _)
def wpD (P : Program) (ops : Array Oper) (w0 : World) : List Nat→Act→(Act→Prop)→Prop
 | [],a,T=>T a
 | i :: r,a,T=>∃ o v,ops[i]? = some o∧zDZ P ops w0 o v a∧wpD P ops w0 r (a.put o.dst v) T
theorem wpD_mono {w0 : World} {T T' : Act→Prop} (h : ∀ a,T a→T' a) : ∀ (ord : List Nat) (a : Act),wpD P ops w0 ord a T→wpD P ops w0 ord a T'
 | [],a,k=>h a k
 | _ :: r,_,⟨o,v,h1,h2,h3⟩=>⟨o,v,h1,h2,wpD_mono h r _ h3⟩
def ed (ops : Array Oper) (j i : Nat) : Bool:=match ops[j]? with
 | some o=>o.after.any fun e=>Region.binds .any e && e.on == i
 | none=>false
def ap (ops : Array Oper) (i j : Nat) : Bool:=match ops[i]?,ops[j]? with
 | some x,some y=>x.apart ops y
 | _,_=>false
theorem ap_spec {i j : Nat} {x y : Oper} (hx : ops[i]? = some x) (hy : ops[j]? = some y) (h : ap ops i j = true) : x.apart ops y = true:=by
 unfold ap at h;rw [hx,hy] at h;exact h
theorem pickD {w0 : World} (hs : Region.noSelect ops = true) {T : Act→Prop} {j : Nat} : ∀ (ord : List Nat) (a : Act),j ∈ ord→ord.Pairwise (fun i k=>ed ops k i = true ∨ ap ops i k = true)→(∀ i ∈ ord,ed ops j i = false)→
  wpD P ops w0 ord a T→∃ o v,ops[j]? = some o∧zDZ P ops w0 o v a∧wpD P ops w0 (ord.erase j) (a.put o.dst v) T
 | [],_,h,_,_,_=>by cases h
 | i :: r,a,hj,hp,he,⟨oi,vi,h1,h2,h3⟩=>by
  by_cases hij : i = j
  ·subst hij;rw [List.erase_cons_head];exact ⟨oi,vi,h1,h2,h3⟩
  ·have hjr : j ∈ r:=by
    rcases List.mem_cons.1 hj with h | h
    ·exact absurd h.symm hij
    ·exact h
   obtain ⟨hp1,hp2⟩:=List.pairwise_cons.1 hp;obtain ⟨oj,vj,k1,k2,k3⟩:=pickD hs r _ hjr hp2 (fun x hx=>he x (List.mem_cons_of_mem _ hx)) h3;have hap : ap ops i j = true:=by
    rcases hp1 j hjr with h | h
    ·rw [he i (by simp)] at h;cases h
    ·exact h
   obtain ⟨a1,a2,a3⟩:=Oper.apart_spec (ap_spec h1 k1 hap);have hsel:=fun k o cs b h=>Region.noSelect_spec hs k o cs b h;rw [List.erase_cons_tail (by simpa using hij)];refine ⟨oj,vj,k1,k2.of_same (execOp_put oj (fun cs b=>hsel j oj cs b k1) a oi.dst vi a1).symm (wanted_put oj a oi.dst vi a1).symm,oi,vi,h1,h2.of_same (execOp_put oi (fun cs b=>hsel i oi cs b h1) a oj.dst vj a3) (wanted_put oi a oj.dst vj a3), ?_⟩;rw [← Act.put_comm a vi vj a2];exact k3
theorem shiftD {w0 : World} (hs : Region.noSelect ops = true) {T T' : Act→Prop} {k d : Nat} {ok : Oper} (hk : ops[k]? = some ok) (hd : ok.dst = some d) (p : Value) (hT : ∀ b,T b→T' (b.put (some d) p)) : ∀ (ord : List Nat) (a : Act),(∀ i ∈ ord,ap ops i k = true)→
  wpD P ops w0 ord a T→wpD P ops w0 ord (a.put (some d) p) T'
 | [],a,_,h=>hT a h
 | i :: r,a,hp,⟨oi,vi,h1,h2,h3⟩=>by
  obtain ⟨a1,a2,a3⟩:=Oper.apart_spec (ap_spec h1 hk (hp i (by simp)));rw [hd] at a2 a3;have hsel:=fun k o cs b h=>Region.noSelect_spec hs k o cs b h;refine ⟨oi,vi,h1,h2.of_same (execOp_put oi (fun cs b=>hsel i oi cs b h1) a (some d) p a3) (wanted_put oi a (some d) p a3), ?_⟩;rw [← Act.put_comm a vi p a2];exact shiftD hs hk hd p hT r _ (fun x hx=>hp x (List.mem_cons_of_mem _ hx)) h3
def waits (ops : Array Oper) : Nat→Nat→Nat→Bool
 | 0,_,_=>false
 | n + 1,t,m=>match ops[t]? with
  | some o=>o.after.any fun e=>Region.binds .any e && (e.on == m || waits ops n e.on m)
  | none=>false
def zER (ops : Array Oper) (listed : Array Bool) : Prop:=∀ (j : Nat) (o : Oper),ops[j]? = some o→listed.getD j false = true→∀ e ∈ o.after,Region.binds .any e = true→listed.getD e.on false = true
theorem zFt {listed : Array Bool} (hc : zER ops listed) : ∀ (n t m : Nat) (o : Oper),ops[t]? = some o→(∀ e ∈ o.after,Region.binds .any e = true→listed.getD e.on false = true)→waits ops n t m = true→listed.getD m false = true
 | 0,_,_,_,_,_,h=>by cases h
 | n + 1,t,m,o,ho,hl,h=>by
  unfold waits at h;rw [ho] at h;obtain ⟨e,he,hb⟩:=Array.any_eq_true'.1 h;simp only [Bool.and_eq_true,Bool.or_eq_true,beq_iff_eq] at hb;obtain ⟨hb,h1⟩:=hb
  rcases h1 with h1 | h1
  ·rw [← h1];exact hl e he hb
  ·cases hoe : ops[e.on]? with
   | none=>cases n <;> simp [waits,hoe] at h1
   | some o'=>exact zFt hc n e.on m o' hoe (hc e.on o' hoe (hl e he hb)) h1
def edgesIn (ops : Array Oper) (i : Nat) : Bool:=match ops[i]? with
 | some o=>o.after.all fun e=>!Region.binds .any e || decide (e.on < ops.size)
 | none=>false
def okP (ops : Array Oper) : List Nat→Bool
 | []=>true
 | i :: r=>!ed ops i i && r.all (fun j=>!ed ops i j && (ed ops j i || ap ops i j)) && okP ops r
def lastL (ops : Array Oper) (rest : List (Nat × Bool)) : Array Bool:=((List.range ops.size).map fun j=>!(rest.map (·.1)).contains j).toArray
def okD (ops : Array Oper) (ord : List Nat) (is : List (Nat × Nat)) (rest : List (Nat × Bool)) : Bool:=
 decide (ord ++ is.map (·.1) ++ rest.map (·.1)).Nodup && (List.range ops.size).all (fun j=>(ord ++ is.map (·.1) ++ rest.map (·.1)).contains j) && (ord ++ is.map (·.1) ++ rest.map (·.1)).all (fun j=>decide (j < ops.size)) && okP ops ord &&
 ord.all (fun i=>is.all fun k=>!ed ops i k.1 && (ed ops k.1 i || ap ops i k.1)) && is.all (fun k=>(ops[k.1]?.bind (·.dst)) == some k.2 && is.all fun k'=>!ed ops k.1 k'.1) && decide (is.map (·.2)).Nodup &&
 (ord ++ is.map (·.1)).all (fun i=>edgesIn ops i && rest.all fun t=>!ed ops i t.1 && waits ops ops.size t.1 i) && zCE ops rest (lastL ops rest)
structure StD (ops : Array Oper) (ord : List Nat) (is : List (Nat × Nat)) (rest : List (Nat × Bool)) : Prop where
 nd : (ord ++ is.map (·.1) ++ rest.map (·.1)).Nodup
 lt : ∀ j ∈ ord ++ is.map (·.1) ++ rest.map (·.1),j < ops.size
 pw : ord.Pairwise fun i k=>ed ops k i = true ∨ ap ops i k = true
 fw : ord.Pairwise fun i k=>ed ops i k = false
 self : ∀ i ∈ ord,ed ops i i = false
 da : ∀ i ∈ ord,∀ k ∈ is,ed ops i k.1 = false∧(ed ops k.1 i = true ∨ ap ops i k.1 = true)
 dst : ∀ k ∈ is,∃ o,ops[k.1]? = some o∧o.dst = some k.2
 aa : ∀ k ∈ is,∀ k' ∈ is,ed ops k.1 k'.1 = false
 nd2 : (is.map (·.2)).Nodup
 tl : ∀ i ∈ ord ++ is.map (·.1),edgesIn ops i = true∧∀ t ∈ rest,ed ops i t.1 = false∧waits ops ops.size t.1 i = true
theorem okP_spec : ∀ {ord : List Nat},okP ops ord = true→ord.Pairwise (fun i k=>ed ops k i = true ∨ ap ops i k = true)∧ord.Pairwise (fun i k=>ed ops i k = false)∧∀ i ∈ ord,ed ops i i = false
 | [],_=>⟨.nil, .nil,by simp⟩
 | i :: r,h=>by
  unfold okP at h;simp only [Bool.and_eq_true,Bool.not_eq_true',List.all_eq_true,Bool.or_eq_true] at h;obtain ⟨⟨h1,h2⟩,h3⟩:=h;obtain ⟨k1,k2,k3⟩:=okP_spec h3;refine ⟨List.pairwise_cons.2 ⟨fun j hj=>(h2 j hj).2,k1⟩,List.pairwise_cons.2 ⟨fun j hj=>(h2 j hj).1,k2⟩,fun x hx=>?_⟩
  rcases List.mem_cons.1 hx with rfl | hx
  ·exact h1
  ·exact k3 x hx
theorem okD_spec {ord : List Nat} {is : List (Nat × Nat)} {rest : List (Nat × Bool)} (h : okD ops ord is rest = true) : StD ops ord is rest∧(∀ j,j < ops.size→j ∈ ord ++ is.map (·.1) ++ rest.map (·.1))∧zCE ops rest (lastL ops rest) = true:=by
 unfold okD at h;simp only [Bool.and_eq_true,decide_eq_true_eq] at h;obtain ⟨⟨⟨⟨⟨⟨⟨⟨h1,h2⟩,h3⟩,h4⟩,h5⟩,h6⟩,h7⟩,h8⟩,h9⟩:=h;obtain ⟨p1,p2,p3⟩:=okP_spec h4;refine ⟨⟨h1,fun j hj=>by simpa using List.all_eq_true.1 h3 j hj,p1,p2,p3,fun i hi k hk=>?_,fun k hk=>?_,fun k hk k' hk'=>?_,h7,fun i hi=>?_⟩,fun j hj=>by simpa using List.all_eq_true.1 h2 j (List.mem_range.2 hj),h9⟩
 ·have:=List.all_eq_true.1 (List.all_eq_true.1 h5 i hi) k hk;simpa using this
 ·have:=List.all_eq_true.1 h6 k hk;simp only [Bool.and_eq_true,beq_iff_eq] at this;exact Option.bind_eq_some_iff.1 this.1
 ·have:=List.all_eq_true.1 h6 k hk;simp only [Bool.and_eq_true,List.all_eq_true,Bool.not_eq_true'] at this;exact this.2 k' hk'
 ·have:=List.all_eq_true.1 h8 i hi;simp only [Bool.and_eq_true,List.all_eq_true,Bool.not_eq_true'] at this;exact this
theorem StD.sub {ord ord' : List Nat} {is is' : List (Nat × Nat)} {rest : List (Nat × Bool)} (h : StD ops ord is rest) (h1 : ord'.Sublist ord) (h2 : is'.Sublist is) : StD ops ord' is' rest:=by
 have h3 : (ord' ++ is'.map (·.1)).Sublist (ord ++ is.map (·.1)):=h1.append (h2.map _);have h4:=h3.append (List.Sublist.refl (rest.map (·.1)));exact ⟨h4.nodup h.nd,fun j hj=>h.lt j (h4.subset hj),h.pw.sublist h1,h.fw.sublist h1,fun i hi=>h.self i (h1.subset hi),fun i hi k hk=>h.da i (h1.subset hi) k (h2.subset hk),fun k hk=>h.dst k (h2.subset hk),
  fun k hk k' hk'=>h.aa k (h2.subset hk) k' (h2.subset hk'),(h2.map _).nodup h.nd2,fun i hi=>h.tl i (h3.subset hi)⟩
theorem ed_true {i j : Nat} {o : Oper} (ho : ops[i]? = some o) {e : Edge} (he : e ∈ o.after) (hb : Region.binds .any e = true) (hj : e.on = j) : ed ops i j = true:=by
 unfold ed;rw [ho];exact Array.any_eq_true'.2 ⟨e,he,by simp [hb,hj]⟩
theorem getD_tf {l : Array Bool} {j : Nat} (hj : j < l.size) : l.getD j true = l.getD j false:=by simp [hj]
def LeftL (ops : Array Oper) (left : List Nat) (listed : Array Bool) : Prop:=listed.size = ops.size∧∀ j,j < ops.size→(listed.getD j true = false ↔ j ∈ left)
theorem LeftL.set {left : List Nat} {listed : Array Bool} (h : LeftL ops left listed) (hn : left.Nodup) {i : Nat} : LeftL ops (left.erase i) (listed.setIfInBounds i true):=by
 refine ⟨by simpa using h.1,fun j hj=>?_⟩
 by_cases hij : i = j
 ·subst hij;simp only [Array.getD_eq_getD_getElem?,h.1,hj,Array.getElem?_setIfInBounds_self_of_lt,Option.getD_some,Bool.true_eq_false,false_iff];exact hn.not_mem_erase
 ·rw [getD_set_ne true hij,h.2 j hj,List.mem_erase_of_ne (Ne.symm hij)]
theorem LeftL.ready {left : List Nat} {listed : Array Bool} (h : LeftL ops left listed) {i : Nat} (hi : i ∈ left) (hlt : i < ops.size) (hin : edgesIn ops i = true) (hno : ∀ j ∈ left,ed ops i j = false) : i ∈ Region.ready .any ops listed:=by
 refine mem_ready.2 ⟨(h.2 i hlt).2 hi, ?_⟩;unfold edgesIn at hin
 cases ho : ops[i]? with
 | none=>rw [ho] at hin;cases hin
 | some o=>
  rw [ho] at hin;refine ⟨o,rfl,fun e he hb=>?_⟩;have:=Array.all_eq_true_iff_forall_mem.1 hin e he;simp only [hb,Bool.not_true,Bool.false_or,decide_eq_true_eq] at this
  cases hl : listed.getD e.on false with
  | true=>rfl
  | false=>
   rw [← getD_tf (by rw [h.1];exact this)] at hl;have h1:=hno e.on ((h.2 e.on this).1 hl);rw [ed_true ho he hb rfl] at h1;cases h1
theorem zER.set {listed : Array Bool} (hc : zER ops listed) {i : Nat} (hr : i ∈ Region.ready .any ops listed) : zER ops (listed.setIfInBounds i true):=fun j o ho hl e he hb=>by
 obtain ⟨_,oi,hoi,hall⟩:=mem_ready.1 hr
 by_cases hij : i = j
 ·subst hij;rw [hoi] at ho;cases ho;exact getD_set_true (hall e he hb)
 ·rw [getD_set_ne false hij] at hl;exact getD_set_true (hc j o ho hl e he hb)
def endD (P : Program) (ops : Array Oper) (Q : Exit→Act→World→Prop) (c : Nat→TypeId × Array Value) (is : List (Nat × Nat)) (rest : List (Nat × Bool)) (w : World) (a : Act) : Prop:=
 ∀ (f : Nat→Nat) (W : World),Below w.heap.size w W→(∀ k ∈ is,w.heap.size ≤ f k.1∧zAe W (f k.1) (c k.1).1 (c k.1).2)→(∀ k ∈ is,∀ j ∈ is,f k.1 = f j.1→k.1 = j.1)→wpS P ops Q (fun _=>True) rest (zAP f is a) W
theorem zEw {c : Nat→TypeId × Array Value} {w0 : World} {rest : List (Nat × Bool)} (hs : Region.noSelect ops = true) (hQ : ∀ d c (a : Act) v w,Q (.panic c) (a.put d v) w→Q (.panic c) a w) (hR : zCE ops rest (lastL ops rest) = true) :
  ∀ (n : Nat) (ord : List Nat) (is : List (Nat × Nat)) (fuel : Nat) (listed : Array Bool) (a : Act) (w : World),ord.length + is.length = n→n + rest.length ≤ fuel→StD ops ord is rest→LeftL ops (ord ++ is.map (·.1) ++ rest.map (·.1)) listed→zER ops listed→
  Below w0.heap.size w0 w→(∀ k ∈ is,∀ (K : Act→World→Prop) a w,K (a.put (some k.2) (zBh w.heap.size)) (w.alloc (.cells (c k.1).2 (c k.1).1))→wpOp P ops Q k.1 K a w)→
  wpD P ops w0 ord a (endD P ops Q c is rest w)→wpAnyH P .any ops Q (fun _=>True) fuel listed a w
 | 0,ord,is,fuel,listed,a,w,hn,hf,hst,hl,hc,hb,hop,h=>by
  obtain rfl : ord = []:=List.length_eq_zero_iff.1 (by omega);obtain rfl : is = []:=List.length_eq_zero_iff.1 (by omega);have he : listed = lastL ops rest:=by
   apply Array.ext
   ·rw [hl.1];simp [lastL]
   ·intro j h1 h2;have hj : j < ops.size:=by rw [← hl.1];exact h1
    have h3:=hl.2 j hj;simp only [Array.getD_eq_getD_getElem?,h1,Array.getElem?_eq_getElem,Option.getD_some,List.nil_append,List.map_nil] at h3;simp only [lastL,List.getElem_toArray,List.getElem_map,List.getElem_range]
    cases hx : listed[j]
    ·have:=h3.1 hx;simp only [Bool.false_eq,Bool.not_eq_false',List.contains_iff_mem,this]
    ·have : ¬ j ∈ rest.map (·.1):=fun hm=>by have:=h3.2 hm;rw [hx] at this;cases this
     simp only [Bool.true_eq,Bool.not_eq_true',Bool.eq_false_iff,ne_eq,List.contains_iff_mem,this,not_false_eq_true]
  exact zDP hs hQ rest fuel listed a w (by rw [he];exact hR) (by omega) trivial (h id w (Below.refl _ _) (by simp) (by simp))
 | n + 1,ord,is,0,listed,a,w,hn,hf,hst,hl,hc,hb,hop,h=>by omega
 | n + 1,ord,is,fuel + 1,listed,a,w,hn,hf,hst,hl,hc,hb,hop,h=>by
  have hrm : ∀ j ∈ Region.ready .any ops listed,∀ i ∈ ord ++ is.map (·.1) ++ rest.map (·.1),ed ops j i = false:=fun j hj i hi=>by
   cases he : ed ops j i with
   | false=>rfl
   | true=>
    obtain ⟨_,o,ho,hall⟩:=mem_ready.1 hj;unfold ed at he;rw [ho] at he;obtain ⟨e,hem,hb'⟩:=Array.any_eq_true'.1 he;simp only [Bool.and_eq_true,beq_iff_eq] at hb';have h1:=hall e hem hb'.1;have hlt:=hst.lt i hi;have h2:=(hl.2 i hlt).2 hi;rw [hb'.2,← getD_tf (by rw [hl.1];exact hlt),h2] at h1
    cases h1
  have hleft : ∀ j ∈ Region.ready .any ops listed,j ∈ ord ∨ j ∈ is.map (·.1):=fun j hj=>by
   obtain ⟨h0,o,ho,hall⟩:=mem_ready.1 hj;have hlt:=(Array.getElem?_eq_some_iff.1 ho).1;have hm:=(hl.2 j hlt).1 h0
   rcases List.mem_append.1 hm with hm | hm
   ·exact List.mem_append.1 hm
   ·obtain ⟨t,ht,rfl⟩:=List.mem_map.1 hm;exfalso;obtain ⟨m,hm⟩ : ∃ m,m ∈ ord ++ is.map (·.1):=by
     cases ord with
     | cons x _=>exact ⟨x,by simp⟩
     | nil=>cases is with
      | cons y _=>exact ⟨y.1,by simp⟩
      | nil=>simp at hn
    have h1:=zFt hc _ _ _ o ho hall ((hst.tl m hm).2 t ht).2;have h2:=List.mem_append.2 (.inl hm : _ ∨ m ∈ rest.map (·.1));have h3:=hst.lt m h2;rw [← getD_tf (by rw [hl.1];exact h3),(hl.2 m h3).2 h2] at h1
    cases h1
  have hne : Region.ready .any ops listed ≠ []:=by
   cases ord with
   | cons x r=>
    have hx : x ∈ x :: r ++ is.map (·.1) ++ rest.map (·.1):=by simp
    refine List.ne_nil_of_mem (hl.ready hx (hst.lt x hx) (hst.tl x (by simp)).1 fun j hj=>?_)
    rcases List.mem_append.1 hj with hj | hj
    ·rcases List.mem_append.1 hj with hj | hj
     ·rcases List.mem_cons.1 hj with rfl | hj
      ·exact hst.self j (by simp)
      ·exact (List.pairwise_cons.1 hst.fw).1 j hj
     ·obtain ⟨k,hk,rfl⟩:=List.mem_map.1 hj;exact (hst.da x (by simp) k hk).1
    ·obtain ⟨t,ht,rfl⟩:=List.mem_map.1 hj;exact ((hst.tl x (by simp)).2 t ht).1
   | nil=>cases is with
    | nil=>simp at hn
    | cons y r=>
     have hx : y.1 ∈ [] ++ (y :: r).map (·.1) ++ rest.map (·.1):=by simp
     refine List.ne_nil_of_mem (hl.ready hx (hst.lt _ hx) (hst.tl y.1 (by simp)).1 fun j hj=>?_)
     rcases List.mem_append.1 hj with hj | hj
     ·rw [List.nil_append] at hj;obtain ⟨k,hk,rfl⟩:=List.mem_map.1 hj;exact hst.aa y (by simp) k hk
     ·obtain ⟨t,ht,rfl⟩:=List.mem_map.1 hj;exact ((hst.tl y.1 (by simp)).2 t ht).1
  refine ⟨fun h0=>absurd h0 hne,fun j hj=>?_⟩
  by_cases hjo : j ∈ ord
  ·obtain ⟨o,v,k1,k2,k3⟩:=pickD hs ord a hjo hst.pw (fun i hi=>hrm j hj i (by simp [hi])) h;refine k2.wpOp k1 hb fun w' hb'=>⟨trivial, ?_⟩
   have hb1 : Below w0.heap.size w0 w':=hb.trans (hb'.mono hb.size);refine zEw hs hQ hR n (ord.erase j) is fuel _ _ w' (by have:=List.length_erase_of_mem hjo;have:=List.length_pos_of_mem hjo;omega) (by omega) (hst.sub List.erase_sublist (List.Sublist.refl _)) ?_ (hc.set hj) hb1 hop (wpD_mono (fun b hT f W hW hk hi=>hT f W (hb'.trans (hW.mono hb'.size)) (fun k hk'=>⟨Nat.le_trans hb'.size (hk k hk').1,(hk k hk').2⟩) hi) _ _ k3);have:=hl.set hst.nd (i:=j);rw [List.append_assoc,List.erase_append_left _ hjo,← List.append_assoc] at this;exact this
  ·obtain ⟨k,hk,rfl⟩:=List.mem_map.1 ((hleft j hj).resolve_left hjo);refine hop k hk _ a w ⟨trivial, ?_⟩;have hnd1 : (is.map (·.1)).Nodup:=(List.nodup_append.1 (List.nodup_append.1 hst.nd).1).2.1;have hnd : is.Nodup:=zEm hnd1;have hsub:=List.erase_sublist (a:=k) (l:=is);have hmem : ∀ j ∈ is.erase k,j ∈ is:=fun j hj=>hsub.subset hj;have hkn : ∀ j ∈ is.erase k,j.1 ≠ k.1:=fun j hj e=>by
    have hjk : j ≠ k:=fun e2=>by rw [e2] at hj;exact absurd hj (hnd.not_mem_erase)
    exact hjk (zDR hnd1 (hmem j hj) hk e)
   have hbw : Below w.heap.size w (w.alloc (.cells (c k.1).2 (c k.1).1)):=(Below.refl _ _).alloc (Nat.le_refl _) _;have hsz : (w.alloc (.cells (c k.1).2 (c k.1).1)).heap.size = w.heap.size + 1:=by simp
   obtain ⟨ok,hok,hdst⟩:=hst.dst k hk;refine zEw hs hQ hR n ord (is.erase k) fuel _ _ (w.alloc (.cells (c k.1).2 (c k.1).1)) (by have:=List.length_erase_of_mem hk;have:=List.length_pos_of_mem hk;omega) (by omega) (hst.sub (List.Sublist.refl _) hsub) ?_ (hc.set hj) (hb.trans (hbw.mono hb.size)) (fun j hj=>hop j (hmem j hj))
    (shiftD hs hok hdst (zBh w.heap.size) (fun b hT f W hW hf hi=>?_) ord a (fun i hi=>?_) h)
   ·have:=hl.set hst.nd (i:=k.1);rw [List.append_assoc,List.erase_append_right _ hjo,List.erase_append_left _ (List.mem_map.2 ⟨k,hk,rfl⟩),← List.append_assoc] at this;have e : (is.map (·.1)).erase k.1 = (is.erase k).map (·.1):=by
     clear this hop h hst hl hleft hne hrm hf hn
     induction is with
     | nil=>rfl
     | cons y r ih=>
      by_cases hy : y = k
      ·subst hy;simp
      ·have hkr : k ∈ r:=by
        rcases List.mem_cons.1 hk with h | h
        ·exact absurd h.symm hy
        ·exact h
       have hyk : y.1 ≠ k.1:=fun e2=>(List.nodup_cons.1 hnd1).1 (List.mem_map.2 ⟨k,hkr,e2.symm⟩);rw [List.erase_cons_tail (by simpa using hy),List.map_cons,List.map_cons,List.erase_cons_tail (by simpa using hyk)];have hnd1':=(List.nodup_cons.1 hnd1).2;rw [ih hkr hnd1' (zEm hnd1') List.erase_sublist (fun j hj=>List.mem_of_mem_erase hj) (fun j hj e3=>?_)];have hjk : j ≠ k:=fun e4=>by rw [e4] at hj;exact absurd hj ((zEm hnd1').not_mem_erase)
       exact hjk (zDR hnd1' (List.mem_of_mem_erase hj) hkr e3)
    rw [e] at this;exact this
   ·rw [hsz] at hW hf;have hbk : zAe W w.heap.size (c k.1).1 (c k.1).2:=(zAe.new w (c k.1).1 (c k.1).2).of_block (hW.block _ (by omega));have e : ∀ j ∈ is.erase k,(fun i=>if i = k.1 then w.heap.size else f i) j.1 = f j.1:=fun j hj=>if_neg (hkn j hj);have h:=hT (fun i=>if i = k.1 then w.heap.size else f i) W (hbw.trans (hW.mono (by omega))) (fun j hj=>?_) (fun j hj j' hj'=>?_)
    ·rw [zEV is b hk hst.nd2,zEC _ _ e,if_pos rfl] at h;exact h
    ·by_cases hjk : j.1 = k.1
     ·obtain rfl:=zDR hnd1 hj hk hjk;simp only [if_true];exact ⟨Nat.le_refl _,hbk⟩
     ·have hje : j ∈ is.erase k:=(List.mem_erase_of_ne (fun e=>hjk (by rw [e]))).2 hj;have:=hf j hje;simp only [hjk,if_false];exact ⟨by omega,this.2⟩
    ·intro he
     by_cases hjk : j.1 = k.1 <;> by_cases hjk' : j'.1 = k.1
     ·rw [hjk,hjk']
     ·have:=hf j' ((List.mem_erase_of_ne (fun e=>hjk' (by rw [e]))).2 hj');simp only [hjk,hjk',if_true,if_false] at he;omega
     ·have:=hf j ((List.mem_erase_of_ne (fun e=>hjk (by rw [e]))).2 hj);simp only [hjk,hjk',if_true,if_false] at he;omega
     ·simp only [hjk,hjk',if_false] at he;exact hi j ((List.mem_erase_of_ne (fun e=>hjk (by rw [e]))).2 hj) j' ((List.mem_erase_of_ne (fun e=>hjk' (by rw [e]))).2 hj') he
   ·rcases (hst.da i hi k hk).2 with h1 | h1
    ·rw [hrm k.1 hj i (by simp [hi])] at h1;cases h1
    ·exact h1
theorem zFf (ord : List Nat) (is : List (Nat × Nat)) (c : Nat→TypeId × Array Value) (rest : List (Nat × Bool)) {id : Nat} {a : Act} {w : World} (hm : P.follows .mixedOrders = true)
  (hok : (Region.noSelect ops && decide (ord.length + is.length + rest.length ≤ ops.size) && okD ops ord is rest) = true) (hQ : ∀ d c (a : Act) v w,Q (.panic c) (a.put d v) w→Q (.panic c) a w)
  (hop : ∀ k ∈ is,∀ (K : Act→World→Prop) a w,K (a.put (some k.2) (zBh w.heap.size)) (w.alloc (.cells (c k.1).2 (c k.1).1))→wpOp P ops Q k.1 K a w)
  (h : wpD P ops w.drew ord a (endD P ops Q c is rest w.drew)) : (Code.region id ops true).wp P Q a w:=by
 simp only [Bool.and_eq_true,decide_eq_true_eq] at hok;obtain ⟨⟨hs,hl⟩,hok⟩:=hok;obtain ⟨h1,h2,h3⟩:=okD_spec hok;refine wp_region_held (S:=fun _=>True) hm (zEw hs hQ h3 _ ord is ops.size _ a w.drew rfl hl h1 ⟨by simp,fun j hj=>?_⟩ (fun j o ho hj=>?_) (Below.refl _ _) hop h)
 ·simp only [Array.getD_eq_getD_getElem?,Array.getElem?_replicate,hj,if_true,Option.getD_some,true_iff];exact h2 j hj
 ·have hlt:=(Array.getElem?_eq_some_iff.1 ho).1;simp [hlt] at hj
theorem rgD (ord : List Nat) (is : List (Nat × Nat)) (c : Nat→TypeId × Array Value) (rest : List (Nat × Bool)) {id : Nat} {a : Act} {w : World} (h : wpD P ops w.drew ord a (endD P ops Q c is rest w.drew)) (hm : P.follows .mixedOrders = true:=by rfl) (hok : (Region.noSelect ops && decide (ord.length + is.length + rest.length ≤ ops.size) && okD ops ord is rest) = true:=by kernel_rfl) (hQ : ∀ d c (a : Act) v w,Q (.panic c) (a.put d v) w→Q (.panic c) a w:=by intro d c a v w h;cases d <;> exact h) (hop : ∀ k ∈ is,∀ (K : Act→World→Prop) a w,K (a.put (some k.2) (zBh w.heap.size)) (w.alloc (.cells (c k.1).2 (c k.1).1))→wpOp P ops Q k.1 K a w:=by simp) : (Code.region id ops true).wp P Q a w:=
 zFf ord is c rest hm hok hQ hop h
def fwdOK (ops : Array Oper) : Bool:=(List.range ops.size).all fun i=>match ops[i]? with
 | some o=>o.after.all fun e=>!Region.binds .any e || decide (e.on < i)
 | none=>true
theorem zGd (hf : fwdOK ops = true) : ∀ (n k : Nat) (listed : Array Bool) (a : Act) (w : World),k + n = ops.size→listed.size = ops.size→(∀ j,j < ops.size→(listed.getD j true = false ↔ k ≤ j))→wpAny P .any ops Q n listed a w→wpOps P ops Q (List.range' k n) a w
 | 0,k,listed,a,w,_,_,_,h=>h.2
 | n + 1,k,listed,a,w,hk,hsz,hl,h=>by
  have hkl : k < ops.size:=by omega
  rw [List.range'_succ,wpOps_cons];have hr : k ∈ Region.ready .any ops listed:=by
   refine mem_ready.2 ⟨(hl k hkl).2 (Nat.le_refl _),ops[k],by simp [hkl],fun e he hb=>?_⟩;have h1:=List.all_eq_true.1 hf k (List.mem_range.2 hkl);simp only [hkl,Array.getElem?_eq_getElem] at h1;have h2:=Array.all_eq_true_iff_forall_mem.1 h1 e he;simp only [hb,Bool.not_true,Bool.false_or,decide_eq_true_eq] at h2
   cases hx : listed.getD e.on false with
   | true=>rfl
   | false=>
    rw [← getD_tf (by omega)] at hx;have:=(hl e.on (by omega)).1 hx;omega
  refine wpOp_mono (fun a' w' h'=>zGd hf n (k + 1) _ a' w' (by omega) (by simpa using hsz) (fun j hj=>?_) h') (h.2 k hr)
  by_cases hkj : k = j
  ·subst hkj;simp only [Array.getD_eq_getD_getElem?,hsz,hj,Array.getElem?_setIfInBounds_self_of_lt,Option.getD_some,Bool.true_eq_false,false_iff];omega
  ·rw [getD_set_ne true hkj,hl j hj];omega
theorem zBo (ord : List Nat) (is : List (Nat × Nat)) (c : Nat→TypeId × Array Value) (rest : List (Nat × Bool)) {id : Nat} {a : Act} {w : World}
  (hok : (fwdOK ops && (Region.noSelect ops && decide (ord.length + is.length + rest.length ≤ ops.size) && okD ops ord is rest)) = true) (hQ : ∀ d c (a : Act) v w,Q (.panic c) (a.put d v) w→Q (.panic c) a w)
  (hop : ∀ k ∈ is,∀ (K : Act→World→Prop) a w,K (a.put (some k.2) (zBh w.heap.size)) (w.alloc (.cells (c k.1).2 (c k.1).1))→wpOp P ops Q k.1 K a w)
  (h : wpD P ops w ord a (endD P ops Q c is rest w)) : (Code.region id ops false).wp P Q a w:=by
 simp only [Bool.and_eq_true,decide_eq_true_eq] at hok;obtain ⟨hf,⟨⟨hs,hl⟩,hok⟩⟩:=hok;obtain ⟨h1,h2,h3⟩:=okD_spec hok;refine wp_region ?_;rw [List.range_eq_range'];refine zGd hf ops.size 0 (Array.replicate ops.size false) a w (by omega) (by simp) (fun j hj=>?_) (wpAny_of_held (S:=fun _=>True) _ _ _ _ (zEw hs hQ h3 _ ord is ops.size _ a w rfl hl h1 ⟨by simp,fun j hj=>?_⟩ (fun j o ho hj=>?_) (Below.refl _ _) hop h))
 ·simp [hj]
 ·simp only [Array.getD_eq_getD_getElem?,Array.getElem?_replicate,hj,if_true,Option.getD_some,true_iff];exact h2 j hj
 ·have hlt:=(Array.getElem?_eq_some_iff.1 ho).1;simp [hlt] at hj
theorem rgR (ord : List Nat) (is : List (Nat × Nat)) (c : Nat→TypeId × Array Value) (rest : List (Nat × Bool)) {id : Nat} {a : Act} {w : World} (h : wpD P ops w ord a (endD P ops Q c is rest w)) (hok : (fwdOK ops && (Region.noSelect ops && decide (ord.length + is.length + rest.length ≤ ops.size) && okD ops ord is rest)) = true:=by kernel_rfl) (hQ : ∀ d c (a : Act) v w,Q (.panic c) (a.put d v) w→Q (.panic c) a w:=by intro d c a v w h;cases d <;> exact h) (hop : ∀ k ∈ is,∀ (K : Act→World→Prop) a w,K (a.put (some k.2) (zBh w.heap.size)) (w.alloc (.cells (c k.1).2 (c k.1).1))→wpOp P ops Q k.1 K a w:=by simp) : (Code.region id ops false).wp P Q a w:=
 zBo ord is c rest hok hQ hop h
theorem zAi {w0 : World} {T : Act→Prop} {i : Nat} {rest : List Nat} {a : Act} {dst : Option Tmp} {op : Op} {ty : TypeId} {pos : String} {after : Array Edge} {g : Option (Nat × Bool)} {v : Value} (hi : ops[i]? = some ⟨dst,op,ty,pos,after,g⟩)
  (hw : Region.wanted ⟨dst,op,ty,pos,after,g⟩ (yielded ops a.tmps) = true) (hrun : ∀ W,Below w0.heap.size w0 W→(execOp a.eval ⟨dst,op,ty,pos,after,g⟩).run P W = .ok (.value v) W) (h : wpD P ops w0 rest (a.put dst v) T) : wpD P ops w0 (i :: rest) a T:=
 ⟨_,v,hi, .inl ⟨hw,fun W hW=>.inl (hrun W hW)⟩,h⟩
theorem wD {w0 : World} {T : Act→Prop} {i : Nat} {rest : List Nat} {a : Act} {dst : Option Tmp} {op : Op} {ty : TypeId} {pos : String} {after : Array Edge} {g : Option (Nat × Bool)} {v : Value} (hi : ops[i]? = some ⟨dst,op,ty,pos,after,g⟩) (h : wpD P ops w0 rest (a.put dst v) T) (hw : Region.wanted ⟨dst,op,ty,pos,after,g⟩ (yielded ops a.tmps) = true:=by exact rfl) (hrun : ∀ W,Below w0.heap.size w0 W→(execOp a.eval ⟨dst,op,ty,pos,after,g⟩).run P W = .ok (.value v) W:=by intro W hW;go_simp;with_reducible rfl) : wpD P ops w0 (i :: rest) a T:=
 zAi hi hw hrun h
theorem zAO {w0 : World} {T : Act→Prop} {i : Nat} {rest : List Nat} {a : Act} {dst : Option Tmp} {op : Op} {ty : TypeId} {pos : String} {after : Array Edge} {g : Option (Nat × Bool)} (f : FuncId) (args : Array Value) (v : Value) (hi : ops[i]? = some ⟨dst,op,ty,pos,after,g⟩)
  (hw : Region.wanted ⟨dst,op,ty,pos,after,g⟩ (yielded ops a.tmps) = true) (hrun : ∀ W : World,(execOp a.eval ⟨dst,op,ty,pos,after,g⟩).run P W = .ok (.enter f args) W)
  (hc : ∀ W,Below w0.heap.size w0 W→Calls P f args W fun e w'=>e = .returned v∧Below W.heap.size W w') (h : wpD P ops w0 rest (a.put dst v) T) : wpD P ops w0 (i :: rest) a T:=
 ⟨_,v,hi, .inl ⟨hw,fun W hW=>.inr ⟨f,args,hrun W,hc W hW⟩⟩,h⟩
def ifB (c : Bool) (v : Value) : Value:=if c then v else undef
@[go_sem] theorem zAz (v : Value) : ifB true v = v:=rfl
@[go_sem] theorem ifB_false (v : Value) : ifB false v = undef:=rfl
@[go_sem] theorem bool_and {p : Prop} [Decidable p] {c : Bool} : (if p then Value.bool c else Value.bool false) = .bool (decide p && c):=by by_cases h : p <;> simp [h]
@[go_sem] theorem bool_or {p : Prop} [Decidable p] {c : Bool} : (if p then Value.bool true else Value.bool c) = .bool (decide p || c):=by by_cases h : p <;> simp [h]
@[go_sem] theorem ifB_dec {p : Prop} [Decidable p] {u v : Value} : (if p then ifB (decide p) v else u) = if p then v else u:=by by_cases h : p <;> simp [h,ifB]
@[go_sem] theorem ifB_decn {p : Prop} [Decidable p] {u v : Value} : (if p then u else ifB (!decide p) v) = if p then u else v:=by by_cases h : p <;> simp [h,ifB]
@[go_sem] theorem ifB_t {b : Bool} {u v : Value} : (if b = true then ifB b v else u) = if b = true then v else u:=by cases b <;> rfl
@[go_sem] theorem ifB_n {b : Bool} {u v : Value} : (if b = true then u else ifB (!b) v) = if b = true then u else v:=by cases b <;> rfl
@[go_sem] theorem ifB_f {b : Bool} {u v : Value} : (if b = false then u else ifB b v) = if b = false then u else v:=by cases b <;> rfl
@[go_sem] theorem ifB_fn {b : Bool} {u v : Value} : (if b = false then ifB (!b) v else u) = if b = false then v else u:=by cases b <;> rfl
@[go_sem] theorem ifB_beq {α : Type} [BEq α] [LawfulBEq α] {x y : α} [Decidable (x = y)] {u v : Value} : (if x = y then ifB (x == y) v else u) = if x = y then v else u:=by by_cases h : x = y <;> simp [h,ifB]
@[go_sem] theorem ifB_beqn {α : Type} [BEq α] [LawfulBEq α] {x y : α} [Decidable (x = y)] {u v : Value} : (if x = y then u else ifB (!(x == y)) v) = if x = y then u else v:=by
 by_cases h : x = y
 ·simp [h]
 ·have : (x == y) = false:=by simpa using h
  simp [h,this,ifB]
theorem zC2 {a : Act} {dst : Option Tmp} {op : Op} {ty : TypeId} {pos : String} {after : Array Edge} {gi : Nat} {want q : Bool} (h : ((ops[gi]?).bind (·.dst)).bind (a.tmps[·]?) = some (.bool q)) : Region.wanted ⟨dst,op,ty,pos,after,some (gi,want)⟩ (yielded ops a.tmps) = (q == want):=by
 unfold Region.wanted yielded;simp only [h]
 cases q <;> cases want <;> rfl
theorem wanted_2 {a : Act} {dst : Option Tmp} {op : Op} {ty : TypeId} {pos : String} {after : Array Edge} {gi : Nat} {want q c : Bool} (h : ((ops[gi]?).bind (·.dst)).bind (a.tmps[·]?) = some (ifB c (.bool q))) : Region.wanted ⟨dst,op,ty,pos,after,some (gi,want)⟩ (yielded ops a.tmps) = (c && (q == want)):=by
 cases c
 ·unfold Region.wanted yielded;simp only [h]
  cases want <;> rfl
 ·rw [zC2 (q:=q) h];rfl
theorem wpD_ifG {w0 : World} {T : Act→Prop} {i : Nat} {rest : List Nat} {a : Act} {o : Oper} {c : Bool} {v : Value} (hi : ops[i]? = some o) (hw : Region.wanted o (yielded ops a.tmps) = c) (hrun : c = true→∀ W,Below w0.heap.size w0 W→(execOp a.eval o).run P W = .ok (.value v) W) (h : wpD P ops w0 rest (a.put o.dst (ifB c v)) T) : wpD P ops w0 (i :: rest) a T:=by
 refine ⟨_,_,hi, ?_,h⟩
 cases c
 ·exact .inr ⟨hw,rfl⟩
 ·exact .inl ⟨hw,fun W hW=>.inl (hrun rfl W hW)⟩
theorem wpD_ifcG {w0 : World} {T : Act→Prop} {i : Nat} {rest : List Nat} {a : Act} {o : Oper} {c : Bool} (f : FuncId) (args : Array Value) (v : Value) (hi : ops[i]? = some o) (hw : Region.wanted o (yielded ops a.tmps) = c) (hrun : c = true→∀ W,(execOp a.eval o).run P W = .ok (.enter f args) W)
  (hc : c = true→∀ W,Below w0.heap.size w0 W→Calls P f args W fun e w'=>e = .returned v∧Below W.heap.size W w') (h : wpD P ops w0 rest (a.put o.dst (ifB c v)) T) : wpD P ops w0 (i :: rest) a T:=by
 refine ⟨_,_,hi, ?_,h⟩
 cases c
 ·exact .inr ⟨hw,rfl⟩
 ·exact .inl ⟨hw,fun W hW=>.inr ⟨f,args,hrun rfl W,hc rfl W hW⟩⟩
section
variable {w0 : World} {T : Act→Prop} {i : Nat} {rest : List Nat} {a : Act} {dst : Option Tmp} {op : Op} {ty : TypeId} {pos : String} {after : Array Edge} {gi : Nat} {want q c : Bool} {v : Value}
theorem zAB (hi : ops[i]? = some ⟨dst,op,ty,pos,after,some (gi,want)⟩) (hy : ((ops[gi]?).bind (·.dst)).bind (a.tmps[·]?) = some (.bool q)) (hrun : (q == want) = true→∀ W,Below w0.heap.size w0 W→(execOp a.eval ⟨dst,op,ty,pos,after,some (gi,want)⟩).run P W = .ok (.value v) W) (h : wpD P ops w0 rest (a.put dst (ifB (q == want) v)) T) : wpD P ops w0 (i :: rest) a T:=
 wpD_ifG hi (zC2 hy) hrun h
theorem wI (hi : ops[i]? = some ⟨dst,op,ty,pos,after,some (gi,want)⟩) (h : wpD P ops w0 rest (a.put dst (ifB (q == want) v)) T) (hy : ((ops[gi]?).bind (·.dst)).bind (a.tmps[·]?) = some (.bool q):=by exact rfl) (hrun : (q == want) = true→∀ W,Below w0.heap.size w0 W→(execOp a.eval ⟨dst,op,ty,pos,after,some (gi,want)⟩).run P W = .ok (.value v) W:=by intro hg W hW;(try simp only [Bool.and_eq_true] at hg);(try simp only [hg,Bool.and_self,zAz]);go_simp;with_reducible rfl) : wpD P ops w0 (i :: rest) a T:=
 zAB hi hy hrun h
theorem zCe (hi : ops[i]? = some ⟨dst,op,ty,pos,after,some (gi,want)⟩) (hy : ((ops[gi]?).bind (·.dst)).bind (a.tmps[·]?) = some (ifB c (.bool q))) (hrun : (c && (q == want)) = true→∀ W,Below w0.heap.size w0 W→(execOp a.eval ⟨dst,op,ty,pos,after,some (gi,want)⟩).run P W = .ok (.value v) W) (h : wpD P ops w0 rest (a.put dst (ifB (c && (q == want)) v)) T) : wpD P ops w0 (i :: rest) a T:=
 wpD_ifG hi (wanted_2 hy) hrun h
theorem wJ (hi : ops[i]? = some ⟨dst,op,ty,pos,after,some (gi,want)⟩) (h : wpD P ops w0 rest (a.put dst (ifB (c && (q == want)) v)) T) (hy : ((ops[gi]?).bind (·.dst)).bind (a.tmps[·]?) = some (ifB c (.bool q)):=by exact rfl) (hrun : (c && (q == want)) = true→∀ W,Below w0.heap.size w0 W→(execOp a.eval ⟨dst,op,ty,pos,after,some (gi,want)⟩).run P W = .ok (.value v) W:=by intro hg W hW;(try simp only [Bool.and_eq_true] at hg);(try simp only [hg,Bool.and_self,zAz]);go_simp;with_reducible rfl) : wpD P ops w0 (i :: rest) a T:=
 zCe hi hy hrun h
theorem zBl (f : FuncId) (args : Array Value) (v : Value) (hi : ops[i]? = some ⟨dst,op,ty,pos,after,some (gi,want)⟩) (hy : ((ops[gi]?).bind (·.dst)).bind (a.tmps[·]?) = some (.bool q)) (hrun : (q == want) = true→∀ W,(execOp a.eval ⟨dst,op,ty,pos,after,some (gi,want)⟩).run P W = .ok (.enter f args) W)
  (hc : (q == want) = true→∀ W,Below w0.heap.size w0 W→Calls P f args W fun e w'=>e = .returned v∧Below W.heap.size W w') (h : wpD P ops w0 rest (a.put dst (ifB (q == want) v)) T) : wpD P ops w0 (i :: rest) a T:=wpD_ifcG f args v hi (zC2 hy) hrun hc h
end
section
variable {w0 : World} {T : Act→Prop} {i : Nat} {rest : List Nat} {a : Act} {dst : Option Tmp} {ty : TypeId} {pos : String} {after : Array Edge} {gg : Nat × Bool} {b c g : Bool} {x y : Operand}
theorem zBX (hi : ops[i]? = some ⟨dst, .pick x (.const (.bool true)) y,ty,pos,after,none⟩) (hx : a.eval x = .bool b) (hy : a.eval y = ifB (b == false) (.bool c)) (h : wpD P ops w0 rest (a.put dst (.bool (b || c))) T) : wpD P ops w0 (i :: rest) a T:=by
 refine ⟨_,_,hi, .inl ⟨rfl,fun W hW=>.inl ?_⟩,h⟩;unfold execOp;simp only [hx,hy]
 cases b <;> simp [go_sem,ifB,Act.eval,asBool]
theorem zB1 (hi : ops[i]? = some ⟨dst, .pick x y (.const (.bool false)),ty,pos,after,none⟩) (hx : a.eval x = .bool b) (hy : a.eval y = ifB (b == true) (.bool c)) (h : wpD P ops w0 rest (a.put dst (.bool (b && c))) T) : wpD P ops w0 (i :: rest) a T:=by
 refine ⟨_,_,hi, .inl ⟨rfl,fun W hW=>.inl ?_⟩,h⟩;unfold execOp;simp only [hx,hy]
 cases b <;> simp [go_sem,ifB,Act.eval,asBool]
theorem wpD_orG (hi : ops[i]? = some ⟨dst, .pick x (.const (.bool true)) y,ty,pos,after,some gg⟩) (hw : Region.wanted ⟨dst, .pick x (.const (.bool true)) y,ty,pos,after,some gg⟩ (yielded ops a.tmps) = g) (hx : a.eval x = ifB g (.bool b)) (hy : a.eval y = ifB (g && (b == false)) (.bool c)) (h : wpD P ops w0 rest (a.put dst (ifB g (.bool (b || c)))) T) : wpD P ops w0 (i :: rest) a T:=by
 refine wpD_ifG hi hw (fun hg W hW=>?_) h;subst hg;unfold execOp;simp only [hx,hy]
 cases b <;> simp [go_sem,ifB,Act.eval,asBool]
theorem zEk (hi : ops[i]? = some ⟨dst, .pick x y (.const (.bool false)),ty,pos,after,some gg⟩) (hw : Region.wanted ⟨dst, .pick x y (.const (.bool false)),ty,pos,after,some gg⟩ (yielded ops a.tmps) = g) (hx : a.eval x = ifB g (.bool b)) (hy : a.eval y = ifB (g && (b == true)) (.bool c)) (h : wpD P ops w0 rest (a.put dst (ifB g (.bool (b && c)))) T) : wpD P ops w0 (i :: rest) a T:=by
 refine wpD_ifG hi hw (fun hg W hW=>?_) h;subst hg;unfold execOp;simp only [hx,hy]
 cases b <;> simp [go_sem,ifB,Act.eval,asBool]
end
def zAu (u : Nat→Value) : List Nat→Act→Act
 | [],a=>a
 | n :: l,a=>zAu u l (a.put (some n) (u n))
theorem zEF : ∀ (l : List Nat) (a : Act),zAu (fun n=>(a.tmps[n]?).getD undef) l a = a
 | [],_=>rfl
 | n :: l,a=>by
  have e : a.put (some n) ((a.tmps[n]?).getD undef) = a:=by
   obtain ⟨t,d⟩:=a;simp only [Act.put]
   congr 1
   apply Array.ext
   ·simp
   ·intro i h1 h2
    by_cases hn : n = i
    ·subst hn;have : n < t.size:=h2;simp [this]
    ·exact Array.getElem_setIfInBounds_ne h2 hn
  show zAu _ l (a.put (some n) ((a.tmps[n]?).getD undef)) = a
  rw [e];exact zEF l a
theorem zAt (l : List Nat) {S : World→Prop} {w : World} {rest : List (Nat × Bool)} {a : Act} (h : ∀ u : Nat→Value,wpS P ops Q S rest (zAu u l a) w) : wpS P ops Q S rest a w:=by
 have:=h fun n=>(a.tmps[n]?).getD undef
 rwa [zEF] at this
theorem zBG {i : Nat} {rest : List (Nat × Bool)} {a : Act} {w : World} {ty ty0 : TypeId} {x y : Operand} {pos : String} {after : Array Edge} {b off : Nat} {T : TypeId} {cs : Array Value} (hb : zAe w b T cs) (hi : ops[i]? = some ⟨none, .store ty x y,ty0,pos,after,none⟩)
  (hx : a.eval x = .pointer (some ⟨b,off,none⟩)) (v : Value) (hy : a.eval y = v) (hf : (P.info? ty).map (·.size) = some v.cells.size) (hfit : Nat.ble (off + v.cells.size) cs.size = true) (h1 : v.cells.all (·.oneCell') = true)
  (h : ∀ w',zAe w' b T (zAx cs off v.cells.toList)→Turn b w w'→wpS P ops Q (fun _=>True) rest a w') : wpS P ops Q (fun _=>True) ((i,false) :: rest) a w:=
 zCo hi rfl fun K hK=>zAr hb ty x y rfl hx v hy hf hfit h1 fun w' h2 h3=>hK a w' trivial (h w' h2 h3)
def Det (F : FuncId) (args : Array Value) (v : Value) (w : World) : Prop:=∀ W,Below w.heap.size w W→Calls Tryz.prog F args W fun e w'=>e = .returned v∧Below W.heap.size W w'
theorem Det.moved {F : FuncId} {args : Array Value} {v : Value} {w w' : World} (h : Det F args v w) (hb : Below w.heap.size w w') : Det F args v w':=fun W hW=>h W (hb.trans (hW.mono hb.size))
end
end Go.Proofs.YtbbblemfodpmaaaGreat
end
section
namespace Go.Proofs.YtbbblemfodpmaaaGreat
open Go.RowKit
theorem run_tkN {t : TypeId} {sz : Nat} (hT : CutT t sz) (w : World) (a : Option Addr) (n c k : Nat) (hk : k ≤ n) (hc : n ≤ c) : (Instr.sliceAt t (.slice a n c) none (some (.int .i64 (k : Int))) none).run Tryz.prog w = .ok (.slice a k c) w:=by
 have h:=run_tkG hT w (⟨a,c,List.replicate n ()⟩ : Sl Unit) k (by simpa using hk) (by simpa using hc);simpa [Sl.tk,Nat.min_eq_left hk] using h
theorem run_drN {t : TypeId} {sz : Nat} (hT : CutT t sz) (w : World) (a : Option Addr) (n c k : Nat) (hk : k ≤ n) : (Instr.sliceAt t (.slice a n c) (some (.int .i64 (k : Int))) none none).run Tryz.prog w = .ok (.slice (if c = k then a else a.map (·.add (k * sz))) (n - k) (c - k)) w:=by
 have h:=run_drG hT w (⟨a,c,List.replicate n ()⟩ : Sl Unit) k (by simpa using hk);simpa [Sl.dr] using h
theorem Sl.OK.tkN {α : Type} {sz : Nat} {e : α→Array Value} {ok : (Nat→Prop)→World→α→Prop} {D : Nat→Prop} {w : World} {a : Option Addr} {c : Nat} {l : List α} (h : Sl.OK sz e ok D w ⟨a,c,l⟩) (k : Nat) : Sl.OK sz e ok D w ⟨a,c,l.take k⟩:=h.tk k
theorem Sl.OK.drN {α : Type} {sz : Nat} {e : α→Array Value} {ok : (Nat→Prop)→World→α→Prop} {D : Nat→Prop} {w : World} {a : Option Addr} {c : Nat} {l : List α} (h : Sl.OK sz e ok D w ⟨a,c,l⟩) {k : Nat} (hk : k ≤ l.length) : Sl.OK sz e ok D w ⟨if c = k then a else a.map (·.add (k * sz)),c - k,l.drop k⟩:=h.dr hk
theorem Sl.OK.up {α : Type} {sz : Nat} {e : α→Array Value} {D : Nat→Prop} {w w' : World} {s : Sl α} (h : Sl.OK sz e (fun _ _ _=>True) D w s) (hb : Below w.heap.size w w') : Sl.OK sz e (fun _ _ _=>True) D w' s:=h.ext (fun _ h=>h) (.of_below hb)
section
variable {α : Type} {enc : α→Array Value} {sz : Nat} {P : Program} {w : World} {ops : Array Oper} {rest : List Oper} {o : Oper} {a : Act} {Q : Exit→Act→World→Prop}
theorem own_lit0 (w : World) (e : TypeId) : OwnL enc sz (w.alloc (.cells #[] e)) w.heap.size e (.slice (some ⟨w.heap.size,0,none⟩) 0 0) []:=by
 refine ⟨by simp [flat], .inr ⟨w.heap.size,0,#[],rfl,Nat.le_refl _, ?_,Nat.le_refl _,Nat.zero_le _,by simp,by simp [flat]⟩⟩;exact (zAe.new w e #[])
theorem zFO (hgd : o.guard = none) (s x : Operand) (t : TypeId) (ho : o.op = .call { callee:=.builtin .append,args:=#[s,x],argTypes:=#[t,t] })
  (base : Nat) {e : TypeId} {bytes : Nat} (hE : zBU P t e sz bytes) (hsz : ∀ x,(enc x).size = sz) (h0 : 0 < sz) (hone : ∀ x,(enc x).all (·.oneCell') = true) (hby : bytes ≤ 10000)
  (v : Value) (l : List α) (hs : a.eval s = v) (hown : OwnL enc sz w base e v l) {ok : (Nat→Prop)→World→α→Prop} {D : Nat→Prop}
  (y : Sl α) (hx : a.eval x = y.v) (hy : Sl.OK sz enc ok D w y) (hlen : l.length + y.val.length ≤ 4294967296) (hbase : base ≤ w.heap.size)
  (h : ∀ v' w',OwnL enc sz w' base e v' (l ++ y.val)→Below base w w'→wpList P ops Q rest (a.put o.dst v') w') : wpList P ops Q (o :: rest) a w:=
 zDN hgd s x t ho base hE hsz h0 hone hby v l hs hown y hx hy hlen hbase fun v' w' h1 h2 _=>h v' w' h1 (Below.appended hown h2 (Nat.le_refl _) hbase)
theorem wpList_app1 (hgd : o.guard = none) (s x : Operand) (t : TypeId) (ho : o.op = .call { callee:=.builtin .append,args:=#[s,x],argTypes:=#[t,t] })
  (base : Nat) {e : TypeId} {bytes : Nat} (hE : zBU P t e sz bytes) (hsz : ∀ x,(enc x).size = sz) (h0 : 0 < sz) (hone : ∀ x,(enc x).all (·.oneCell') = true) (hby : bytes ≤ 10000)
  (v : Value) (l : List α) (hs : a.eval s = v) (hown : OwnL enc sz w base e v l)
  (b off c : Nat) (y : α) (hx : a.eval x = .slice (some ⟨b,off,none⟩) 1 c) (hy : ∀ j,j < sz→w.cell? ⟨b,off + j,none⟩ = (enc y)[j]?)
  (hlen : l.length + 1 ≤ 4294967296) (hbase : base ≤ w.heap.size)
  (h : ∀ v' w',OwnL enc sz w' base e v' (l ++ [y])→Below base w w'→wpList P ops Q rest (a.put o.dst v') w') : wpList P ops Q (o :: rest) a w:=
 zAU hgd s x t ho base hE hsz h0 hone hby v l hs hown b off c y hx hy hlen hbase fun v' w' h1 h2 _=>h v' w' h1 (Below.appended hown h2 (Nat.le_refl _) hbase)
end
section
variable {P : Program} {ops : Array Oper} {Q : Exit→Act→World→Prop}
theorem seq_sound {w0 : World} : ∀ (ord rest : List Nat) (a : Act) (w : World),Below w0.heap.size w0 w→wpD P ops w0 ord a (fun a'=>∀ W,Below w.heap.size w W→wpOps P ops Q rest a' W)→wpOps P ops Q (ord ++ rest) a w
 | [],rest,a,w,_,h=>h w (Below.refl _ _)
 | i :: r,rest,a,w,hb,⟨o,v,h1,h2,h3⟩=>by
  rw [List.cons_append,wpOps_cons];refine h2.wpOp h1 hb fun w' hb'=>?_;exact seq_sound r rest _ w' (hb.trans (hb'.mono hb.size)) (wpD_mono (fun a' h W hW=>h W (hb'.trans (hW.mono hb'.size))) _ _ h3)
theorem wp_region_seq (ord rest : List Nat) {id : Nat} {a : Act} {w : World} (hr : (List.range ops.size == ord ++ rest) = true) (h : wpD P ops w ord a (fun a'=>∀ W,Below w.heap.size w W→wpOps P ops Q rest a' W)) : (Code.region id ops false).wp P Q a w:=by
 refine wp_region ?_;rw [eq_of_beq hr];exact seq_sound ord rest a w (Below.refl _ _) h
theorem rgQ (ord rest : List Nat) {id : Nat} {a : Act} {w : World} (h : wpD P ops w ord a (fun a'=>∀ W,Below w.heap.size w W→wpOps P ops Q rest a' W)) (hr : (List.range ops.size == ord ++ rest) = true:=by kernel_rfl) : (Code.region id ops false).wp P Q a w:=
 wp_region_seq ord rest hr h
theorem wpO_act {i : Nat} {rest : List Nat} {a : Act} {w : World} {dst : Option Tmp} {op : Op} {ty : TypeId} {pos : String} {after : Array Edge} {g : Option (Nat × Bool)} (hi : ops[i]? = some ⟨dst,op,ty,pos,after,g⟩)
  (hw : Region.wanted ⟨dst,op,ty,pos,after,g⟩ (yielded ops a.tmps) = true) (h : Oper.wp P ⟨dst,op,ty,pos,after,g⟩ a w (wpOps P ops Q rest) Q) : wpOps P ops Q (i :: rest) a w:=by
 rw [wpOps_cons];unfold wpOp;simp only [hi,hw,if_true];exact .inl h
theorem zCU {i d : Nat} {rest : List Nat} {a : Act} {w : World} {T : TypeId} {cs : Array Value} {op : Op} {ty : TypeId} {pos : String} {after : Array Edge} (hi : ops[i]? = some ⟨some d,op,ty,pos,after,none⟩)
  (hrun : (execOp a.eval ⟨some d,op,ty,pos,after,none⟩).run P w = .ok (.value (zBh w.heap.size)) (w.alloc (.cells cs T))) (h : wpOps P ops Q rest (a.put (some d) (zBh w.heap.size)) (w.alloc (.cells cs T))) : wpOps P ops Q (i :: rest) a w:=
 wpO_act hi rfl (by unfold Oper.wp;rw [hrun];exact h)
theorem zBN {i : Nat} {rest : List Nat} {a : Act} {w : World} {ty ty0 : TypeId} {x y : Operand} {pos : String} {after : Array Edge} {b off : Nat} {T : TypeId} {cs : Array Value} (hb : zAe w b T cs) (hi : ops[i]? = some ⟨none, .store ty x y,ty0,pos,after,none⟩)
  (hx : a.eval x = .pointer (some ⟨b,off,none⟩)) (v : Value) (hy : a.eval y = v) (hf : (P.info? ty).map (·.size) = some v.cells.size) (hfit : Nat.ble (off + v.cells.size) cs.size = true) (h1 : v.cells.all (·.oneCell') = true)
  (h : ∀ w',zAe w' b T (zAx cs off v.cells.toList)→Turn b w w'→wpOps P ops Q rest a w') : wpOps P ops Q (i :: rest) a w:=
 wpO_act hi rfl (zAr hb ty x y rfl hx v hy hf hfit h1 fun w' h2 h3=>h w' h2 h3)
theorem zBe {a : Act} {w : World} (h : Q .normal a w) : wpOps P ops Q [] a w:=h
theorem zA1 (l : List Nat) {w : World} {rest : List Nat} {a : Act} (h : ∀ u : Nat→Value,wpOps P ops Q rest (zAu u l a) w) : wpOps P ops Q rest a w:=by
 have:=h fun n=>(a.tmps[n]?).getD undef
 rwa [zEF] at this
end
end Go.Proofs.YtbbblemfodpmaaaGreat
end
section
namespace Go.Proofs.YtbbblemfodpmaaaGreat
open Go.RowKit
end Go.Proofs.YtbbblemfodpmaaaGreat
end
section
namespace Go.Proofs.YtbbblemfodpmaaaGreat
open Go.RowKit
section
variable {P : Program} {ops : Array Oper} {Q : Exit→Act→World→Prop}
end
end Go.Proofs.YtbbblemfodpmaaaGreat
end
