/-A statement whose order Go leaves open, of operations that yield one value in every world above the one at hand (loads, sums, calls) and of new boxes, and then a tail: one walk, no order named.-/
import Derived.Test.YtbbblemfodpmaaaGreatOrdA
import Derived.Test.YtbbblemfodpmaaaGreatWebK
import Derived.Test.YtbbblemfodpmaaaGreatWebGj
import Derived.Test.YtbbblemfodpmaaaGreatWebGq
set_option linter.unusedVariables false
set_option linter.unusedSimpArgs false
set_option maxHeartbeats 16000000
set_option maxRecDepth 100000
section
namespace Go.Proofs.YtbbblemfodpmaaaGreat
open Go.RowKit
section
variable {P : Program} {ops : Array Oper} {Q : Exit → Act → World → Prop}
def zDm (P : Program) (ops : Array Oper) (w0 : World) (o : Oper) (v : Value) (a : Act) : Prop :=
 (Region.wanted o (yielded ops a.tmps) = true ∧ ∀ W,Below w0.heap.size w0 W → (execOp a.eval o).run P W = .ok (.value v) W ∨ ∃ f args,(execOp a.eval o).run P W = .ok (.enter f args) W ∧ Calls P f args W fun e w' => e = .returned v ∧ Below W.heap.size W w') ∨
 (Region.wanted o (yielded ops a.tmps) = false ∧ v = undef)
theorem zDm.of_same {w0 : World} {o : Oper} {v : Value} {a a' : Act} (hy : zDm P ops w0 o v a) (he : execOp a'.eval o = execOp a.eval o) (hw : Region.wanted o (yielded ops a'.tmps) = Region.wanted o (yielded ops a.tmps)) : zDm P ops w0 o v a' := by
 unfold zDm at *;rw [he,hw];exact hy
theorem zDm.wpOp {w0 : World} {i : Nat} {o : Oper} {v : Value} {a : Act} (hi : ops[i]? = some o) (hy : zDm P ops w0 o v a) {K : Act → World → Prop} {w : World} (hb : Below w0.heap.size w0 w) (h : ∀ w',Below w.heap.size w w' → K (a.put o.dst v) w') : wpOp P ops Q i K a w := by
 unfold Go.wpOp;simp only [hi]
 rcases hy with ⟨hw,hv⟩ | ⟨hw,rfl⟩
 ·simp only [hw,if_true];refine .inl ?_;unfold Oper.wp
  rcases hv w hb with e | ⟨f,args,e,hc⟩
  ·rw [e];exact h w (Below.refl _ _)
  ·rw [e];refine Calls.mono hc fun e w' he => ?_;obtain ⟨rfl,hb'⟩ := he;exact h w' hb'
 ·simp only [hw,Bool.false_eq_true,if_false];exact h w (Below.refl _ _)
def wpD (P : Program) (ops : Array Oper) (w0 : World) : List Nat → Act → (Act → Prop) → Prop
 | [],a,T => T a
 | i :: r,a,T => ∃ o v,ops[i]? = some o ∧ zDm P ops w0 o v a ∧ wpD P ops w0 r (a.put o.dst v) T
theorem zEY {w0 : World} {T T' : Act → Prop} (h : ∀ a,T a → T' a) : ∀ (ord : List Nat) (a : Act),wpD P ops w0 ord a T → wpD P ops w0 ord a T'
 | [],a,k => h a k
 | _ :: r,_,⟨o,v,h1,h2,h3⟩ => ⟨o,v,h1,h2,zEY h r _ h3⟩
def ed (ops : Array Oper) (j i : Nat) : Bool := match ops[j]? with
 | some o => o.after.any fun e => Region.binds .any e && e.on == i
 | none => false
def ap (ops : Array Oper) (i j : Nat) : Bool := match ops[i]?,ops[j]? with
 | some x,some y => x.apart ops y
 | _,_ => false
theorem ap_spec {i j : Nat} {x y : Oper} (hx : ops[i]? = some x) (hy : ops[j]? = some y) (h : ap ops i j = true) : x.apart ops y = true := by
 unfold ap at h;rw [hx,hy] at h;exact h
theorem pickD {w0 : World} (hs : Region.noSelect ops = true) {T : Act → Prop} {j : Nat} : ∀ (ord : List Nat) (a : Act),j ∈ ord → ord.Pairwise (fun i k => ed ops k i = true ∨ ap ops i k = true) → (∀ i ∈ ord,ed ops j i = false) →
  wpD P ops w0 ord a T → ∃ o v,ops[j]? = some o ∧ zDm P ops w0 o v a ∧ wpD P ops w0 (ord.erase j) (a.put o.dst v) T
 | [],_,h,_,_,_ => by cases h
 | i :: r,a,hj,hp,he,⟨oi,vi,h1,h2,h3⟩ => by
  by_cases hij : i = j
  ·subst hij;rw [List.erase_cons_head];exact ⟨oi,vi,h1,h2,h3⟩
  ·have hjr : j ∈ r := by
    rcases List.mem_cons.1 hj with h | h
    ·exact absurd h.symm hij
    ·exact h
   obtain ⟨hp1,hp2⟩ := List.pairwise_cons.1 hp;obtain ⟨oj,vj,k1,k2,k3⟩ := pickD hs r _ hjr hp2 (fun x hx => he x (List.mem_cons_of_mem _ hx)) h3;have hap : ap ops i j = true := by
    rcases hp1 j hjr with h | h
    ·rw [he i (by simp)] at h;cases h
    ·exact h
   obtain ⟨a1,a2,a3⟩ := Oper.apart_spec (ap_spec h1 k1 hap);have hsel := fun k o cs b h => Region.noSelect_spec hs k o cs b h;rw [List.erase_cons_tail (by simpa using hij)];refine ⟨oj,vj,k1,k2.of_same (execOp_put oj (fun cs b => hsel j oj cs b k1) a oi.dst vi a1).symm (wanted_put oj a oi.dst vi a1).symm,oi,vi,h1,h2.of_same (execOp_put oi (fun cs b => hsel i oi cs b h1) a oj.dst vj a3) (wanted_put oi a oj.dst vj a3), ?_⟩;rw [← Act.put_comm a vi vj a2];exact k3
theorem shiftD {w0 : World} (hs : Region.noSelect ops = true) {T T' : Act → Prop} {k d : Nat} {ok : Oper} (hk : ops[k]? = some ok) (hd : ok.dst = some d) (p : Value) (hT : ∀ b,T b → T' (b.put (some d) p)) : ∀ (ord : List Nat) (a : Act),(∀ i ∈ ord,ap ops i k = true) →
  wpD P ops w0 ord a T → wpD P ops w0 ord (a.put (some d) p) T'
 | [],a,_,h => hT a h
 | i :: r,a,hp,⟨oi,vi,h1,h2,h3⟩ => by
  obtain ⟨a1,a2,a3⟩ := Oper.apart_spec (ap_spec h1 hk (hp i (by simp)));rw [hd] at a2 a3;have hsel := fun k o cs b h => Region.noSelect_spec hs k o cs b h;refine ⟨oi,vi,h1,h2.of_same (execOp_put oi (fun cs b => hsel i oi cs b h1) a (some d) p a3) (wanted_put oi a (some d) p a3), ?_⟩;rw [← Act.put_comm a vi p a2];exact shiftD hs hk hd p hT r _ (fun x hx => hp x (List.mem_cons_of_mem _ hx)) h3
def zCW (ops : Array Oper) : Nat → Nat → Nat → Bool
 | 0,_,_ => false
 | n + 1,t,m => match ops[t]? with
  | some o => o.after.any fun e => Region.binds .any e && (e.on == m || zCW ops n e.on m)
  | none => false
def zDu (ops : Array Oper) (listed : Array Bool) : Prop := ∀ (j : Nat) (o : Oper),ops[j]? = some o → listed.getD j false = true → ∀ e ∈ o.after,Region.binds .any e = true → listed.getD e.on false = true
theorem zCQ {listed : Array Bool} (hc : zDu ops listed) : ∀ (n t m : Nat) (o : Oper),ops[t]? = some o → (∀ e ∈ o.after,Region.binds .any e = true → listed.getD e.on false = true) → zCW ops n t m = true → listed.getD m false = true
 | 0,_,_,_,_,_,h => by cases h
 | n + 1,t,m,o,ho,hl,h => by
  unfold zCW at h;rw [ho] at h;obtain ⟨e,he,hb⟩ := Array.any_eq_true'.1 h;simp only [Bool.and_eq_true,Bool.or_eq_true,beq_iff_eq] at hb;obtain ⟨hb,h1⟩ := hb
  rcases h1 with h1 | h1
  ·rw [← h1];exact hl e he hb
  ·cases hoe : ops[e.on]? with
   | none => cases n <;> simp [zCW,hoe] at h1
   | some o' => exact zCQ hc n e.on m o' hoe (hc e.on o' hoe (hl e he hb)) h1
def zDv (ops : Array Oper) (i : Nat) : Bool := match ops[i]? with
 | some o => o.after.all fun e => !Region.binds .any e || decide (e.on < ops.size)
 | none => false
def okP (ops : Array Oper) : List Nat → Bool
 | [] => true
 | i :: r => !ed ops i i && r.all (fun j => !ed ops i j && (ed ops j i || ap ops i j)) && okP ops r
def zC5 (ops : Array Oper) (rest : List (Nat × Bool)) : Array Bool := ((List.range ops.size).map fun j => !(rest.map (·.1)).contains j).toArray
def okD (ops : Array Oper) (ord : List Nat) (is : List (Nat × Nat)) (rest : List (Nat × Bool)) : Bool :=
 decide (ord ++ is.map (·.1) ++ rest.map (·.1)).Nodup && (List.range ops.size).all (fun j => (ord ++ is.map (·.1) ++ rest.map (·.1)).contains j) && (ord ++ is.map (·.1) ++ rest.map (·.1)).all (fun j => decide (j < ops.size)) && okP ops ord &&
 ord.all (fun i => is.all fun k => !ed ops i k.1 && (ed ops k.1 i || ap ops i k.1)) && is.all (fun k => (ops[k.1]?.bind (·.dst)) == some k.2 && is.all fun k' => !ed ops k.1 k'.1) && decide (is.map (·.2)).Nodup &&
 (ord ++ is.map (·.1)).all (fun i => zDv ops i && rest.all fun t => !ed ops i t.1 && zCW ops ops.size t.1 i) && zB0 ops rest (zC5 ops rest)
structure StD (ops : Array Oper) (ord : List Nat) (is : List (Nat × Nat)) (rest : List (Nat × Bool)) : Prop where
 nd : (ord ++ is.map (·.1) ++ rest.map (·.1)).Nodup
 lt : ∀ j ∈ ord ++ is.map (·.1) ++ rest.map (·.1),j < ops.size
 pw : ord.Pairwise fun i k => ed ops k i = true ∨ ap ops i k = true
 fw : ord.Pairwise fun i k => ed ops i k = false
 self : ∀ i ∈ ord,ed ops i i = false
 da : ∀ i ∈ ord,∀ k ∈ is,ed ops i k.1 = false ∧ (ed ops k.1 i = true ∨ ap ops i k.1 = true)
 dst : ∀ k ∈ is,∃ o,ops[k.1]? = some o ∧ o.dst = some k.2
 aa : ∀ k ∈ is,∀ k' ∈ is,ed ops k.1 k'.1 = false
 nd2 : (is.map (·.2)).Nodup
 tl : ∀ i ∈ ord ++ is.map (·.1),zDv ops i = true ∧ ∀ t ∈ rest,ed ops i t.1 = false ∧ zCW ops ops.size t.1 i = true
theorem okP_spec : ∀ {ord : List Nat},okP ops ord = true → ord.Pairwise (fun i k => ed ops k i = true ∨ ap ops i k = true) ∧ ord.Pairwise (fun i k => ed ops i k = false) ∧ ∀ i ∈ ord,ed ops i i = false
 | [],_ => ⟨.nil, .nil,by simp⟩
 | i :: r,h => by
  unfold okP at h;simp only [Bool.and_eq_true,Bool.not_eq_true',List.all_eq_true,Bool.or_eq_true] at h;obtain ⟨⟨h1,h2⟩,h3⟩ := h;obtain ⟨k1,k2,k3⟩ := okP_spec h3;refine ⟨List.pairwise_cons.2 ⟨fun j hj => (h2 j hj).2,k1⟩,List.pairwise_cons.2 ⟨fun j hj => (h2 j hj).1,k2⟩,fun x hx => ?_⟩
  rcases List.mem_cons.1 hx with rfl | hx
  ·exact h1
  ·exact k3 x hx
theorem okD_spec {ord : List Nat} {is : List (Nat × Nat)} {rest : List (Nat × Bool)} (h : okD ops ord is rest = true) : StD ops ord is rest ∧ (∀ j,j < ops.size → j ∈ ord ++ is.map (·.1) ++ rest.map (·.1)) ∧ zB0 ops rest (zC5 ops rest) = true := by
 unfold okD at h;simp only [Bool.and_eq_true,decide_eq_true_eq] at h;obtain ⟨⟨⟨⟨⟨⟨⟨⟨h1,h2⟩,h3⟩,h4⟩,h5⟩,h6⟩,h7⟩,h8⟩,h9⟩ := h;obtain ⟨p1,p2,p3⟩ := okP_spec h4;refine ⟨⟨h1,fun j hj => by simpa using List.all_eq_true.1 h3 j hj,p1,p2,p3,fun i hi k hk => ?_,fun k hk => ?_,fun k hk k' hk' => ?_,h7,fun i hi => ?_⟩,fun j hj => by simpa using List.all_eq_true.1 h2 j (List.mem_range.2 hj),h9⟩
 ·have := List.all_eq_true.1 (List.all_eq_true.1 h5 i hi) k hk;simpa using this
 ·have := List.all_eq_true.1 h6 k hk;simp only [Bool.and_eq_true,beq_iff_eq] at this;exact Option.bind_eq_some_iff.1 this.1
 ·have := List.all_eq_true.1 h6 k hk;simp only [Bool.and_eq_true,List.all_eq_true,Bool.not_eq_true'] at this;exact this.2 k' hk'
 ·have := List.all_eq_true.1 h8 i hi;simp only [Bool.and_eq_true,List.all_eq_true,Bool.not_eq_true'] at this;exact this
theorem StD.sub {ord ord' : List Nat} {is is' : List (Nat × Nat)} {rest : List (Nat × Bool)} (h : StD ops ord is rest) (h1 : ord'.Sublist ord) (h2 : is'.Sublist is) : StD ops ord' is' rest := by
 have h3 : (ord' ++ is'.map (·.1)).Sublist (ord ++ is.map (·.1)) := h1.append (h2.map _);have h4 := h3.append (List.Sublist.refl (rest.map (·.1)));exact ⟨h4.nodup h.nd,fun j hj => h.lt j (h4.subset hj),h.pw.sublist h1,h.fw.sublist h1,fun i hi => h.self i (h1.subset hi),fun i hi k hk => h.da i (h1.subset hi) k (h2.subset hk),fun k hk => h.dst k (h2.subset hk),
  fun k hk k' hk' => h.aa k (h2.subset hk) k' (h2.subset hk'),(h2.map _).nodup h.nd2,fun i hi => h.tl i (h3.subset hi)⟩
theorem ed_true {i j : Nat} {o : Oper} (ho : ops[i]? = some o) {e : Edge} (he : e ∈ o.after) (hb : Region.binds .any e = true) (hj : e.on = j) : ed ops i j = true := by
 unfold ed;rw [ho];exact Array.any_eq_true'.2 ⟨e,he,by simp [hb,hj]⟩
theorem zDw {l : Array Bool} {j : Nat} (hj : j < l.size) : l.getD j true = l.getD j false := by simp [hj]
def LeftL (ops : Array Oper) (left : List Nat) (listed : Array Bool) : Prop := listed.size = ops.size ∧ ∀ j,j < ops.size → (listed.getD j true = false ↔ j ∈ left)
theorem LeftL.set {left : List Nat} {listed : Array Bool} (h : LeftL ops left listed) (hn : left.Nodup) {i : Nat} : LeftL ops (left.erase i) (listed.setIfInBounds i true) := by
 refine ⟨by simpa using h.1,fun j hj => ?_⟩
 by_cases hij : i = j
 ·subst hij;simp only [Array.getD_eq_getD_getElem?,h.1,hj,Array.getElem?_setIfInBounds_self_of_lt,Option.getD_some,Bool.true_eq_false,false_iff];exact hn.not_mem_erase
 ·rw [getD_set_ne true hij,h.2 j hj,List.mem_erase_of_ne (Ne.symm hij)]
theorem LeftL.ready {left : List Nat} {listed : Array Bool} (h : LeftL ops left listed) {i : Nat} (hi : i ∈ left) (hlt : i < ops.size) (hin : zDv ops i = true) (hno : ∀ j ∈ left,ed ops i j = false) : i ∈ Region.ready .any ops listed := by
 refine mem_ready.2 ⟨(h.2 i hlt).2 hi, ?_⟩;unfold zDv at hin
 cases ho : ops[i]? with
 | none => rw [ho] at hin;cases hin
 | some o =>
  rw [ho] at hin;refine ⟨o,rfl,fun e he hb => ?_⟩;have := Array.all_eq_true_iff_forall_mem.1 hin e he;simp only [hb,Bool.not_true,Bool.false_or,decide_eq_true_eq] at this
  cases hl : listed.getD e.on false with
  | true => rfl
  | false =>
   rw [← zDw (by rw [h.1];exact this)] at hl;have h1 := hno e.on ((h.2 e.on this).1 hl);rw [ed_true ho he hb rfl] at h1;cases h1
theorem zDu.set {listed : Array Bool} (hc : zDu ops listed) {i : Nat} (hr : i ∈ Region.ready .any ops listed) : zDu ops (listed.setIfInBounds i true) := fun j o ho hl e he hb => by
 obtain ⟨_,oi,hoi,hall⟩ := mem_ready.1 hr
 by_cases hij : i = j
 ·subst hij;rw [hoi] at ho;cases ho;exact getD_set_true (hall e he hb)
 ·rw [getD_set_ne false hij] at hl;exact getD_set_true (hc j o ho hl e he hb)
def endD (P : Program) (ops : Array Oper) (Q : Exit → Act → World → Prop) (c : Nat → TypeId × Array Value) (is : List (Nat × Nat)) (rest : List (Nat × Bool)) (w : World) (a : Act) : Prop :=
 ∀ (f : Nat → Nat) (W : World),Below w.heap.size w W → (∀ k ∈ is,w.heap.size ≤ f k.1 ∧ zAd W (f k.1) (c k.1).1 (c k.1).2) → (∀ k ∈ is,∀ j ∈ is,f k.1 = f j.1 → k.1 = j.1) → wpS P ops Q (fun _ => True) rest (zBM f is a) W
theorem zEo {c : Nat → TypeId × Array Value} {w0 : World} {rest : List (Nat × Bool)} (hs : Region.noSelect ops = true) (hQ : ∀ d c (a : Act) v w,Q (.panic c) (a.put d v) w → Q (.panic c) a w) (hR : zB0 ops rest (zC5 ops rest) = true) :
  ∀ (n : Nat) (ord : List Nat) (is : List (Nat × Nat)) (fuel : Nat) (listed : Array Bool) (a : Act) (w : World),ord.length + is.length = n → n + rest.length ≤ fuel → StD ops ord is rest → LeftL ops (ord ++ is.map (·.1) ++ rest.map (·.1)) listed → zDu ops listed →
  Below w0.heap.size w0 w → (∀ k ∈ is,∀ (K : Act → World → Prop) a w,K (a.put (some k.2) (zBL w.heap.size)) (w.alloc (.cells (c k.1).2 (c k.1).1)) → wpOp P ops Q k.1 K a w) →
  wpD P ops w0 ord a (endD P ops Q c is rest w) → wpAnyH P .any ops Q (fun _ => True) fuel listed a w
 | 0,ord,is,fuel,listed,a,w,hn,hf,hst,hl,hc,hb,hop,h => by
  obtain rfl : ord = [] := List.length_eq_zero_iff.1 (by omega);obtain rfl : is = [] := List.length_eq_zero_iff.1 (by omega);have he : listed = zC5 ops rest := by
   apply Array.ext
   ·rw [hl.1];simp [zC5]
   ·intro j h1 h2;have hj : j < ops.size := by rw [← hl.1];exact h1
    have h3 := hl.2 j hj;simp only [Array.getD_eq_getD_getElem?,h1,Array.getElem?_eq_getElem,Option.getD_some,List.nil_append,List.map_nil] at h3;simp only [zC5,List.getElem_toArray,List.getElem_map,List.getElem_range]
    cases hx : listed[j]
    ·have := h3.1 hx;simp only [Bool.false_eq,Bool.not_eq_false',List.contains_iff_mem,this]
    ·have : ¬ j ∈ rest.map (·.1) := fun hm => by have := h3.2 hm;rw [hx] at this;cases this
     simp only [Bool.true_eq,Bool.not_eq_true',Bool.eq_false_iff,ne_eq,List.contains_iff_mem,this,not_false_eq_true]
  exact zC9 hs hQ rest fuel listed a w (by rw [he];exact hR) (by omega) trivial (h id w (Below.refl _ _) (by simp) (by simp))
 | n + 1,ord,is,0,listed,a,w,hn,hf,hst,hl,hc,hb,hop,h => by omega
 | n + 1,ord,is,fuel + 1,listed,a,w,hn,hf,hst,hl,hc,hb,hop,h => by
  have hrm : ∀ j ∈ Region.ready .any ops listed,∀ i ∈ ord ++ is.map (·.1) ++ rest.map (·.1),ed ops j i = false := fun j hj i hi => by
   cases he : ed ops j i with
   | false => rfl
   | true =>
    obtain ⟨_,o,ho,hall⟩ := mem_ready.1 hj;unfold ed at he;rw [ho] at he;obtain ⟨e,hem,hb'⟩ := Array.any_eq_true'.1 he;simp only [Bool.and_eq_true,beq_iff_eq] at hb';have h1 := hall e hem hb'.1;have hlt := hst.lt i hi;have h2 := (hl.2 i hlt).2 hi;rw [hb'.2,← zDw (by rw [hl.1];exact hlt),h2] at h1
    cases h1
  have hleft : ∀ j ∈ Region.ready .any ops listed,j ∈ ord ∨ j ∈ is.map (·.1) := fun j hj => by
   obtain ⟨h0,o,ho,hall⟩ := mem_ready.1 hj;have hlt := (Array.getElem?_eq_some_iff.1 ho).1;have hm := (hl.2 j hlt).1 h0
   rcases List.mem_append.1 hm with hm | hm
   ·exact List.mem_append.1 hm
   ·obtain ⟨t,ht,rfl⟩ := List.mem_map.1 hm;exfalso;obtain ⟨m,hm⟩ : ∃ m,m ∈ ord ++ is.map (·.1) := by
     cases ord with
     | cons x _ => exact ⟨x,by simp⟩
     | nil => cases is with
      | cons y _ => exact ⟨y.1,by simp⟩
      | nil => simp at hn
    have h1 := zCQ hc _ _ _ o ho hall ((hst.tl m hm).2 t ht).2;have h2 := List.mem_append.2 (.inl hm : _ ∨ m ∈ rest.map (·.1));have h3 := hst.lt m h2;rw [← zDw (by rw [hl.1];exact h3),(hl.2 m h3).2 h2] at h1
    cases h1
  have hne : Region.ready .any ops listed ≠ [] := by
   cases ord with
   | cons x r =>
    have hx : x ∈ x :: r ++ is.map (·.1) ++ rest.map (·.1) := by simp
    refine List.ne_nil_of_mem (hl.ready hx (hst.lt x hx) (hst.tl x (by simp)).1 fun j hj => ?_)
    rcases List.mem_append.1 hj with hj | hj
    ·rcases List.mem_append.1 hj with hj | hj
     ·rcases List.mem_cons.1 hj with rfl | hj
      ·exact hst.self j (by simp)
      ·exact (List.pairwise_cons.1 hst.fw).1 j hj
     ·obtain ⟨k,hk,rfl⟩ := List.mem_map.1 hj;exact (hst.da x (by simp) k hk).1
    ·obtain ⟨t,ht,rfl⟩ := List.mem_map.1 hj;exact ((hst.tl x (by simp)).2 t ht).1
   | nil => cases is with
    | nil => simp at hn
    | cons y r =>
     have hx : y.1 ∈ [] ++ (y :: r).map (·.1) ++ rest.map (·.1) := by simp
     refine List.ne_nil_of_mem (hl.ready hx (hst.lt _ hx) (hst.tl y.1 (by simp)).1 fun j hj => ?_)
     rcases List.mem_append.1 hj with hj | hj
     ·rw [List.nil_append] at hj;obtain ⟨k,hk,rfl⟩ := List.mem_map.1 hj;exact hst.aa y (by simp) k hk
     ·obtain ⟨t,ht,rfl⟩ := List.mem_map.1 hj;exact ((hst.tl y.1 (by simp)).2 t ht).1
  refine ⟨fun h0 => absurd h0 hne,fun j hj => ?_⟩
  by_cases hjo : j ∈ ord
  ·obtain ⟨o,v,k1,k2,k3⟩ := pickD hs ord a hjo hst.pw (fun i hi => hrm j hj i (by simp [hi])) h;refine k2.wpOp k1 hb fun w' hb' => ⟨trivial, ?_⟩
   have hb1 : Below w0.heap.size w0 w' := hb.trans (hb'.mono hb.size);refine zEo hs hQ hR n (ord.erase j) is fuel _ _ w' (by have := List.length_erase_of_mem hjo;have := List.length_pos_of_mem hjo;omega) (by omega) (hst.sub List.erase_sublist (List.Sublist.refl _)) ?_ (hc.set hj) hb1 hop (zEY (fun b hT f W hW hk hi => hT f W (hb'.trans (hW.mono hb'.size)) (fun k hk' => ⟨Nat.le_trans hb'.size (hk k hk').1,(hk k hk').2⟩) hi) _ _ k3);have := hl.set hst.nd (i := j);rw [List.append_assoc,List.erase_append_left _ hjo,← List.append_assoc] at this;exact this
  ·obtain ⟨k,hk,rfl⟩ := List.mem_map.1 ((hleft j hj).resolve_left hjo);refine hop k hk _ a w ⟨trivial, ?_⟩;have hnd1 : (is.map (·.1)).Nodup := (List.nodup_append.1 (List.nodup_append.1 hst.nd).1).2.1;have hnd : is.Nodup := zCO hnd1;have hsub := List.erase_sublist (a := k) (l := is);have hmem : ∀ j ∈ is.erase k,j ∈ is := fun j hj => hsub.subset hj;have hkn : ∀ j ∈ is.erase k,j.1 ≠ k.1 := fun j hj e => by
    have hjk : j ≠ k := fun e2 => by rw [e2] at hj;exact absurd hj (hnd.not_mem_erase)
    exact hjk (zCs hnd1 (hmem j hj) hk e)
   have hbw : Below w.heap.size w (w.alloc (.cells (c k.1).2 (c k.1).1)) := (Below.refl _ _).alloc (Nat.le_refl _) _;have hsz : (w.alloc (.cells (c k.1).2 (c k.1).1)).heap.size = w.heap.size + 1 := by simp
   obtain ⟨ok,hok,hdst⟩ := hst.dst k hk;refine zEo hs hQ hR n ord (is.erase k) fuel _ _ (w.alloc (.cells (c k.1).2 (c k.1).1)) (by have := List.length_erase_of_mem hk;have := List.length_pos_of_mem hk;omega) (by omega) (hst.sub (List.Sublist.refl _) hsub) ?_ (hc.set hj) (hb.trans (hbw.mono hb.size)) (fun j hj => hop j (hmem j hj))
    (shiftD hs hok hdst (zBL w.heap.size) (fun b hT f W hW hf hi => ?_) ord a (fun i hi => ?_) h)
   ·have := hl.set hst.nd (i := k.1);rw [List.append_assoc,List.erase_append_right _ hjo,List.erase_append_left _ (List.mem_map.2 ⟨k,hk,rfl⟩),← List.append_assoc] at this;have e : (is.map (·.1)).erase k.1 = (is.erase k).map (·.1) := by
     clear this hop h hst hl hleft hne hrm hf hn
     induction is with
     | nil => rfl
     | cons y r ih =>
      by_cases hy : y = k
      ·subst hy;simp
      ·have hkr : k ∈ r := by
        rcases List.mem_cons.1 hk with h | h
        ·exact absurd h.symm hy
        ·exact h
       have hyk : y.1 ≠ k.1 := fun e2 => (List.nodup_cons.1 hnd1).1 (List.mem_map.2 ⟨k,hkr,e2.symm⟩);rw [List.erase_cons_tail (by simpa using hy),List.map_cons,List.map_cons,List.erase_cons_tail (by simpa using hyk)];have hnd1' := (List.nodup_cons.1 hnd1).2;rw [ih hkr hnd1' (zCO hnd1') List.erase_sublist (fun j hj => List.mem_of_mem_erase hj) (fun j hj e3 => ?_)];have hjk : j ≠ k := fun e4 => by rw [e4] at hj;exact absurd hj ((zCO hnd1').not_mem_erase)
       exact hjk (zCs hnd1' (List.mem_of_mem_erase hj) hkr e3)
    rw [e] at this;exact this
   ·rw [hsz] at hW hf;have hbk : zAd W w.heap.size (c k.1).1 (c k.1).2 := (zAd.new w (c k.1).1 (c k.1).2).of_block (hW.block _ (by omega));have e : ∀ j ∈ is.erase k,(fun i => if i = k.1 then w.heap.size else f i) j.1 = f j.1 := fun j hj => if_neg (hkn j hj);have h := hT (fun i => if i = k.1 then w.heap.size else f i) W (hbw.trans (hW.mono (by omega))) (fun j hj => ?_) (fun j hj j' hj' => ?_)
    ·rw [zDT is b hk hst.nd2,zDy _ _ e,if_pos rfl] at h;exact h
    ·by_cases hjk : j.1 = k.1
     ·obtain rfl := zCs hnd1 hj hk hjk;simp only [if_true];exact ⟨Nat.le_refl _,hbk⟩
     ·have hje : j ∈ is.erase k := (List.mem_erase_of_ne (fun e => hjk (by rw [e]))).2 hj;have := hf j hje;simp only [hjk,if_false];exact ⟨by omega,this.2⟩
    ·intro he
     by_cases hjk : j.1 = k.1 <;> by_cases hjk' : j'.1 = k.1
     ·rw [hjk,hjk']
     ·have := hf j' ((List.mem_erase_of_ne (fun e => hjk' (by rw [e]))).2 hj');simp only [hjk,hjk',if_true,if_false] at he;omega
     ·have := hf j ((List.mem_erase_of_ne (fun e => hjk (by rw [e]))).2 hj);simp only [hjk,hjk',if_true,if_false] at he;omega
     ·simp only [hjk,hjk',if_false] at he;exact hi j ((List.mem_erase_of_ne (fun e => hjk (by rw [e]))).2 hj) j' ((List.mem_erase_of_ne (fun e => hjk' (by rw [e]))).2 hj') he
   ·rcases (hst.da i hi k hk).2 with h1 | h1
    ·rw [hrm k.1 hj i (by simp [hi])] at h1;cases h1
    ·exact h1
theorem zE8 (ord : List Nat) (is : List (Nat × Nat)) (c : Nat → TypeId × Array Value) (rest : List (Nat × Bool)) {id : Nat} {a : Act} {w : World} (hm : P.follows .mixedOrders = true)
  (hok : (Region.noSelect ops && decide (ord.length + is.length + rest.length ≤ ops.size) && okD ops ord is rest) = true) (hQ : ∀ d c (a : Act) v w,Q (.panic c) (a.put d v) w → Q (.panic c) a w)
  (hop : ∀ k ∈ is,∀ (K : Act → World → Prop) a w,K (a.put (some k.2) (zBL w.heap.size)) (w.alloc (.cells (c k.1).2 (c k.1).1)) → wpOp P ops Q k.1 K a w)
  (h : wpD P ops w.drew ord a (endD P ops Q c is rest w.drew)) : (Code.region id ops true).wp P Q a w := by
 simp only [Bool.and_eq_true,decide_eq_true_eq] at hok;obtain ⟨⟨hs,hl⟩,hok⟩ := hok;obtain ⟨h1,h2,h3⟩ := okD_spec hok;refine wp_region_held (S := fun _ => True) hm (zEo hs hQ h3 _ ord is ops.size _ a w.drew rfl hl h1 ⟨by simp,fun j hj => ?_⟩ (fun j o ho hj => ?_) (Below.refl _ _) hop h)
 ·simp only [Array.getD_eq_getD_getElem?,Array.getElem?_replicate,hj,if_true,Option.getD_some,true_iff];exact h2 j hj
 ·have hlt := (Array.getElem?_eq_some_iff.1 ho).1;simp [hlt] at hj
theorem rgD (ord : List Nat) (is : List (Nat × Nat)) (c : Nat → TypeId × Array Value) (rest : List (Nat × Bool)) {id : Nat} {a : Act} {w : World} (h : wpD P ops w.drew ord a (endD P ops Q c is rest w.drew)) (hm : P.follows .mixedOrders = true := by rfl) (hok : (Region.noSelect ops && decide (ord.length + is.length + rest.length ≤ ops.size) && okD ops ord is rest) = true := by kernel_rfl) (hQ : ∀ d c (a : Act) v w,Q (.panic c) (a.put d v) w → Q (.panic c) a w := by intro d c a v w h;cases d <;> exact h) (hop : ∀ k ∈ is,∀ (K : Act → World → Prop) a w,K (a.put (some k.2) (zBL w.heap.size)) (w.alloc (.cells (c k.1).2 (c k.1).1)) → wpOp P ops Q k.1 K a w := by simp) : (Code.region id ops true).wp P Q a w :=
 zE8 ord is c rest hm hok hQ hop h
def fwdOK (ops : Array Oper) : Bool := (List.range ops.size).all fun i => match ops[i]? with
 | some o => o.after.all fun e => !Region.binds .any e || decide (e.on < i)
 | none => true
theorem zF9 (hf : fwdOK ops = true) : ∀ (n k : Nat) (listed : Array Bool) (a : Act) (w : World),k + n = ops.size → listed.size = ops.size → (∀ j,j < ops.size → (listed.getD j true = false ↔ k ≤ j)) → wpAny P .any ops Q n listed a w → wpOps P ops Q (List.range' k n) a w
 | 0,k,listed,a,w,_,_,_,h => h.2
 | n + 1,k,listed,a,w,hk,hsz,hl,h => by
  have hkl : k < ops.size := by omega
  rw [List.range'_succ,wpOps_cons];have hr : k ∈ Region.ready .any ops listed := by
   refine mem_ready.2 ⟨(hl k hkl).2 (Nat.le_refl _),ops[k],by simp [hkl],fun e he hb => ?_⟩;have h1 := List.all_eq_true.1 hf k (List.mem_range.2 hkl);simp only [hkl,Array.getElem?_eq_getElem] at h1;have h2 := Array.all_eq_true_iff_forall_mem.1 h1 e he;simp only [hb,Bool.not_true,Bool.false_or,decide_eq_true_eq] at h2
   cases hx : listed.getD e.on false with
   | true => rfl
   | false =>
    rw [← zDw (by omega)] at hx;have := (hl e.on (by omega)).1 hx;omega
  refine wpOp_mono (fun a' w' h' => zF9 hf n (k + 1) _ a' w' (by omega) (by simpa using hsz) (fun j hj => ?_) h') (h.2 k hr)
  by_cases hkj : k = j
  ·subst hkj;simp only [Array.getD_eq_getD_getElem?,hsz,hj,Array.getElem?_setIfInBounds_self_of_lt,Option.getD_some,Bool.true_eq_false,false_iff];omega
  ·rw [getD_set_ne true hkj,hl j hj];omega
theorem wp_region_row (ord : List Nat) (is : List (Nat × Nat)) (c : Nat → TypeId × Array Value) (rest : List (Nat × Bool)) {id : Nat} {a : Act} {w : World}
  (hok : (fwdOK ops && (Region.noSelect ops && decide (ord.length + is.length + rest.length ≤ ops.size) && okD ops ord is rest)) = true) (hQ : ∀ d c (a : Act) v w,Q (.panic c) (a.put d v) w → Q (.panic c) a w)
  (hop : ∀ k ∈ is,∀ (K : Act → World → Prop) a w,K (a.put (some k.2) (zBL w.heap.size)) (w.alloc (.cells (c k.1).2 (c k.1).1)) → wpOp P ops Q k.1 K a w)
  (h : wpD P ops w ord a (endD P ops Q c is rest w)) : (Code.region id ops false).wp P Q a w := by
 simp only [Bool.and_eq_true,decide_eq_true_eq] at hok;obtain ⟨hf,⟨⟨hs,hl⟩,hok⟩⟩ := hok;obtain ⟨h1,h2,h3⟩ := okD_spec hok;refine wp_region ?_;rw [List.range_eq_range'];refine zF9 hf ops.size 0 (Array.replicate ops.size false) a w (by omega) (by simp) (fun j hj => ?_) (wpAny_of_held (S := fun _ => True) _ _ _ _ (zEo hs hQ h3 _ ord is ops.size _ a w rfl hl h1 ⟨by simp,fun j hj => ?_⟩ (fun j o ho hj => ?_) (Below.refl _ _) hop h))
 ·simp [hj]
 ·simp only [Array.getD_eq_getD_getElem?,Array.getElem?_replicate,hj,if_true,Option.getD_some,true_iff];exact h2 j hj
 ·have hlt := (Array.getElem?_eq_some_iff.1 ho).1;simp [hlt] at hj
theorem rgR (ord : List Nat) (is : List (Nat × Nat)) (c : Nat → TypeId × Array Value) (rest : List (Nat × Bool)) {id : Nat} {a : Act} {w : World} (h : wpD P ops w ord a (endD P ops Q c is rest w)) (hok : (fwdOK ops && (Region.noSelect ops && decide (ord.length + is.length + rest.length ≤ ops.size) && okD ops ord is rest)) = true := by kernel_rfl) (hQ : ∀ d c (a : Act) v w,Q (.panic c) (a.put d v) w → Q (.panic c) a w := by intro d c a v w h;cases d <;> exact h) (hop : ∀ k ∈ is,∀ (K : Act → World → Prop) a w,K (a.put (some k.2) (zBL w.heap.size)) (w.alloc (.cells (c k.1).2 (c k.1).1)) → wpOp P ops Q k.1 K a w := by simp) : (Code.region id ops false).wp P Q a w :=
 wp_region_row ord is c rest hok hQ hop h
theorem zA8 {w0 : World} {T : Act → Prop} {i : Nat} {rest : List Nat} {a : Act} {dst : Option Tmp} {op : Op} {ty : TypeId} {pos : String} {after : Array Edge} {g : Option (Nat × Bool)} {v : Value} (hi : ops[i]? = some ⟨dst,op,ty,pos,after,g⟩)
  (hw : Region.wanted ⟨dst,op,ty,pos,after,g⟩ (yielded ops a.tmps) = true) (hrun : ∀ W,Below w0.heap.size w0 W → (execOp a.eval ⟨dst,op,ty,pos,after,g⟩).run P W = .ok (.value v) W) (h : wpD P ops w0 rest (a.put dst v) T) : wpD P ops w0 (i :: rest) a T :=
 ⟨_,v,hi, .inl ⟨hw,fun W hW => .inl (hrun W hW)⟩,h⟩
theorem wD {w0 : World} {T : Act → Prop} {i : Nat} {rest : List Nat} {a : Act} {dst : Option Tmp} {op : Op} {ty : TypeId} {pos : String} {after : Array Edge} {g : Option (Nat × Bool)} {v : Value} (hi : ops[i]? = some ⟨dst,op,ty,pos,after,g⟩) (h : wpD P ops w0 rest (a.put dst v) T) (hw : Region.wanted ⟨dst,op,ty,pos,after,g⟩ (yielded ops a.tmps) = true := by exact rfl) (hrun : ∀ W,Below w0.heap.size w0 W → (execOp a.eval ⟨dst,op,ty,pos,after,g⟩).run P W = .ok (.value v) W := by intro W hW;go_simp;with_reducible rfl) : wpD P ops w0 (i :: rest) a T :=
 zA8 hi hw hrun h
theorem zEc {w0 : World} {T : Act → Prop} {i : Nat} {rest : List Nat} {a : Act} {dst : Option Tmp} {op : Op} {ty : TypeId} {pos : String} {after : Array Edge} {g : Option (Nat × Bool)} (f : FuncId) (args : Array Value) (v : Value) (hi : ops[i]? = some ⟨dst,op,ty,pos,after,g⟩)
  (hw : Region.wanted ⟨dst,op,ty,pos,after,g⟩ (yielded ops a.tmps) = true) (hrun : ∀ W : World,(execOp a.eval ⟨dst,op,ty,pos,after,g⟩).run P W = .ok (.enter f args) W)
  (hc : ∀ W,Below w0.heap.size w0 W → Calls P f args W fun e w' => e = .returned v ∧ Below W.heap.size W w') (h : wpD P ops w0 rest (a.put dst v) T) : wpD P ops w0 (i :: rest) a T :=
 ⟨_,v,hi, .inl ⟨hw,fun W hW => .inr ⟨f,args,hrun W,hc W hW⟩⟩,h⟩
def ifB (c : Bool) (v : Value) : Value := if c then v else undef
@[go_sem] theorem ifB_true (v : Value) : ifB true v = v := rfl
@[go_sem] theorem ifB_false (v : Value) : ifB false v = undef := rfl
@[go_sem] theorem bool_and {p : Prop} [Decidable p] {c : Bool} : (if p then Value.bool c else Value.bool false) = .bool (decide p && c) := by by_cases h : p <;> simp [h]
@[go_sem] theorem bool_or {p : Prop} [Decidable p] {c : Bool} : (if p then Value.bool true else Value.bool c) = .bool (decide p || c) := by by_cases h : p <;> simp [h]
@[go_sem] theorem ifB_dec {p : Prop} [Decidable p] {u v : Value} : (if p then ifB (decide p) v else u) = if p then v else u := by by_cases h : p <;> simp [h,ifB]
@[go_sem] theorem ifB_decn {p : Prop} [Decidable p] {u v : Value} : (if p then u else ifB (!decide p) v) = if p then u else v := by by_cases h : p <;> simp [h,ifB]
@[go_sem] theorem ifB_t {b : Bool} {u v : Value} : (if b = true then ifB b v else u) = if b = true then v else u := by cases b <;> rfl
@[go_sem] theorem ifB_n {b : Bool} {u v : Value} : (if b = true then u else ifB (!b) v) = if b = true then u else v := by cases b <;> rfl
@[go_sem] theorem ifB_f {b : Bool} {u v : Value} : (if b = false then u else ifB b v) = if b = false then u else v := by cases b <;> rfl
@[go_sem] theorem ifB_fn {b : Bool} {u v : Value} : (if b = false then ifB (!b) v else u) = if b = false then v else u := by cases b <;> rfl
@[go_sem] theorem ifB_beq {α : Type} [BEq α] [LawfulBEq α] {x y : α} [Decidable (x = y)] {u v : Value} : (if x = y then ifB (x == y) v else u) = if x = y then v else u := by by_cases h : x = y <;> simp [h,ifB]
@[go_sem] theorem ifB_beqn {α : Type} [BEq α] [LawfulBEq α] {x y : α} [Decidable (x = y)] {u v : Value} : (if x = y then u else ifB (!(x == y)) v) = if x = y then u else v := by
 by_cases h : x = y
 ·simp [h]
 ·have : (x == y) = false := by simpa using h
  simp [h,this,ifB]
section
variable {w0 : World} {T : Act → Prop} {i : Nat} {rest : List Nat} {a : Act} {dst : Option Tmp} {op : Op} {ty : TypeId} {pos : String} {after : Array Edge} {gi : Nat} {want q c : Bool} {v : Value}
end
section
variable {w0 : World} {T : Act → Prop} {i : Nat} {rest : List Nat} {a : Act} {dst : Option Tmp} {ty : TypeId} {pos : String} {after : Array Edge} {gg : Nat × Bool} {b c g : Bool} {x y : Operand}
end
def zCf (u : Nat → Value) : List Nat → Act → Act
 | [],a => a
 | n :: l,a => zCf u l (a.put (some n) (u n))
theorem zEx : ∀ (l : List Nat) (a : Act),zCf (fun n => (a.tmps[n]?).getD undef) l a = a
 | [],_ => rfl
 | n :: l,a => by
  have e : a.put (some n) ((a.tmps[n]?).getD undef) = a := by
   obtain ⟨t,d⟩ := a;simp only [Act.put]
   congr 1
   apply Array.ext
   ·simp
   ·intro i h1 h2
    by_cases hn : n = i
    ·subst hn;have : n < t.size := h2;simp [this]
    ·exact Array.getElem_setIfInBounds_ne h2 hn
  show zCf _ l (a.put (some n) ((a.tmps[n]?).getD undef)) = a
  rw [e];exact zEx l a
theorem zCg (l : List Nat) {S : World → Prop} {w : World} {rest : List (Nat × Bool)} {a : Act} (h : ∀ u : Nat → Value,wpS P ops Q S rest (zCf u l a) w) : wpS P ops Q S rest a w := by
 have := h fun n => (a.tmps[n]?).getD undef
 rwa [zEx] at this
theorem zFs {i : Nat} {rest : List (Nat × Bool)} {a : Act} {w : World} {ty ty0 : TypeId} {x y : Operand} {pos : String} {after : Array Edge} {b off : Nat} {T : TypeId} {cs : Array Value} (hb : zAd w b T cs) (hi : ops[i]? = some ⟨none, .store ty x y,ty0,pos,after,none⟩)
  (hx : a.eval x = .pointer (some ⟨b,off,none⟩)) (v : Value) (hy : a.eval y = v) (hf : (P.info? ty).map (·.size) = some v.cells.size) (hfit : Nat.ble (off + v.cells.size) cs.size = true) (h1 : v.cells.all (·.oneCell') = true)
  (h : ∀ w',zAd w' b T (zAC cs off v.cells.toList) → Turn b w w' → wpS P ops Q (fun _ => True) rest a w') : wpS P ops Q (fun _ => True) ((i,false) :: rest) a w :=
 zB9 hi rfl fun K hK => zAo hb ty x y rfl hx v hy hf hfit h1 fun w' h2 h3 => hK a w' trivial (h w' h2 h3)
def Det (F : FuncId) (args : Array Value) (v : Value) (w : World) : Prop := ∀ W,Below w.heap.size w W → Calls Tryz.prog F args W fun e w' => e = .returned v ∧ Below W.heap.size W w'
theorem Det.moved {F : FuncId} {args : Array Value} {v : Value} {w w' : World} (h : Det F args v w) (hb : Below w.heap.size w w') : Det F args v w' := fun W hW => h W (hb.trans (hW.mono hb.size))
end
end Go.Proofs.YtbbblemfodpmaaaGreat
end
section
namespace Go.Proofs.YtbbblemfodpmaaaGreat
open Go.RowKit
section
variable {α : Type} {enc : α → Array Value} {sz : Nat} {P : Program} {w : World} {ops : Array Oper} {rest : List Oper} {o : Oper} {a : Act} {Q : Exit → Act → World → Prop}
end
theorem wpS_val {P : Program} {ops : Array Oper} {Q : Exit → Act → World → Prop} {i : Nat} {rest : List (Nat × Bool)} {a : Act} {w : World} {dst : Option Tmp} {op : Op} {ty : TypeId} {pos : String} {after : Array Edge} {g : Option (Nat × Bool)} {v : Value} (hi : ops[i]? = some ⟨dst,op,ty,pos,after,g⟩)
  (hw : Region.wanted ⟨dst,op,ty,pos,after,g⟩ (yielded ops a.tmps) = true) (hrun : (execOp a.eval ⟨dst,op,ty,pos,after,g⟩).run P w = .ok (.value v) w) (h : wpS P ops Q (fun _ => True) rest (a.put dst v) w) : wpS P ops Q (fun _ => True) ((i,false) :: rest) a w :=
 zB9 hi hw fun K hK => by
  unfold Oper.wp;rw [hrun];exact hK _ _ trivial h
section
variable {P : Program} {ops : Array Oper} {Q : Exit → Act → World → Prop}
theorem seq_sound {w0 : World} : ∀ (ord rest : List Nat) (a : Act) (w : World),Below w0.heap.size w0 w → wpD P ops w0 ord a (fun a' => ∀ W,Below w.heap.size w W → wpOps P ops Q rest a' W) → wpOps P ops Q (ord ++ rest) a w
 | [],rest,a,w,_,h => h w (Below.refl _ _)
 | i :: r,rest,a,w,hb,⟨o,v,h1,h2,h3⟩ => by
  rw [List.cons_append,wpOps_cons];refine h2.wpOp h1 hb fun w' hb' => ?_;exact seq_sound r rest _ w' (hb.trans (hb'.mono hb.size)) (zEY (fun a' h W hW => h W (hb'.trans (hW.mono hb'.size))) _ _ h3)
theorem wp_region_seq (ord rest : List Nat) {id : Nat} {a : Act} {w : World} (hr : (List.range ops.size == ord ++ rest) = true) (h : wpD P ops w ord a (fun a' => ∀ W,Below w.heap.size w W → wpOps P ops Q rest a' W)) : (Code.region id ops false).wp P Q a w := by
 refine wp_region ?_;rw [eq_of_beq hr];exact seq_sound ord rest a w (Below.refl _ _) h
theorem rgQ (ord rest : List Nat) {id : Nat} {a : Act} {w : World} (h : wpD P ops w ord a (fun a' => ∀ W,Below w.heap.size w W → wpOps P ops Q rest a' W)) (hr : (List.range ops.size == ord ++ rest) = true := by kernel_rfl) : (Code.region id ops false).wp P Q a w :=
 wp_region_seq ord rest hr h
theorem wpO_act {i : Nat} {rest : List Nat} {a : Act} {w : World} {dst : Option Tmp} {op : Op} {ty : TypeId} {pos : String} {after : Array Edge} {g : Option (Nat × Bool)} (hi : ops[i]? = some ⟨dst,op,ty,pos,after,g⟩)
  (hw : Region.wanted ⟨dst,op,ty,pos,after,g⟩ (yielded ops a.tmps) = true) (h : Oper.wp P ⟨dst,op,ty,pos,after,g⟩ a w (wpOps P ops Q rest) Q) : wpOps P ops Q (i :: rest) a w := by
 rw [wpOps_cons];unfold wpOp;simp only [hi,hw,if_true];exact .inl h
theorem wpO_box {i d : Nat} {rest : List Nat} {a : Act} {w : World} {T : TypeId} {cs : Array Value} {op : Op} {ty : TypeId} {pos : String} {after : Array Edge} (hi : ops[i]? = some ⟨some d,op,ty,pos,after,none⟩)
  (hrun : (execOp a.eval ⟨some d,op,ty,pos,after,none⟩).run P w = .ok (.value (zBL w.heap.size)) (w.alloc (.cells cs T))) (h : wpOps P ops Q rest (a.put (some d) (zBL w.heap.size)) (w.alloc (.cells cs T))) : wpOps P ops Q (i :: rest) a w :=
 wpO_act hi rfl (by unfold Oper.wp;rw [hrun];exact h)
theorem wpO_store {i : Nat} {rest : List Nat} {a : Act} {w : World} {ty ty0 : TypeId} {x y : Operand} {pos : String} {after : Array Edge} {b off : Nat} {T : TypeId} {cs : Array Value} (hb : zAd w b T cs) (hi : ops[i]? = some ⟨none, .store ty x y,ty0,pos,after,none⟩)
  (hx : a.eval x = .pointer (some ⟨b,off,none⟩)) (v : Value) (hy : a.eval y = v) (hf : (P.info? ty).map (·.size) = some v.cells.size) (hfit : Nat.ble (off + v.cells.size) cs.size = true) (h1 : v.cells.all (·.oneCell') = true)
  (h : ∀ w',zAd w' b T (zAC cs off v.cells.toList) → Turn b w w' → wpOps P ops Q rest a w') : wpOps P ops Q (i :: rest) a w :=
 wpO_act hi rfl (zAo hb ty x y rfl hx v hy hf hfit h1 fun w' h2 h3 => h w' h2 h3)
theorem wpO_nil {a : Act} {w : World} (h : Q .normal a w) : wpOps P ops Q [] a w := h
theorem wpO_forget (l : List Nat) {w : World} {rest : List Nat} {a : Act} (h : ∀ u : Nat → Value,wpOps P ops Q rest (zCf u l a) w) : wpOps P ops Q rest a w := by
 have := h fun n => (a.tmps[n]?).getD undef
 rwa [zEx] at this
end
end Go.Proofs.YtbbblemfodpmaaaGreat
end
section
namespace Go.Proofs.YtbbblemfodpmaaaGreat
open Go.RowKit
theorem zFJ {P : Program} {fn : Func} {a : Act} {w : World} {t1 t2 t3 : Tmp} {ty : TypeId} {b1 b2 : Nat} {T : TypeId} {c1 c2 : Array Value} {d : TypeDesc} (v : Value) (hb1 : zAd w b1 T c1) (hb2 : zAd w b2 T c2) (hr : fn.results = #[.cell t1 ty, .cell t2 ty, .tmp t3])
  (h1 : a.tmps.getD t1 undef = .pointer (some ⟨b1,0,none⟩)) (h2 : a.tmps.getD t2 undef = .pointer (some ⟨b2,0,none⟩)) (h3 : a.tmps.getD t3 undef = v) (hu : P.underlying ty = some d) (hd : (match d with | .struct _ | .array _ _ => true | _ => false) = true := by rfl)
  (hi1 : (P.info? ty).map (·.size) = some c1.size := by kernel_rfl) (hi2 : (P.info? ty).map (·.size) = some c2.size := by kernel_rfl) :
  (results fn a.tmps).run P w = .ok (.tuple #[.agg c1, .agg c2,v]) w := by
 have hl1 := zBu (P := P) w b1 0 ty c1 d hb1.cells hu hd hi1;have hl2 := zBu (P := P) w b2 0 ty c2 d hb2.cells hu hd hi2;have k1 : a.tmps[t1]?.getD undef = .pointer (some ⟨b1,0,none⟩) := by rw [← h1];simp
 have k2 : a.tmps[t2]?.getD undef = .pointer (some ⟨b2,0,none⟩) := by rw [← h2];simp
 have k3 : a.tmps[t3]?.getD undef = v := by rw [← h3];simp
 simp [results,hr,k1,k2,k3,asAddr,hl1,hl2]
def endFrom (js : List Joint) (ls : List Lead) (s : Side) : Joint := if zBY js ls s = 0 then ⟨(zAj ls s).1,ptA js (zAj ls s).1⟩ else ⟨0,zAx⟩
def endTo (js : List Joint) (ls : List Lead) (s : Side) : Joint := if zBY js ls s = 0 then ⟨(zAj ls s).2,ptA js (zAj ls s).2⟩ else ⟨0,zAx⟩
theorem box_map {κ ν : Type} [DecidableEq κ] {K : κ → Value} {V : ν → Value} {good : κ → Prop} {w : World} {b : Nat} {m : List (κ × ν)} (h : MapAt K V good w b m) {c : Nat} {T : TypeId} {cs : Array Value} (hb : zAd w c T cs) : b ≠ c := by
 rintro rfl;unfold zAd at hb;obtain ⟨_,_,h1,_⟩ := h.raw;rw [hb] at h1
 cases h1
theorem MapAt.drewM {κ ν : Type} [DecidableEq κ] {K : κ → Value} {V : ν → Value} {good : κ → Prop} {w : World} {b : Nat} {m : List (κ × ν)} (h : MapAt K V good w b m) : MapAt K V good w.drew b m := h.of_block rfl
theorem Ends_any (sj : Sl Joint) (sl : Sl Lead) (s : Side) (w : World) (hj : sj.OK 3 zAg zAy (fun _ => False) w) (hl : sl.OK 8 zAe zAB (fun _ => False) w) (hi : I64 s.lead) :
  Calls Tryz.prog 47 #[.agg #[.slice sj.a sj.val.length sj.cap, .slice sl.a sl.val.length sl.cap], .agg (zAa s)] w fun e w' => e = .returned (.tuple #[.agg (zAg (endFrom sj.val sl.val s)), .agg (zAg (endTo sj.val sl.val s)), .int .i64 (zBY sj.val sl.val s)]) ∧ Below w.heap.size w w' := by
 have HI := zz hi;have HB0 : Hid (Below w.heap.size w ((((w.alloc (.cells #[.slice sj.a sj.val.length sj.cap, .slice sl.a sl.val.length sl.cap] 25)).alloc (.cells (zAa s) 59)).alloc (.cells #[.int .i64 0, .int .i64 0, .int .i64 0] 29)).alloc (.cells #[.int .i64 0, .int .i64 0, .int .i64 0] 29))) := zz ((((((Lays.refl w).alloc _).alloc _).alloc _).alloc _).below (Nat.le_refl _));have HWB : Hid (zAd ((((w.alloc (.cells #[.slice sj.a sj.val.length sj.cap, .slice sl.a sl.val.length sl.cap] 25)).alloc (.cells (zAa s) 59)).alloc (.cells #[.int .i64 0, .int .i64 0, .int .i64 0] 29)).alloc (.cells #[.int .i64 0, .int .i64 0, .int .i64 0] 29)) (w.heap.size) 25 #[.slice sj.a sj.val.length sj.cap, .slice sl.a sl.val.length sl.cap]) := zz ((((zAd.new w 25 #[.slice sj.a sj.val.length sj.cap, .slice sl.a sl.val.length sl.cap]).alloc _).alloc _).alloc _);have HSB : Hid (zAd ((((w.alloc (.cells #[.slice sj.a sj.val.length sj.cap, .slice sl.a sl.val.length sl.cap] 25)).alloc (.cells (zAa s) 59)).alloc (.cells #[.int .i64 0, .int .i64 0, .int .i64 0] 29)).alloc (.cells #[.int .i64 0, .int .i64 0, .int .i64 0] 29)) (w.heap.size + 1) 59 (zAa s)) := zz (((by have := zAd.new (w.alloc (.cells #[.slice sj.a sj.val.length sj.cap, .slice sl.a sl.val.length sl.cap] 25)) 59 (zAa s);simpa only [World.size_alloc] using this : zAd _ _ _ _).alloc _).alloc _);have HR1 : Hid (zAd ((((w.alloc (.cells #[.slice sj.a sj.val.length sj.cap, .slice sl.a sl.val.length sl.cap] 25)).alloc (.cells (zAa s) 59)).alloc (.cells #[.int .i64 0, .int .i64 0, .int .i64 0] 29)).alloc (.cells #[.int .i64 0, .int .i64 0, .int .i64 0] 29)) (w.heap.size + 1 + 1) 29 #[.int .i64 0, .int .i64 0, .int .i64 0]) := zz ((by have := zAd.new ((w.alloc (.cells #[.slice sj.a sj.val.length sj.cap, .slice sl.a sl.val.length sl.cap] 25)).alloc (.cells (zAa s) 59)) 29 #[.int .i64 0, .int .i64 0, .int .i64 0];simpa only [World.size_alloc] using this : zAd _ _ _ _).alloc _);have HR2 : Hid (zAd ((((w.alloc (.cells #[.slice sj.a sj.val.length sj.cap, .slice sl.a sl.val.length sl.cap] 25)).alloc (.cells (zAa s) 59)).alloc (.cells #[.int .i64 0, .int .i64 0, .int .i64 0] 29)).alloc (.cells #[.int .i64 0, .int .i64 0, .int .i64 0] 29)) (w.heap.size + 1 + 1 + 1) 29 #[.int .i64 0, .int .i64 0, .int .i64 0]) := zz (by have := zAd.new (((w.alloc (.cells #[.slice sj.a sj.val.length sj.cap, .slice sl.a sl.val.length sl.cap] 25)).alloc (.cells (zAa s) 59)).alloc (.cells #[.int .i64 0, .int .i64 0, .int .i64 0] 29)) 29 #[.int .i64 0, .int .i64 0, .int .i64 0];simpa only [World.size_alloc] using this : zAd _ _ _ _);obtain ⟨R1,hR1⟩ : ∃ r,endFrom sj.val sl.val s = r := ⟨_,rfl⟩
 obtain ⟨R2,hR2⟩ : ∃ r,endTo sj.val sl.val s = r := ⟨_,rfl⟩
 obtain ⟨RE,hRE⟩ : ∃ r,zBY sj.val sl.val s = r := ⟨_,rfl⟩
 have HVO : Hid (RE = 0 → ∀ W,Below w.heap.size w W → Calls Tryz.prog 100 #[.agg #[.slice sj.a sj.val.length sj.cap, .slice sl.a sl.val.length sl.cap], .agg (zAa s)] W (NetOut sj sl W)) := zz fun h W hW => zET sj sl s W (hj.jmoved hW) (hl.lmoved hW) hi (by rw [hRE];exact h);have HVB : Hid (RE ≠ 0 → ∀ W,Below w.heap.size w W → Calls Tryz.prog 100 #[.agg #[.slice sj.a sj.val.length sj.cap, .slice sl.a sl.val.length sl.cap], .agg (zAa s)] W fun e w' => e = .returned (.tuple #[.pointer none, .int .i64 RE]) ∧ Below W.heap.size W w') := zz fun h W hW => by have := sided_err sj sl s W (hj.jmoved hW) (hl.lmoved hW) hi (by rw [hRE];exact h);rwa [hRE] at this
 have HVW : Hid (RE = 0 → ValidW sj.val sl.val ∧ (zBn sl.val s.lead).isSome = true) := zz fun h => by have := zCz (by rw [hRE];exact h);exact ⟨zCH this.1,this.2⟩
 have HRA : Hid (R1 = if RE = 0 then ⟨(zAj sl.val s).1,ptA sj.val (zAj sl.val s).1⟩ else ⟨0,zAx⟩) := zz (by rw [← hR1,← hRE];rfl);have HRB : Hid (R2 = if RE = 0 then ⟨(zAj sl.val s).2,ptA sj.val (zAj sl.val s).2⟩ else ⟨0,zAx⟩) := zz (by rw [← hR2,← hRE];rfl);simp only [hR1,hR2,hRE];clear hR1 hR2 hRE hj hl hi;go_enter Tryz.func47,Tryz.ntmps47
 by_cases h0 : RE = 0
 case neg =>
  have HVB := zz (HVB.out h0)
  go_upto_region 3 with (first
   | (refine zLd 11 HWB.out #[.slice sj.a sj.val.length sj.cap, .slice sl.a sl.val.length sl.cap] zuC ?_)
   | (refine zLd 12 HSB.out (zAa s) zuA ?_)
   | (go_at_call 100;refine (HVB.out _ HB0.out).mono ?_;rintro e w1 ⟨rfl,hb1⟩;replace HR1 := zz (HR1.out.belowAll hb1);replace HR2 := zz (HR2.out.belowAll hb1);replace HB0 := hTr HB0 hb1;clear hb1))
  refine zEs (fun W => zAd W (w.heap.size + 1 + 1) 29 #[.int .i64 0, .int .i64 0, .int .i64 0] ∧ zAd W (w.heap.size + 1 + 1 + 1) 29 #[.int .i64 0, .int .i64 0, .int .i64 0]) [(0,true),(1,true),(2,true),(3,false),(4,false),(5,true)] rfl (by kernel_rfl) (by kernel_rfl) (fun d _ _ _ _ h => by cases d <;> exact h) ⟨HR1.out.drew,HR2.out.drew⟩ ?_;refine zBC rfl rfl (fun W hW => zAf _ (hW.1) rfl (zAt _) zuG) ?_;simp only [pT];refine zBC rfl rfl (fun W hW => zAf _ (hW.2) rfl (zAt _) zuG) ?_;simp only [pT];refine wS rfl ?_;simp only [pT];refine zB9 rfl rfl (fun K hK => zAo (HR1.out.drew) 29 _ _ rfl rfl (.agg (zAg ⟨0,zAx⟩)) rfl (by kernel_rfl) (by rfl) (zAT _) fun W2 hb2 ht2 => hK _ _ ⟨hb2.eqv (by simp [zAC,zAg,Value.cells,zAx]),HR2.out.drew.turn ht2 (by omega)⟩ ?_);simp only [pT];refine zB9 rfl rfl (fun K hK => zAo (HR2.out.drew.turn ht2 (by omega)) 29 _ _ rfl rfl (.agg (zAg ⟨0,zAx⟩)) rfl (by kernel_rfl) (by rfl) (zAT _) fun W3 hb3 ht3 => hK _ _ ⟨(hb2.turn ht3 (by omega)).eqv (by simp [zAC,zAg,Value.cells,zAx]),hb3.eqv (by simp [zAC,zAg,Value.cells,zAx])⟩ ?_);simp only [pT];refine wS rfl ?_;simp only [pT];simp only [wpS];go_wp2;refine bodyPost_ret (zFJ (c1 := zAg ⟨0,zAx⟩) (c2 := zAg ⟨0,zAx⟩) (.int .i64 RE) ((hb2.turn ht3 (by omega)).eqv (by simp [zAC,zAg,Value.cells])) (hb3.eqv (by simp [zAC,zAg,Value.cells])) rfl rfl rfl rfl zuG) rfl ⟨?_,(HB0.out.drew.trans (ht2.below (by omega))).trans (ht3.below (by omega))⟩;rw [HRA.out,HRB.out,if_neg h0,if_neg h0]
 have HVO := zz (HVO.out h0);obtain ⟨V,hls⟩ := HVW.out h0;obtain ⟨a1,ha1⟩ : ∃ a,(zAj sl.val s).1 = a := ⟨_,rfl⟩
 obtain ⟨a2,ha2⟩ : ∃ a,(zAj sl.val s).2 = a := ⟨_,rfl⟩
 obtain ⟨p1,hp1⟩ : ∃ p,ptA sj.val a1 = p := ⟨_,rfl⟩
 obtain ⟨p2,hp2⟩ : ∃ p,ptA sj.val a2 = p := ⟨_,rfl⟩
 have HI1 : Hid (I64 a1) := zz (by rw [← ha1];exact (V.endI s).1);have HI2 : Hid (I64 a2) := zz (by rw [← ha2];exact (V.endI s).2);have HEA : Hid ((zAj sl.val s).1 = a1 ∧ (zAj sl.val s).2 = a2) := zz ⟨ha1,ha2⟩;have HP1 : Hid ((atA sj.val a1).getD zAx = p1) := zz hp1;have HP2 : Hid ((atA sj.val a2).getD zAx = p2) := zz hp2;simp only [h0,if_true,ha1,ha2,hp1,hp2] at HRA HRB;clear hls V ha1 ha2 hp1 hp2 HVB HVW;have hsz0 : w.heap.size + 1 + 1 + 1 < ((((w.alloc (.cells #[.slice sj.a sj.val.length sj.cap, .slice sl.a sl.val.length sl.cap] 25)).alloc (.cells (zAa s) 59)).alloc (.cells #[.int .i64 0, .int .i64 0, .int .i64 0] 29)).alloc (.cells #[.int .i64 0, .int .i64 0, .int .i64 0] 29)).heap.size := HR2.out.lt
 go_upto_region 4 with (first
  | (refine zLd 11 HWB.out #[.slice sj.a sj.val.length sj.cap, .slice sl.a sl.val.length sl.cap] zuC ?_)
  | (refine zLd 12 HSB.out (zAa s) zuA ?_)
  | (go_at_call 100;refine (HVO.out _ HB0.out).mono ?_;rintro e w1 ⟨b,rfl,hbb,hn1,hb1⟩;have HN := zz hn1;have HBB := zz (Nat.lt_of_lt_of_le hsz0 hbb);replace HR1 := zz (HR1.out.belowAll hb1);replace HR2 := zz (HR2.out.belowAll hb1);replace HSB := zz (HSB.out.belowAll hb1);replace HB0 := hTr HB0 hb1;clear hb1 hbb hn1))
 have HE : Hid (Det 111 #[.pointer (some ⟨b,0,none⟩), .agg (zAa s)] (.tuple #[.int .i64 a1, .int .i64 a2]) w1) := zz fun W hW => by
  have := zD6 s HI.out W (HN.out.below hW);rw [HEA.out.1,HEA.out.2] at this;exact this.mono fun _ _ ⟨h1,h2⟩ => ⟨h1,h2.below (Nat.le_refl _)⟩
 refine rgR [0,1,2,3,4,5,6,7] [] (fun _ => (0,#[])) [] ?_
 (refine wD rfl ?_;simp only [pT])
 refine zA8 (v := _) rfl rfl (fun W hW => zAf _ (HSB.out.belowAll hW) rfl (zAt _) zuA) ?_;simp only [pT];refine zEc _ _ _ rfl rfl (fun W => by go_simp;try with_reducible rfl) (HE.out) ?_;simp only [pT];iterate 5 (refine wD rfl ?_;simp only [pT])
 intro f W1 HW1 h1 h2;simp only [zBM];clear h1 h2 f;refine zCg [22,23,24,21,25,26] fun u => ?_;simp only [zCf,pT];simp only [wpS];have HW1K := HW1;replace HB0 := hTr HB0 HW1;replace HR1 := zz (HR1.out.belowAll HW1);replace HR2 := zz (HR2.out.belowAll HW1);clear HW1;replace HN := zz (HN.out.below HW1K);obtain ⟨ba,bl,bo,N,mo,hbN,haN,hlN,hoN,hnb,hma,hml,hmo,hout⟩ := HN.out;have HNB := zz hnb;have HMA := zz hma;have HNE : Hid (b ≠ w.heap.size + 1 + 1 ∧ ba ≠ w.heap.size + 1 + 1 ∧ b ≠ w.heap.size + 1 + 1 + 1 ∧ ba ≠ w.heap.size + 1 + 1 + 1) := zz ⟨by have := HBB.out;omega,box_map hma HR1.out,by have := HBB.out;omega,box_map hma HR2.out⟩;clear hbN haN hlN hoN hnb hma hml hmo hout HN HE
 go_upto_region 5 with (fail)
 refine zEs (fun W => zAd W b 125 #[.slice sj.a sj.val.length sj.cap, .slice sl.a sl.val.length sl.cap, .map (some ba), .map (some bl), .map (some bo)] ∧ MapAt vi zAD I64 W ba (zAX sj.val)) [(0,true),(1,true),(2,true),(3,true),(4,true),(5,true),(6,true),(7,true),(8,true),(9,true),(10,true),(11,true),(12,true),(13,true),(14,true),(15,true),(16,false),(17,false),(18,true)] rfl (by kernel_rfl) (by kernel_rfl) (fun d _ _ _ _ h => by cases d <;> exact h) ⟨HNB.out.drew,HMA.out.drewM⟩ ?_;refine wS rfl ?_;simp only [pT];refine wS rfl ?_;simp only [pT];refine wS rfl ?_;simp only [pT];refine wS rfl ?_;simp only [pT];refine zBC (v := .map (some ba)) rfl rfl (fun W hW => by have e := hW.1.cell 2;go_simp) ?_;simp only [pT];refine wS rfl ?_;simp only [pT];refine zBC (v := zAD p1) rfl rfl (fun W hW => Eq.trans (zAQ zAG zuE zAx (zA6 _) rfl hW.2 a1 HI1.out rfl) (by rw [zAZ,HP1.out];rfl)) ?_;simp only [pT];refine zBC (v := .agg (zAg ⟨a1,p1⟩)) rfl rfl (fun W hW => by go_simp;rfl) ?_;simp only [pT];refine wS rfl ?_;simp only [pT];refine wS rfl ?_;simp only [pT];refine wS rfl ?_;simp only [pT];refine wS rfl ?_;simp only [pT];refine zBC (v := .map (some ba)) rfl rfl (fun W hW => by have e := hW.1.cell 2;go_simp) ?_;simp only [pT];refine wS rfl ?_;simp only [pT];refine zBC (v := zAD p2) rfl rfl (fun W hW => Eq.trans (zAQ zAG zuE zAx (zA6 _) rfl hW.2 a2 HI2.out rfl) (by rw [zAZ,HP2.out];rfl)) ?_;simp only [pT];refine zBC (v := .agg (zAg ⟨a2,p2⟩)) rfl rfl (fun W hW => by go_simp;rfl) ?_;simp only [pT];refine zCg [27,28,29,30,31,32,33,35,36,37,38,39,40,41] fun u => ?_;simp only [zCf,pT];refine zB9 rfl rfl (fun K hK => zAo (HR1.out.drew) 29 _ _ rfl rfl (.agg (zAg ⟨a1,p1⟩)) rfl (by kernel_rfl) (by rfl) (zAT _) fun W2 hb2 ht2 => hK _ _ ⟨HNB.out.drew.turn ht2 HNE.out.1,HMA.out.drewM.turn ht2 HNE.out.2.1⟩ ?_);simp only [pT];refine zB9 rfl rfl (fun K hK => zAo (HR2.out.drew.turn ht2 (by omega)) 29 _ _ rfl rfl (.agg (zAg ⟨a2,p2⟩)) rfl (by kernel_rfl) (by rfl) (zAT _) fun W3 hb3 ht3 => hK _ _ ⟨(HNB.out.drew.turn ht2 HNE.out.1).turn ht3 HNE.out.2.2.1,(HMA.out.drewM.turn ht2 HNE.out.2.1).turn ht3 HNE.out.2.2.2⟩ ?_);simp only [pT];refine wS rfl ?_;simp only [pT];simp only [wpS];go_wp2;refine bodyPost_ret (zFJ (c1 := zAg ⟨a1,p1⟩) (c2 := zAg ⟨a2,p2⟩) (.int .i64 0) ((hb2.turn ht3 (by omega)).eqv (by simp [zAC,zAg,Value.cells])) (hb3.eqv (by simp [zAC,zAg,Value.cells])) rfl rfl rfl rfl zuG) rfl ⟨?_,(HB0.out.drew.trans (ht2.below (by omega))).trans (ht3.below (by omega))⟩;rw [HRA.out,HRB.out,h0]
end Go.Proofs.YtbbblemfodpmaaaGreat
end
section
namespace Go.Proofs.YtbbblemfodpmaaaGreat
open Go.RowKit
section
variable {P : Program} {ops : Array Oper} {Q : Exit → Act → World → Prop}
def preL (ops : Array Oper) (i : Nat) : Array Bool := ((List.range ops.size).map fun j => zCW ops ops.size i j).toArray
def isExt (ops : Array Oper) (i : Nat) : Bool := (match ops[i]? with
 | some ⟨_, .extract _ _,_,_,_,none⟩ => true
 | _ => false) && Region.free .any ops (preL ops i) i
def lateB (ops : Array Oper) (L : List Nat) (i t : Nat) : Bool := L.contains i && (match ops[i]? with
 | some o => o.after.all fun e => !Region.binds .any e || zCW ops ops.size t e.on
 | none => false)
def okL (ops : Array Oper) (ord L : List Nat) (is : List (Nat × Nat)) (rest : List (Nat × Bool)) : Bool :=
 decide (ord ++ is.map (·.1) ++ rest.map (·.1)).Nodup && (List.range ops.size).all (fun j => (ord ++ is.map (·.1) ++ rest.map (·.1)).contains j) && (ord ++ is.map (·.1) ++ rest.map (·.1)).all (fun j => decide (j < ops.size)) && okP ops ord &&
 ord.all (fun i => is.all fun k => !ed ops i k.1 && (ed ops k.1 i || ap ops i k.1)) && is.all (fun k => (ops[k.1]?.bind (·.dst)) == some k.2 && is.all fun k' => !ed ops k.1 k'.1) && decide (is.map (·.2)).Nodup &&
 ord.all (fun i => zDv ops i && rest.all fun t => !ed ops i t.1 && (zCW ops ops.size t.1 i || lateB ops L i t.1)) && (is.map (·.1)).all (fun i => zDv ops i && rest.all fun t => !ed ops i t.1 && zCW ops ops.size t.1 i) && L.all (isExt ops) && zB0 ops rest (zC5 ops rest)
structure StL (ops : Array Oper) (L ord : List Nat) (is : List (Nat × Nat)) (rest : List (Nat × Bool)) : Prop where
 nd : (ord ++ is.map (·.1) ++ rest.map (·.1)).Nodup
 lt : ∀ j ∈ ord ++ is.map (·.1) ++ rest.map (·.1),j < ops.size
 pw : ord.Pairwise fun i k => ed ops k i = true ∨ ap ops i k = true
 fw : ord.Pairwise fun i k => ed ops i k = false
 self : ∀ i ∈ ord,ed ops i i = false
 da : ∀ i ∈ ord,∀ k ∈ is,ed ops i k.1 = false ∧ (ed ops k.1 i = true ∨ ap ops i k.1 = true)
 dst : ∀ k ∈ is,∃ o,ops[k.1]? = some o ∧ o.dst = some k.2
 aa : ∀ k ∈ is,∀ k' ∈ is,ed ops k.1 k'.1 = false
 nd2 : (is.map (·.2)).Nodup
 tl : ∀ i ∈ ord ++ is.map (·.1),zDv ops i = true ∧ ∀ t ∈ rest,ed ops i t.1 = false ∧ (zCW ops ops.size t.1 i = true ∨ (i ∈ ord ∧ lateB ops L i t.1 = true))
theorem StL.sub {L ord ord' : List Nat} {is is' : List (Nat × Nat)} {rest : List (Nat × Bool)} (h : StL ops L ord is rest) (h1 : ord'.Sublist ord) (h2 : is'.Sublist is) : StL ops L ord' is' rest := by
 have h3 : (ord' ++ is'.map (·.1)).Sublist (ord ++ is.map (·.1)) := h1.append (h2.map _);have h4 := h3.append (List.Sublist.refl (rest.map (·.1)));refine ⟨h4.nodup h.nd,fun j hj => h.lt j (h4.subset hj),h.pw.sublist h1,h.fw.sublist h1,fun i hi => h.self i (h1.subset hi),fun i hi k hk => h.da i (h1.subset hi) k (h2.subset hk),fun k hk => h.dst k (h2.subset hk),
  fun k hk k' hk' => h.aa k (h2.subset hk) k' (h2.subset hk'),(h2.map _).nodup h.nd2,fun i hi => ⟨(h.tl i (h3.subset hi)).1,fun t ht => ⟨((h.tl i (h3.subset hi)).2 t ht).1, ?_⟩⟩⟩
 rcases ((h.tl i (h3.subset hi)).2 t ht).2 with k | ⟨k1,k2⟩
 ·exact .inl k
 ·refine .inr ⟨?_,k2⟩
  rcases List.mem_append.1 hi with q | q
  ·exact q
  ·exfalso;have := (List.nodup_append.1 (List.nodup_append.1 h.nd).1).2.2 i k1 i ((h2.map _).subset q);exact this rfl
theorem okL_spec {ord L : List Nat} {is : List (Nat × Nat)} {rest : List (Nat × Bool)} (h : okL ops ord L is rest = true) : StL ops L ord is rest ∧ (∀ j,j < ops.size → j ∈ ord ++ is.map (·.1) ++ rest.map (·.1)) ∧ (∀ i ∈ L,isExt ops i = true) ∧ zB0 ops rest (zC5 ops rest) = true := by
 unfold okL at h;simp only [Bool.and_eq_true,decide_eq_true_eq] at h;obtain ⟨⟨⟨⟨⟨⟨⟨⟨⟨⟨h1,h2⟩,h3⟩,h4⟩,h5⟩,h6⟩,h7⟩,h8⟩,h8b⟩,hx⟩,h9⟩ := h;obtain ⟨p1,p2,p3⟩ := okP_spec h4;refine ⟨⟨h1,fun j hj => by simpa using List.all_eq_true.1 h3 j hj,p1,p2,p3,fun i hi k hk => ?_,fun k hk => ?_,fun k hk k' hk' => ?_,h7,fun i hi => ?_⟩,fun j hj => by simpa using List.all_eq_true.1 h2 j (List.mem_range.2 hj),fun i hi => List.all_eq_true.1 hx i hi,h9⟩
 ·have := List.all_eq_true.1 (List.all_eq_true.1 h5 i hi) k hk;simpa using this
 ·have := List.all_eq_true.1 h6 k hk;simp only [Bool.and_eq_true,beq_iff_eq] at this;exact Option.bind_eq_some_iff.1 this.1
 ·have := List.all_eq_true.1 h6 k hk;simp only [Bool.and_eq_true,List.all_eq_true,Bool.not_eq_true'] at this;exact this.2 k' hk'
 ·rcases List.mem_append.1 hi with hi | hi
  ·have := List.all_eq_true.1 h8 i hi;simp only [Bool.and_eq_true,List.all_eq_true,Bool.not_eq_true',Bool.or_eq_true] at this;exact ⟨this.1,fun t ht => ⟨(this.2 t ht).1,(this.2 t ht).2.imp id fun q => ⟨hi,q⟩⟩⟩
  ·have := List.all_eq_true.1 h8b i hi;simp only [Bool.and_eq_true,List.all_eq_true,Bool.not_eq_true'] at this;exact ⟨this.1,fun t ht => ⟨(this.2 t ht).1, .inl (this.2 t ht).2⟩⟩
theorem ext_any {w0 : World} {i : Nat} {o : Oper} {v : Value} {a : Act} (hi : ops[i]? = some o) (hx : isExt ops i = true) (hy : zDm P ops w0 o v a) : YieldsIf P ops (fun _ => True) o v a := by
 unfold isExt at hx;rw [hi] at hx;simp only [Bool.and_eq_true] at hx;obtain ⟨hx,_⟩ := hx;obtain ⟨dst,op,ty,pos,after,g⟩ := o
 cases op <;> cases g <;> simp at hx;rename_i x n
 rcases hy with ⟨h1,h2⟩ | ⟨h1,h2⟩
 ·refine .inl ⟨h1,fun W _ => ?_⟩
  rcases h2 w0 (Below.refl _ _) with e | ⟨f,args,e,_⟩
  ·unfold execOp at e ⊢;simp only [Sem.run_bind] at e ⊢
   cases hv : a.eval x <;> simp only [hv,Instr.extract] at e ⊢
   case tuple vs =>
    cases hq : vs[n]? <;> simp [hq] at e ⊢;exact e
   all_goals simp at e
  ·unfold execOp at e;simp only [Sem.run_bind] at e
   cases hv : a.eval x <;> simp only [hv,Instr.extract] at e
   case tuple vs => cases hq : vs[n]? <;> simp [hq] at e
   all_goals simp at e
 ·exact .inr ⟨h1,h2⟩
theorem pre_not {listed : Array Bool} (hc : zDu ops listed) {i j : Nat} (hr : i ∈ Region.ready .any ops listed) (hj : j < ops.size) (hun : listed.getD j true = false) : (preL ops i).getD j true = false := by
 obtain ⟨_,o,ho,hall⟩ := mem_ready.1 hr;have e : (preL ops i).getD j true = zCW ops ops.size i j := by simp [preL,hj]
 rw [e]
 cases hw : zCW ops ops.size i j with
 | false => rfl
 | true =>
  have h1 := zCQ hc _ _ _ o ho hall hw
  by_cases hs : j < listed.size
  ·rw [zDw hs,h1] at hun;cases hun
  ·simp [hs] at h1
theorem zDX {L : List Nat} (hL : ∀ i ∈ L,isExt ops i = true) {c : Nat → TypeId × Array Value} {w0 : World} {rest : List (Nat × Bool)} (hs : Region.noSelect ops = true) (hQ : ∀ d c (a : Act) v w,Q (.panic c) (a.put d v) w → Q (.panic c) a w) (hR : zB0 ops rest (zC5 ops rest) = true) :
  ∀ (n : Nat) (ord : List Nat) (is : List (Nat × Nat)) (fuel : Nat) (listed : Array Bool) (a : Act) (w : World),ord.length + is.length = n → n + rest.length ≤ fuel → StL ops L ord is rest → LeftL ops (ord ++ is.map (·.1) ++ rest.map (·.1)) listed → zDu ops listed →
  Below w0.heap.size w0 w → (∀ k ∈ is,∀ (K : Act → World → Prop) a w,K (a.put (some k.2) (zBL w.heap.size)) (w.alloc (.cells (c k.1).2 (c k.1).1)) → wpOp P ops Q k.1 K a w) →
  wpD P ops w0 ord a (endD P ops Q c is rest w) → wpAnyH P .any ops Q (fun _ => True) fuel listed a w
 | 0,ord,is,fuel,listed,a,w,hn,hf,hst,hl,hc,hb,hop,h => by
  obtain rfl : ord = [] := List.length_eq_zero_iff.1 (by omega);obtain rfl : is = [] := List.length_eq_zero_iff.1 (by omega);have he : listed = zC5 ops rest := by
   apply Array.ext
   ·rw [hl.1];simp [zC5]
   ·intro j h1 h2;have hj : j < ops.size := by rw [← hl.1];exact h1
    have h3 := hl.2 j hj;simp only [Array.getD_eq_getD_getElem?,h1,Array.getElem?_eq_getElem,Option.getD_some,List.nil_append,List.map_nil] at h3;simp only [zC5,List.getElem_toArray,List.getElem_map,List.getElem_range]
    cases hx : listed[j]
    ·have := h3.1 hx;simp only [Bool.false_eq,Bool.not_eq_false',List.contains_iff_mem,this]
    ·have : ¬ j ∈ rest.map (·.1) := fun hm => by have := h3.2 hm;rw [hx] at this;cases this
     simp only [Bool.true_eq,Bool.not_eq_true',Bool.eq_false_iff,ne_eq,List.contains_iff_mem,this,not_false_eq_true]
  exact zC9 hs hQ rest fuel listed a w (by rw [he];exact hR) (by omega) trivial (h id w (Below.refl _ _) (by simp) (by simp))
 | n + 1,ord,is,0,listed,a,w,hn,hf,hst,hl,hc,hb,hop,h => by omega
 | n + 1,ord,is,fuel + 1,listed,a,w,hn,hf,hst,hl,hc,hb,hop,h => by
  have hrm : ∀ j ∈ Region.ready .any ops listed,∀ i ∈ ord ++ is.map (·.1) ++ rest.map (·.1),ed ops j i = false := fun j hj i hi => by
   cases he : ed ops j i with
   | false => rfl
   | true =>
    obtain ⟨_,o,ho,hall⟩ := mem_ready.1 hj;unfold ed at he;rw [ho] at he;obtain ⟨e,hem,hb'⟩ := Array.any_eq_true'.1 he;simp only [Bool.and_eq_true,beq_iff_eq] at hb';have h1 := hall e hem hb'.1;have hlt := hst.lt i hi;have h2 := (hl.2 i hlt).2 hi;rw [hb'.2,← zDw (by rw [hl.1];exact hlt),h2] at h1
    cases h1
  by_cases hex : ∃ i ∈ ord,i ∈ L ∧ i ∈ Region.ready .any ops listed
  ·obtain ⟨i,hio,hiL,hir⟩ := hex;obtain ⟨o,v,k1,k2,k3⟩ := pickD hs ord a hio hst.pw (fun j hj => hrm i hir j (by simp [hj])) h;have hfr : Region.free .any ops (preL ops i) i = true := by
    have := hL i hiL;unfold isExt at this;simp only [Bool.and_eq_true] at this;exact this.2
   refine wpAnyH_first k1 (Region.noSelect_spec hs) (fun c a w h => hQ o.dst c a v w h) fuel listed a w (fun j oj hj hne hun hno => Region.free_spec k1 hfr j oj hj hne (pre_not hc hir (Array.getElem?_eq_some_iff.1 hj).1 hun) hno) hir (ext_any k1 (hL i hiL) k2) trivial ?_;refine zDX hL hs hQ hR n (ord.erase i) is fuel _ _ w (by have := List.length_erase_of_mem hio;have := List.length_pos_of_mem hio;omega) (by omega) (hst.sub List.erase_sublist (List.Sublist.refl _)) ?_ (hc.set hir) hb hop k3;have := hl.set hst.nd (i := i);rw [List.append_assoc,List.erase_append_left _ hio,← List.append_assoc] at this;exact this
  have hleft : ∀ j ∈ Region.ready .any ops listed,j ∈ ord ∨ j ∈ is.map (·.1) := fun j hj => by
   obtain ⟨h0,o,ho,hall⟩ := mem_ready.1 hj;have hlt := (Array.getElem?_eq_some_iff.1 ho).1;have hm := (hl.2 j hlt).1 h0
   rcases List.mem_append.1 hm with hm | hm
   ·exact List.mem_append.1 hm
   ·obtain ⟨t,ht,rfl⟩ := List.mem_map.1 hm;exfalso;obtain ⟨m,hm⟩ : ∃ m,m ∈ ord ++ is.map (·.1) := by
     cases ord with
     | cons x _ => exact ⟨x,by simp⟩
     | nil => cases is with
      | cons y _ => exact ⟨y.1,by simp⟩
      | nil => simp at hn
    have h2 := List.mem_append.2 (.inl hm : _ ∨ m ∈ rest.map (·.1));have h3 := hst.lt m h2;have h1 : listed.getD m false = true := by
     rcases ((hst.tl m hm).2 t ht).2 with hw | ⟨hmo,hw⟩
     ·exact zCQ hc _ _ _ o ho hall hw
     ·exfalso;unfold lateB at hw;simp only [Bool.and_eq_true,List.contains_iff_mem] at hw;obtain ⟨hmL,hw⟩ := hw
      cases hom : ops[m]? with
      | none => rw [hom] at hw;cases hw
      | some om =>
       rw [hom] at hw;refine hex ⟨m,hmo,hmL,mem_ready.2 ⟨(hl.2 m h3).2 h2,om,hom,fun e he hbd => ?_⟩⟩;have := Array.all_eq_true_iff_forall_mem.1 hw e he;simp only [hbd,Bool.not_true,Bool.false_or] at this;exact zCQ hc _ _ _ o ho hall this
    rw [← zDw (by rw [hl.1];exact h3),(hl.2 m h3).2 h2] at h1
    cases h1
  have hne : Region.ready .any ops listed ≠ [] := by
   cases ord with
   | cons x r =>
    have hx : x ∈ x :: r ++ is.map (·.1) ++ rest.map (·.1) := by simp
    refine List.ne_nil_of_mem (hl.ready hx (hst.lt x hx) (hst.tl x (by simp)).1 fun j hj => ?_)
    rcases List.mem_append.1 hj with hj | hj
    ·rcases List.mem_append.1 hj with hj | hj
     ·rcases List.mem_cons.1 hj with rfl | hj
      ·exact hst.self j (by simp)
      ·exact (List.pairwise_cons.1 hst.fw).1 j hj
     ·obtain ⟨k,hk,rfl⟩ := List.mem_map.1 hj;exact (hst.da x (by simp) k hk).1
    ·obtain ⟨t,ht,rfl⟩ := List.mem_map.1 hj;exact ((hst.tl x (by simp)).2 t ht).1
   | nil => cases is with
    | nil => simp at hn
    | cons y r =>
     have hx : y.1 ∈ [] ++ (y :: r).map (·.1) ++ rest.map (·.1) := by simp
     refine List.ne_nil_of_mem (hl.ready hx (hst.lt _ hx) (hst.tl y.1 (by simp)).1 fun j hj => ?_)
     rcases List.mem_append.1 hj with hj | hj
     ·rw [List.nil_append] at hj;obtain ⟨k,hk,rfl⟩ := List.mem_map.1 hj;exact hst.aa y (by simp) k hk
     ·obtain ⟨t,ht,rfl⟩ := List.mem_map.1 hj;exact ((hst.tl y.1 (by simp)).2 t ht).1
  refine ⟨fun h0 => absurd h0 hne,fun j hj => ?_⟩
  by_cases hjo : j ∈ ord
  ·obtain ⟨o,v,k1,k2,k3⟩ := pickD hs ord a hjo hst.pw (fun i hi => hrm j hj i (by simp [hi])) h;refine k2.wpOp k1 hb fun w' hb' => ⟨trivial, ?_⟩
   have hb1 : Below w0.heap.size w0 w' := hb.trans (hb'.mono hb.size);refine zDX hL hs hQ hR n (ord.erase j) is fuel _ _ w' (by have := List.length_erase_of_mem hjo;have := List.length_pos_of_mem hjo;omega) (by omega) (hst.sub List.erase_sublist (List.Sublist.refl _)) ?_ (hc.set hj) hb1 hop (zEY (fun b hT f W hW hk hi => hT f W (hb'.trans (hW.mono hb'.size)) (fun k hk' => ⟨Nat.le_trans hb'.size (hk k hk').1,(hk k hk').2⟩) hi) _ _ k3);have := hl.set hst.nd (i := j);rw [List.append_assoc,List.erase_append_left _ hjo,← List.append_assoc] at this;exact this
  ·obtain ⟨k,hk,rfl⟩ := List.mem_map.1 ((hleft j hj).resolve_left hjo);refine hop k hk _ a w ⟨trivial, ?_⟩;have hnd1 : (is.map (·.1)).Nodup := (List.nodup_append.1 (List.nodup_append.1 hst.nd).1).2.1;have hnd : is.Nodup := zCO hnd1;have hsub := List.erase_sublist (a := k) (l := is);have hmem : ∀ j ∈ is.erase k,j ∈ is := fun j hj => hsub.subset hj;have hkn : ∀ j ∈ is.erase k,j.1 ≠ k.1 := fun j hj e => by
    have hjk : j ≠ k := fun e2 => by rw [e2] at hj;exact absurd hj (hnd.not_mem_erase)
    exact hjk (zCs hnd1 (hmem j hj) hk e)
   have hbw : Below w.heap.size w (w.alloc (.cells (c k.1).2 (c k.1).1)) := (Below.refl _ _).alloc (Nat.le_refl _) _;have hsz : (w.alloc (.cells (c k.1).2 (c k.1).1)).heap.size = w.heap.size + 1 := by simp
   obtain ⟨ok,hok,hdst⟩ := hst.dst k hk;refine zDX hL hs hQ hR n ord (is.erase k) fuel _ _ (w.alloc (.cells (c k.1).2 (c k.1).1)) (by have := List.length_erase_of_mem hk;have := List.length_pos_of_mem hk;omega) (by omega) (hst.sub (List.Sublist.refl _) hsub) ?_ (hc.set hj) (hb.trans (hbw.mono hb.size)) (fun j hj => hop j (hmem j hj))
    (shiftD hs hok hdst (zBL w.heap.size) (fun b hT f W hW hf hi => ?_) ord a (fun i hi => ?_) h)
   ·have := hl.set hst.nd (i := k.1);rw [List.append_assoc,List.erase_append_right _ hjo,List.erase_append_left _ (List.mem_map.2 ⟨k,hk,rfl⟩),← List.append_assoc] at this;have e : (is.map (·.1)).erase k.1 = (is.erase k).map (·.1) := by
     clear this hop h hst hl hleft hne hrm hf hn
     induction is with
     | nil => rfl
     | cons y r ih =>
      by_cases hy : y = k
      ·subst hy;simp
      ·have hkr : k ∈ r := by
        rcases List.mem_cons.1 hk with h | h
        ·exact absurd h.symm hy
        ·exact h
       have hyk : y.1 ≠ k.1 := fun e2 => (List.nodup_cons.1 hnd1).1 (List.mem_map.2 ⟨k,hkr,e2.symm⟩);rw [List.erase_cons_tail (by simpa using hy),List.map_cons,List.map_cons,List.erase_cons_tail (by simpa using hyk)];have hnd1' := (List.nodup_cons.1 hnd1).2;rw [ih hkr hnd1' (zCO hnd1') List.erase_sublist (fun j hj => List.mem_of_mem_erase hj) (fun j hj e3 => ?_)];have hjk : j ≠ k := fun e4 => by rw [e4] at hj;exact absurd hj ((zCO hnd1').not_mem_erase)
       exact hjk (zCs hnd1' (List.mem_of_mem_erase hj) hkr e3)
    rw [e] at this;exact this
   ·rw [hsz] at hW hf;have hbk : zAd W w.heap.size (c k.1).1 (c k.1).2 := (zAd.new w (c k.1).1 (c k.1).2).of_block (hW.block _ (by omega));have e : ∀ j ∈ is.erase k,(fun i => if i = k.1 then w.heap.size else f i) j.1 = f j.1 := fun j hj => if_neg (hkn j hj);have h := hT (fun i => if i = k.1 then w.heap.size else f i) W (hbw.trans (hW.mono (by omega))) (fun j hj => ?_) (fun j hj j' hj' => ?_)
    ·rw [zDT is b hk hst.nd2,zDy _ _ e,if_pos rfl] at h;exact h
    ·by_cases hjk : j.1 = k.1
     ·obtain rfl := zCs hnd1 hj hk hjk;simp only [if_true];exact ⟨Nat.le_refl _,hbk⟩
     ·have hje : j ∈ is.erase k := (List.mem_erase_of_ne (fun e => hjk (by rw [e]))).2 hj;have := hf j hje;simp only [hjk,if_false];exact ⟨by omega,this.2⟩
    ·intro he
     by_cases hjk : j.1 = k.1 <;> by_cases hjk' : j'.1 = k.1
     ·rw [hjk,hjk']
     ·have := hf j' ((List.mem_erase_of_ne (fun e => hjk' (by rw [e]))).2 hj');simp only [hjk,hjk',if_true,if_false] at he;omega
     ·have := hf j ((List.mem_erase_of_ne (fun e => hjk (by rw [e]))).2 hj);simp only [hjk,hjk',if_true,if_false] at he;omega
     ·simp only [hjk,hjk',if_false] at he;exact hi j ((List.mem_erase_of_ne (fun e => hjk (by rw [e]))).2 hj) j' ((List.mem_erase_of_ne (fun e => hjk' (by rw [e]))).2 hj') he
   ·rcases (hst.da i hi k hk).2 with h1 | h1
    ·rw [hrm k.1 hj i (by simp [hi])] at h1;cases h1
    ·exact h1
theorem zGl (ord L : List Nat) (is : List (Nat × Nat)) (c : Nat → TypeId × Array Value) (rest : List (Nat × Bool)) {id : Nat} {a : Act} {w : World} (hm : P.follows .mixedOrders = true)
  (hok : (Region.noSelect ops && decide (ord.length + is.length + rest.length ≤ ops.size) && okL ops ord L is rest) = true) (hQ : ∀ d c (a : Act) v w,Q (.panic c) (a.put d v) w → Q (.panic c) a w)
  (hop : ∀ k ∈ is,∀ (K : Act → World → Prop) a w,K (a.put (some k.2) (zBL w.heap.size)) (w.alloc (.cells (c k.1).2 (c k.1).1)) → wpOp P ops Q k.1 K a w)
  (h : wpD P ops w.drew ord a (endD P ops Q c is rest w.drew)) : (Code.region id ops true).wp P Q a w := by
 simp only [Bool.and_eq_true,decide_eq_true_eq] at hok;obtain ⟨⟨hs,hl⟩,hok⟩ := hok;obtain ⟨h1,h2,hx,h3⟩ := okL_spec hok;refine wp_region_held (S := fun _ => True) hm (zDX hx hs hQ h3 _ ord is ops.size _ a w.drew rfl hl h1 ⟨by simp,fun j hj => ?_⟩ (fun j o ho hj => ?_) (Below.refl _ _) hop h)
 ·simp only [Array.getD_eq_getD_getElem?,Array.getElem?_replicate,hj,if_true,Option.getD_some,true_iff];exact h2 j hj
 ·have hlt := (Array.getElem?_eq_some_iff.1 ho).1;simp [hlt] at hj
end
end Go.Proofs.YtbbblemfodpmaaaGreat
end
