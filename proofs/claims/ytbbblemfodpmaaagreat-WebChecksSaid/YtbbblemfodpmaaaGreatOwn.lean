/-Slices that the call itself fills by append, whatever their elements: what they hold as a Lean list; the law at append; the way back to 'a slice that lies whole in memory'.-/
import Derived.Test.YtbbblemfodpmaaaGreatMaps
import Derived.Deep.DeepAppendWide
set_option linter.unusedVariables false
set_option linter.unusedSimpArgs false
set_option maxHeartbeats 16000000
set_option maxRecDepth 100000
namespace Go.Proofs.YtbbblemfodpmaaaGreat
open Go.RowKit
def zBU (P : Program) (t e : TypeId) (sz bytes : Nat) : Prop:=
 P.underlying t = some (.slice e)∧(P.info? e).map (fun i=>(i.zero.map (fun z=>z.cells.size),i.size,i.bytes)) = some (some sz,sz,bytes)
theorem zBU.out {P : Program} {t e : TypeId} {sz bytes : Nat} (h : zBU P t e sz bytes) :
  P.underlying t = some (.slice e)∧∃ i z,P.info? e = some i∧i.zero = some z∧i.size = sz∧i.bytes = bytes∧z.cells.size = sz:=by
 obtain ⟨h1,h2⟩:=h;refine ⟨h1, ?_⟩
 cases hi : P.info? e with
 | none=>simp [hi] at h2
 | some i=>
  cases hz : i.zero with
  | none=>simp [hi,hz] at h2
  | some z=>
   simp [hi,hz] at h2;exact ⟨i,z,rfl,hz,h2.2.1,h2.2.2,h2.1⟩
variable {α : Type} {enc : α→Array Value} {sz : Nat}
def flat (enc : α→Array Value) (l : List α) : List Value:=l.flatMap fun x=>(enc x).toList
theorem zBn (hsz : ∀ x,(enc x).size = sz) : ∀ l : List α,(flat enc l).length = l.length * sz
 | []=>by simp [flat]
 | x :: l=>by
  have:=zBn hsz l;simp only [flat,List.flatMap_cons,List.length_append,Array.length_toList,List.length_cons] at this ⊢;rw [hsz,this,Nat.succ_mul,Nat.add_comm]
theorem zEA (l l' : List α) : flat enc (l ++ l') = flat enc l ++ flat enc l':=by simp [flat]
theorem zC6 (hsz : ∀ x,(enc x).size = sz) : ∀ (l : List α) (i : Nat) (x : α),l[i]? = some x→∀ j,j < sz→(flat enc l)[i * sz + j]? = (enc x)[j]?
 | [],_,_,h,_,_=>by simp at h
 | y :: l,0,x,h,j,hj=>by
  simp at h;subst h;simp only [flat,List.flatMap_cons,Nat.zero_mul,Nat.zero_add];rw [List.getElem?_append_left (by simpa [hsz] using hj)];simp
 | y :: l,i + 1,x,h,j,hj=>by
  have ih:=zC6 hsz l i x (by simpa using h) j hj;simp only [flat,List.flatMap_cons] at ih ⊢;rw [List.getElem?_append_right (by simp [hsz,Nat.succ_mul];omega)];simp only [Array.length_toList,hsz];rw [show (i + 1) * sz + j - sz = i * sz + j by rw [Nat.succ_mul];omega];exact ih
theorem zD1 (h1 : ∀ x,(enc x).all (·.oneCell') = true) (l : List α) : ∀ u ∈ flat enc l,u.oneCell' = true:=by
 intro u hu;obtain ⟨x,_,hx⟩:=List.mem_flatMap.1 hu;have:=h1 x;rw [Array.all_eq_true_iff_forall_mem] at this;exact this u (by simpa using hx)
def OwnL (enc : α→Array Value) (sz : Nat) (w : World) (base : Nat) (e : TypeId) (v : Value) (l : List α) : Prop:=w.ownsRow base e sz v l.length (flat enc l)
theorem OwnL.nil (enc : α→Array Value) (sz : Nat) (w : World) (base : Nat) (e : TypeId) : OwnL enc sz w base e (.slice none 0 0) []:=World.ownsRow_nil w base e sz
theorem OwnL.kept {w w' : World} {base : Nat} {e : TypeId} {v : Value} {l : List α} (h : OwnL enc sz w base e v l) (hb : ∀ g,v.ownBlock = some g→w'.heap[g]? = w.heap[g]?) : OwnL enc sz w' base e v l:=by
 refine ⟨h.1, ?_⟩
 rcases h.2 with h2 | ⟨g,cap,cur,rfl,h3,h4,h5⟩
 ·exact .inl h2
 ·exact .inr ⟨g,cap,cur,rfl,h3,(hb g rfl).trans h4,h5⟩
theorem OwnL.block {w : World} {base : Nat} {e : TypeId} {v : Value} {l : List α} (h : OwnL enc sz w base e v l) : ∀ g,v.ownBlock = some g→base ≤ g∧g < w.heap.size:=by
 intro g hg
 rcases h.2 with ⟨rfl,_⟩ | ⟨g',cap,cur,rfl,h3,h4,_⟩
 ·simp [Value.ownBlock] at hg
 ·simp [Value.ownBlock] at hg;subst hg;exact ⟨h3,(Array.getElem?_eq_some_iff.1 h4).1⟩
theorem OwnL.below {w w' : World} {n base : Nat} {e : TypeId} {v : Value} {l : List α} (h : OwnL enc sz w base e v l) (hb : Below n w w') (hn : ∀ g,v.ownBlock = some g→g < n) : OwnL enc sz w' base e v l:=
 h.kept fun g hg=>hb.block g (hn g hg)
theorem OwnL.belowAll {w w' : World} {base : Nat} {e : TypeId} {v : Value} {l : List α} (h : OwnL enc sz w base e v l) (hb : Below w.heap.size w w') : OwnL enc sz w' base e v l:=
 h.below hb fun g hg=>(h.block g hg).2
theorem OwnL.turn {w w' : World} {b base : Nat} {e : TypeId} {v : Value} {l : List α} (h : OwnL enc sz w base e v l) (hb : Turn b w w') (hn : v.ownBlock ≠ some b) : OwnL enc sz w' base e v l:=
 h.kept fun g hg=>hb.block g (fun e=>hn (e ▸ hg))
theorem OwnL.base_le {w : World} {base base' : Nat} {e : TypeId} {v : Value} {l : List α} (h : OwnL enc sz w base e v l) (hb : base' ≤ base) : OwnL enc sz w base' e v l:=by
 refine ⟨h.1, ?_⟩
 rcases h.2 with h2 | ⟨g,cap,cur,h0,h3,h4,h5⟩
 ·exact .inl h2
 ·exact .inr ⟨g,cap,cur,h0,Nat.le_trans hb h3,h4,h5⟩
theorem OwnL.sl {w : World} {base : Nat} {e : TypeId} {v : Value} {l : List α} (h : OwnL enc sz w base e v l) (hsz : ∀ x,(enc x).size = sz) (ok : (Nat→Prop)→World→α→Prop) (D : Nat→Prop)
  (hok : ∀ x ∈ l,ok D w x) (hD : ∀ k,base ≤ k→¬ D k) (hl : l.length ≤ 4294967296) :
  ∃ s : Sl α,v = s.v∧s.val = l∧Sl.OK sz enc ok D w s∧(∀ p,s.a = some p→base ≤ p.block):=by
 rcases h.2 with ⟨rfl,h0⟩ | ⟨g,cap,cur,rfl,h3,h4,h5,h6,h7,h8⟩
 ·have : l = []:=List.eq_nil_of_length_eq_zero h0;subst this;exact ⟨Sl.nil,rfl,rfl,Sl.OK.nil _ _ _ _ _,fun p hp=>by simp [Sl.nil] at hp⟩
 ·refine ⟨⟨some ⟨g,0,none⟩,cap,l⟩,rfl,rfl,⟨h5,hl,fun hn=>by simp at hn,fun p hp _=>?_,hok,fun b o ha i x hi j hj=>?_⟩,fun p hp=>?_⟩
  ·simp at hp;subst hp;exact ⟨rfl,hD _ h3,(Array.getElem?_eq_some_iff.1 h4).1⟩
  ·simp at ha;obtain ⟨rfl,rfl⟩:=ha;have hf:=zC6 hsz l i x hi j hj;rw [← hf,← h8];have hil : i < l.length:=(List.getElem?_eq_some_iff.1 hi).1;have hlt : i * sz + j < l.length * sz:=by
    calc i * sz + j < i * sz + sz:=by omega
     _ = (i + 1) * sz:=by rw [Nat.succ_mul]
     _ ≤ l.length * sz:=Nat.mul_le_mul_right _ hil
   rw [List.getElem?_take_of_lt hlt];simp [World.cell?,h4]
  ·simp at hp;subst hp;exact h3
theorem zDL {P : Program} {w : World} {ops : Array Oper} {rest : List Oper} {o : Oper} {a : Act} {Q : Exit→Act→World→Prop} (hgd : o.guard = none) (s x : Operand) (t : TypeId)
  (ho : o.op = .call { callee:=.builtin .append,args:=#[s,x],argTypes:=#[t,t] })
  (base : Nat) {e : TypeId} {bytes : Nat} (hE : zBU P t e sz bytes) (hsz : ∀ x,(enc x).size = sz) (h0 : 0 < sz) (hone : ∀ x,(enc x).all (·.oneCell') = true) (hby : bytes ≤ 10000)
  (v : Value) (l : List α) (hs : a.eval s = v) (hown : OwnL enc sz w base e v l)
  (b off c : Nat) (ys : List α) (hx : a.eval x = .slice (some ⟨b,off,none⟩) ys.length c) (hy : ∀ i y,ys[i]? = some y→∀ j,j < sz→w.cell? ⟨b,off + i * sz + j,none⟩ = (enc y)[j]?)
  (hlen : l.length + ys.length ≤ 4294967296) (hbase : base ≤ w.heap.size)
  (h : ∀ v' w',OwnL enc sz w' base e v' (l ++ ys)→w.grownBy w' v.ownBlock→(v' = .slice none 0 0 ↔ v = .slice none 0 0∧ys = [])→wpList P ops Q rest (a.put o.dst v') w') : wpList P ops Q (o :: rest) a w:=by
 obtain ⟨ht,i,z,hi,hz,hs1,hb1,hzs⟩:=hE.out;refine wpList_append_own_wide w hgd s x t ho base e i z sz bytes ht hi hz hs1 hb1 hzs h0 v l.length (flat enc l) hs hown ⟨b,off,none⟩ ys.length c (flat enc ys) hx (zBn hsz ys) ?_ (zD1 hone ys) (by unfold maxLen;omega) ?_ hbase ?_
 ·intro j u hj;have hjl : j < ys.length * sz:=by rw [← zBn (enc:=enc) hsz ys];exact (List.getElem?_eq_some_iff.1 hj).1
  have hdiv : j / sz < ys.length:=(Nat.div_lt_iff_lt_mul h0).2 hjl;have hmod : j % sz < sz:=Nat.mod_lt _ h0;have hjj : j / sz * sz + j % sz = j:=by rw [Nat.mul_comm];exact Nat.div_add_mod j sz
  have e1:=zC6 (enc:=enc) hsz ys (j / sz) ys[j / sz] (List.getElem?_eq_getElem hdiv) (j % sz) hmod;have e2:=hy (j / sz) ys[j / sz] (List.getElem?_eq_getElem hdiv) (j % sz) hmod;rw [hjj] at e1;rw [Nat.add_assoc,hjj] at e2;have hadd : (⟨b,off,none⟩ : Addr).add j = ⟨b,off + j,none⟩:=by unfold Addr.add;split <;> simp_all
  rw [hadd,e2,← e1,hj]
 ·calc (l.length + ys.length + (l.length + ys.length) / 4 + 192) * bytes ≤ (4294967296 + 4294967296 / 4 + 192) * 10000:=Nat.mul_le_mul (by omega) hby
   _ ≤ 281474976710656:=by decide
 ·intro v' w' h1 h2 h3;refine h v' w' ?_ h2 (h3.trans (and_congr_right fun _=>List.length_eq_zero_iff));unfold OwnL;rw [zEA,List.length_append];exact h1
theorem zDM {P : Program} {w : World} {ops : Array Oper} {rest : List Oper} {o : Oper} {a : Act} {Q : Exit→Act→World→Prop} (hgd : o.guard = none) (s x : Operand) (t : TypeId)
  (ho : o.op = .call { callee:=.builtin .append,args:=#[s,x],argTypes:=#[t,t] })
  (base : Nat) {e : TypeId} {bytes : Nat} (hE : zBU P t e sz bytes) (h0 : 0 < sz) (hby : bytes ≤ 10000)
  (v : Value) (l : List α) (hs : a.eval s = v) (hown : OwnL enc sz w base e v l)
  (p : Addr) (c : Nat) (hx : a.eval x = .slice (some p) 0 c) (hlen : l.length ≤ 4294967296) (hbase : base ≤ w.heap.size)
  (h : ∀ v' w',OwnL enc sz w' base e v' l→w.grownBy w' v.ownBlock→(v' = .slice none 0 0 ↔ v = .slice none 0 0)→wpList P ops Q rest (a.put o.dst v') w') : wpList P ops Q (o :: rest) a w:=by
 obtain ⟨ht,i,z,hi,hz,hs1,hb1,hzs⟩:=hE.out;refine wpList_append_own_wide w hgd s x t ho base e i z sz bytes ht hi hz hs1 hb1 hzs h0 v l.length (flat enc l) hs hown p 0 c [] hx (by simp) (by simp) (by simp) (by unfold maxLen;omega) ?_ hbase ?_
 ·calc (l.length + 0 + (l.length + 0) / 4 + 192) * bytes ≤ (4294967296 + 4294967296 / 4 + 192) * 10000:=Nat.mul_le_mul (by omega) hby
   _ ≤ 281474976710656:=by decide
 ·intro v' w' h1 h2 h3;refine h v' w' ?_ h2 (h3.trans (by simp));unfold OwnL;simpa using h1
theorem Below.appended {w w' : World} {n base : Nat} {e : TypeId} {v : Value} {l : List α} (h : OwnL enc sz w base e v l) (hg : w.grownBy w' v.ownBlock) (hn : n ≤ base) (hb : base ≤ w.heap.size) : Below n w w':=
 (Below.refl n w).grown hg (Nat.le_trans hn hb) fun k hk=>Nat.le_trans hn (h.block k hk).1
end Go.Proofs.YtbbblemfodpmaaaGreat
