/-append onto a slice of the call's own: as an operation of a statement whose order Go leaves open.-/
import Derived.Test.YtbbblemfodpmaaaGreatOwn
import Derived.Maps.AppendAt
set_option linter.unusedVariables false
set_option linter.unusedSimpArgs false
set_option maxHeartbeats 16000000
set_option maxRecDepth 100000
namespace Go.Proofs.YtbbblemfodpmaaaGreat
open Go.RowKit
variable {α : Type} {enc : α→Array Value} {sz : Nat} {P : Program} {w : World} {o : Oper} {a : Act} {K : Act→World→Prop} {Q : Exit→Act→World→Prop}
theorem zEa (s x : Operand) (t : TypeId)
  (ho : o.op = .call { callee:=.builtin .append,args:=#[s,x],argTypes:=#[t,t] })
  (base : Nat) {e : TypeId} {bytes : Nat} (hE : zBU P t e sz bytes) (hsz : ∀ x,(enc x).size = sz) (h0 : 0 < sz) (hone : ∀ x,(enc x).all (·.oneCell') = true) (hby : bytes ≤ 10000)
  (v : Value) (l : List α) (hs : a.eval s = v) (hown : OwnL enc sz w base e v l)
  (b off c : Nat) (ys : List α) (hx : a.eval x = .slice (some ⟨b,off,none⟩) ys.length c) (hy : ∀ i y,ys[i]? = some y→∀ j,j < sz→w.cell? ⟨b,off + i * sz + j,none⟩ = (enc y)[j]?)
  (hlen : l.length + ys.length ≤ 4294967296) (hbase : base ≤ w.heap.size)
  (h : ∀ v' w',OwnL enc sz w' base e v' (l ++ ys)→w.grownBy w' v.ownBlock→(v'.ownBlock = v.ownBlock ∨ v'.ownBlock = some w.heap.size)→K (a.put o.dst v') w') : o.wp P a w K Q:=by
 obtain ⟨ht,i,z,hi,hz,hs1,hb1,hzs⟩:=hE.out;obtain ⟨v',w',hr,h2,h3,h4,h5⟩:=run_append_own_at (P:=P) w base t o.type e i z sz bytes ht hi hz hs1 hb1 hzs h0 v l.length (flat enc l) hown ⟨b,off,none⟩ ys.length c (flat enc ys) (zBn hsz ys) (by
  intro j u hj;have hjl : j < ys.length * sz:=by rw [← zBn (enc:=enc) hsz ys];exact (List.getElem?_eq_some_iff.1 hj).1
  have hdiv : j / sz < ys.length:=(Nat.div_lt_iff_lt_mul h0).2 hjl;have hmod : j % sz < sz:=Nat.mod_lt _ h0;have hjj : j / sz * sz + j % sz = j:=by rw [Nat.mul_comm];exact Nat.div_add_mod j sz
  have e1:=zC6 (enc:=enc) hsz ys (j / sz) ys[j / sz] (List.getElem?_eq_getElem hdiv) (j % sz) hmod;have e2:=hy (j / sz) ys[j / sz] (List.getElem?_eq_getElem hdiv) (j % sz) hmod;rw [hjj] at e1;rw [Nat.add_assoc,hjj] at e2;have hadd : (⟨b,off,none⟩ : Addr).add j = ⟨b,off + j,none⟩:=by unfold Addr.add;split <;> simp_all
  rw [hadd,e2,← e1,hj]) (zD1 hone ys) (by unfold maxLen;omega) (by
  calc (l.length + ys.length) * bytes ≤ 4294967296 * 10000:=Nat.mul_le_mul hlen hby
   _ ≤ 140737488355328:=by decide) hbase
 unfold Oper.wp execOp;simp only [ho,resolve,invoke,builtin,Sem.run_bind,Sem.run_pure,Result.andThen_ok,List.map_toArray,List.map_cons,List.map_nil,hs,hx,hr];refine h v' w' ?_ h3 h5;unfold OwnL;rw [zEA,List.length_append];exact h2
theorem zFQ (s x : Operand) (t : TypeId)
  (ho : o.op = .call { callee:=.builtin .append,args:=#[s,x],argTypes:=#[t,t] })
  (base : Nat) {e : TypeId} {bytes : Nat} (hE : zBU P t e sz bytes) (h0 : 0 < sz) (hby : bytes ≤ 10000)
  (v : Value) (l : List α) (hs : a.eval s = v) (hown : OwnL enc sz w base e v l)
  (p : Addr) (c : Nat) (hx : a.eval x = .slice (some p) 0 c) (hlen : l.length ≤ 4294967296) (hbase : base ≤ w.heap.size)
  (h : ∀ v' w',OwnL enc sz w' base e v' l→w.grownBy w' v.ownBlock→(v'.ownBlock = v.ownBlock ∨ v'.ownBlock = some w.heap.size)→K (a.put o.dst v') w') : o.wp P a w K Q:=by
 obtain ⟨ht,i,z,hi,hz,hs1,hb1,hzs⟩:=hE.out;obtain ⟨v',w',hr,h2,h3,h4,h5⟩:=run_append_own_at (P:=P) w base t o.type e i z sz bytes ht hi hz hs1 hb1 hzs h0 v l.length (flat enc l) hown p 0 c [] (by simp) (by simp) (by simp) (by unfold maxLen;omega) (by
  calc (l.length + 0) * bytes ≤ 4294967296 * 10000:=Nat.mul_le_mul hlen hby
   _ ≤ 140737488355328:=by decide) hbase
 unfold Oper.wp execOp;simp only [ho,resolve,invoke,builtin,Sem.run_bind,Sem.run_pure,Result.andThen_ok,List.map_toArray,List.map_cons,List.map_nil,hs,hx,hr];refine h v' w' ?_ h3 h5;unfold OwnL;simpa using h2
theorem zCa (s x : Operand) (t : TypeId)
  (ho : o.op = .call { callee:=.builtin .append,args:=#[s,x],argTypes:=#[t,t] })
  (base : Nat) {e : TypeId} {bytes : Nat} (hE : zBU P t e sz bytes) (hsz : ∀ x,(enc x).size = sz) (h0 : 0 < sz) (hone : ∀ x,(enc x).all (·.oneCell') = true) (hby : bytes ≤ 10000)
  (v : Value) (l : List α) (hs : a.eval s = v) (hown : OwnL enc sz w base e v l)
  (b off c : Nat) (y : α) (hx : a.eval x = .slice (some ⟨b,off,none⟩) 1 c) (hy : ∀ j,j < sz→w.cell? ⟨b,off + j,none⟩ = (enc y)[j]?)
  (hlen : l.length + 1 ≤ 4294967296) (hbase : base ≤ w.heap.size)
  (h : ∀ v' w',OwnL enc sz w' base e v' (l ++ [y])→w.grownBy w' v.ownBlock→(v'.ownBlock = v.ownBlock ∨ v'.ownBlock = some w.heap.size)→K (a.put o.dst v') w') : o.wp P a w K Q:=by
 refine zEa s x t ho base hE hsz h0 hone hby v l hs hown b off c [y] hx (fun i y' hi j hj=>?_) hlen hbase h
 rcases i with _ | i
 ·simp at hi;subst hi;simpa using hy j hj
 ·simp at hi
theorem zGk (s x : Operand) (t : TypeId)
  (ho : o.op = .call { callee:=.builtin .append,args:=#[s,x],argTypes:=#[t,t] })
  (base : Nat) {e : TypeId} {bytes : Nat} (hE : zBU P t e sz bytes) (hsz : ∀ x,(enc x).size = sz) (h0 : 0 < sz) (hone : ∀ x,(enc x).all (·.oneCell') = true) (hby : bytes ≤ 10000)
  (v : Value) (l : List α) (hs : a.eval s = v) (hown : OwnL enc sz w base e v l) {ok : (Nat→Prop)→World→α→Prop} {D : Nat→Prop}
  (y : Sl α) (hx : a.eval x = y.v) (hy : Sl.OK sz enc ok D w y)
  (hlen : l.length + y.val.length ≤ 4294967296) (hbase : base ≤ w.heap.size)
  (h : ∀ v' w',OwnL enc sz w' base e v' (l ++ y.val)→w.grownBy w' v.ownBlock→(v'.ownBlock = v.ownBlock ∨ v'.ownBlock = some w.heap.size)→K (a.put o.dst v') w') : o.wp P a w K Q:=by
 obtain ⟨ya,yc,ys⟩:=y
 cases ha : ya with
 | none=>
  obtain ⟨h1,h2⟩:=hy.isNil ha;simp only at h1 h2;subst ha h1 h2;obtain ⟨ht,i,z,hi,hz,hs1,hb1,hzs⟩:=hE.out;have hr:=run_append_owned_none (P:=P) (w:=w) base t o.type e i sz ht hi v l.length (flat enc l) hown;unfold Oper.wp execOp;simp only [Sl.v,List.length_nil] at hx;simp only [ho,resolve,invoke,builtin,Sem.run_bind,Sem.run_pure,Result.andThen_ok,List.map_toArray,List.map_cons,List.map_nil,hs,hx,hr];exact h v w (by simpa using hown) ⟨rfl,rfl,rfl,Nat.le_refl _,fun _ _ _=>rfl⟩ (.inl rfl)
 | some p=>
  subst ha;obtain ⟨b,off,sp⟩:=p
  by_cases hz : ys = []
  ·subst hz;exact zFQ s x t ho base hE h0 hby v l hs hown _ yc hx (by simpa using hlen) hbase (by simpa using h)
  obtain ⟨h1,_,_⟩:=hy.place _ rfl (List.length_pos_iff.2 hz);simp only at h1;subst h1;exact zEa s x t ho base hE hsz h0 hone hby v l hs hown b off yc ys hx (fun i y hi j hj=>hy.cell b off rfl i y hi j hj) hlen hbase h
theorem zDN {ops : Array Oper} {rest : List Oper} (hgd : o.guard = none) (s x : Operand) (t : TypeId)
  (ho : o.op = .call { callee:=.builtin .append,args:=#[s,x],argTypes:=#[t,t] })
  (base : Nat) {e : TypeId} {bytes : Nat} (hE : zBU P t e sz bytes) (hsz : ∀ x,(enc x).size = sz) (h0 : 0 < sz) (hone : ∀ x,(enc x).all (·.oneCell') = true) (hby : bytes ≤ 10000)
  (v : Value) (l : List α) (hs : a.eval s = v) (hown : OwnL enc sz w base e v l) {ok : (Nat→Prop)→World→α→Prop} {D : Nat→Prop}
  (y : Sl α) (hx : a.eval x = y.v) (hy : Sl.OK sz enc ok D w y)
  (hlen : l.length + y.val.length ≤ 4294967296) (hbase : base ≤ w.heap.size)
  (h : ∀ v' w',OwnL enc sz w' base e v' (l ++ y.val)→w.grownBy w' v.ownBlock→(v'.ownBlock = v.ownBlock ∨ v'.ownBlock = some w.heap.size)→wpList P ops Q rest (a.put o.dst v') w') : wpList P ops Q (o :: rest) a w:=
 wpList_plain hgd fun K' hK'=>zGk s x t ho base hE hsz h0 hone hby v l hs hown y hx hy hlen hbase fun v' w' h1 h2 h3=>hK' _ _ (h v' w' h1 h2 h3)
end Go.Proofs.YtbbblemfodpmaaaGreat
