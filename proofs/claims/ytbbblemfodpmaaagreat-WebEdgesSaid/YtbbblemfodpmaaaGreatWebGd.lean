/-A slice literal of structs: what lies in the block that it lays.-/
import Derived.Test.YtbbblemfodpmaaaGreatBox
import Derived.Test.YtbbblemfodpmaaaGreatAppR
import Derived.Test.YtbbblemfodpmaaaGreatOwn
set_option linter.unusedVariables false
set_option linter.unusedSimpArgs false
set_option maxHeartbeats 16000000
set_option maxRecDepth 100000
section
namespace Go.Proofs.YtbbblemfodpmaaaGreat
open Go.RowKit
theorem zDU : ∀ (vs : List Value) (cs : Array Value) (o : Nat),(zAC cs o vs).size = cs.size
 | [],_,_ => rfl
 | v :: r,cs,o => by unfold zAC;rw [zDU r];simp
theorem zEQ : ∀ (vs : List Value) (cs : Array Value) (o i : Nat),o + vs.length ≤ cs.size → (zAC cs o vs)[i]? = if o ≤ i ∧ i < o + vs.length then vs[i - o]? else cs[i]?
 | [],cs,o,i,_ => by rw [if_neg (by simp only [List.length_nil];omega)];rfl
 | v :: r,cs,o,i,h => by
  simp only [List.length_cons] at h;unfold zAC;rw [zEQ r _ _ i (by simp;omega)]
  by_cases h1 : i = o
  ·subst h1;rw [if_neg (by omega),if_pos (by simp),Nat.sub_self];rw [Array.getElem?_setIfInBounds];simp;omega
  ·by_cases h2 : o + 1 ≤ i ∧ i < o + 1 + r.length
   ·rw [if_pos h2,if_pos (by simp;omega),show i - o = (i - (o + 1)) + 1 by omega,List.getElem?_cons_succ]
   ·rw [if_neg h2,if_neg (by simp;omega),Array.getElem?_setIfInBounds,if_neg (by omega)]
theorem zFi (off : Nat) : ∀ (vs : List Value) (j : Nat) (cs : Array Value),(vs.zipIdx j).foldl (fun cs (x : Value × Nat) => cs.setIfInBounds (off + x.2) x.1) cs = zAC cs (off + j) vs
 | [],_,_ => rfl
 | v :: r,j,cs => by
  simp only [List.zipIdx_cons,List.foldl_cons];rw [zFi off r (j + 1)];rfl
theorem zFj (off : Nat) (vs : Array Value) (cs : Array Value) : vs.zipIdx.foldl (fun cs (x : Value × Nat) => cs.setIfInBounds (off + x.2) x.1) cs = zAC cs off vs.toList := by
 rw [← Array.foldl_toList,Array.toList_zipIdx,zFi off vs.toList 0,Nat.add_zero]
variable {α : Type} {enc : α → Array Value} {sz : Nat}
theorem fill_flat (hsz : ∀ x,(enc x).size = sz) : ∀ (l : List α) (k : Nat) (cs : Array Value),(k + l.length) * sz ≤ cs.size →
  ∃ cs',Instr.fill (fun i => some (i * sz,sz)) cs ((l.zipIdx k).map fun p => (p.2,Value.agg (enc p.1))) = some cs' ∧ cs'.size = cs.size ∧
   ∀ i,cs'[i]? = if k * sz ≤ i ∧ i < (k + l.length) * sz then (flat enc l)[i - k * sz]? else cs[i]?
 | [],k,cs,_ => ⟨cs,rfl,rfl,fun i => by rw [if_neg (by simp only [List.length_nil,Nat.add_zero];omega)]⟩
 | x :: l,k,cs,h => by
  have hkl : k + 1 + l.length = k + (x :: l).length := by simp only [List.length_cons];omega
  have hle : (k + 1) * sz ≤ (k + (x :: l).length) * sz := Nat.mul_le_mul_right _ (by simp only [List.length_cons];omega);have hk1 : (k + 1) * sz = k * sz + sz := by rw [Nat.succ_mul]
  have hfit : k * sz + (enc x).toList.length ≤ cs.size := by rw [Array.length_toList,hsz];omega
  have hfit2 : (k + 1 + l.length) * sz ≤ (zAC cs (k * sz) (enc x).toList).size := by rw [zDU,hkl];exact h
  obtain ⟨cs',e1,e2,e3⟩ := fill_flat hsz l (k + 1) (zAC cs (k * sz) (enc x).toList) hfit2;refine ⟨cs', ?_,by rw [e2,zDU],fun i => ?_⟩
  ·simp only [List.zipIdx_cons,List.map_cons,Instr.fill];rw [if_neg (by simp [Value.cells,hsz];simp [hsz] at hfit;exact hfit)];rw [show (Value.agg (enc x)).cells = enc x from rfl,zFj];exact e1
  ·rw [e3 i];rw [hkl];have hfx : flat enc (x :: l) = (enc x).toList ++ flat enc l := by simp [flat]
   have hex : (enc x).toList.length = sz := by simp [hsz]
   by_cases h1 : (k + 1) * sz ≤ i ∧ i < (k + (x :: l).length) * sz
   ·rw [if_pos h1,if_pos ⟨by omega,h1.2⟩,hfx,List.getElem?_append_right (by rw [hex];omega),hex]
    congr 1;omega
   ·rw [if_neg h1,zEQ _ _ _ _ hfit,hex]
    by_cases h2 : k * sz ≤ i ∧ i < k * sz + sz
    ·rw [if_pos h2,if_pos ⟨h2.1,by omega⟩,hfx,List.getElem?_append_left (by rw [hex];omega)]
    ·rw [if_neg h2,if_neg (by omega)]
theorem wpList_lits {P : Program} {w : World} {ops : Array Oper} {rest : List Oper} {o : Oper} {a : Act} {Q : Exit → Act → World → Prop} (l : List α) (hgd : o.guard = none) (st : TypeId) (parts : Array (Nat × Operand)) (n : Nat)
  (ho : o.op = .buildSlice st n parts) {e : TypeId} {bytes : Nat} {z0 : Array Value} (hE : zCd P st e sz bytes) (hzv : (zeroValue e).run P w = .ok (.agg z0) w) (hz0 : z0.size = sz) (h0 : 0 < sz) (hsz : ∀ x,(enc x).size = sz) (hn : n = l.length) (hlen : l.length * sz ≤ 16777216) (hl0 : 0 < l.length)
  (hp : (parts.map fun p => (p.1,a.eval p.2)).toList = (l.zipIdx 0).map fun p => (p.2,Value.agg (enc p.1)))
  (h : ∀ cs,cs.toList = flat enc l → wpList P ops Q rest (a.put o.dst (.slice (some ⟨w.heap.size,0,none⟩) n n)) (w.alloc (.cells cs e))) : wpList P ops Q (o :: rest) a w := by
 obtain ⟨ht,i,z,hi,hz,hs1,hb1,hzs⟩ := hE.out;subst hn;refine wpList_plain hgd fun K' hK' => ?_;have hpos : 0 < l.length * sz := Nat.mul_pos hl0 h0;obtain ⟨cs',e1,e2,e3⟩ := fill_flat (enc := enc) hsz l 0 ((Array.range (l.length * sz)).map fun q => z0[q % z0.size]!) (by simp);have hflat : cs'.toList = flat enc l := by
  apply List.ext_getElem?
  intro q;rw [Array.getElem?_toList,e3 q];rw [Nat.zero_mul,Nat.zero_add,Nat.sub_zero]
  by_cases hq : q < l.length * sz
  ·rw [if_pos ⟨by omega,hq⟩]
  ·rw [if_neg (by omega),List.getElem?_eq_none (by rw [zA2 hsz];omega),Array.getElem?_eq_none (by simp;omega)]
 have hrun : (Instr.buildSlice st l.length (parts.map fun p => (p.1,a.eval p.2))).run P w = .ok (.slice (some ⟨w.heap.size,0,none⟩) l.length l.length) (w.alloc (.cells cs' e)) := by
  have hcells : (Value.agg z0).cells = z0 := rfl;have hp' : parts.toList.map (fun p => (p.1,a.eval p.2)) = (l.zipIdx 0).map fun p => (p.2,Value.agg (enc p.1)) := by rw [← hp,Array.toList_map]
  have hnew : ∀ f : Nat → Value,(f <$> newObj (.cells cs' e)).run P w = .ok (f w.heap.size) (w.alloc (.cells cs' e)) := fun f => by
   rw [← bind_pure_comp,Sem.run_bind,run_newObj_alloc];rfl
  unfold Instr.buildSlice;simp [Sem.run_bind,run_underlying ht,sizeOf,typeInfo,hi,hs1,Nat.not_lt.2 hlen,Nat.ne_of_gt hpos,hzv,hcells,hp',e1,newRow,run_newObj_alloc,hnew,Result.andThen,Nat.ne_of_gt hl0,Nat.ne_of_gt h0]
 unfold Oper.wp;simp only [execOp,ho];have hmap : (parts.map fun x => match x with | (i,x) => (i,a.eval x)) = parts.map fun p => (p.1,a.eval p.2) := rfl;simp [hrun,Sem.run_bind,Result.andThen];exact hK' _ _ (h cs' hflat)
end Go.Proofs.YtbbblemfodpmaaaGreat
end
section
namespace Go.Proofs.YtbbblemfodpmaaaGreat
section
variable {α : Type} {enc : α → Array Value} {sz : Nat}
theorem flat_set (hsz : ∀ x,(enc x).size = sz) (l : List α) (i : Nat) (x : α) (hi : i < l.length) (m : Nat) : (flat enc (l.set i x))[m]? = if i * sz ≤ m ∧ m < i * sz + sz then (enc x)[m - i * sz]? else (flat enc l)[m]? := by
 induction l generalizing i m with
 | nil => simp at hi
 | cons y l ih =>
  cases i with
  | zero =>
   simp only [List.set_cons_zero,flat,List.flatMap_cons,Nat.zero_mul,Nat.zero_add,Nat.zero_le,true_and,Nat.sub_zero]
   by_cases h : m < sz
   ·rw [if_pos h,List.getElem?_append_left (by simp [hsz];exact h),Array.getElem?_toList]
   ·rw [if_neg h,List.getElem?_append_right (by simp [hsz];omega),List.getElem?_append_right (by simp [hsz];omega)];simp [hsz]
  | succ i =>
   have ih := ih i (by simpa using hi) (m - sz);simp only [List.set_cons_succ,flat,List.flatMap_cons] at ih ⊢
   by_cases h : m < sz
   ·rw [List.getElem?_append_left (by simp [hsz];exact h),List.getElem?_append_left (by simp [hsz];exact h),if_neg (by rw [Nat.succ_mul];omega)]
   ·rw [List.getElem?_append_right (by simp [hsz];omega),List.getElem?_append_right (by simp [hsz];omega)];simp only [Array.length_toList,hsz];rw [ih,Nat.succ_mul]
    by_cases h2 : i * sz ≤ m - sz ∧ m - sz < i * sz + sz
    ·rw [if_pos h2,if_pos (by omega)];congr 1;omega
    ·rw [if_neg h2,if_neg (by omega)]
theorem OwnL.store (hsz : ∀ x,(enc x).size = sz) {w : World} {base : Nat} {e : TypeId} {v : Value} {l : List α} (h : OwnL enc sz w base e v l) {i : Nat} (hi : i < l.length) :
  ∃ g cap cur,v = .slice (some ⟨g,0,none⟩) l.length cap ∧ zAd w g e cur ∧ i * sz + sz ≤ cur.size ∧ ∀ w' x,zAd w' g e (zAC cur (i * sz) (enc x).toList) → OwnL enc sz w' base e v (l.set i x) := by
 have hlen := zA2 hsz l
 rcases h.2 with ⟨rfl,h0⟩ | ⟨g,cap,cur,rfl,hb,hh,hn,hm,hc,ht⟩
 ·omega
 ·have hle : i * sz + sz ≤ l.length * sz := by rw [← Nat.succ_mul];exact Nat.mul_le_mul_right _ hi
  have hle2 : l.length * sz ≤ cap * sz := Nat.mul_le_mul_right _ hn;refine ⟨g,cap,cur,rfl,hh,by omega,fun w' x hx => ⟨by rw [zA2 hsz], .inr ⟨g,cap,_,by simp,hb,hx,by simpa using hn,hm,by rw [zDU,hc], ?_⟩⟩⟩
  apply List.ext_getElem?
  intro m;rw [flat_set hsz l i x hi,List.getElem?_take,List.length_set]
  by_cases hmn : m < l.length * sz
  ·rw [if_pos hmn,Array.getElem?_toList,zEQ _ _ _ _ (by simp [hsz];omega)];simp only [Array.length_toList,hsz,Array.getElem?_toList]
   by_cases h2 : i * sz ≤ m ∧ m < i * sz + sz
   ·rw [if_pos h2,if_pos h2]
   ·rw [if_neg h2,if_neg h2,← ht,List.getElem?_take,if_pos hmn,Array.getElem?_toList]
  ·rw [if_neg hmn,if_neg (by omega)];rw [List.getElem?_eq_none (by omega)]
end
end Go.Proofs.YtbbblemfodpmaaaGreat
end
