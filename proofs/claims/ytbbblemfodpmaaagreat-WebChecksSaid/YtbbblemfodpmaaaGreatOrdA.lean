/-.. where several operations, each of which makes a box of one type, may come up in any order: one walk for all orders.-/
import Derived.Test.YtbbblemfodpmaaaGreatOrd
import Derived.Test.YtbbblemfodpmaaaGreatBox
set_option linter.unusedVariables false
set_option linter.unusedSimpArgs false
set_option maxHeartbeats 16000000
set_option maxRecDepth 100000
namespace Go.Proofs.YtbbblemfodpmaaaGreat
open Go.RowKit
section
variable {P : Program} {ops : Array Oper} {Q : Exit→Act→World→Prop} {rest : List (Nat × Bool)} {S : World→Prop}
def zBh (b : Nat) : Value:=.pointer (some ⟨b,0,none⟩)
def zAP (f : Nat→Nat) : List (Nat × Nat)→Act→Act
 | [],a=>a
 | p :: r,a=>zAP f r (a.put (some p.2) (zBh (f p.1)))
def allocN (c : Obj) : Nat→World→World
 | 0,w=>w
 | n + 1,w=>allocN c n (w.alloc c)
theorem put_comm {d e : Nat} (h : d ≠ e) (a : Act) (u v : Value) : (a.put (some d) u).put (some e) v = (a.put (some e) v).put (some d) u:=by
 simp only [Act.put]
 congr 1
 exact Array.setIfInBounds_comm _ _ h
theorem zEV {f : Nat→Nat} {k : Nat × Nat} : ∀ (l : List (Nat × Nat)) (a : Act),k ∈ l→(l.map (·.2)).Nodup→zAP f l a = zAP f (l.erase k) (a.put (some k.2) (zBh (f k.1)))
 | [],_,h,_=>by cases h
 | p :: r,a,h,hn=>by
  by_cases hpk : p = k
  ·subst hpk;simp [zAP]
  ·have hk : k ∈ r:=by
    rcases List.mem_cons.1 h with h | h
    ·exact absurd h.symm hpk
    ·exact h
   rw [List.erase_cons_tail (by simpa using hpk)]
   show zAP f r _ = zAP f (r.erase k) _
   have hn':=List.nodup_cons.1 hn;have hne : p.2 ≠ k.2:=fun e=>hn'.1 (List.mem_map.2 ⟨k,hk,e.symm⟩);rw [zEV r _ hk hn'.2,put_comm hne]
theorem zEC {f g : Nat→Nat} : ∀ (l : List (Nat × Nat)) (a : Act),(∀ p ∈ l,f p.1 = g p.1)→zAP f l a = zAP g l a
 | [],_,_=>rfl
 | p :: r,a,h=>by
  show zAP f r _ = zAP g r _
  rw [h p (by simp),zEC r _ fun q hq=>h q (by simp [hq])]
theorem zEm {l : List (Nat × Nat)} (h : (l.map (·.1)).Nodup) : l.Nodup:=by
 unfold List.Nodup at *;rw [List.pairwise_map] at h;exact h.imp fun {a b} hab e=>hab (by rw [e])
theorem zDR {a b : Nat × Nat} : ∀ {l : List (Nat × Nat)},(l.map (·.1)).Nodup→a ∈ l→b ∈ l→a.1 = b.1→a = b
 | [],_,h,_,_=>by cases h
 | c :: l,hn,ha,hb,e=>by
  have hn:=List.nodup_cons.1 hn
  rcases List.mem_cons.1 ha with ha | ha <;> rcases List.mem_cons.1 hb with hb | hb
  ·rw [ha,hb]
  ·exact absurd (List.mem_map.2 ⟨b,hb,by rw [← e,ha]⟩) hn.1
  ·exact absurd (List.mem_map.2 ⟨a,ha,by rw [e,hb]⟩) hn.1
  ·exact zDR hn.2 ha hb e
def zEM (ops : Array Oper) (rest : List (Nat × Bool)) : Nat→List (Nat × Nat)→Array Bool→Bool
 | 0,is,listed=>is.isEmpty && zCE ops rest listed
 | n + 1,is,listed=>(Region.ready .any ops listed == is.map (·.1)) && !is.isEmpty && is.all fun k=>zEM ops rest n (is.erase k) (listed.setIfInBounds k.1 true)
theorem zFi {c : Obj} (hs : Region.noSelect ops = true) (hQ : ∀ d c (a : Act) v w,Q (.panic c) (a.put d v) w→Q (.panic c) a w) (hSa : ∀ W,S W→S (W.alloc c)) : ∀ (n : Nat) (is : List (Nat × Nat)) (fuel : Nat) (listed : Array Bool) (a : Act) (w : World),
  zEM ops rest n is listed = true→n + rest.length ≤ fuel→S w→(is.map (·.1)).Nodup→(is.map (·.2)).Nodup→
  (∀ k ∈ is,∀ (K : Act→World→Prop) a w,K (a.put (some k.2) (zBh w.heap.size)) (w.alloc c)→wpOp P ops Q k.1 K a w)→
  (∀ f : Nat→Nat,(∀ k ∈ is,w.heap.size ≤ f k.1∧f k.1 < w.heap.size + n)→(∀ k ∈ is,∀ j ∈ is,f k.1 = f j.1→k.1 = j.1)→wpS P ops Q S rest (zAP f is a) (allocN c n w))→
  wpAnyH P .any ops Q S fuel listed a w
 | 0,is,fuel,listed,a,w,hok,hl,hS,_,_,_,H=>by
  simp only [zEM,Bool.and_eq_true,List.isEmpty_iff] at hok;obtain ⟨rfl,hok⟩:=hok;exact zDP hs hQ rest fuel listed a w hok (by omega) hS (H id (by simp) (by simp))
 | n + 1,is,0,_,_,_,_,hl,_,_,_,_,_=>by omega
 | n + 1,is,fuel + 1,listed,a,w,hok,hl,hS,h1,h2,hop,H=>by
  simp only [zEM,Bool.and_eq_true,beq_iff_eq,Bool.not_eq_true',List.all_eq_true] at hok;obtain ⟨⟨hr,hne⟩,hall⟩:=hok;refine ⟨fun h0=>?_,fun i hi=>?_⟩
  ·rw [hr] at h0;rw [List.map_eq_nil_iff.1 h0] at hne;simp at hne
  ·rw [hr] at hi;obtain ⟨k,hk,rfl⟩:=List.mem_map.1 hi;have hok':=hall k hk;have hs1 : (w.alloc c).heap.size = w.heap.size + 1:=by simp
   have hnd : is.Nodup:=zEm h1;have hsub:=List.erase_sublist (a:=k) (l:=is);have hmem : ∀ j ∈ is.erase k,j ∈ is:=fun j hj=>hsub.subset hj;have hkn : ∀ j ∈ is.erase k,j.1 ≠ k.1:=fun j hj e=>by
    have hjk : j ≠ k:=fun e2=>by rw [e2] at hj;exact absurd hj (hnd.not_mem_erase)
    exact hjk (zDR h1 (hmem j hj) hk e)
   refine hop k hk _ a w ⟨hSa _ hS, ?_⟩;refine zFi hs hQ hSa n (is.erase k) fuel _ _ (w.alloc c) hok' (by omega) (hSa _ hS) (hsub.map _ |>.nodup h1) (hsub.map _ |>.nodup h2) (fun j hj=>hop j (hmem j hj)) fun f hf hi=>?_;have e : ∀ j ∈ is.erase k,(fun i=>if i = k.1 then w.heap.size else f i) j.1 = f j.1:=fun j hj=>if_neg (hkn j hj);have h:=H (fun i=>if i = k.1 then w.heap.size else f i) (fun j hj=>?_) (fun j hj j' hj'=>?_)
   ·rw [zEV is a hk h2,zEC _ _ e,if_pos rfl] at h;exact h
   ·by_cases hjk : j.1 = k.1
    ·simp [hjk]
    ·have hje : j ∈ is.erase k:=(List.mem_erase_of_ne (fun e=>hjk (by rw [e]))).2 hj;have:=hf j hje;simp only [hjk,if_false];omega
   ·intro he
    by_cases hjk : j.1 = k.1 <;> by_cases hjk' : j'.1 = k.1
    ·rw [hjk,hjk']
    ·have:=hf j' ((List.mem_erase_of_ne (fun e=>hjk' (by rw [e]))).2 hj');simp only [hjk,hjk',if_true,if_false] at he;omega
    ·have:=hf j ((List.mem_erase_of_ne (fun e=>hjk (by rw [e]))).2 hj);simp only [hjk,hjk',if_true,if_false] at he;omega
    ·simp only [hjk,hjk',if_false] at he;exact hi j ((List.mem_erase_of_ne (fun e=>hjk (by rw [e]))).2 hj) j' ((List.mem_erase_of_ne (fun e=>hjk' (by rw [e]))).2 hj') he
def preOK (ops : Array Oper) (rest : List (Nat × Bool)) (n : Nat) (is : List (Nat × Nat)) : List Nat→Array Bool→Bool
 | [],listed=>zEM ops rest n is listed
 | k :: pre,listed=>(Region.ready .any ops listed).contains k && Region.free .any ops listed k && preOK ops rest n is pre (listed.setIfInBounds k true)
def wpA (P : Program) (ops : Array Oper) (Q : Exit→Act→World→Prop) (S : World→Prop) (rest : List (Nat × Bool)) (n : Nat) (is : List (Nat × Nat)) (c : Obj) : List Nat→Act→World→Prop
 | [],a,w=>∀ f : Nat→Nat,(∀ k ∈ is,w.heap.size ≤ f k.1∧f k.1 < w.heap.size + n)→(∀ k ∈ is,∀ j ∈ is,f k.1 = f j.1→k.1 = j.1)→wpS P ops Q S rest (zAP f is a) (allocN c n w)
 | k :: pre,a,w=>∃ o v,ops[k]? = some o∧YieldsIf P ops S o v a∧wpA P ops Q S rest n is c pre (a.put o.dst v) w
theorem wpA_sound {c : Obj} {n : Nat} {is : List (Nat × Nat)} (hs : Region.noSelect ops = true) (hQ : ∀ d c (a : Act) v w,Q (.panic c) (a.put d v) w→Q (.panic c) a w) (hSa : ∀ W,S W→S (W.alloc c)) (h1 : (is.map (·.1)).Nodup) (h2 : (is.map (·.2)).Nodup)
  (hop : ∀ k ∈ is,∀ (K : Act→World→Prop) a w,K (a.put (some k.2) (zBh w.heap.size)) (w.alloc c)→wpOp P ops Q k.1 K a w) : ∀ (pre : List Nat) (fuel : Nat) (listed : Array Bool) (a : Act) (w : World),
  preOK ops rest n is pre listed = true→pre.length + n + rest.length ≤ fuel→S w→wpA P ops Q S rest n is c pre a w→wpAnyH P .any ops Q S fuel listed a w
 | [],fuel,listed,a,w,hok,hl,hS,h=>zFi hs hQ hSa n is fuel listed a w hok (by simpa using hl) hS h1 h2 hop h
 | k :: pre,0,_,_,_,_,hl,_,_=>by simp at hl
 | k :: pre,fuel + 1,listed,a,w,hok,hl,hS,h=>by
  obtain ⟨o,v,hi,hy,hrest⟩:=h;simp only [preOK,Bool.and_eq_true] at hok;obtain ⟨⟨hr,hf⟩,hok'⟩:=hok;exact wpAnyH_first hi (Region.noSelect_spec hs) (fun c a w h=>hQ o.dst c a v w h) fuel listed a w (Region.free_spec hi hf) (by simpa using hr) hy hS
   (wpA_sound hs hQ hSa h1 h2 hop pre fuel _ _ w hok' (by simp only [List.length_cons] at hl;omega) hS hrest)
theorem zFR (S : World→Prop) (pre : List Nat) (n : Nat) (is : List (Nat × Nat)) (c : Obj) (rest : List (Nat × Bool)) {id : Nat} {a : Act} {w : World} (hm : P.follows .mixedOrders = true) (hs : Region.noSelect ops = true)
  (hok : (decide (pre.length + n + rest.length ≤ ops.size) && preOK ops rest n is pre (Array.replicate ops.size false)) = true)
  (h1 : (is.map (·.1)).Nodup) (h2 : (is.map (·.2)).Nodup)
  (hQ : ∀ d c (a : Act) v w,Q (.panic c) (a.put d v) w→Q (.panic c) a w) (hSa : ∀ W,S W→S (W.alloc c)) (hS : S w.drew)
  (hop : ∀ k ∈ is,∀ (K : Act→World→Prop) a w,K (a.put (some k.2) (zBh w.heap.size)) (w.alloc c)→wpOp P ops Q k.1 K a w)
  (h : wpA P ops Q S rest n is c pre a w.drew) : (Code.region id ops true).wp P Q a w:=by
 simp only [Bool.and_eq_true,decide_eq_true_eq] at hok;exact wp_region_held (S:=S) hm (wpA_sound hs hQ hSa h1 h2 hop pre ops.size _ a w.drew hok.2 hok.1 hS h)
theorem zCq {c : Obj} {n : Nat} {is : List (Nat × Nat)} {k : Nat} {pre : List Nat} {a : Act} {w : World} {dst : Option Tmp} {op : Op} {ty : TypeId} {pos : String} {after : Array Edge} {g : Option (Nat × Bool)} {v : Value} (hi : ops[k]? = some ⟨dst,op,ty,pos,after,g⟩)
  (hw : Region.wanted ⟨dst,op,ty,pos,after,g⟩ (yielded ops a.tmps) = true)
  (hrun : ∀ W,S W→(execOp a.eval ⟨dst,op,ty,pos,after,g⟩).run P W = .ok (.value v) W) (h : wpA P ops Q S rest n is c pre (a.put dst v) w) : wpA P ops Q S rest n is c (k :: pre) a w:=
 ⟨_,v,hi, .inl ⟨hw,hrun⟩,h⟩
theorem wA {c : Obj} {n : Nat} {is : List (Nat × Nat)} {k : Nat} {pre : List Nat} {a : Act} {w : World} {dst : Option Tmp} {op : Op} {ty : TypeId} {pos : String} {after : Array Edge} {g : Option (Nat × Bool)} {v : Value} (hi : ops[k]? = some ⟨dst,op,ty,pos,after,g⟩) (h : wpA P ops Q S rest n is c pre (a.put dst v) w) (hw : Region.wanted ⟨dst,op,ty,pos,after,g⟩ (yielded ops a.tmps) = true:=by exact rfl) (hrun : ∀ W,S W→(execOp a.eval ⟨dst,op,ty,pos,after,g⟩).run P W = .ok (.value v) W:=by intro W hW;go_simp;with_reducible rfl) : wpA P ops Q S rest n is c (k :: pre) a w:=
 zCq hi hw hrun h
theorem zBR {i d : Nat} {T : TypeId} {cs : Array Value} {ty : TypeId} {pos : String} {after : Array Edge} {K : Act→World→Prop} {a : Act} {w : World} (op : Op) (hi : ops[i]? = some ⟨some d,op,ty,pos,after,none⟩)
  (hrun : (execOp a.eval ⟨some d,op,ty,pos,after,none⟩).run P w = .ok (.value (zBh w.heap.size)) (w.alloc (.cells cs T)))
  (h : K (a.put (some d) (zBh w.heap.size)) (w.alloc (.cells cs T))) : wpOp P ops Q i K a w:=by
 unfold wpOp;simp only [hi,Region.wanted,if_true];refine .inl ?_;unfold Oper.wp;simp [hrun,Oper.upon];exact h
end
end Go.Proofs.YtbbblemfodpmaaaGreat
