/-Go's maps with what they hold as a Lean list of keys and elements, in the order in which the entries were laid: look-up, store, delete, len, range.-/
import Derived.Test.YtbbblemfodpmaaaGreatBase
import Derived.Maps.Keyed
import Derived.Maps.RangeWalk
import Derived.Maps.OwnSet
set_option linter.unusedVariables false
set_option linter.unusedSimpArgs false
set_option linter.unusedSectionVars false
set_option maxHeartbeats 16000000
set_option maxRecDepth 100000
section
namespace Go.Proofs.YtbbblemfodpmaaaGreat
open Go.RowKit
open Go.ChangeMaps (setBlock)
open Go.MapKept (Stamped stamped_empty stamped_push stamped_modify stamped_erase stamped_iff)
section plain
variable {κ ν : Type} [DecidableEq κ]
def aget (m : List (κ × ν)) (k : κ) : Option ν:=(m.find? (fun p=>decide (p.1 = k))).map Prod.snd
def ahas (m : List (κ × ν)) (k : κ) : Bool:=m.any (fun p=>decide (p.1 = k))
def aput (m : List (κ × ν)) (k : κ) (v : ν) : List (κ × ν):=if ahas m k then m.map (fun p=>if p.1 = k then (k,v) else p) else m ++ [(k,v)]
theorem zBm (m : List (κ × ν)) (k : κ) : (aget m k).isSome = ahas m k:=by
 simp only [aget,ahas,Option.isSome_map]
 induction m with
 | nil=>rfl
 | cons p m ih=>by_cases h : p.1 = k <;> simp [List.find?,h,ih]
theorem zES {m : List (κ × ν)} {k : κ} : ahas m k = true ↔ k ∈ m.map Prod.fst:=by
 simp [ahas]
theorem aget_none {m : List (κ × ν)} {k : κ} (h : ∀ p ∈ m,p.1 ≠ k) : aget m k = none:=by
 simp only [aget,Option.map_eq_none_iff,List.find?_eq_none];intro p hp;simpa using h p hp
theorem zCl {m : List (κ × ν)} (hn : (m.map Prod.fst).Nodup) {p : κ × ν} (hp : p ∈ m) : aget m p.1 = some p.2:=by
 induction m with
 | nil=>simp at hp
 | cons q m ih=>
  simp only [List.map_cons,List.nodup_cons,List.mem_map,not_exists,not_and] at hn
  rcases List.mem_cons.1 hp with rfl | h
  ·simp [aget,List.find?]
  ·have hne : q.1 ≠ p.1:=fun e=>hn.1 p h e.symm;have:=ih hn.2 h;simp only [aget] at this ⊢;simp [List.find?,hne,this]
theorem zFy {m : List (κ × ν)} {k : κ} {v : ν} (h : aget m k = some v) : (k,v) ∈ m:=by
 simp only [aget,Option.map_eq_some_iff] at h;obtain ⟨p,hp,rfl⟩:=h;have h1:=List.find?_some hp;have h2:=List.mem_of_find?_eq_some hp;simp at h1;subst h1;exact h2
theorem zBP {m : List (κ × ν)} {k : κ} : ahas m k = false ↔ ∀ p ∈ m,p.1 ≠ k:=by
 simp [ahas]
theorem zBS (m : List (κ × ν)) (k k' : κ) (v : ν) : aget (aput m k v) k' = if k' = k then some v else aget m k':=by
 unfold aput
 by_cases hh : ahas m k = true
 ·rw [if_pos hh]
  induction m with
  | nil=>simp [ahas] at hh
  | cons p m ih=>
   by_cases hp : p.1 = k
   ·subst hp
    by_cases hk : k' = p.1
    ·subst hk;simp [aget,List.find?]
    ·rw [if_neg hk];have hne : ¬ p.1 = k':=fun e=>hk e.symm;simp only [aget,List.map_cons,if_true,List.find?,hne,decide_false]
     by_cases hm : ahas m p.1 = true
     ·have:=ih hm;rw [if_neg hk] at this;exact this
     ·have hm':=zBP.1 (by simpa using hm);have : m.map (fun q=>if q.1 = p.1 then (p.1,v) else q) = m:=by
       conv=>rhs;rw [← List.map_id m]
       exact List.map_congr_left fun q hq=>by simp [hm' q hq]
      rw [this]
   ·have hm : ahas m k = true:=by simpa [ahas,hp] using hh
    have:=ih hm
    by_cases hpk : p.1 = k'
    ·have hkk : ¬ k' = k:=fun e=>hp (hpk.trans e);simp [aget,List.find?,hp,hpk,hkk]
    ·simp only [aget,List.map_cons,if_neg hp,List.find?,hpk,decide_false] at this ⊢;exact this
 ·have hh':=zBP.1 (by simpa using hh);rw [if_neg hh]
  by_cases hk : k' = k
  ·subst hk;rw [if_pos rfl];simp only [aget,List.find?_append];rw [List.find?_eq_none.2 (fun p hp=>by simpa using hh' p hp)];simp
  ·rw [if_neg hk];have hne : ¬ k = k':=fun e=>hk e.symm;simp only [aget,List.find?_append]
   cases m.find? (fun p=>decide (p.1 = k')) <;> simp [List.find?,hne]
theorem keys_aput (m : List (κ × ν)) (k : κ) (v : ν) : (aput m k v).map Prod.fst = if ahas m k then m.map Prod.fst else m.map Prod.fst ++ [k]:=by
 unfold aput
 split
 ·rw [List.map_map];exact List.map_congr_left fun p _=>by simp only [Function.comp];split <;> simp_all
 ·simp
theorem zET {m : List (κ × ν)} (h : (m.map Prod.fst).Nodup) (k : κ) (v : ν) : ((aput m k v).map Prod.fst).Nodup:=by
 rw [keys_aput]
 split
 ·exact h
 ·rename_i hh;have:=zBP.1 (by simpa using hh);rw [List.nodup_append];refine ⟨h,by simp, ?_⟩;intro a ha b hb;simp at hb;subst hb;obtain ⟨p,hp,rfl⟩:=List.mem_map.1 ha;exact this p hp
theorem mem_aput {m : List (κ × ν)} {k : κ} {v : ν} {p : κ × ν} (h : p ∈ aput m k v) : p = (k,v) ∨ p ∈ m:=by
 unfold aput at h
 split at h
 ·obtain ⟨q,hq,rfl⟩:=List.mem_map.1 h
  split
  ·exact .inl rfl
  ·exact .inr hq
 ·simp at h;exact h.symm
theorem zCJ (m : List (κ × ν)) (k k' : κ) (v : ν) : ahas (aput m k v) k' = (decide (k' = k) || ahas m k'):=by
 rw [← zBm,zBS,← zBm]
 by_cases h : k' = k <;> simp [h]
end plain
structure KeyOK {κ : Type} (P : Program) (kt : TypeId) (K : κ→Value) (good : κ→Prop) : Prop where
 inj : ∀ {a b : κ},K a = K b→a = b
 check : ∀ {a : κ},good a→∀ (w : World) (em : Bool),(Instr.checkKey em 10000 kt (K a)).run P w = .ok () w
 find : ∀ {a : κ},good a→∀ (w : World) (es : List MapEntry),(∀ e ∈ es,∃ x,e.key = K x∧good x)→
  ((Instr.findKey kt (K a) es).run P w = .ok none w∧∀ e ∈ es,e.key ≠ K a) ∨ ∃ j e,(Instr.findKey kt (K a) es).run P w = .ok (some (j,e.val)) w∧es[j]? = some e∧e.key = K a
 stays : ∀ {a : κ},good a→∀ (w : World),(Instr.keyThatStays (K a) (K a)).run P w = .ok (K a) w
theorem KeyOK.of_keyed {κ : Type} {P : Program} {kt : TypeId} {K : κ→Value} {good : κ→Prop} (h : Maps.Keyed P kt) (inj : ∀ {a b : κ},K a = K b→a = b) (hg : ∀ a,good a→∃ l,keyOf P kt (K a) = some l) : KeyOK P kt K good where
 inj:=inj
 check ha w em:=by obtain ⟨l,hl⟩:=hg _ ha;exact h.check w em hl
 find ha w es hes:=by
  obtain ⟨l,hl⟩:=hg _ ha;exact h.find w hl es (fun e he=>by obtain ⟨x,hx,hgx⟩:=hes e he;rw [hx];exact hg x hgx)
 stays ha w:=by obtain ⟨l,hl⟩:=hg _ ha;exact h.stays w hl
structure Turn (b : Nat) (w w' : World) : Prop where
 os : w'.os = w.os
 tape : w'.tape = w.tape
 output : w'.output = w.output
 size : w'.heap.size = w.heap.size
 block : ∀ k,k ≠ b→w'.heap[k]? = w.heap[k]?
theorem Turn.refl (b : Nat) (w : World) : Turn b w w:=⟨rfl,rfl,rfl,rfl,fun _ _=>rfl⟩
theorem Turn.trans {b : Nat} {a c d : World} (h : Turn b a c) (k : Turn b c d) : Turn b a d:=
 ⟨k.os.trans h.os,k.tape.trans h.tape,k.output.trans h.output,k.size.trans h.size,fun i hi=>(k.block i hi).trans (h.block i hi)⟩
theorem Turn.below {b n : Nat} {w w' : World} (h : Turn b w w') (hb : n ≤ b) : Below n w w':=
 ⟨h.os,h.tape,h.output,Nat.le_of_eq h.size.symm,fun k hk=>h.block k (by omega)⟩
theorem Turn.set {w : World} {b : Nat} {o : Obj} (o' : Obj) (h : w.heap[b]? = some o) : Turn b w (setBlock w b o'):=by
 refine ⟨rfl,rfl,rfl,by simp [setBlock],fun k hk=>?_⟩;simp only [setBlock];rw [Array.getElem?_setIfInBounds]
 split
 ·exact absurd (by assumption) (Ne.symm hk)
 ·rfl
theorem zD0 {w : World} {b : Nat} {o : Obj} (o' : Obj) (h : w.heap[b]? = some o) : (setBlock w b o').heap[b]? = some o':=by
 have hl:=(Array.getElem?_eq_some_iff.1 h).1;simp only [setBlock];rw [Array.getElem?_setIfInBounds];simp [hl]
variable {κ ν : Type} [DecidableEq κ]
structure MapAt (K : κ→Value) (V : ν→Value) (good : κ→Prop) (w : World) (b : Nat) (m : List (κ × ν)) : Prop where
 raw : ∃ es clock,w.heap[b]? = some (.map es clock)∧Stamped es clock∧es.toList.map (fun e=>(e.key,e.val)) = m.map (fun p=>(K p.1,V p.2))
 good : ∀ p ∈ m,good p.1
section
variable {P : Program} {K : κ→Value} {V : ν→Value} {good : κ→Prop} {w : World} {b : Nat} {m : List (κ × ν)} {kt et t : TypeId}
theorem MapAt.lt (h : MapAt K V good w b m) : b < w.heap.size:=by
 obtain ⟨es,clock,hb,_⟩:=h.raw;exact (Array.getElem?_eq_some_iff.1 hb).1
theorem MapAt.of_block {w' : World} (h : MapAt K V good w b m) (hb : w'.heap[b]? = w.heap[b]?) : MapAt K V good w' b m:=by
 obtain ⟨es,clock,h1,h2⟩:=h.raw;exact ⟨⟨es,clock,hb.trans h1,h2⟩,h.good⟩
theorem MapAt.below {w' : World} {n : Nat} (h : MapAt K V good w b m) (hb : Below n w w') (hn : b < n) : MapAt K V good w' b m:=h.of_block (hb.block b hn)
theorem MapAt.turn {w' : World} {c : Nat} (h : MapAt K V good w b m) (hb : Turn c w w') (hn : b ≠ c) : MapAt K V good w' b m:=h.of_block (hb.block b hn)
theorem MapAt.made (K : κ→Value) (V : ν→Value) (good : κ→Prop) (w : World) : MapAt K V good (w.alloc (.map #[] 0)) w.heap.size []:=
 ⟨⟨#[],0,(MapKept.heap_alloc w _).1,stamped_empty 0,rfl⟩,by simp⟩
theorem MapAt.alloc (h : MapAt K V good w b m) (o : Obj) : MapAt K V good (w.alloc o) b m:=h.of_block ((MapKept.heap_alloc w _).2 b h.lt)
theorem MapAt.nodup (h : MapAt K V good w b m) : (m.map Prod.fst).Nodup:=by
 obtain ⟨es,clock,_,hs,hm⟩:=h.raw;have h1 : (es.toList.map (·.key)) = m.map (fun p=>K p.1):=by
  have:=congrArg (List.map Prod.fst) hm;simpa [List.map_map,Function.comp_def] using this
 have h2:=hs.2.2;rw [h1] at h2;have h3 : (m.map Prod.fst).map K = m.map (fun p=>K p.1):=by simp [List.map_map,Function.comp_def]
 rw [← h3] at h2;unfold List.Nodup at h2 ⊢;rw [List.pairwise_map] at h2;exact h2.imp fun hne e=>hne (by rw [e])
theorem map_find (KO : KeyOK P kt K good) {es : Array MapEntry} (hm : es.toList.map (fun e=>(e.key,e.val)) = m.map (fun p=>(K p.1,V p.2))) (hg : ∀ p ∈ m,good p.1) (hn : (m.map Prod.fst).Nodup) {k : κ} (hk : good k) (w : World) :
  ((Instr.findKey kt (K k) es.toList).run P w = .ok none w∧(∀ e ∈ es.toList,e.key ≠ K k)∧(∀ p ∈ m,p.1 ≠ k)) ∨
   ∃ j e v,(Instr.findKey kt (K k) es.toList).run P w = .ok (some (j,V v)) w∧es.toList[j]? = some e∧e.key = K k∧e.val = V v∧m[j]? = some (k,v):=by
 have hes : ∀ e ∈ es.toList,∃ x,e.key = K x∧good x:=fun e he=>by
  have : (e.key,e.val) ∈ m.map (fun p=>(K p.1,V p.2)):=by rw [← hm];exact List.mem_map.2 ⟨e,he,rfl⟩
  obtain ⟨p,hp,hpe⟩:=List.mem_map.1 this;simp only [Prod.mk.injEq] at hpe;exact ⟨p.1,hpe.1.symm,hg p hp⟩
 rcases KO.find hk w es.toList hes with ⟨f1,f2⟩ | ⟨j,e,f1,f2,f3⟩
 ·refine .inl ⟨f1,f2,fun p hp e1=>?_⟩;have : (K p.1,V p.2) ∈ es.toList.map (fun e=>(e.key,e.val)):=by rw [hm];exact List.mem_map.2 ⟨p,hp,rfl⟩
  obtain ⟨e,he,hpe⟩:=List.mem_map.1 this;simp only [Prod.mk.injEq] at hpe;exact f2 e he (by rw [hpe.1,e1])
 ·have h1 : (m.map (fun p=>(K p.1,V p.2)))[j]? = some (e.key,e.val):=by rw [← hm];simp [f2]
  rw [List.getElem?_map] at h1;obtain ⟨p,hp,hpe⟩:=Option.map_eq_some_iff.1 h1;simp only [Prod.mk.injEq] at hpe;have hpk : p.1 = k:=KO.inj (hpe.1.trans f3);refine .inr ⟨j,e,p.2,by rw [f1,hpe.2],f2,f3,hpe.2.symm, ?_⟩;rw [hp,← hpk]
theorem MapAt.look (h : MapAt K V good w b m) (KO : KeyOK P kt K good) (ht : P.underlying t = some (.map kt et)) (c : Bool) (d : ν) (hz : (zeroValue et).run P w = .ok (V d) w) {k : κ} (hk : good k) :
  (Instr.lookup t (.map (some b)) (K k) c).run P w = .ok (if c then .tuple #[V ((aget m k).getD d), .bool (ahas m k)] else V ((aget m k).getD d)) w:=by
 have hn:=h.nodup;obtain ⟨es,clock,hb,hs,hm⟩:=h.raw
 rcases map_find KO hm h.good hn hk w with ⟨f1,f2,f3⟩ | ⟨j,e,v,f1,f2,f3,f4,f5⟩
 ·have h1:=aget_none f3;have h2 : ahas m k = false:=zBP.2 f3;simp [Instr.lookup,run_underlying ht,MapKept.run_getObj_map hb,KO.check hk,f1,hz,Result.andThen,h1,h2]
 ·have h1 : aget m k = some v:=zCl hn (List.mem_of_getElem? f5);have h2 : ahas m k = true:=by rw [← zBm,h1];rfl
  simp [Instr.lookup,run_underlying ht,MapKept.run_getObj_map hb,KO.check hk,f1,Result.andThen,h1,h2]
theorem set_eq_map {m : List (κ × ν)} (hn : (m.map Prod.fst).Nodup) {j : Nat} {k : κ} {v0 : ν} (v : ν) (hj : m[j]? = some (k,v0)) : m.set j (k,v) = m.map (fun p=>if p.1 = k then (k,v) else p):=by
 apply List.ext_getElem?
 intro i;rw [List.getElem?_set,List.getElem?_map]
 by_cases hij : j = i
 ·subst hij;have:=(List.getElem?_eq_some_iff.1 hj).1;rw [hj];simp [this]
 ·rw [if_neg hij]
  cases hmi : m[i]? with
  | none=>rfl
  | some p=>
   have hne : p.1 ≠ k:=fun e=>by
    have hi':=(List.getElem?_eq_some_iff.1 hmi).1;have hj':=(List.getElem?_eq_some_iff.1 hj).1;have h1 : (m.map Prod.fst)[i]'(by simpa using hi') = k:=by rw [List.getElem_map];have:=(List.getElem?_eq_some_iff.1 hmi).2;rw [this,e]
    have h2 : (m.map Prod.fst)[j]'(by simpa using hj') = k:=by rw [List.getElem_map];have:=(List.getElem?_eq_some_iff.1 hj).2;rw [this]
    unfold List.Nodup at hn
    rcases Nat.lt_trichotomy j i with hji | hji | hji
    ·exact List.pairwise_iff_getElem.1 hn j i (by simpa using hj') (by simpa using hi') hji (h2.trans h1.symm)
    ·exact hij hji
    ·exact List.pairwise_iff_getElem.1 hn i j (by simpa using hi') (by simpa using hj') hji (h1.trans h2.symm)
   simp [hne]
theorem MapAt.store (h : MapAt K V good w b m) (KO : KeyOK P kt K good) (ht : P.underlying t = some (.map kt et)) {k : κ} (hk : good k) (v : ν) :
  ∃ w',(Instr.mapUpdate t (.map (some b)) (K k) (V v)).run P w = .ok () w'∧MapAt K V good w' b (aput m k v)∧Turn b w w':=by
 have hn:=h.nodup;have hgd : ∀ p ∈ aput m k v,good p.1:=fun p hp=>by
  rcases mem_aput hp with rfl | hp
  ·exact hk
  ·exact h.good p hp
 obtain ⟨es,clock,hb,hs,hm⟩:=h.raw
 rcases map_find KO hm h.good hn hk w with ⟨f1,f2,f3⟩ | ⟨j,e,v0,f1,f2,f3,f4,f5⟩
 ·refine ⟨setBlock w b (.map (es.push ⟨K k,V v,clock⟩) (clock + 1)), ?_,⟨⟨_,_,zD0 _ hb,stamped_push hs f2, ?_⟩,hgd⟩,Turn.set _ hb⟩
  ·simp [Instr.mapUpdate,run_underlying ht,MapKept.run_getObj_map hb,KO.check hk,f1,MapKept.run_setObj_map _ hb,Result.andThen,setBlock]
  ·have h2 : ahas m k = false:=zBP.2 f3;simp [aput,h2,hm]
 ·have hj : es[j]? = some e:=by simpa using f2
  have hkeyf : ∀ e',es[j]? = some e'→({ e' with key:=K k,val:=V v } : MapEntry).key = e'.key:=fun e' he'=>by rw [hj] at he';cases he';exact f3.symm
  refine ⟨setBlock w b (.map (es.modify j (fun e'=>{ e' with key:=K k,val:=V v })) clock), ?_,⟨⟨_,_,zD0 _ hb,stamped_modify hs _ _ (fun _ _=>rfl) (fun e' _ he'=>hkeyf e' he'), ?_⟩,hgd⟩,Turn.set _ hb⟩
  ·simp [Instr.mapUpdate,run_underlying ht,MapKept.run_getObj_map hb,KO.check hk,f1,hj,f3,KO.stays hk,MapKept.run_setObj_map _ hb,Result.andThen,setBlock]
  ·have h2 : ahas m k = true:=by rw [← zBm,zCl hn (List.mem_of_getElem? f5)];rfl
   rw [aput,if_pos h2,← set_eq_map hn v f5,Array.toList_modify,ChangeMaps.modify_eq_set _ _ _ _ f2,List.map_set,hm,List.map_set]
theorem MapAt.len (h : MapAt K V good w b m) (ht : P.underlying t = some (.map kt et)) (ty : TypeId) : (Builtin.len_ #[t] ty #[.map (some b)]).run P w = .ok (.int .i64 m.length) w:=by
 obtain ⟨es,clock,hb,hs,hm⟩:=h.raw;have : es.size = m.length:=by have:=congrArg List.length hm;simpa using this
 simp [Builtin.len_,run_underlying ht,MapKept.run_getObj_map hb,goInt,Result.andThen,this]
structure RangeAt (K : κ→Value) (V : ν→Value) (good : κ→Prop) (w : World) (b r : Nat) (m left : List (κ × ν)) : Prop where
 raw : ∃ es clock since seen c0,w.heap[b]? = some (.map es clock)∧Stamped es clock∧es.toList.map (fun e=>(e.key,e.val)) = m.map (fun p=>(K p.1,V p.2))∧
  w.heap[r]? = some (.mapIter (some b) since seen c0)∧(∀ x ∈ es.toList,x.born < since)∧since ≤ c0∧since ≤ clock∧(leftOf es seen).toList.map (fun e=>(e.key,e.val)) = left.map (fun p=>(K p.1,V p.2))
 good : ∀ p ∈ m,good p.1
theorem RangeAt.map {r : Nat} {left : List (κ × ν)} (h : RangeAt K V good w b r m left) : MapAt K V good w b m:=by
 obtain ⟨es,clock,since,seen,c0,h1,h2,h3,_⟩:=h.raw;exact ⟨⟨es,clock,h1,h2,h3⟩,h.good⟩
theorem RangeAt.of_block {r : Nat} {left : List (κ × ν)} {w' : World} (h : RangeAt K V good w b r m left) (hb : w'.heap[b]? = w.heap[b]?) (hr : w'.heap[r]? = w.heap[r]?) : RangeAt K V good w' b r m left:=by
 obtain ⟨es,clock,since,seen,c0,h1,h2,h3,h4,h5⟩:=h.raw;exact ⟨⟨es,clock,since,seen,c0,hb.trans h1,h2,h3,hr.trans h4,h5⟩,h.good⟩
theorem RangeAt.lt {r : Nat} {left : List (κ × ν)} (h : RangeAt K V good w b r m left) : r < w.heap.size:=by
 obtain ⟨es,clock,since,seen,c0,h1,h2,h3,h4,h5⟩:=h.raw;exact (Array.getElem?_eq_some_iff.1 h4).1
theorem MapAt.range (h : MapAt K V good w b m) (ht : P.underlying t = some (.map kt et)) :
  (Instr.range t (.map (some b))).run P w = .ok (.pointer (some ⟨w.heap.size,0,none⟩)) (w.alloc (.mapIter (some b) (h.raw.choose_spec.choose) #[] (h.raw.choose_spec.choose)))∧
   RangeAt K V good (w.alloc (.mapIter (some b) (h.raw.choose_spec.choose) #[] (h.raw.choose_spec.choose))) b w.heap.size m m:=by
 have hh:=h.raw.choose_spec.choose_spec;generalize h.raw.choose_spec.choose = clock at hh ⊢;generalize h.raw.choose = es at hh;obtain ⟨hb,hs,hm⟩:=hh;refine ⟨run_range_map w t kt et b es clock ht hb,⟨es,clock,clock,#[],clock,((MapKept.heap_alloc w _).2 b h.lt).trans hb,hs,hm,(MapKept.heap_alloc w _).1,hs.1,Nat.le_refl _,Nat.le_refl _, ?_⟩,h.good⟩;have : leftOf es #[] = es:=by simp [leftOf]
 rw [this];exact hm
theorem left_split {es : Array MapEntry} {seen : Array Nat} {e : MapEntry} (hn : (es.toList.map (·.born)).Nodup) (he : e ∈ (leftOf es seen).toList) :
  ∃ L1 L2,(leftOf es seen).toList = L1 ++ e :: L2∧(leftOf es (seen.push e.born)).toList = L1 ++ L2:=by
 have h1 : (leftOf es (seen.push e.born)).toList = (leftOf es seen).toList.filter (fun x=>!(x.born == e.born)):=by
  simp only [leftOf,Array.toList_filter,List.filter_filter]
  congr 1
  funext x
  rw [contains_push]
  cases seen.contains x.born <;> cases (x.born == e.born) <;> rfl
 have hn2 : ((leftOf es seen).toList.map (·.born)).Nodup:=by
  simp only [leftOf,Array.toList_filter];exact hn.sublist (List.filter_sublist.map _)
 obtain ⟨L1,L2,hL⟩:=List.append_of_mem he;refine ⟨L1,L2,hL, ?_⟩;rw [h1,hL];rw [hL,List.map_append,List.map_cons,List.nodup_append] at hn2;obtain ⟨_,h3,h4⟩:=hn2;rw [List.nodup_cons] at h3;have hA : L1.filter (fun x=>!(x.born == e.born)) = L1:=List.filter_eq_self.2 fun x hx=>by
  have : x.born ≠ e.born:=h4 _ (List.mem_map.2 ⟨x,hx,rfl⟩) _ (by simp);simp [this]
 have hB : L2.filter (fun x=>!(x.born == e.born)) = L2:=List.filter_eq_self.2 fun x hx=>by
  have : x.born ≠ e.born:=fun e1=>h3.1 (List.mem_map.2 ⟨x,hx,e1⟩);simp [this]
 rw [List.filter_append,List.filter_cons_of_neg (by simp),hA,hB]
theorem RangeAt.next {r : Nat} {left : List (κ × ν)} (h : RangeAt K V good w b r m left) (hne : r ≠ b) (ty : TypeId) :
  (left = []∧(Instr.next (.pointer (some ⟨r,0,none⟩)) false ty).run P w = .ok (.tuple #[.bool false]) w) ∨
  ∃ l1 p l2 w',left = l1 ++ p :: l2∧(Instr.next (.pointer (some ⟨r,0,none⟩)) false ty).run P w = .ok (.tuple #[.bool true,K p.1,V p.2]) w'∧RangeAt K V good w' b r m (l1 ++ l2)∧Turn r w w'∧
   (Instr.entry (.pointer (some ⟨r,0,none⟩))).run P w' = .ok (.tuple #[K p.1,V p.2]) w':=by
 obtain ⟨es,clock,since,seen,c0,hb,hs,hm,hr,hold,hsc,hsk,hl⟩:=h.raw
 rcases run_next_at (P:=P) w ty r b since c0 seen es clock hr hb hold hsc with ⟨h0,hrun⟩ | ⟨e,he,w1,hal,hrun⟩
 ·refine .inl ⟨?_,hrun⟩;have:=congrArg List.length hl;simp [h0] at this;exact List.eq_nil_of_length_eq_zero this.symm
 ·obtain ⟨L1,L2,hL,hL'⟩:=left_split hs.2.1 he;rw [hL,List.map_append,List.map_cons] at hl;obtain ⟨l1,l3,hl3,e1,e2⟩:=List.map_eq_append_iff.1 hl.symm;obtain ⟨p,l2,rfl,e3,e4⟩:=List.map_eq_cons_iff.1 e2;simp only [Prod.mk.injEq] at e3;have hr1 : w1.heap[r]? = some (.mapIter (some b) since seen c0):=by rcases hal with rfl | rfl <;> exact hr
  have hb1 : w1.heap[b]? = some (.map es clock):=by rcases hal with rfl | rfl <;> exact hb
  have hT:=Turn.set (.mapIter (some b) since (seen.push e.born) clock) hr1;have hb' : (setBlock w1 r (.mapIter (some b) since (seen.push e.born) clock)).heap[b]? = some (.map es clock):=(hT.block b (Ne.symm hne)).trans hb1;have hr':=zD0 (.mapIter (some b) since (seen.push e.born) clock) hr1;refine .inr ⟨l1,p,l2,_,hl3,by rw [e3.1,e3.2];exact hrun,⟨⟨es,clock,since,seen.push e.born,clock,hb',hs,hm,hr',hold,hsk,hsk, ?_⟩,h.good⟩, ?_, ?_⟩
  ·rw [hL',List.map_append,List.map_append,e1,e4]
  ·rcases hal with rfl | rfl <;> exact ⟨hT.os,hT.tape,hT.output,hT.size,hT.block⟩
  ·rw [e3.1,e3.2];exact run_entry_at _ r b since seen es clock e hr' hb' (mem_left he).1 hs.2.1
end
section
variable {P : Program} {K : κ→Value} {V : ν→Value} {good : κ→Prop} {w : World} {b : Nat} {m : List (κ × ν)} {kt et : TypeId}
variable {ops : Array Oper} {rest : List Oper} {o : Oper} {a : Act} {Q : Exit→Act→World→Prop}
theorem zCN (hgd : o.guard = none) (mm x : Operand) (t : TypeId) (hop : o.op = Op.lookup t mm x true) (KO : KeyOK P kt K good) (ht : P.underlying t = some (.map kt et)) (d : ν) (hz : (zeroValue et).run P w = .ok (V d) w)
  (hm : a.eval mm = .map (some b)) (h : MapAt K V good w b m) (k : κ) (hk : good k) (hx : a.eval x = K k) (hK : wpList P ops Q rest (a.put o.dst (.tuple #[V ((aget m k).getD d), .bool (ahas m k)])) w) : wpList P ops Q (o :: rest) a w:=by
 refine wpList_plain hgd fun K' hK'=>?_;have hrun:=h.look KO ht true d hz hk;unfold Oper.wp;simp [execOp,hop,hm,hx,hrun,Result.andThen];exact hK' _ _ hK
theorem zBx (hgd : o.guard = none) (mm x v : Operand) (t : TypeId) (hop : o.op = Op.mapUpdate t mm x v) (KO : KeyOK P kt K good) (ht : P.underlying t = some (.map kt et))
  (hm : a.eval mm = .map (some b)) (h : MapAt K V good w b m) (k : κ) (hk : good k) (hx : a.eval x = K k) (y : ν) (hv : a.eval v = V y)
  (hK : ∀ w',MapAt K V good w' b (aput m k y)→Turn b w w'→wpList P ops Q rest (a.put o.dst undef) w') : wpList P ops Q (o :: rest) a w:=by
 refine wpList_plain hgd fun K' hK'=>?_;obtain ⟨w',hrun,r1,r2⟩:=h.store KO ht hk y;unfold Oper.wp;simp [execOp,hop,hm,hx,hv,hrun,Result.andThen];exact hK' _ _ (hK w' r1 r2)
theorem zEL (hgd : o.guard = none) (mm : Operand) (t : TypeId) (hop : o.op = Op.call { callee:=Callee.builtin Builtin.len,args:=#[mm],argTypes:=#[t] }) (ht : P.underlying t = some (.map kt et))
  (hm : a.eval mm = .map (some b)) (h : MapAt K V good w b m) (hK : wpList P ops Q rest (a.put o.dst (.int .i64 m.length)) w) : wpList P ops Q (o :: rest) a w:=by
 refine wpList_plain hgd fun K' hK'=>?_;unfold Oper.wp;simp [execOp,hop,resolve,invoke,builtin,hm,h.len ht o.type,Result.andThen];exact hK' _ _ hK
theorem zD9 (hgd : o.guard = none) (mm : Operand) (t : TypeId) (hop : o.op = Op.range t mm) (ht : P.underlying t = some (.map kt et))
  (hm : a.eval mm = .map (some b)) (h : MapAt K V good w b m)
  (hK : ∀ ob,RangeAt K V good (w.alloc ob) b w.heap.size m m→wpList P ops Q rest (a.put o.dst (.pointer (some ⟨w.heap.size,0,none⟩))) (w.alloc ob)) : wpList P ops Q (o :: rest) a w:=by
 refine wpList_plain hgd fun K' hK'=>?_;obtain ⟨hrun,hr⟩:=h.range ht;unfold Oper.wp;simp [execOp,hop,hm,hrun,Result.andThen];exact hK' _ _ (hK _ hr)
end
def zEl (w : World) (b r : Nat) : Nat:=match w.heap[b]?,w.heap[r]? with
 | some (.map es _),some (.mapIter _ _ seen _)=>(leftOf es seen).size
 | _,_=>0
theorem RangeAt.count {κ ν : Type} {Km : κ→Value} {V : ν→Value} {good : κ→Prop} {w : World} {b r : Nat} {m left : List (κ × ν)} (h : RangeAt Km V good w b r m left) : zEl w b r = left.length:=by
 obtain ⟨es,clock,since,seen,c0,h1,h2,h3,h4,h5,h6,h7,h8⟩:=h.raw;have:=congrArg List.length h8;simp only [List.length_map] at this;unfold zEl;rw [h1,h4];simpa using this
theorem RangeAt.iter {κ ν : Type} {Km : κ→Value} {V : ν→Value} {good : κ→Prop} {w : World} {b r : Nat} {m left : List (κ × ν)} (h : RangeAt Km V good w b r m left) : ∃ x y z t,w.heap[r]? = some (Obj.mapIter x y z t):=by
 obtain ⟨es,clock,since,seen,c0,h1,h2,h3,h4,_⟩:=h.raw;exact ⟨_,_,_,_,h4⟩
end Go.Proofs.YtbbblemfodpmaaaGreat
end
section
namespace Go.Proofs.YtbbblemfodpmaaaGreat
open Go.RowKit
open Go.ChangeMaps (setBlock)
open Go.MapKept (Stamped stamped_empty stamped_push stamped_modify stamped_erase stamped_iff)
section
variable {κ ν : Type} [DecidableEq κ]
variable {P : Program} {K : κ→Value} {V : ν→Value} {good : κ→Prop} {w : World} {b : Nat} {m : List (κ × ν)} {kt et t : TypeId}
end
section
variable {κ ν : Type} [DecidableEq κ]
variable {P : Program} {Km : κ→Value} {V : ν→Value} {good : κ→Prop} {w : World} {b : Nat} {m : List (κ × ν)} {kt et : TypeId} {o : Oper} {a : Act} {K : Act→World→Prop} {Q : Exit→Act→World→Prop}
end
end Go.Proofs.YtbbblemfodpmaaaGreat
end
