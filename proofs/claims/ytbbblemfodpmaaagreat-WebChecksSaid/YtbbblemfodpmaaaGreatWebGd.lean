/-A slice literal of structs: what lies in the block that it lays.-/
import Derived.Test.YtbbblemfodpmaaaGreatBox
import Derived.Test.YtbbblemfodpmaaaGreatAppR
import Derived.Test.YtbbblemfodpmaaaGreatOwn
set_option linter.unusedVariables false
set_option linter.unusedSimpArgs false
set_option maxHeartbeats 16000000
set_option maxRecDepth 100000
section
namespace Go.Proofs.YtbbblemfodpmaaaGreat
open Go.RowKit
theorem zF0 : ∀ (vs : List Value) (cs : Array Value) (o : Nat),(zAx cs o vs).size = cs.size
 | [],_,_=>rfl
 | v :: r,cs,o=>by unfold zAx;rw [zF0 r];simp
theorem zF1 : ∀ (vs : List Value) (cs : Array Value) (o i : Nat),o + vs.length ≤ cs.size→(zAx cs o vs)[i]? = if o ≤ i∧i < o + vs.length then vs[i - o]? else cs[i]?
 | [],cs,o,i,_=>by rw [if_neg (by simp only [List.length_nil];omega)];rfl
 | v :: r,cs,o,i,h=>by
  simp only [List.length_cons] at h;unfold zAx;rw [zF1 r _ _ i (by simp;omega)]
  by_cases h1 : i = o
  ·subst h1;rw [if_neg (by omega),if_pos (by simp),Nat.sub_self];rw [Array.getElem?_setIfInBounds];simp;omega
  ·by_cases h2 : o + 1 ≤ i∧i < o + 1 + r.length
   ·rw [if_pos h2,if_pos (by simp;omega),show i - o = (i - (o + 1)) + 1 by omega,List.getElem?_cons_succ]
   ·rw [if_neg h2,if_neg (by simp;omega),Array.getElem?_setIfInBounds,if_neg (by omega)]
variable {α : Type} {enc : α→Array Value} {sz : Nat}
end Go.Proofs.YtbbblemfodpmaaaGreat
end
section
namespace Go.Proofs.YtbbblemfodpmaaaGreat
section
variable {α : Type} {enc : α→Array Value} {sz : Nat}
theorem flat_set (hsz : ∀ x,(enc x).size = sz) (l : List α) (i : Nat) (x : α) (hi : i < l.length) (m : Nat) : (flat enc (l.set i x))[m]? = if i * sz ≤ m∧m < i * sz + sz then (enc x)[m - i * sz]? else (flat enc l)[m]?:=by
 induction l generalizing i m with
 | nil=>simp at hi
 | cons y l ih=>
  cases i with
  | zero=>
   simp only [List.set_cons_zero,flat,List.flatMap_cons,Nat.zero_mul,Nat.zero_add,Nat.zero_le,true_and,Nat.sub_zero]
   by_cases h : m < sz
   ·rw [if_pos h,List.getElem?_append_left (by simp [hsz];exact h),Array.getElem?_toList]
   ·rw [if_neg h,List.getElem?_append_right (by simp [hsz];omega),List.getElem?_append_right (by simp [hsz];omega)];simp [hsz]
  | succ i=>
   have ih:=ih i (by simpa using hi) (m - sz);simp only [List.set_cons_succ,flat,List.flatMap_cons] at ih ⊢
   by_cases h : m < sz
   ·rw [List.getElem?_append_left (by simp [hsz];exact h),List.getElem?_append_left (by simp [hsz];exact h),if_neg (by rw [Nat.succ_mul];omega)]
   ·rw [List.getElem?_append_right (by simp [hsz];omega),List.getElem?_append_right (by simp [hsz];omega)];simp only [Array.length_toList,hsz];rw [ih,Nat.succ_mul]
    by_cases h2 : i * sz ≤ m - sz∧m - sz < i * sz + sz
    ·rw [if_pos h2,if_pos (by omega)];congr 1;omega
    ·rw [if_neg h2,if_neg (by omega)]
theorem OwnL.store (hsz : ∀ x,(enc x).size = sz) {w : World} {base : Nat} {e : TypeId} {v : Value} {l : List α} (h : OwnL enc sz w base e v l) {i : Nat} (hi : i < l.length) :
  ∃ g cap cur,v = .slice (some ⟨g,0,none⟩) l.length cap∧zAe w g e cur∧i * sz + sz ≤ cur.size∧∀ w' x,zAe w' g e (zAx cur (i * sz) (enc x).toList)→OwnL enc sz w' base e v (l.set i x):=by
 have hlen:=zBn hsz l
 rcases h.2 with ⟨rfl,h0⟩ | ⟨g,cap,cur,rfl,hb,hh,hn,hm,hc,ht⟩
 ·omega
 ·have hle : i * sz + sz ≤ l.length * sz:=by rw [← Nat.succ_mul];exact Nat.mul_le_mul_right _ hi
  have hle2 : l.length * sz ≤ cap * sz:=Nat.mul_le_mul_right _ hn;refine ⟨g,cap,cur,rfl,hh,by omega,fun w' x hx=>⟨by rw [zBn hsz], .inr ⟨g,cap,_,by simp,hb,hx,by simpa using hn,hm,by rw [zF0,hc], ?_⟩⟩⟩
  apply List.ext_getElem?
  intro m;rw [flat_set hsz l i x hi,List.getElem?_take,List.length_set]
  by_cases hmn : m < l.length * sz
  ·rw [if_pos hmn,Array.getElem?_toList,zF1 _ _ _ _ (by simp [hsz];omega)];simp only [Array.length_toList,hsz,Array.getElem?_toList]
   by_cases h2 : i * sz ≤ m∧m < i * sz + sz
   ·rw [if_pos h2,if_pos h2]
   ·rw [if_neg h2,if_neg h2,← ht,List.getElem?_take,if_pos hmn,Array.getElem?_toList]
  ·rw [if_neg hmn,if_neg (by omega)];rw [List.getElem?_eq_none (by omega)]
end
end Go.Proofs.YtbbblemfodpmaaaGreat
end
