/-How often a closed walk winds around a side, with whole numbers (plain).-/
import Derived.Test.YtcebcklecmppnaaGreatWebTx
set_option linter.unusedVariables false
set_option linter.unusedSimpArgs false
set_option maxHeartbeats 16000000
set_option maxRecDepth 100000
section
namespace Go.Proofs.YtcebcklecmppnaaGreat
open Go.RowKit
def sumZ (p : Lead → Int) (ls : List Lead) : Int := ls.foldr (fun l b => p l + b) 0
theorem zBn {p q : Lead → Int} : ∀ {ls : List Lead},(∀ l ∈ ls,p l = q l) → sumZ p ls = sumZ q ls
 | [],_ => rfl
 | l :: r,h => by
  have := zBn (ls := r) fun x hx => h x (by simp [hx]);unfold sumZ at this ⊢;simp only [List.foldr_cons];rw [this,h l (by simp)]
theorem zAO (p : Lead → Int) (l : Lead) (r : List Lead) : sumZ p (l :: r) = p l + sumZ p r := rfl
theorem zE3 (p q : Lead → Int) : ∀ ls : List Lead,sumZ (fun l => p l + q l) ls = sumZ p ls + sumZ q ls
 | [] => rfl
 | l :: r => by rw [zAO,zAO,zAO,zE3 p q r];omega
theorem zEd (p q : Lead → Int) : ∀ ls : List Lead,sumZ (fun l => p l - q l) ls = sumZ p ls - sumZ q ls
 | [] => rfl
 | l :: r => by rw [zAO,zAO,zAO,zEd p q r];omega
theorem zCu : ∀ ls : List Lead,sumZ (fun _ => 0) ls = 0
 | [] => rfl
 | l :: r => by rw [zAO,zCu r];rfl
theorem sumZ_one {c : Lead → Int} {e : Lead} : ∀ {ls : List Lead},ls.Pairwise (fun a b => a.id < b.id) → e ∈ ls → sumZ (fun l => if l.id = e.id then c l else 0) ls = c e
 | [],_,h => by cases h
 | l :: r,hp,h => by
  obtain ⟨h1,h2⟩ := List.pairwise_cons.1 hp
  rcases List.mem_cons.1 h with rfl | h
  ·have : sumZ (fun x => if x.id = e.id then c x else 0) r = 0 := by
    rw [zBn (q := fun _ => 0) (fun x hx => by have := h1 x hx;rw [if_neg (by omega)]),zCu]
   rw [zAO,this,if_pos rfl];omega
  ·have := sumZ_one (c := c) h2 h;have hlt := h1 e h;rw [zAO,this,if_neg (by omega)];omega
def sgA (js : List Joint) (l : Lead) (v : Int) : Int := (if loI js l = v then 1 else 0) - (if hiI js l = v then 1 else 0)
def consZ (js : List Joint) (ls : List Lead) (w : Lead → Int) : Prop := ∀ v,sumZ (fun l => sgA js l v * w l) ls = 0
def cntZ (w : Lead → Int) (js : List Joint) (ls : List Lead) (e : Lead) (z : Int) : Int := sumZ (fun l => if (zAt js l z && lft js e l z) = true then w l else 0) ls
def omL (w : Lead → Int) (js : List Joint) (ls : List Lead) (s : Side) : Int := cntZ w js ls (zBf ls s) (posZ js ls s) + (if isUp js ls s = true then 0 else w (zBf ls s))
def omR (w : Lead → Int) (js : List Joint) (ls : List Lead) (s : Side) : Int := cntZ w js ls (zBf ls s) (posZ js ls s) + (if isUp js ls s = true then w (zBf ls s) else 0)
section
variable {js : List Joint} {ls : List Lead} (V : ValidW js ls)
include V
theorem ValidW.hl_ne {l : Lead} (hl : l ∈ ls) : loI js l ≠ hiI js l := fun h => by
 have := (V.lh hl).2.1;unfold loP hiP at this;rw [h] at this;omega
theorem ValidW.cntZ_step {w : Lead → Int} (hc : consZ js ls w) {e : Lead} (he : e ∈ ls) {h : Int} (s1 : zAt js e (2 * h - 1) = true) (s2 : zAt js e (2 * h + 1) = true) : cntZ w js ls e (2 * h - 1) = cntZ w js ls e (2 * h + 1) := by
 by_cases hj : ∃ j ∈ js,ht j.at_ = h
 ·obtain ⟨j,hj,rfl⟩ := hj;have hp : ∀ l ∈ ls,((if (zAt js l (2 * ht j.at_ + 1) && lft js e l (2 * ht j.at_ + 1)) = true then w l else 0) - (if (zAt js l (2 * ht j.at_ - 1) && lft js e l (2 * ht j.at_ - 1)) = true then w l else 0)) = (if (decide (0 < zAl (loP js e) (hiP js e) j.at_)) = true then sgA js l j.id * w l else 0) := fun l hl => by
   have hle := (V.lh he).2.1;have hll := (V.lh hl).2.1;have t1 := zAB.1 s1;have t2 := zAB.1 s2;have hne := V.hl_ne hl
   by_cases hi : incB l j.id = true
   ·have hi2 := (V.inc_iff hl _).1 hi
    rcases hi2 with q | q
    ·have q2 := (V.loEq hl hj).1 q;have u1 : zAt js l (2 * ht j.at_ - 1) = false := by rw [Bool.eq_false_iff,ne_eq,zAB];omega
     have u2 : zAt js l (2 * ht j.at_ + 1) = true := by rw [zAB];omega
     rw [u1,u2,V.lft_pt he hl hj (.inl q) (by omega) (by omega) s2 u2];have hs : sgA js l j.id = 1 := by unfold sgA;rw [if_pos q,if_neg (fun h => hne (q.trans h.symm))];rfl
     rw [hs]
     cases decide (0 < zAl (loP js e) (hiP js e) j.at_) <;> simp
    ·have q2 := (V.hiEq hl hj).1 q;have u1 : zAt js l (2 * ht j.at_ + 1) = false := by rw [Bool.eq_false_iff,ne_eq,zAB];omega
     have u2 : zAt js l (2 * ht j.at_ - 1) = true := by rw [zAB];omega
     rw [u1,u2,V.lft_pt he hl hj (.inr q) (by omega) (by omega) s1 u2];have hs : sgA js l j.id = -1 := by unfold sgA;rw [if_pos q,if_neg (fun h => hne (h.trans q.symm))];rfl
     rw [hs]
     cases decide (0 < zAl (loP js e) (hiP js e) j.at_) <;> simp
   ·have hi2 : ¬ (loI js l = j.id ∨ hiI js l = j.id) := fun q => hi ((V.inc_iff hl _).2 q);have hs : sgA js l j.id = 0 := by unfold sgA;rw [if_neg (fun h => hi2 (.inl h)),if_neg (fun h => hi2 (.inr h))];rfl
    rw [V.past he hl (fun q => hi2 (.inl ((V.loEq hl hj).2 q))) (fun q => hi2 (.inr ((V.hiEq hl hj).2 q))) s1 s2,hs];simp
  have := zBn hp;rw [zEd] at this;unfold cntZ;have hz : sumZ (fun l => if (decide (0 < zAl (loP js e) (hiP js e) j.at_)) = true then sgA js l j.id * w l else 0) ls = 0 := by
   cases decide (0 < zAl (loP js e) (hiP js e) j.at_)
   ·simp only [Bool.false_eq_true,if_false];exact zCu ls
   ·simp only [if_true];exact hc j.id
  omega
 ·unfold cntZ;refine zBn fun l hl => ?_;obtain ⟨-, -,i,hi,k,hk,e1,e2,e3,e4⟩ := V.lh hl;rw [V.past he hl (fun q => hj ⟨i,hi,by rw [← e3];exact q⟩) (fun q => hj ⟨k,hk,by rw [← e4];exact q⟩) s1 s2]
theorem ValidW.cntZ_const {w : Lead → Int} (hc : consZ js ls w) {e : Lead} (he : e ∈ ls) {h : Int} : ∀ n : Nat,zAt js e (2 * h + 1) = true → zAt js e (2 * (h + n) + 1) = true → cntZ w js ls e (2 * h + 1) = cntZ w js ls e (2 * (h + n) + 1)
 | 0,_,_ => by simp
 | n + 1,s1,s2 => by
  have t1 := zAB.1 s1;have t2 := zAB.1 s2;have s3 : zAt js e (2 * (h + n) + 1) = true := by rw [zAB];omega
  have e1 : 2 * (h + (n + 1 : Nat)) - 1 = 2 * (h + n) + 1 := by omega
  rw [ValidW.cntZ_const hc he n s1 s3,← e1,V.cntZ_step hc he (by rw [e1];exact s3) s2]
theorem ValidW.up_rev {s : Side} (h : zAs ls s) : isUp js ls (revA s) = !isUp js ls s := by
 obtain ⟨l,hl,_,_,e2⟩ := V.sidePts h;have hlt := (V.lh hl).2.1;unfold isUp;rw [V.rev_ends h]
 rcases e2 with ⟨a,b,d⟩ | ⟨a,b,d⟩ <;> rw [b,d] <;> unfold loP hiP at hlt <;> dsimp only
 ·rw [decide_eq_true hlt,decide_eq_false (by omega)];rfl
 ·rw [decide_eq_true hlt,decide_eq_false (by omega)];rfl
theorem ValidW.om_rev {w : Lead → Int} (hc : consZ js ls w) {s : Side} (h : zAs ls s) : omR w js ls (revA s) = omL w js ls s := by
 obtain ⟨l,hl,e,e1,e2⟩ := V.sidePts h;obtain ⟨l',hl',e',e1',e2'⟩ := V.sidePts (zCk h);have hll : l' = l := V.lead_id hl' hl (by rw [e',e];rfl);subst hll;have hlt := (V.lh hl).2.1;have hu := V.up_rev h;unfold omR omL;rw [e1,e1',hu];have key : cntZ w js ls l' (2 * ht (loP js l') + 1) = cntZ w js ls l' (2 * ht (hiP js l') - 1) := by
  have := V.cntZ_const hc hl (h := ht (loP js l')) (ht (hiP js l') - ht (loP js l') - 1).toNat (by rw [zAB];omega) (by rw [zAB];omega);rw [this];congr 1;omega
 unfold posZ;rw [hu,V.rev_ends h]
 rcases e2 with ⟨a,b,d⟩ | ⟨a,b,d⟩ <;> rw [a,b,d]
 ·simp only [Bool.not_true,Bool.false_eq_true,if_false,if_true];have := key.symm;unfold loP hiP at this;omega
 ·simp only [Bool.not_false,Bool.false_eq_true,if_false,if_true];have := key;unfold loP hiP at this;omega
theorem ValidW.sg_out {v : Int} {l : Lead} (hl : l ∈ ls) (hi : incB l v = true) : sgA js l v = if isUp js ls (zBx v l) = true then 1 else -1 := by
 obtain ⟨l',hl',j,hj,j1,t1,t2,t3,t4,t5,t6,t7⟩ := V.leaves (out_of hl hi);obtain rfl : l' = l := V.lead_id hl' hl (by rw [t1];rfl);have hne := V.hl_ne hl;unfold sgA
 rcases t7 with ⟨a1,a2,_⟩ | ⟨a1,a2,_⟩
 ·rw [a1,if_pos a2,if_neg (fun h => hne (a2.trans h.symm))];rfl
 ·rw [a1,if_pos a2,if_neg (fun h => hne (h.trans a2.symm))];rfl
theorem ValidW.id_out {v : Int} {t : Side} (htl : t ∈ zAq v ls) {e l : Lead} (he : e ∈ ls) (hl : l ∈ ls) (e1 : e.id = t.lead) : (l.id = e.id ↔ incB l v = true ∧ zBx v l = t) := by
 constructor
 ·intro h;have := V.lead_id hl he h;subst this;obtain ⟨m,hm,q⟩ := zBt.1 htl;have hab := V.endne hl
  rcases q with ⟨q1,q2⟩ | ⟨q1,q2⟩
  ·have : m = l := V.lead_id hm hl (by rw [e1,q2]);subst this;rw [q2];unfold zBx incB;simp [q1]
  ·have : m = l := V.lead_id hm hl (by rw [e1,q2]);subst this;rw [q2];unfold zBx incB;rw [← q1];simp [hab]
 ·rintro ⟨_,h⟩;rw [e1,← h];rfl
theorem ValidW.cornerZ {w : Lead → Int} (hc : consZ js ls w) {v : Int} {r : Side} (hr : r ∈ outA js ls v) : omL w js ls (zBp (outA js ls v) r) = omR w js ls r := by
 have hrl := zBe.1 hr;have htO := (zCQ (V.out_nodup v) hr).1;have htl := zBe.1 htO;have hadj := V.nextTo hr;generalize zBp (outA js ls v) r = t at *;have hO := V.ord v;obtain ⟨e,he,_,_,_,e1,e2,_,_,_,_,_⟩ := V.leaves htl;obtain ⟨f,hf,_,_,_,f1,f2,_,_,_,_,_⟩ := V.leaves hrl;have hud : ∀ x ∈ zAq v ls,∀ y ∈ zAq v ls,ltAt js ls v x y = true → isUp js ls y = true → isUp js ls x = true := fun x hx y hy hlt hu => by
  obtain ⟨_,_,j,hj,j1,_,_,s3,_,s5,s6,s7⟩ := V.leaves hx;obtain ⟨_,_,j',hj',j1',_,_,u3,_,u5,u6,u7⟩ := V.leaves hy;obtain rfl : j' = j := V.inj hj' hj (by rw [j1,j1'])
  rcases s7 with ⟨a,_⟩ | ⟨a,_,_,a2,a3,_⟩
  ·exact a
  ·rcases u7 with ⟨b,_,_,b2,b3,_⟩ | ⟨b,_⟩
   ·exfalso;unfold ltAt at hlt;rw [zDi,zEz s5 s6,zEz u5 u6,s3,a2,b2,decide_eq_true a3,decide_eq_false (by omega)] at hlt;simp at hlt
   ·rw [b] at hu;cases hu
 obtain ⟨wide,hw⟩ : ∃ w : Bool,(w = false → ltAt js ls v t r = true ∧ ∀ s ∈ outA js ls v,s = t ∨ s = r ∨ ltAt js ls v s t = true ∨ ltAt js ls v r s = true) ∧ (w = true → ∀ s ∈ outA js ls v,(s = r ∨ ltAt js ls v r s = true) ∧ (s = t ∨ ltAt js ls v s t = true)) := by
  rcases hadj with h | h
  ·exact ⟨false,fun _ => h,fun h => by cases h⟩
  ·exact ⟨true,fun h => (by cases h),fun _ => h⟩
 have hp : ∀ l ∈ ls,(((if (zAt js l (posZ js ls t) && lft js (zBf ls t) l (posZ js ls t)) = true then w l else 0) + (if l.id = e.id then (if isUp js ls t = true then 0 else w l) else 0)) - ((if (zAt js l (posZ js ls r) && lft js (zBf ls r) l (posZ js ls r)) = true then w l else 0) + (if l.id = f.id then (if isUp js ls r = true then w l else 0) else 0))) =
   (if wide = true then 0 - sgA js l v * w l else 0) := fun l hl => by
  by_cases hi : incB l v = true
  ·have hs := out_of hl hi;have hsO : zBx v l ∈ outA js ls v := zBe.2 hs;have hsl : zBf ls (zBx v l) = l := by unfold zBf zBx;rw [V.lead hl];rfl
   have a := V.at_inc htl hs;have b := V.at_inc hrl hs;rw [hsl] at a b;rw [a,b,V.sg_out hl hi];have ht1 : (l.id = e.id) = (zBx v l = t) := propext ⟨fun h => ((V.id_out htl he hl e1).1 h).2,fun h => (V.id_out htl he hl e1).2 ⟨hi,h⟩⟩;have hr1 : (l.id = f.id) = (zBx v l = r) := propext ⟨fun h => ((V.id_out hrl hf hl f1).1 h).2,fun h => (V.id_out hrl hf hl f1).2 ⟨hi,h⟩⟩;simp only [ht1,hr1];generalize zBx v l = s at *;generalize w l = x;clear a b ht1 hr1 hsl e1 f1 hadj;have irr := fun x hx => hO.irr x hx;have asy := fun x y (hx : x ∈ zAq v ls) (hy : y ∈ zAq v ls) h => hO.as (a := x) (b := y) hx hy h;have tr := fun x y z hx hy hz h k => hO.tr x y z hx hy hz h k;have u1 := hud s hs t htl;have u2 := hud t htl s hs;have u3 := hud s hs r hrl;have u4 := hud r hrl s hs;have u5 := hud t htl r hrl;have u6 := hud r hrl t htl;have i1 := irr s hs;have i2 := irr t htl;have i3 := irr r hrl;have a1 := asy s t hs htl;have a2 := asy t s htl hs;have a3 := asy s r hs hrl;have a4 := asy r s hrl hs;have a5 := asy t r htl hrl;have a6 := asy r t hrl htl;have t1 := tr s t r hs htl hrl;have t2 := tr t r s htl hrl hs;have t3 := tr r s t hrl hs htl
   cases wide
   ·obtain ⟨h1,h2⟩ := hw.1 rfl;have h3 := h2 s hsO;clear hw h2 hO hc
    by_cases q1 : s = t
    ·by_cases q2 : s = r
     ·subst q1 q2;simp_all
     ·subst q1
      cases hs1 : isUp js ls s <;> cases hr1 : isUp js ls r <;> simp_all
    ·by_cases q2 : s = r
     ·subst q2
      cases ht1 : isUp js ls t <;> cases hr1 : isUp js ls s <;> simp_all
     ·cases ht1 : isUp js ls t <;> cases hr1 : isUp js ls r <;> cases hs1 : isUp js ls s <;> simp_all
      all_goals (rcases h3 with h3 | h3 <;> simp_all)
   ·have h3 := hw.2 rfl s hsO;have h4 := hw.2 rfl t htO;clear hw hO hc
    by_cases q1 : s = t
    ·by_cases q2 : s = r
     ·subst q1 q2
      cases hs1 : isUp js ls s <;> simp_all
     ·subst q1
      cases hs1 : isUp js ls s <;> cases hr1 : isUp js ls r <;> simp_all
    ·by_cases q2 : s = r
     ·subst q2
      cases ht1 : isUp js ls t <;> cases hr1 : isUp js ls s <;> simp_all
     ·cases ht1 : isUp js ls t <;> cases hr1 : isUp js ls r <;> cases hs1 : isUp js ls s <;> simp_all
  ·have hi2 : incB l v = false := by simpa using hi
   have hs : sgA js l v = 0 := by
    have hni : ¬ (loI js l = v ∨ hiI js l = v) := fun q => hi ((V.inc_iff hl v).2 q);unfold sgA;rw [if_neg (fun h => hni (.inl h)),if_neg (fun h => hni (.inr h))];rfl
   rw [V.at_far htl hl hi2,V.at_far hrl hl hi2,hs,if_neg (fun h => hi ((V.id_out htl he hl e1).1 h).1),if_neg (fun h => hi ((V.id_out hrl hf hl f1).1 h).1)];simp
 have := zBn hp;rw [zEd,zE3,zE3,sumZ_one (c := fun l => if isUp js ls t = true then 0 else w l) V.lid he,sumZ_one (c := fun l => if isUp js ls r = true then w l else 0) V.lid hf] at this;have hz : sumZ (fun l => if wide = true then 0 - sgA js l v * w l else 0) ls = 0 := by
  cases wide
  ·simp only [Bool.false_eq_true,if_false];exact zCu ls
  ·simp only [if_true];rw [zEd,zCu,hc v];rfl
 unfold omL omR cntZ;rw [← e2,← f2] at this;omega
end
end Go.Proofs.YtcebcklecmppnaaGreat
end
section
namespace Go.Proofs.YtcebcklecmppnaaGreat
open Go.RowKit
def upS (js : List Joint) (l : Lead) : Side := ⟨l.id,!decide (ht (ptA js l.a) < ht (ptA js l.b))⟩
def b2i (b : Bool) : Int := if b = true then 1 else 0
def wOf (m : Side → Bool) (js : List Joint) (l : Lead) : Int := b2i (m (upS js l)) - b2i (m (revA (upS js l)))
def sumS (g : Side → Int) (L : List Side) : Int := L.foldr (fun s b => g s + b) 0
theorem zAZ (g : Side → Int) (s : Side) (L : List Side) : sumS g (s :: L) = g s + sumS g L := rfl
theorem zDy (g : Side → Int) : ∀ L M : List Side,sumS g (L ++ M) = sumS g L + sumS g M
 | [],M => by show sumS g M = 0 + sumS g M;omega
 | s :: L,M => by rw [List.cons_append,zAZ,zAZ,zDy g L M];omega
theorem zE4 {g h : Side → Int} : ∀ {L : List Side},(∀ s ∈ L,g s = h s) → sumS g L = sumS h L
 | [],_ => rfl
 | s :: L,k => by rw [zAZ,zAZ,k s (by simp),zE4 (L := L) fun x hx => k x (by simp [hx])]
theorem zE5 (g h : Side → Int) : ∀ L : List Side,sumS (fun s => g s - h s) L = sumS g L - sumS h L
 | [] => rfl
 | s :: L => by rw [zAZ,zAZ,zAZ,zE5 g h L];omega
theorem zE6 (g : Side → Int) (f : Side → Side) : ∀ L : List Side,sumS (fun s => g (f s)) L = sumS g (L.map f)
 | [] => rfl
 | s :: L => by rw [List.map_cons,zAZ,zAZ,zE6 g f L]
theorem zDL (g : Side → Int) {L M : List Side} (h : L.Perm M) : sumS g L = sumS g M := by
 induction h with
 | nil => rfl
 | cons x _ ih => rw [zAZ,zAZ,ih]
 | swap x y l => rw [zAZ,zAZ,zAZ,zAZ];omega
 | trans _ _ h1 h2 => rw [h1,h2]
theorem zEn {L M : List Side} (hL : L.Nodup) (hM : M.Nodup) (h : ∀ x,x ∈ L ↔ x ∈ M) : L.Perm M := (List.perm_ext_iff_of_nodup hL hM).2 h
theorem zGr (g : Side → Int) (v : Int) : ∀ r : List Lead,sumS g (zAq v r) = sumZ (fun l => (if l.a = v then g ⟨l.id,false⟩ else 0) + (if l.b = v then g ⟨l.id,true⟩ else 0)) r
 | [] => rfl
 | l :: r => by
  have ih := zGr g v r;unfold zAq;rw [zDy,zDy,ih,zAO]
  by_cases h1 : l.a = v <;> by_cases h2 : l.b = v <;> simp only [if_pos,if_neg,h1,h2,not_false_eq_true] <;> simp [sumS] <;> omega
section
variable {js : List Joint} {ls : List Lead} (V : ValidW js ls)
include V
theorem ValidW.up_cases {l : Lead} (hl : l ∈ ls) : (loI js l = l.a ∧ hiI js l = l.b ∧ upS js l = ⟨l.id,false⟩) ∨ (loI js l = l.b ∧ hiI js l = l.a ∧ upS js l = ⟨l.id,true⟩) := by
 have _ := V;unfold loI hiI upS
 by_cases h : ht (ptA js l.a) < ht (ptA js l.b)
 ·left;rw [if_pos h,if_pos h,decide_eq_true h];exact ⟨rfl,rfl,rfl⟩
 ·right;rw [if_neg h,if_neg h,decide_eq_false h];exact ⟨rfl,rfl,rfl⟩
theorem ValidW.up_side {l : Lead} (hl : l ∈ ls) : zAs ls (upS js l) ∧ (zAi ls (upS js l)).1 = loI js l ∧ (zAi ls (upS js l)).2 = hiI js l := by
 refine ⟨⟨l,hl,rfl⟩, ?_⟩
 rcases V.up_cases hl with ⟨a,b,c⟩ | ⟨a,b,c⟩ <;> rw [a,b,c,V.sideEnds hl] <;> exact ⟨rfl,rfl⟩
theorem ValidW.side_is {s : Side} (h : zAs ls s) : (isUp js ls s = true ∧ s = upS js (zBf ls s)) ∨ (isUp js ls s = false ∧ s = revA (upS js (zBf ls s))) := by
 obtain ⟨l,hl,e,e1,e2⟩ := V.sidePts h;have hne := V.hl_ne hl;obtain ⟨_,u1,u2⟩ := V.up_side hl;rw [e1];have two : s = upS js l ∨ s = revA (upS js l) := side_two (s := upS js l) (t := s) e.symm
 rcases e2 with ⟨a,b,d⟩ | ⟨a,b,d⟩
 ·left
  refine ⟨a,two.resolve_right fun q => ?_⟩;rw [q,V.rev_ends ⟨l,hl,rfl⟩,u2] at b;exact hne b.symm
 ·right
  refine ⟨a,two.resolve_left fun q => ?_⟩;rw [q,u1] at b;exact hne b
theorem ValidW.om_diff (m : Side → Bool) {s : Side} (h : zAs ls s) : omR (wOf m js) js ls s - omL (wOf m js) js ls s = b2i (m s) - b2i (m (revA s)) := by
 unfold omR omL
 rcases V.side_is h with ⟨a,b⟩ | ⟨a,b⟩
 ·rw [if_pos a,if_pos a];have : wOf m js (zBf ls s) = b2i (m s) - b2i (m (revA s)) := by unfold wOf;rw [← b]
  omega
 ·rw [if_neg (by rw [a];decide),if_neg (by rw [a];decide)];have : wOf m js (zBf ls s) = b2i (m (revA s)) - b2i (m s) := by
   have e : revA s = upS js (zBf ls s) := by rw [b,zCB];congr 1;rw [← b]
   unfold wOf;rw [← e,zCB]
  omega
theorem ValidW.nextIn_rev {v : Int} {s : Side} (hs : s ∈ outA js ls v) : zBp (outA js ls v) s = zAC js ls (revA s) := by
 obtain ⟨h1,h2⟩ := V.of_leave (zBe.1 hs);unfold zAC;rw [V.rev_ends h1,zCB,h2]
theorem ValidW.cons_of {m : Side → Bool} (hm : ∀ s,zAs ls s → m (zAC js ls s) = m s) : consZ js ls (wOf m js) := fun v => by
 have h1 := zGr (fun s => b2i (m s) - b2i (m (revA s))) v ls;have h2 : sumZ (fun l => (if l.a = v then b2i (m ⟨l.id,false⟩) - b2i (m (revA ⟨l.id,false⟩)) else 0) + (if l.b = v then b2i (m ⟨l.id,true⟩) - b2i (m (revA ⟨l.id,true⟩)) else 0)) ls = sumZ (fun l => sgA js l v * wOf m js l) ls := zBn fun l hl => by
  unfold wOf sgA
  rcases V.up_cases hl with ⟨a,b,c⟩ | ⟨a,b,c⟩ <;> rw [a,b,c] <;> unfold revA <;> simp only [Bool.not_false,Bool.not_true]
  ·by_cases h1 : l.a = v <;> by_cases h2 : l.b = v <;> simp [h1,h2] <;> omega
  ·by_cases h1 : l.a = v <;> by_cases h2 : l.b = v <;> simp [h1,h2] <;> omega
 rw [← h2,← h1,← zDL _ (zCe (ltAt js ls v) (zAq v ls))]
 show sumS (fun s => b2i (m s) - b2i (m (revA s))) (outA js ls v) = 0
 rw [zE5];have hnd := V.out_nodup v;have h3 : sumS (fun s => b2i (m (revA s))) (outA js ls v) = sumS (fun s => b2i (m (zBp (outA js ls v) s))) (outA js ls v) := zE4 fun s hs => by
  obtain ⟨k1,_⟩ := V.of_leave (zBe.1 hs);rw [V.nextIn_rev hs,hm _ (zCk k1)]
 have hp : ((outA js ls v).map (zBp (outA js ls v))).Perm (outA js ls v) := by
  refine zEn ?_ hnd fun x => ?_
  ·rw [List.nodup_iff_pairwise_ne,List.pairwise_map];rw [List.nodup_iff_pairwise_ne] at hnd;refine hnd.imp_of_mem fun {a b} ha hb hab e => hab ?_;have := congrArg (zC5 (outA js ls v)) e
   rwa [(zCQ (V.out_nodup v) ha).2,(zCQ (V.out_nodup v) hb).2] at this
  ·rw [List.mem_map]
   constructor
   ·rintro ⟨y,hy,rfl⟩;exact (zCQ (V.out_nodup v) hy).1
   ·intro hx;exact ⟨zC5 (outA js ls v) x,(zF6 (V.out_nodup v) hx).1,(zF6 (V.out_nodup v) hx).2⟩
 rw [h3,zE6 (fun s => b2i (m s)) (zBp (outA js ls v)),zDL _ hp];omega
def kap (m : Side → Bool) (js : List Joint) (ls : List Lead) (s : Side) : Int := omL (wOf m js) js ls s + b2i (m s)
theorem ValidW.kap_next {m : Side → Bool} (hm : ∀ s,zAs ls s → m (zAC js ls s) = m s) {s : Side} (h : zAs ls s) : kap m js ls (zAC js ls s) = kap m js ls s := by
 have hc := V.cons_of hm;unfold kap;rw [hm s h];have e : omL (wOf m js) js ls (zAC js ls s) = omR (wOf m js) js ls (revA s) := by unfold zAC;exact V.cornerZ hc (V.rev_out h)
 rw [e,V.om_rev hc h]
theorem ValidW.kap_rev {m : Side → Bool} (hm : ∀ s,zAs ls s → m (zAC js ls s) = m s) {s : Side} (h : zAs ls s) : kap m js ls (revA s) = kap m js ls s := by
 have h1 := V.om_rev (V.cons_of hm) h;have h2 := V.om_diff m (zCk h);rw [zCB] at h2;unfold kap;omega
theorem ValidW.kap_out {m : Side → Bool} (hm : ∀ s,zAs ls s → m (zAC js ls s) = m s) {v : Int} : ∀ (i : Nat) (hi : i < (outA js ls v).length),kap m js ls (outA js ls v)[i] = kap m js ls ((outA js ls v)[0]'(by omega))
 | 0,_ => rfl
 | i + 1,hi => by
  rw [← ValidW.kap_out hm i (by omega)];have hs := List.getElem_mem hi;obtain ⟨k1,_⟩ := V.of_leave (zBe.1 hs);have e : zBp (outA js ls v) (outA js ls v)[i + 1] = (outA js ls v)[i] := by
   obtain ⟨k,hk,ek,e⟩ := zDz hs;rw [e];have : k = i := by rw [ek,idx_at (V.out_nodup v) hi,show i + 1 + (outA js ls v).length - 1 = i + (outA js ls v).length by omega,Nat.add_mod_right,Nat.mod_eq_of_lt (by omega)]
   subst this;rfl
  rw [← e,V.nextIn_rev hs,V.kap_next hm (zCk k1),V.kap_rev hm k1]
theorem ValidW.kap_at {m : Side → Bool} (hm : ∀ s,zAs ls s → m (zAC js ls s) = m s) {v : Int} {s t : Side} (hs : s ∈ outA js ls v) (ht : t ∈ outA js ls v) : kap m js ls s = kap m js ls t := by
 obtain ⟨i,hi,rfl⟩ := List.getElem_of_mem hs;obtain ⟨k,hk,rfl⟩ := List.getElem_of_mem ht;rw [V.kap_out hm i hi,V.kap_out hm k hk]
theorem ValidW.kap_con {m : Side → Bool} (hm : ∀ s,zAs ls s → m (zAC js ls s) = m s) {u v : Int} (h : ConJ ls 0 0 u v) : ∀ {s t : Side},s ∈ outA js ls u → t ∈ outA js ls v → kap m js ls s = kap m js ls t := by
 induction h with
 | refl => intro s t hs ht;exact V.kap_at hm hs ht
 | @step v x _ hd ih =>
  intro s t hs ht;obtain ⟨_,_,y,hy,_,e⟩ := V.adj_out.1 hd;obtain ⟨k1,_⟩ := V.of_leave (zBe.1 hy);have hr : revA y ∈ outA js ls x := by rw [← e];exact V.rev_out k1
  rw [ih hs hy,← V.kap_rev hm k1,V.kap_at hm hr ht]
end
theorem list_min {α : Type} (f : α → Int) : ∀ {L : List α},L ≠ [] → ∃ x ∈ L,∀ y ∈ L,f x ≤ f y
 | [],h => absurd rfl h
 | [x],_ => ⟨x,by simp,by simp⟩
 | x :: y :: L,_ => by
  obtain ⟨z,hz,h⟩ := list_min f (L := y :: L) (by simp)
  rcases Int.le_total (f x) (f z) with q | q
  ·exact ⟨x,by simp,fun t ht => by
    rcases List.mem_cons.1 ht with rfl | ht
    ·exact Int.le_refl _
    ·exact Int.le_trans q (h t ht)⟩
  ·exact ⟨z,by simp [hz],fun t ht => by
    rcases List.mem_cons.1 ht with rfl | ht
    ·exact q
    ·exact h t ht⟩
section
variable {js : List Joint} {ls : List Lead} (V : ValidW js ls)
include V
theorem ValidW.outer {s1 : Side} (h1 : zAs ls s1) : ∃ s0,zAs ls s0 ∧ ConJ ls 0 0 (zAi ls s1).1 (zAi ls s0).1 ∧ ∀ m : Side → Bool,(∀ s,m s = true → zAs ls s ∧ ConJ ls 0 0 (zAi ls s1).1 (zAi ls s).1) → omL (wOf m js) js ls s0 = 0 := by
 classical
 obtain ⟨x,hx,hmin⟩ := list_min (fun s => ht (ptA js (zAi ls s).1)) (L := (zBc ls).filter fun s => decide (ConJ ls 0 0 (zAi ls s1).1 (zAi ls s).1)) (by
  intro h;have : s1 ∈ (zBc ls).filter fun s => decide (ConJ ls 0 0 (zAi ls s1).1 (zAi ls s).1) := List.mem_filter.2 ⟨zBD.2 h1,decide_eq_true (ConJ.refl _)⟩;rw [h] at this;cases this)
 obtain ⟨hx1,hx2⟩ := List.mem_filter.1 hx;have hxs := zBD.1 hx1;have hxc := of_decide_eq_true hx2;have hmn : ∀ y,zAs ls y → ConJ ls 0 0 (zAi ls s1).1 (zAi ls y).1 → ht (ptA js (zAi ls x).1) ≤ ht (ptA js (zAi ls y).1) := fun y hy hc => hmin y (List.mem_filter.2 ⟨zBD.2 hy,decide_eq_true hc⟩);clear hmin hx hx1 hx2;obtain ⟨v,hv⟩ : ∃ v,(zAi ls x).1 = v := ⟨_,rfl⟩
 rw [hv] at hxc hmn;have hxO : x ∈ outA js ls v := by
  have := V.rev_out (zCk hxs)
  rwa [V.rev_ends hxs,zCB,hv] at this
 have hlen : 0 < (outA js ls v).length := List.length_pos_of_mem hxO;obtain ⟨s0,hs0⟩ : ∃ s0,(outA js ls v)[(outA js ls v).length - 1]'(by omega) = s0 := ⟨_,rfl⟩
 have hsO : s0 ∈ outA js ls v := by rw [← hs0];exact List.getElem_mem _
 have hlast : ∀ s ∈ outA js ls v,ltAt js ls v s0 s = false := fun s hs => by
  obtain ⟨i,hi,rfl⟩ := List.getElem_of_mem hs
  by_cases hi2 : i = (outA js ls v).length - 1
  ·subst hi2;rw [hs0];exact (V.ord v).irr s0 (zBe.1 hsO)
  ·have := List.pairwise_iff_getElem.1 (V.out_up v) i ((outA js ls v).length - 1) hi (by omega) (by omega);rw [hs0] at this;exact this
 obtain ⟨k1,k2⟩ := V.of_leave (zBe.1 hsO);have hup : isUp js ls s0 = true := by
  cases hu : isUp js ls s0 with
  | true => rfl
  | false =>
   exfalso;obtain ⟨l,hl,_,_,e2⟩ := V.sidePts k1;have hlt := (V.lh hl).2.1
   rcases e2 with ⟨a,_⟩ | ⟨_,b,d⟩
   ·rw [hu] at a;cases a
   ·have hc : ConJ ls 0 0 (zAi ls s1).1 (zAi ls (revA s0)).1 := by
     rw [V.rev_ends k1];refine hxc.trans ?_;have := V.adj_side k1 (q := 0) (by obtain ⟨l2,hl2,e⟩ := k1;rw [← e];exact V.lpos hl2);rw [k2] at this;exact ConJ.one this
    have := hmn _ (zCk k1) hc;rw [V.rev_ends k1] at this;simp only at this;rw [d,← k2,b] at this;unfold loP hiP at hlt;omega
 refine ⟨s0,k1,by rw [k2];exact hxc,fun m hm => ?_⟩;unfold omL;rw [if_pos hup];have hz : cntZ (wOf m js) js ls (zBf ls s0) (posZ js ls s0) = 0 := by
  unfold cntZ;rw [zBn (q := fun _ => 0) (fun l hl => ?_),zCu]
  by_cases hi : incB l v = true
  ·have hs := out_of hl hi;have hsl : zBf ls (zBx v l) = l := by unfold zBf zBx;rw [V.lead hl];rfl
   have a := V.at_inc (zBe.1 hsO) hs;rw [hsl,if_pos hup,hlast _ (zBe.2 hs),Bool.and_false] at a;rw [a];rfl
  ·by_cases hsp : zAt js l (posZ js ls s0) = true
   ·have hw : wOf m js l = 0 := by
     obtain ⟨u0,u1,u2⟩ := V.up_side hl;have hadj := V.adj_side u0 (q := 0) (V.lpos hl);have hlow : ∀ q,ConJ ls 0 0 (zAi ls s1).1 (loI js l) → q = false := fun q hc => by
      exfalso;have h1 := hmn _ u0 (by rw [u1];exact hc);rw [u1] at h1;rw [zAB] at hsp;unfold posZ at hsp;rw [if_pos hup,k2] at hsp;obtain ⟨-, -,i,hi1,k,hk,e1,e2,e3,e4⟩ := V.lh hl;have hp : ht (loP js l) = ht (ptA js v) := by unfold loP at hsp ⊢;omega
      obtain ⟨l0,hl0,j,hj,j1,_,_,t3,_⟩ := V.leaves (zBe.1 hsO);rw [t3] at hp;have := (V.loEq hl hj).2 hp;exact hi ((V.inc_iff hl v).2 (.inl (by rw [this,j1])))
     have f1 : m (upS js l) = false := by
      cases q : m (upS js l) with
      | false => rfl
      | true => exact hlow true (by have := (hm _ q).2;rwa [u1] at this)
     have f2 : m (revA (upS js l)) = false := by
      cases q : m (revA (upS js l)) with
      | false => rfl
      | true => exact hlow true (by
        have := (hm _ q).2;rw [V.rev_ends u0] at this;rw [u1] at hadj;exact this.trans (ConJ.one hadj.symm))
     unfold wOf;rw [f1,f2];rfl
    rw [hw];simp
   ·rw [if_neg];intro h;rw [Bool.and_eq_true] at h;exact hsp h.1
 rw [hz];rfl
theorem ValidW.wind {s1 : Side} (h1 : zAs ls s1) : ∃ s0,zAs ls s0 ∧ ConJ ls 0 0 (zAi ls s1).1 (zAi ls s0).1 ∧ ∀ m : Side → Bool,(∀ s,zAs ls s → m (zAC js ls s) = m s) → (∀ s,m s = true → zAs ls s ∧ ConJ ls 0 0 (zAi ls s1).1 (zAi ls s).1) →
  ∀ t,zAs ls t → ConJ ls 0 0 (zAi ls s1).1 (zAi ls t).1 → omL (wOf m js) js ls t = b2i (m s0) - b2i (m t) := by
 obtain ⟨s0,a,b,c⟩ := V.outer h1;refine ⟨s0,a,b,fun m hm hin t ht hc => ?_⟩;have out : ∀ s,zAs ls s → s ∈ outA js ls (zAi ls s).1 := fun s hs => by
  have := V.rev_out (zCk hs)
  rwa [V.rev_ends hs,zCB] at this
 have hk := V.kap_con hm (b.symm.trans hc) (out s0 a) (out t ht);have h0 := c m hin;unfold kap at hk;omega
end
end Go.Proofs.YtcebcklecmppnaaGreat
end
section
namespace Go.Proofs.YtcebcklecmppnaaGreat
open Go.RowKit
theorem zFV (p : Lead → Int) : ∀ L M : List Lead,sumZ p (L ++ M) = sumZ p L + sumZ p M
 | [],M => by show sumZ p M = 0 + sumZ p M;omega
 | l :: L,M => by rw [List.cons_append,zAO,zAO,zFV p L M];omega
theorem sumZ_perm (g : Lead → Int) {L M : List Lead} (h : L.Perm M) : sumZ g L = sumZ g M := by
 induction h with
 | nil => rfl
 | cons x _ ih => rw [zAO,zAO,ih]
 | swap x y l => rw [zAO,zAO,zAO,zAO];omega
 | trans _ _ h1 h2 => rw [h1,h2]
theorem zEv (p : Lead → Bool) (g : Lead → Int) : ∀ L : List Lead,sumZ g (L.filter p) = sumZ (fun l => if p l = true then g l else 0) L
 | [] => rfl
 | l :: L => by
  rw [zAO,← zEv p g L,List.filter_cons]
  split
  ·rw [zAO]
  ·omega
theorem sumZ_mul (c : Int) (g : Lead → Int) : ∀ L : List Lead,sumZ (fun l => c * g l) L = c * sumZ g L
 | [] => (Int.mul_zero c).symm
 | l :: L => by rw [zAO,zAO,sumZ_mul c g L,Int.mul_add]
theorem abel {X w : Lead → Int} : ∀ (L : List Lead) (p c : Int),(∀ x ∈ L,c ≤ X x) → L.Pairwise (fun a b => X a < X b) → (∀ A B,L = A ++ B → p + sumZ w A ≤ 0) → p + sumZ w L = 0 →
  -p * c ≤ sumZ (fun l => w l * X l) L ∧ ((∀ x ∈ L,c < X x) → (∃ A B,L = A ++ B ∧ p + sumZ w A < 0) → -p * c < sumZ (fun l => w l * X l) L)
 | [],p,c,_,_,_,h0 => by
  have hp : p = 0 := by have : sumZ w [] = 0 := rfl;omega
  subst hp;refine ⟨by simp [sumZ],fun _ ⟨A,B,h,k⟩ => ?_⟩;have : A = [] := (List.append_eq_nil_iff.1 h.symm).1;subst this;have : sumZ w [] = 0 := rfl;omega
 | x :: L,p,c,hc,hp,hA,h0 => by
  obtain ⟨p1,p2⟩ := List.pairwise_cons.1 hp;rw [zAO] at h0;obtain ⟨i1,i2⟩ := abel (X := X) (w := w) L (p + w x) (X x) (fun y hy => Int.le_of_lt (p1 y hy)) p2 (fun A B h => by
   have := hA (x :: A) B (by rw [h];rfl);rw [zAO] at this;omega) (by omega)
  rw [zAO];have hp0 : p ≤ 0 := by have := hA [] (x :: L) rfl;have : sumZ w [] = 0 := rfl;omega
  have hcx := hc x (by simp);have e : -p * X x = w x * X x + -(p + w x) * X x := by rw [← Int.add_mul];congr 1;omega
  have m1 : -p * c ≤ -p * X x := Int.mul_le_mul_of_nonneg_left hcx (by omega);refine ⟨by omega,fun hs ⟨A,B,hAB,hk⟩ => ?_⟩
  rcases Int.lt_or_le p 0 with q | q
  ·have m2 : -p * c < -p * X x := Int.mul_lt_mul_of_pos_left (hs x (by simp)) (by omega);omega
  ·have : -(p + w x) * X x < sumZ (fun l => w l * X l) L := i2 p1 (by
    cases A with
    | nil => have : sumZ w [] = 0 := rfl;omega
    | cons y A =>
     rw [List.cons_append] at hAB
     injection hAB with h1 h2
     subst h1;rw [zAO] at hk;exact ⟨A,B,h2,by omega⟩)
   omega
def hL (js : List Joint) (l : Lead) : Int := ht (hiP js l) - ht (loP js l)
def prodH (js : List Joint) (ls : List Lead) : Int := ls.foldr (fun l b => hL js l * b) 1
def qL (js : List Joint) (ls : List Lead) (l : Lead) : Int := prodH js ls / hL js l
def xL (js : List Joint) (ls : List Lead) (l : Lead) (z : Int) : Int := xS (loP js l) (hiP js l) z * qL js ls l
theorem zE7 {js : List Joint} : ∀ {ls : List Lead},(∀ l ∈ ls,0 < hL js l) → 0 < prodH js ls
 | [],_ => by show (0 : Int) < 1;decide
 | l :: r,h => Int.mul_pos (h l (by simp)) (zE7 (ls := r) fun x hx => h x (by simp [hx]))
theorem prod_dvd {js : List Joint} {l : Lead} : ∀ {ls : List Lead},l ∈ ls → hL js l ∣ prodH js ls
 | [],h => by cases h
 | x :: r,h => by
  rcases List.mem_cons.1 h with rfl | h
  ·exact Int.dvd_mul_right _ _
  ·exact Int.dvd_trans (prod_dvd h) (Int.dvd_mul_left _ _)
section
variable {js : List Joint} {ls : List Lead} (V : ValidW js ls)
include V
theorem ValidW.hL_pos {l : Lead} (hl : l ∈ ls) : 0 < hL js l := by have := (V.lh hl).2.1;unfold hL;omega
theorem ValidW.qL_mul {l : Lead} (hl : l ∈ ls) : hL js l * qL js ls l = prodH js ls ∧ 0 < qL js ls l :=
 ⟨Int.mul_ediv_cancel' (prod_dvd hl),Int.ediv_pos_of_pos_of_dvd (zE7 fun _ h => V.hL_pos h) (Int.le_of_lt (V.hL_pos hl)) (prod_dvd hl)⟩
theorem ValidW.lft_x {e l : Lead} (he : e ∈ ls) (hl : l ∈ ls) (z : Int) : lft js e l z = true ↔ xL js ls l z < xL js ls e z := by
 obtain ⟨a1,a2⟩ := V.qL_mul he;obtain ⟨b1,b2⟩ := V.qL_mul hl;have hD : 0 < prodH js ls := zE7 fun _ h => V.hL_pos h;have key : gL js e l z * (qL js ls e * qL js ls l) = (xL js ls e z - xL js ls l z) * prodH js ls := by
  have : gL js e l z = xS (loP js e) (hiP js e) z * hL js l - xS (loP js l) (hiP js l) z * hL js e := rfl;rw [this];unfold xL;have e1 : xS (loP js e) (hiP js e) z * hL js l * (qL js ls e * qL js ls l) = xS (loP js e) (hiP js e) z * qL js ls e * (hL js l * qL js ls l) := by grind
  have e2 : xS (loP js l) (hiP js l) z * hL js e * (qL js ls e * qL js ls l) = xS (loP js l) (hiP js l) z * qL js ls l * (hL js e * qL js ls e) := by grind
  rw [Int.sub_mul,e1,e2,a1,b1,Int.sub_mul]
 have m1 := (zDj (x := gL js e l z) (Int.mul_pos a2 b2)).1;have m2 := (zDj (x := xL js ls e z - xL js ls l z) hD).1;rw [key] at m1;unfold lft;rw [decide_eq_true_iff];omega
theorem ValidW.x_ne {e l : Lead} (he : e ∈ ls) (hl : l ∈ ls) (hne : e ≠ l) {z : Int} (s1 : zAt js e z = true) (s2 : zAt js l z = true) : xL js ls e z ≠ xL js ls l z := fun h => by
 have hi : e.id ≠ l.id := fun q => hne (V.lead_id he hl q);have g := V.gne he hl hi s1 s2;have a := V.lft_x he hl z;have b := V.lft_x hl he z;unfold lft at a b;rw [decide_eq_true_iff] at a b;rw [gL_anti js e l z] at b;omega
theorem ValidW.tot_zero {w : Lead → Int} (hc : consZ js ls w) (h : Int) : sumZ (fun l => if zAt js l (2 * h + 1) = true then w l else 0) ls = 0 := by
 have step : ∀ h,sumZ (fun l => if zAt js l (2 * h + 1) = true then w l else 0) ls = sumZ (fun l => if zAt js l (2 * h - 1) = true then w l else 0) ls := fun h => by
  by_cases hj : ∃ j ∈ js,ht j.at_ = h
  ·obtain ⟨j,hj,rfl⟩ := hj;have : sumZ (fun l => (if zAt js l (2 * ht j.at_ + 1) = true then w l else 0) - (if zAt js l (2 * ht j.at_ - 1) = true then w l else 0)) ls = sumZ (fun l => sgA js l j.id * w l) ls := zBn fun l hl => by
    have hll := (V.lh hl).2.1;have q1 := V.loEq hl hj;have q2 := V.hiEq hl hj;have s1 := zAB (js := js) (l := l) (z := 2 * ht j.at_ + 1);have s2 := zAB (js := js) (l := l) (z := 2 * ht j.at_ - 1);have hne := V.hl_ne hl;unfold sgA
    by_cases c1 : loI js l = j.id
    ·have := q1.1 c1;rw [if_pos (s1.2 (by omega)),if_neg (fun h => by have := s2.1 h;omega),if_pos c1,if_neg (fun h => hne (c1.trans h.symm))];omega
    ·have n1 : ht (loP js l) ≠ ht j.at_ := fun h => c1 (q1.2 h)
     by_cases c2 : hiI js l = j.id
     ·have := q2.1 c2;rw [if_neg (fun h => by have := s1.1 h;omega),if_pos (s2.2 (by omega)),if_neg c1,if_pos c2];omega
     ·have n2 : ht (hiP js l) ≠ ht j.at_ := fun h => c2 (q2.2 h);have : zAt js l (2 * ht j.at_ + 1) = zAt js l (2 * ht j.at_ - 1) := by
       rw [Bool.eq_iff_iff,s1,s2];omega
      rw [this,if_neg c1,if_neg c2];simp
   rw [zEd,hc j.id] at this;omega
  ·refine zBn fun l hl => ?_;obtain ⟨-,hll,i,hi,k,hk,e1,e2,e3,e4⟩ := V.lh hl;have n1 : ht (loP js l) ≠ h := fun q => hj ⟨i,hi,by rw [← e3];exact q⟩;have n2 : ht (hiP js l) ≠ h := fun q => hj ⟨k,hk,by rw [← e4];exact q⟩;have s1 := zAB (js := js) (l := l) (z := 2 * h + 1);have s2 := zAB (js := js) (l := l) (z := 2 * h - 1);have : zAt js l (2 * h + 1) = zAt js l (2 * h - 1) := by
    rw [Bool.eq_iff_iff,s1,s2];omega
   rw [this]
 have up : ∀ (n : Nat) (h : Int),sumZ (fun l => if zAt js l (2 * h + 1) = true then w l else 0) ls = sumZ (fun l => if zAt js l (2 * (h - n) + 1) = true then w l else 0) ls := fun n => by
  induction n with
  | zero => intro h;simp
  | succ n ih =>
   intro h;rw [step h,show 2 * h - 1 = 2 * (h - 1) + 1 by omega,ih (h - 1)]
   congr 1;funext l;rw [show h - 1 - (n : Int) = h - (n + 1 : Nat) by omega]
 rw [up (h + 40000000).toNat h,zBn (q := fun _ => 0) (fun l hl => ?_),zCu];obtain ⟨-, -,i,hi,k,hk,e1,e2,e3,e4⟩ := V.lh hl;have := (V.jok i hi).2;unfold inP winI at this;simp only [Bool.and_eq_true,decide_eq_true_eq] at this;rw [if_neg];intro q;rw [zAB,e3] at q;unfold ht at q;omega
end
end Go.Proofs.YtcebcklecmppnaaGreat
end
section
namespace Go.Proofs.YtcebcklecmppnaaGreat
open Go.RowKit
theorem below_all (X : Lead → Int) : ∀ L : List Lead,∃ c,∀ x ∈ L,c < X x
 | [] => ⟨0,by simp⟩
 | x :: L => by
  obtain ⟨c,hc⟩ := below_all X L;refine ⟨min c (X x - 1),fun y hy => ?_⟩
  rcases List.mem_cons.1 hy with rfl | hy
  ·omega
  ·have := hc y hy;omega
section
variable {js : List Joint} {ls : List Lead} (V : ValidW js ls)
include V
theorem ValidW.ls_nodup : ls.Nodup := V.lid.imp fun h e => by rw [e] at h;omega
theorem ValidW.row_pos {w : Lead → Int} (hc : consZ js ls w) {C : Lead → Bool} (h0 : ∀ l ∈ ls,C l = false → w l = 0) {h : Int} (h1 : ∀ l ∈ ls,C l = true → zAt js l (2 * h + 1) = true → cntZ w js ls l (2 * h + 1) ≤ 0) :
  0 ≤ sumZ (fun l => if zAt js l (2 * h + 1) = true then w l * xL js ls l (2 * h + 1) else 0) ls ∧
   ((∃ l ∈ ls,C l = true ∧ zAt js l (2 * h + 1) = true ∧ (cntZ w js ls l (2 * h + 1) < 0 ∨ cntZ w js ls l (2 * h + 1) + w l < 0)) → 0 < sumZ (fun l => if zAt js l (2 * h + 1) = true then w l * xL js ls l (2 * h + 1) else 0) ls) := by
 have htot := V.tot_zero hc h;generalize 2 * h + 1 = z at *;obtain ⟨X,hX⟩ : ∃ X : Lead → Int,X = fun l => xL js ls l z := ⟨_,rfl⟩
 obtain ⟨F,hF⟩ : ∃ F,F = ls.filter fun l => zAt js l z && C l := ⟨_,rfl⟩
 obtain ⟨L,hL⟩ : ∃ L,L = F.mergeSort fun a b => decide (X a ≤ X b) := ⟨_,rfl⟩
 have hperm : L.Perm F := by rw [hL];exact List.mergeSort_perm _ _
 have hmem : ∀ l,l ∈ L ↔ l ∈ ls ∧ zAt js l z = true ∧ C l = true := fun l => by
  rw [hperm.mem_iff,hF,List.mem_filter,Bool.and_eq_true]
 have hnd : L.Nodup := hperm.nodup_iff.2 (by rw [hF];exact V.ls_nodup.filter _);have hle : L.Pairwise fun a b => X a ≤ X b := by
  have := List.pairwise_mergeSort (le := fun a b => decide (X a ≤ X b)) (fun a b c h k => by simp only [decide_eq_true_eq] at *;omega) (fun a b => by simp only [Bool.or_eq_true,decide_eq_true_eq];omega) F;rw [← hL] at this;exact this.imp fun h => of_decide_eq_true h
 have hlt : L.Pairwise fun a b => X a < X b := by
  have := hle.and hnd;refine this.imp_of_mem fun {a b} ha hb ⟨q,r⟩ => ?_;have := V.x_ne ((hmem a).1 ha).1 ((hmem b).1 hb).1 r ((hmem a).1 ha).2.1 ((hmem b).1 hb).2.1;rw [hX] at q ⊢;exact Int.lt_iff_le_and_ne.2 ⟨q,this⟩
 have hsum : ∀ g : Lead → Int,(∀ l ∈ ls,C l = false → g l = 0) → sumZ g L = sumZ (fun l => if zAt js l z = true then g l else 0) ls := fun g hg => by
  rw [sumZ_perm g hperm,hF,zEv];refine zBn fun l hl => ?_
  cases hC : C l
  ·rw [hg l hl hC];simp
  ·simp
 have hpre : ∀ A e B,L = A ++ e :: B → sumZ w A = cntZ w js ls e z := fun A e B hAB => by
  have he : e ∈ L := by rw [hAB];simp
  have hfil : L.filter (fun l => lft js e l z) = A := by
   rw [hAB] at hlt;obtain ⟨p1,p2,p3⟩ := List.pairwise_append.1 hlt;obtain ⟨p4,p5⟩ := List.pairwise_cons.1 p2;have hm := fun l (hl : l ∈ L) => V.lft_x ((hmem e).1 he).1 ((hmem l).1 hl).1 z;rw [hAB] at hm ⊢;simp only [hX] at p3 p4;rw [List.filter_append,List.filter_eq_self.2 fun l hl => (hm l (by simp [hl])).2 (p3 l hl e (by simp)),List.filter_eq_nil_iff.2 fun l hl => ?_,List.append_nil];rw [hm l (by simp only [List.mem_append];exact .inr hl)]
   rcases List.mem_cons.1 hl with rfl | hl
   ·omega
   ·have := p4 l hl;omega
  rw [← hfil,zEv,hsum _ fun l hl hC => by rw [h0 l hl hC];simp];unfold cntZ;refine zBn fun l hl => ?_
  cases zAt js l z <;> simp
 have hall : sumZ w L = 0 := by rw [hsum w h0];exact htot
 have hE : sumZ (fun l => w l * X l) L = sumZ (fun l => if zAt js l z = true then w l * xL js ls l z else 0) ls := by
  rw [hsum _ fun l hl hC => by rw [h0 l hl hC];simp,hX]
 obtain ⟨c,hcb⟩ := below_all X L;have hneg : ∀ A B,L = A ++ B → 0 + sumZ w A ≤ 0 := fun A B hAB => by
  cases B with
  | nil => rw [List.append_nil] at hAB;rw [← hAB,hall];simp
  | cons e B =>
   have he : e ∈ L := by rw [hAB];simp
   obtain ⟨k1,k2,k3⟩ := (hmem e).1 he;rw [hpre A e B hAB];have := h1 e k1 k3 k2;omega
 obtain ⟨a1,a2⟩ := abel (X := X) (w := w) L 0 c (fun x hx => Int.le_of_lt (hcb x hx)) hlt hneg (by rw [hall];rfl);rw [hE] at a1 a2;refine ⟨by omega,fun ⟨l,k1,k2,k3,k4⟩ => ?_⟩;have : -0 * c < _ := a2 hcb (by
  obtain ⟨A,B,hAB⟩ := List.append_of_mem ((hmem l).2 ⟨k1,k3,k2⟩);have e := hpre A l B hAB
  rcases k4 with k4 | k4
  ·exact ⟨A,l :: B,hAB,by omega⟩
  ·refine ⟨A ++ [l],B,by rw [hAB];simp, ?_⟩;rw [zFV,zAO,e];have : sumZ w [] = 0 := rfl;omega)
 omega
end
def sumR (f : Int → Int) (a : Int) : Nat → Int
 | 0 => 0
 | n + 1 => sumR f a n + f (2 * (a + n) + 1)
theorem sumR_nn {f : Int → Int} (a : Int) (h : ∀ k,0 ≤ f (2 * k + 1)) : ∀ n,0 ≤ sumR f a n
 | 0 => Int.le_refl _
 | n + 1 => by have := sumR_nn a h n;have := h (a + n);show 0 ≤ sumR f a n + f _;omega
theorem sumR_pos {f : Int → Int} (a : Int) (h : ∀ k,0 ≤ f (2 * k + 1)) {k : Int} (hk : 0 < f (2 * k + 1)) : ∀ n : Nat,a ≤ k → k < a + n → 0 < sumR f a n
 | 0,_,_ => by omega
 | n + 1,h1,h2 => by
  show 0 < sumR f a n + f (2 * (a + n) + 1)
  by_cases e : k = a + n
  ·subst e;have := sumR_nn a h n;omega
  ·have := sumR_pos a h hk n h1 (by omega);have := h (a + n);omega
theorem sumR_swap (g : Lead → Int → Int) (a : Int) : ∀ (n : Nat) (ls : List Lead),sumR (fun z => sumZ (fun l => g l z) ls) a n = sumZ (fun l => sumR (g l) a n) ls
 | 0,ls => (zCu ls).symm
 | n + 1,ls => by
  show sumR (fun z => sumZ (fun l => g l z) ls) a n + sumZ (fun l => g l (2 * (a + n) + 1)) ls = sumZ (fun l => sumR (g l) a n + g l (2 * (a + n) + 1)) ls
  rw [sumR_swap g a n ls,zE3]
theorem sumR_xS (p q : Point) (c a : Int) : ∀ (n : Nat),a ≤ ht p → ht p ≤ ht q →
  sumR (fun z => if (decide (2 * ht p < z) && decide (z < 2 * ht q)) = true then c * xS p q z else 0) a n =
   (if a + n ≤ ht p then 0 else if ht q ≤ a + n then c * ((ht q - ht p) * (ht q - ht p) * (p.x + q.x)) else c * (p.x * ((ht q - ht p) * (ht q - ht p) - (ht q - (a + n)) * (ht q - (a + n))) + q.x * ((a + n - ht p) * (a + n - ht p))))
 | 0,h1,h2 => by rw [if_pos (by simpa using h1)];rfl
 | n + 1,h1,h2 => by
  show sumR _ a n + (if (decide (2 * ht p < 2 * (a + n) + 1) && decide (2 * (a + n) + 1 < 2 * ht q)) = true then c * xS p q (2 * (a + n) + 1) else 0) = _
  rw [sumR_xS p q c a n h1 h2,show a + (n + 1 : Nat) = a + n + 1 by omega];generalize a + (n : Int) = t at *
  by_cases c1 : t + 1 ≤ ht p
  ·rw [if_pos (by omega),if_pos c1,if_neg (by simp;omega)];rfl
  ·rw [if_neg c1]
   by_cases c2 : t ≤ ht p
   ·have ht0 : t = ht p := by omega
    subst ht0;rw [if_pos (by omega)]
    by_cases c3 : ht q ≤ ht p + 1
    ·rw [if_pos c3]
     by_cases c4 : ht q ≤ ht p
     ·have e : ht q = ht p := by omega
      rw [if_neg (by simp;omega),e];simp
     ·have e : ht q = ht p + 1 := by omega
      rw [if_pos (by simp;omega)];unfold xS;rw [e];grind
    ·rw [if_neg c3,if_pos (by simp;omega)];unfold xS
     grind
   ·rw [if_neg c2]
    by_cases c3 : ht q ≤ t
    ·rw [if_pos c3,if_pos (show ht q ≤ t + 1 by omega),if_neg (by simp;omega)];omega
    ·rw [if_neg c3,if_pos (by simp;omega)]
     by_cases c4 : ht q ≤ t + 1
     ·have e : ht q = t + 1 := by omega
      rw [if_pos c4];unfold xS;rw [e];grind
     ·rw [if_neg c4];unfold xS
      grind
end Go.Proofs.YtcebcklecmppnaaGreat
end
section
namespace Go.Proofs.YtcebcklecmppnaaGreat
open Go.RowKit
def aS (js : List Joint) (ls : List Lead) (s : Side) : Int := ((ptA js (zAi ls s).1).x + (ptA js (zAi ls s).2).x) * (ht (ptA js (zAi ls s).2) - ht (ptA js (zAi ls s).1))
def areaM (m : Side → Bool) (js : List Joint) (ls : List Lead) : Int := sumS (fun s => if m s = true then aS js ls s else 0) (zBc ls)
theorem zGs (g : Side → Int) : ∀ ls : List Lead,sumS g (zBc ls) = sumZ (fun l => g ⟨l.id,false⟩ + g ⟨l.id,true⟩) ls
 | [] => rfl
 | l :: r => by
  show sumS g (_ :: _ :: zBc r) = _
  rw [zAZ,zAZ,zGs g r,zAO];omega
theorem zFW (p : Side → Bool) (g : Side → Int) : ∀ L : List Side,sumS g (L.filter p) = sumS (fun l => if p l = true then g l else 0) L
 | [] => rfl
 | l :: L => by
  rw [zAZ,← zFW p g L,List.filter_cons]
  split
  ·rw [zAZ]
  ·omega
section
variable {js : List Joint} {ls : List Lead} (V : ValidW js ls)
include V
theorem ValidW.sides_nodup : (zBc ls).Nodup := by
 have key : ∀ r : List Lead,r.Pairwise (fun a b => a.id < b.id) → (zBc r).Nodup := fun r => by
  induction r with
  | nil => intro _;exact List.nodup_nil
  | cons l r ih =>
   intro h;obtain ⟨h1,h2⟩ := List.pairwise_cons.1 h;have hn : ∀ b,(⟨l.id,b⟩ : Side) ∉ zBc r := fun b hb => by
    obtain ⟨x,hx,e⟩ := zBD.1 hb;have := h1 x hx;have e2 : x.id = l.id := e;omega
   show (_ :: _ :: zBc r).Nodup
   rw [List.nodup_cons,List.nodup_cons];refine ⟨fun h => ?_,hn _,ih h2⟩
   rcases List.mem_cons.1 h with h | h
   ·injection h with _ h;cases h
   ·exact hn _ h
 exact key ls V.lid
theorem ValidW.aS_rev {s : Side} (h : zAs ls s) : aS js ls (revA s) = - aS js ls s := by
 unfold aS;rw [V.rev_ends h];simp only
 grind
theorem ValidW.area_w (m : Side → Bool) : areaM m js ls = sumZ (fun l => wOf m js l * (((loP js l).x + (hiP js l).x) * hL js l)) ls := by
 unfold areaM;rw [zGs];refine zBn fun l hl => ?_;obtain ⟨u0,u1,u2⟩ := V.up_side hl;have ea : aS js ls (upS js l) = ((loP js l).x + (hiP js l).x) * hL js l := by
  unfold aS hL loP hiP;rw [u1,u2]
 have er := V.aS_rev u0;rw [ea] at er;have hs : (if m ⟨l.id,false⟩ = true then aS js ls ⟨l.id,false⟩ else 0) + (if m ⟨l.id,true⟩ = true then aS js ls ⟨l.id,true⟩ else 0) = (if m (upS js l) = true then aS js ls (upS js l) else 0) + (if m (revA (upS js l)) = true then aS js ls (revA (upS js l)) else 0) := by
  rcases V.up_cases hl with ⟨_,_,c⟩ | ⟨_,_,c⟩ <;> rw [c] <;> unfold revA <;> simp only [Bool.not_false,Bool.not_true];exact Int.add_comm _ _
 rw [hs,er,ea];unfold wOf b2i;generalize ((loP js l).x + (hiP js l).x) * hL js l = A
 cases m (upS js l) <;> cases m (revA (upS js l)) <;> simp <;> omega
theorem ValidW.ht_in {l : Lead} (hl : l ∈ ls) : -40000000 ≤ ht (loP js l) ∧ ht (hiP js l) ≤ 40000000 := by
 obtain ⟨-, -,i,hi,k,hk,e1,e2,e3,e4⟩ := V.lh hl;have h1 := (V.jok i hi).2;have h2 := (V.jok k hk).2;unfold inP winI at h1 h2;simp only [Bool.and_eq_true,decide_eq_true_eq] at h1 h2;rw [e3,e4];unfold ht;omega
theorem ValidW.area_sweep (m : Side → Bool) {n : Nat} (hn : (n : Int) = 80000000) : prodH js ls * areaM m js ls = sumR (fun z => sumZ (fun l => if zAt js l z = true then wOf m js l * xL js ls l z else 0) ls) (-40000000) n := by
 rw [sumR_swap (fun l z => if zAt js l z = true then wOf m js l * xL js ls l z else 0),V.area_w,← sumZ_mul];refine zBn fun l hl => ?_;obtain ⟨a1,a2⟩ := V.qL_mul hl;obtain ⟨b1,b2⟩ := V.ht_in hl;have hlt := (V.lh hl).2.1;have key := sumR_xS (loP js l) (hiP js l) (wOf m js l * qL js ls l) (-40000000) n b1 (Int.le_of_lt hlt);rw [if_neg (by omega),if_pos (by omega)] at key;have e : (fun z => if (decide (2 * ht (loP js l) < z) && decide (z < 2 * ht (hiP js l))) = true then wOf m js l * qL js ls l * xS (loP js l) (hiP js l) z else 0) = (fun z => if zAt js l z = true then wOf m js l * xL js ls l z else 0) := by
  funext z
  unfold zAt xL
  congr 1
  grind
 rw [e] at key;rw [key,← a1]
 show hL js l * qL js ls l * (wOf m js l * (((loP js l).x + (hiP js l).x) * hL js l)) = wOf m js l * qL js ls l * (hL js l * hL js l * ((loP js l).x + (hiP js l).x))
 generalize hL js l = H;generalize qL js ls l = q;generalize wOf m js l = w
 grind
theorem ValidW.cnt_up {w : Lead → Int} (hc : consZ js ls w) {l : Lead} (hl : l ∈ ls) {h : Int} (hs : zAt js l (2 * h + 1) = true) : cntZ w js ls l (2 * h + 1) = omL w js ls (upS js l) := by
 obtain ⟨u0,u1,u2⟩ := V.up_side hl;have hlt := (V.lh hl).2.1;have hu : isUp js ls (upS js l) = true := by
  unfold isUp;rw [u1,u2];unfold loP hiP at hlt;exact decide_eq_true hlt
 have hsl : zBf ls (upS js l) = l := by unfold zBf upS;rw [V.lead hl];rfl
 rw [zAB] at hs;unfold omL posZ;rw [if_pos hu,if_pos hu,hsl,u1];have := V.cntZ_const hc hl (h := ht (loP js l)) (h - ht (loP js l)).toNat (by rw [zAB];omega) (by rw [zAB];omega);rw [show ht (loP js l) + ((h - ht (loP js l)).toNat : Int) = h by omega] at this;rw [← this];unfold loP;omega
theorem ValidW.area_pos {s1 : Side} (h1 : zAs ls s1) : ∃ s0,zAs ls s0 ∧ ConJ ls 0 0 (zAi ls s1).1 (zAi ls s0).1 ∧ ∀ m : Side → Bool,(∀ s,zAs ls s → m (zAC js ls s) = m s) → (∀ s,m s = true → zAs ls s ∧ ConJ ls 0 0 (zAi ls s1).1 (zAi ls s).1) →
  m s0 = false → ∀ t,m t = true → 0 < areaM m js ls := by
 classical
 obtain ⟨s0,a,b,c⟩ := V.wind h1;refine ⟨s0,a,b,fun m hm hin h0 t htm => ?_⟩;have hom := c m hm hin;have hc := V.cons_of hm;obtain ⟨C,hC⟩ : ∃ C : Lead → Bool,C = fun l => decide (ConJ ls 0 0 (zAi ls s1).1 (loI js l)) := ⟨_,rfl⟩
 have hCu : ∀ l ∈ ls,m (upS js l) = true ∨ m (revA (upS js l)) = true → C l = true := fun l hl h => by
  obtain ⟨u0,u1,u2⟩ := V.up_side hl;rw [hC];refine decide_eq_true ?_
  rcases h with h | h
  ·have := (hin _ h).2;rwa [u1] at this
  ·have := (hin _ h).2;rw [V.rev_ends u0] at this;have hadj := V.adj_side u0 (q := 0) (V.lpos hl);rw [u1] at hadj;exact this.trans (ConJ.one hadj.symm)
 have hw0 : ∀ l ∈ ls,C l = false → wOf m js l = 0 := fun l hl h => by
  have n1 : m (upS js l) = false := by
   cases q : m (upS js l) with
   | false => rfl
   | true => rw [hCu l hl (.inl q)] at h;cases h
  have n2 : m (revA (upS js l)) = false := by
   cases q : m (revA (upS js l)) with
   | false => rfl
   | true => rw [hCu l hl (.inr q)] at h;cases h
  unfold wOf;rw [n1,n2];rfl
 have hcn : ∀ l ∈ ls,C l = true → ∀ h,zAt js l (2 * h + 1) = true → cntZ (wOf m js) js ls l (2 * h + 1) = - b2i (m (upS js l)) := fun l hl hCl h hs => by
  obtain ⟨u0,u1,u2⟩ := V.up_side hl;rw [V.cnt_up hc hl hs,hom _ u0 (by rw [hC] at hCl;rw [u1];exact of_decide_eq_true hCl),h0];unfold b2i;simp
 have hrow : ∀ h,_ := fun h => V.row_pos hc hw0 (h := h) fun l hl hCl hs => by
  rw [hcn l hl hCl h hs];unfold b2i;split <;> omega
 have hD : 0 < prodH js ls := zE7 fun _ h => V.hL_pos h;obtain ⟨n,hn⟩ : ∃ n : Nat,(n : Int) = 80000000 := ⟨80000000,rfl⟩
 have hsw := V.area_sweep m hn;obtain ⟨ht1,ht2⟩ := hin t htm;obtain ⟨l,hl,e,e1,e2⟩ := V.sidePts ht1;have hlt := (V.lh hl).2.1;have hsp : zAt js l (2 * ht (loP js l) + 1) = true := by rw [zAB];omega
 have two : t = upS js l ∨ t = revA (upS js l) := side_two (s := upS js l) (t := t) e.symm;have hex : cntZ (wOf m js) js ls l (2 * ht (loP js l) + 1) < 0 ∨ cntZ (wOf m js) js ls l (2 * ht (loP js l) + 1) + wOf m js l < 0 := by
  rcases two with q | q
  ·left
   rw [hcn l hl (hCu l hl (.inl (by rw [← q];exact htm))) _ hsp,← q,htm];decide
  ·right
   rw [hcn l hl (hCu l hl (.inr (by rw [← q];exact htm))) _ hsp];unfold wOf;rw [← q,htm];have : b2i true = 1 := rfl;omega
 have hCl : C l = true := by
  rcases two with q | q
  ·exact hCu l hl (.inl (by rw [← q];exact htm))
  ·exact hCu l hl (.inr (by rw [← q];exact htm))
 have hpos := (hrow (ht (loP js l))).2 ⟨l,hl,hCl,hsp,hex⟩;have hin2 := V.ht_in hl;have := sumR_pos (f := fun z => sumZ (fun l => if zAt js l z = true then wOf m js l * xL js ls l z else 0) ls) (-40000000) (fun k => (hrow k).1) hpos n (by omega) (by omega);rw [← hsw] at this;rw [Int.mul_comm] at this;exact (zDj hD).1.1 this
end
end Go.Proofs.YtcebcklecmppnaaGreat
end
