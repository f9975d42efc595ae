/-
  The plane of a web swept by heights: leads do not cross, so their order from left to right does not change.
  How many leads of an even set stand to the left of a lead: the parity is the same all along it.
  Around a corner and along a side the parity is the same: both sides of a lead of an even set lie in different walks.
  Joints that hang together (plain).
  A lead is a bridge just if both of its sides are in one walk (plain).
  Counting classes by representatives: what becomes of the orbits of a permutation when two values are exchanged, and when an element is left out (plain).
  Euler's formula for webs (plain), by leaving out one lead after the other.
  Euler's formula for webs (plain): the sum.
-/
import Derived.Test.YtcebcklecmppnaaGreatWebGa
import Derived.RowKit
set_option linter.unusedVariables false
set_option linter.unusedSimpArgs false
set_option maxHeartbeats 16000000
set_option maxRecDepth 100000
section
namespace Go.Proofs.YtcebcklecmppnaaGreat
open Go.RowKit
def ht (p : Point) : Int := 8192 * p.y + p.x
def xS (a b : Point) (z : Int) : Int := a.x * (2 * ht b - z) + b.x * (z - 2 * ht a)
def gS (a b c d : Point) (z : Int) : Int := xS a b z * (ht d - ht c) - xS c d z * (ht b - ht a)
def slS (a b c d : Point) : Int := (b.x - a.x) * (ht d - ht c) - (d.x - c.x) * (ht b - ht a)
theorem gS_anti (a b c d : Point) (z : Int) : gS c d a b z = - gS a b c d z := by unfold gS;grind
theorem zCt (a b c d : Point) (z z' : Int) : gS a b c d z' = gS a b c d z + (z' - z) * slS a b c d := by unfold gS xS slS;grind
theorem gS_c (a b c d : Point) : gS a b c d (2 * ht c) = 16384 * (zAs a b c * (ht d - ht c)) := by unfold gS xS zAs ht;grind
theorem gS_d (a b c d : Point) : gS a b c d (2 * ht d) = 16384 * (zAs a b d * (ht d - ht c)) := by unfold gS xS zAs ht;grind
theorem gS_a (a b c d : Point) : gS a b c d (2 * ht a) = - (16384 * (zAs c d a * (ht b - ht a))) := by unfold gS xS zAs ht;grind
theorem gS_b (a b c d : Point) : gS a b c d (2 * ht b) = - (16384 * (zAs c d b * (ht b - ht a))) := by unfold gS xS zAs ht;grind
theorem gS_lo (a b d : Point) (z : Int) : gS a b a d z = (z - 2 * ht a) * (8192 * zAs a b d) := by unfold gS xS zAs ht;grind
theorem gS_hi (a b c : Point) (z : Int) : gS a b c b z = (2 * ht b - z) * (8192 * zAs b c a) := by unfold gS xS zAs ht;grind
theorem mul_sgn {x y : Int} (hy : 0 < y) : (0 < x * y ↔ 0 < x) ∧ (x * y < 0 ↔ x < 0) := by
 rcases Int.lt_trichotomy x 0 with h | h | h
 ·have := Int.mul_neg_of_neg_of_pos h hy
  constructor <;> constructor <;> intro <;> omega
 ·subst h;simp
 ·have := Int.mul_pos h hy
  constructor <;> constructor <;> intro <;> omega
section
variable {a b c d : Point} (h1 : ht a < ht b) (h2 : ht c < ht d)
include h1 h2
theorem gS_sc : (0 < gS a b c d (2 * ht c) ↔ 0 < zAs a b c) ∧ (gS a b c d (2 * ht c) < 0 ↔ zAs a b c < 0) := by
 have _ := h1
 rw [gS_c]
 obtain ⟨p,q⟩ := mul_sgn (x := zAs a b c) (y := ht d - ht c) (by omega)
 omega
theorem gS_sd : (0 < gS a b c d (2 * ht d) ↔ 0 < zAs a b d) ∧ (gS a b c d (2 * ht d) < 0 ↔ zAs a b d < 0) := by
 have _ := h1
 rw [gS_d]
 obtain ⟨p,q⟩ := mul_sgn (x := zAs a b d) (y := ht d - ht c) (by omega)
 omega
theorem gS_sa : (0 < gS a b c d (2 * ht a) ↔ zAs c d a < 0) ∧ (gS a b c d (2 * ht a) < 0 ↔ 0 < zAs c d a) := by
 have _ := h2
 rw [gS_a]
 obtain ⟨p,q⟩ := mul_sgn (x := zAs c d a) (y := ht b - ht a) (by omega)
 omega
theorem gS_sb : (0 < gS a b c d (2 * ht b) ↔ zAs c d b < 0) ∧ (gS a b c d (2 * ht b) < 0 ↔ 0 < zAs c d b) := by
 have _ := h2
 rw [gS_b]
 obtain ⟨p,q⟩ := mul_sgn (x := zAs c d b) (y := ht b - ht a) (by omega)
 omega
theorem gS_cross {z1 z2 : Int} (a1 : 2 * ht a ≤ z1) (a2 : z1 ≤ 2 * ht b) (a3 : 2 * ht c ≤ z1) (a4 : z1 ≤ 2 * ht d) (b1 : 2 * ht a ≤ z2) (b2 : z2 ≤ 2 * ht b) (b3 : 2 * ht c ≤ z2) (b4 : z2 ≤ 2 * ht d)
  (k1 : gS a b c d z1 < 0) (k2 : 0 < gS a b c d z2) : (zAs a b c < 0 ∧ 0 < zAs a b d ∧ 0 < zAs c d a ∧ zAs c d b < 0) ∨ (0 < zAs a b c ∧ zAs a b d < 0 ∧ zAs c d a < 0 ∧ 0 < zAs c d b) := by
 obtain ⟨p1,p2⟩ := gS_sa h1 h2
 obtain ⟨q1,q2⟩ := gS_sb h1 h2
 obtain ⟨r1,r2⟩ := gS_sc h1 h2
 obtain ⟨s1,s2⟩ := gS_sd h1 h2
 have e12 := zCt a b c d z1 z2
 have ea := zCt a b c d z1 (2 * ht a)
 have eb := zCt a b c d z1 (2 * ht b)
 have ec := zCt a b c d z1 (2 * ht c)
 have ed := zCt a b c d z1 (2 * ht d)
 have fa := zCt a b c d z2 (2 * ht a)
 have fb := zCt a b c d z2 (2 * ht b)
 have fc := zCt a b c d z2 (2 * ht c)
 have fd := zCt a b c d z2 (2 * ht d)
 generalize slS a b c d = S at *
 rcases Int.lt_trichotomy z1 z2 with h | h | h
 ·have hS : 0 < S := by
   rcases Int.lt_or_le 0 S with hs | hs
   ·exact hs
   ·have := Int.mul_nonpos_of_nonneg_of_nonpos (show 0 ≤ z2 - z1 by omega) hs
    omega
  left
  have m1 := Int.mul_nonpos_of_nonpos_of_nonneg (show 2 * ht a - z1 ≤ 0 by omega) (Int.le_of_lt hS)
  have m2 := Int.mul_nonneg (show 0 ≤ 2 * ht b - z2 by omega) (Int.le_of_lt hS)
  have m3 := Int.mul_nonpos_of_nonpos_of_nonneg (show 2 * ht c - z1 ≤ 0 by omega) (Int.le_of_lt hS)
  have m4 := Int.mul_nonneg (show 0 ≤ 2 * ht d - z2 by omega) (Int.le_of_lt hS)
  exact ⟨r2.1 (by omega),s1.1 (by omega),p2.1 (by omega),q1.1 (by omega)⟩
 ·subst h;omega
 ·have hS : S < 0 := by
   rcases Int.lt_or_le S 0 with hs | hs
   ·exact hs
   ·have := Int.mul_nonpos_of_nonpos_of_nonneg (show z2 - z1 ≤ 0 by omega) hs
    omega
  right
  have m1 := Int.mul_nonneg_of_nonpos_of_nonpos (show 2 * ht a - z2 ≤ 0 by omega) (Int.le_of_lt hS)
  have m2 := Int.mul_nonpos_of_nonneg_of_nonpos (show 0 ≤ 2 * ht b - z1 by omega) (Int.le_of_lt hS)
  have m3 := Int.mul_nonneg_of_nonpos_of_nonpos (show 2 * ht c - z2 ≤ 0 by omega) (Int.le_of_lt hS)
  have m4 := Int.mul_nonpos_of_nonneg_of_nonpos (show 0 ≤ 2 * ht d - z1 by omega) (Int.le_of_lt hS)
  exact ⟨r1.1 (by omega),s2.1 (by omega),p1.1 (by omega),q2.1 (by omega)⟩
end
theorem cmpZ_lt {x y : Int} : cmpZ x 0 * cmpZ y 0 < 0 ↔ (x < 0 ∧ 0 < y) ∨ (0 < x ∧ y < 0) := by
 unfold cmpZ
 split <;> split <;> (try split) <;> (try split) <;> simp <;> omega
theorem zB9 (a b p : Point) : zAs b a p = - zAs a b p := by unfold zAs;grind
theorem zEu (a b : Point) : zAs a b a = 0 := by unfold zAs;grind
theorem zEv (a b : Point) : zAs a b b = 0 := by unfold zAs;grind
theorem on_line {a b p : Point} (h1 : ht a < ht b) (h2 : ht a ≤ ht p) (h3 : ht p ≤ ht b) (h : zAs a b p = 0) : onP a b p = true := by
 unfold onP
 simp only [h,beq_self_eq_true,Bool.true_and,decide_eq_true_eq]
 have e1 : (ht b - ht a) * (p.x - a.x) = (ht p - ht a) * (b.x - a.x) := by unfold zAs at h;unfold ht;grind
 have e2 : (ht b - ht a) * (p.y - a.y) = (ht p - ht a) * (b.y - a.y) := by unfold zAs at h;unfold ht;grind
 have hd : dotP p a b = - ((p.x - a.x) * ((b.x - a.x) - (p.x - a.x)) + (p.y - a.y) * ((b.y - a.y) - (p.y - a.y))) := by unfold dotP;grind
 rw [hd]
 have hU : 0 < ht b - ht a := by omega
 have hW : 0 ≤ ht p - ht a := by omega
 have hV : 0 ≤ (ht b - ht a) - (ht p - ht a) := by omega
 generalize ht b - ht a = U at *
 generalize ht p - ht a = W at *
 generalize p.x - a.x = wx at *
 generalize p.y - a.y = wy at *
 generalize b.x - a.x = ux at *
 generalize b.y - a.y = uy at *
 have e3 : U * U * (wx * (ux - wx) + wy * (uy - wy)) = W * (U - W) * (ux * ux + uy * uy) := by grind
 have n1 := sq_nn ux
 have n2 := sq_nn uy
 have n3 : 0 ≤ W * (U - W) * (ux * ux + uy * uy) := Int.mul_nonneg (Int.mul_nonneg hW hV) (by omega)
 rcases Int.lt_or_le (wx * (ux - wx) + wy * (uy - wy)) 0 with q | q
 ·have := Int.mul_neg_of_pos_of_neg (Int.mul_pos hU hU) q
  omega
 ·omega
def loI (js : List Joint) (l : Lead) : Int := if ht (ptA js l.a) < ht (ptA js l.b) then l.a else l.b
def hiI (js : List Joint) (l : Lead) : Int := if ht (ptA js l.a) < ht (ptA js l.b) then l.b else l.a
def loP (js : List Joint) (l : Lead) : Point := ptA js (loI js l)
def hiP (js : List Joint) (l : Lead) : Point := ptA js (hiI js l)
def gL (js : List Joint) (e l : Lead) (z : Int) : Int := gS (loP js e) (hiP js e) (loP js l) (hiP js l) z
def zAV (js : List Joint) (l : Lead) (z : Int) : Bool := decide (2 * ht (loP js l) < z) && decide (z < 2 * ht (hiP js l))
theorem zA3 {js : List Joint} {l : Lead} {z : Int} : zAV js l z = true ↔ 2 * ht (loP js l) < z ∧ z < 2 * ht (hiP js l) := by unfold zAV;simp
theorem gL_anti (js : List Joint) (e l : Lead) (z : Int) : gL js l e z = - gL js e l z := gS_anti _ _ _ _ _
theorem ht_inj {p q : Point} (hp : inP p = true) (hq : inP q = true) (h : ht p = ht q) : p = q := by
 unfold inP winI at hp hq
 simp only [Bool.and_eq_true,decide_eq_true_eq] at hp hq
 unfold ht at h
 obtain ⟨x,y⟩ := p
 obtain ⟨u,v⟩ := q
 simp only at *
 have : y = v := by omega
 have : x = u := by omega
 subst_vars;rfl
section
variable {js : List Joint} {ls : List Lead} (V : ValidW js ls)
include V
theorem ValidW.ht_j {i k : Joint} (hi : i ∈ js) (hk : k ∈ js) (h : ht i.at_ = ht k.at_) : i = k := by
 have := ht_inj (V.jok i hi).2 (V.jok k hk).2 h
 rcases pw_or V.jat hi hk with e | e | e
 ·exact e
 ·exact absurd this e
 ·exact absurd this.symm e
theorem ValidW.lh {l : Lead} (hl : l ∈ ls) : ((loI js l = l.a ∧ hiI js l = l.b) ∨ (loI js l = l.b ∧ hiI js l = l.a)) ∧ ht (loP js l) < ht (hiP js l) ∧ ∃ i ∈ js,∃ k ∈ js,i.id = loI js l ∧ k.id = hiI js l ∧ loP js l = i.at_ ∧ hiP js l = k.at_ := by
 obtain ⟨i,hi,k,hk,e1,e2,e3,e4,e5⟩ := V.ends hl
 unfold loP hiP loI hiI
 by_cases h : ht (ptA js l.a) < ht (ptA js l.b)
 ·simp only [if_pos h]
  exact ⟨.inl ⟨trivial,trivial⟩,h,i,hi,k,hk,e1,e2,e4,e5⟩
 ·simp only [if_neg h]
  refine ⟨.inr ⟨trivial,trivial⟩, ?_,k,hk,i,hi,e2,e1,e5,e4⟩
  rcases Int.lt_or_le (ht (ptA js l.b)) (ht (ptA js l.a)) with q | q
  ·exact q
  ·have e : ht i.at_ = ht k.at_ := by rw [← e4,← e5];omega
   have := V.ht_j hi hk e
   rw [← e1,← e2,this] at e3
   exact absurd rfl e3
theorem ValidW.inc_lh {l : Lead} (hl : l ∈ ls) (j : Int) : (l.a = j ∨ l.b = j) ↔ (loI js l = j ∨ hiI js l = j) := by
 rcases (V.lh hl).1 with ⟨a,b⟩ | ⟨a,b⟩ <;> rw [a,b]
 exact or_comm
theorem ValidW.noX {e l : Lead} (he : e ∈ ls) (hl : l ∈ ls) (hne : e.id ≠ l.id) {z1 z2 : Int} (a1 : 2 * ht (loP js e) ≤ z1) (a2 : z1 ≤ 2 * ht (hiP js e)) (a3 : 2 * ht (loP js l) ≤ z1) (a4 : z1 ≤ 2 * ht (hiP js l))
  (b1 : 2 * ht (loP js e) ≤ z2) (b2 : z2 ≤ 2 * ht (hiP js e)) (b3 : 2 * ht (loP js l) ≤ z2) (b4 : z2 ≤ 2 * ht (hiP js l)) (k1 : gL js e l z1 < 0) (k2 : 0 < gL js e l z2) : False := by
 have hx := gS_cross (V.lh he).2.1 (V.lh hl).2.1 a1 a2 a3 a4 b1 b2 b3 b4 k1 k2
 have hse : ((loP js e = ptA js e.a ∧ hiP js e = ptA js e.b) ∨ (loP js e = ptA js e.b ∧ hiP js e = ptA js e.a)) := by
  unfold loP hiP;rcases (V.lh he).1 with ⟨u,v⟩ | ⟨u,v⟩ <;> rw [u,v] <;> simp
 have hsl : ((loP js l = ptA js l.a ∧ hiP js l = ptA js l.b) ∨ (loP js l = ptA js l.b ∧ hiP js l = ptA js l.a)) := by
  unfold loP hiP;rcases (V.lh hl).1 with ⟨u,v⟩ | ⟨u,v⟩ <;> rw [u,v] <;> simp
 clear k1 k2 a1 a2 a3 a4 b1 b2 b3 b4
 have key : ((zAs (ptA js e.a) (ptA js e.b) (ptA js l.a) < 0 ∧ 0 < zAs (ptA js e.a) (ptA js e.b) (ptA js l.b)) ∨ (0 < zAs (ptA js e.a) (ptA js e.b) (ptA js l.a) ∧ zAs (ptA js e.a) (ptA js e.b) (ptA js l.b) < 0)) ∧
   ((zAs (ptA js l.a) (ptA js l.b) (ptA js e.a) < 0 ∧ 0 < zAs (ptA js l.a) (ptA js l.b) (ptA js e.b)) ∨ (0 < zAs (ptA js l.a) (ptA js l.b) (ptA js e.a) ∧ zAs (ptA js l.a) (ptA js l.b) (ptA js e.b) < 0)) := by
  rcases hse with ⟨u1,u2⟩ | ⟨u1,u2⟩ <;> rcases hsl with ⟨v1,v2⟩ | ⟨v1,v2⟩ <;> rw [u1,u2,v1,v2] at hx
  ·omega
  ·rw [zB9 (ptA js l.a) (ptA js l.b),zB9 (ptA js l.a) (ptA js l.b)] at hx;omega
  ·rw [zB9 (ptA js e.a) (ptA js e.b),zB9 (ptA js e.a) (ptA js e.b)] at hx;omega
  ·rw [zB9 (ptA js l.a) (ptA js l.b),zB9 (ptA js l.a) (ptA js l.b),zB9 (ptA js e.a) (ptA js e.b),zB9 (ptA js e.a) (ptA js e.b)] at hx;omega
 have n1 : e.a ≠ l.a := fun q => by rw [q] at key;simp only [zEu,zEv] at key;omega
 have n2 : e.a ≠ l.b := fun q => by rw [q] at key;simp only [zEu,zEv] at key;omega
 have n3 : e.b ≠ l.a := fun q => by rw [q] at key;simp only [zEu,zEv] at key;omega
 have n4 : e.b ≠ l.b := fun q => by rw [q] at key;simp only [zEu,zEv] at key;omega
 have c1 : zB3 js e l = true := by
  unfold zB3
  rw [if_neg (by simp [n1,n2,n3,n4])]
  simp only [Bool.and_eq_true,decide_eq_true_eq,cmpZ_lt]
  exact key
 have c2 : zB3 js l e = true := by
  unfold zB3
  rw [if_neg (by simp [Ne.symm n1,Ne.symm n2,Ne.symm n3,Ne.symm n4])]
  simp only [Bool.and_eq_true,decide_eq_true_eq,cmpZ_lt]
  exact key.symm
 rcases pw_or V.meet he hl with q | q | q
 ·rw [q] at hne;exact hne rfl
 ·rw [c2] at q;cases q.1
 ·rw [c1] at q;cases q.1
theorem ValidW.offL {e : Lead} (he : e ∈ ls) {j : Joint} (hj : j ∈ js) (h1 : ht (loP js e) ≤ ht j.at_) (h2 : ht j.at_ ≤ ht (hiP js e)) (h : zAs (loP js e) (hiP js e) j.at_ = 0) : j.id = loI js e ∨ j.id = hiI js e := by
 have ho := on_line (V.lh he).2.1 h1 h2 h
 have ht := V.touch e he
 have hs : onP (ptA js e.a) (ptA js e.b) j.at_ = true := by
  unfold loP hiP at ho
  rcases (V.lh he).1 with ⟨u,v⟩ | ⟨u,v⟩ <;> rw [u,v] at ho
  ·exact ho
  ·rw [onP_symm];exact ho
 unfold zDK at ht
 rw [List.any_eq_false] at ht
 have := ht j hj
 simp only [hs,Bool.and_true,Bool.and_eq_true,bne_iff_ne,ne_eq,not_and,Decidable.not_not] at this
 by_cases q : j.id = e.a
 ·exact (V.inc_lh he j.id).1 (.inl q.symm) |>.imp Eq.symm Eq.symm
 ·exact (V.inc_lh he j.id).1 (.inr (this q).symm) |>.imp Eq.symm Eq.symm
end
end Go.Proofs.YtcebcklecmppnaaGreat
end
section
namespace Go.Proofs.YtcebcklecmppnaaGreat
open Go.RowKit
def lft (js : List Joint) (e l : Lead) (z : Int) : Bool := decide (0 < gL js e l z)
section
variable {js : List Joint} {ls : List Lead} (V : ValidW js ls)
include V
theorem ValidW.pt_id {i : Joint} (hi : i ∈ js) : ptA js i.id = i.at_ := by
 unfold ptA;rw [V.at_ hi];rfl
theorem ValidW.lead_id {l m : Lead} (hl : l ∈ ls) (hm : m ∈ ls) (h : l.id = m.id) : l = m := by
 have a := V.lead hl
 have b := V.lead hm
 rw [h,b] at a
 injection a with e;exact e.symm
theorem ValidW.loEq {e : Lead} (he : e ∈ ls) {j : Joint} (hj : j ∈ js) : loI js e = j.id ↔ ht (loP js e) = ht j.at_ := by
 obtain ⟨_,_,i,hi,k,hk,e1,e2,e3,e4⟩ := V.lh he
 rw [← e1,e3]
 exact ⟨fun q => by rw [V.inj hi hj q],fun q => by rw [V.ht_j hi hj q]⟩
theorem ValidW.hiEq {e : Lead} (he : e ∈ ls) {j : Joint} (hj : j ∈ js) : hiI js e = j.id ↔ ht (hiP js e) = ht j.at_ := by
 obtain ⟨_,_,i,hi,k,hk,e1,e2,e3,e4⟩ := V.lh he
 rw [← e2,e4]
 exact ⟨fun q => by rw [V.inj hk hj q],fun q => by rw [V.ht_j hk hj q]⟩
theorem ValidW.gne {e l : Lead} (he : e ∈ ls) (hl : l ∈ ls) (hne : e.id ≠ l.id) {z : Int} (s1 : zAV js e z = true) (s2 : zAV js l z = true) : gL js e l z ≠ 0 := fun h0 => by
 rw [zA3] at s1 s2
 have u1 := zCt (loP js e) (hiP js e) (loP js l) (hiP js l) z (z + 1)
 have u2 := zCt (loP js e) (hiP js e) (loP js l) (hiP js l) z (z - 1)
 have n1 := fun h h' => V.noX he hl hne (z1 := z - 1) (z2 := z + 1) (by omega) (by omega) (by omega) (by omega) (by omega) (by omega) (by omega) (by omega) h h'
 have n2 := fun h h' => V.noX he hl hne (z1 := z + 1) (z2 := z - 1) (by omega) (by omega) (by omega) (by omega) (by omega) (by omega) (by omega) (by omega) h h'
 have g0 : gS (loP js e) (hiP js e) (loP js l) (hiP js l) z = 0 := h0
 unfold gL at n1 n2
 have hS : slS (loP js e) (hiP js e) (loP js l) (hiP js l) = 0 := by
  rcases Int.lt_trichotomy (slS (loP js e) (hiP js e) (loP js l) (hiP js l)) 0 with q | q | q
  ·exact (n2 (by omega) (by omega)).elim
  ·exact q
  ·exact (n1 (by omega) (by omega)).elim
 have hall : ∀ y,gS (loP js e) (hiP js e) (loP js l) (hiP js l) y = 0 := fun y => by
  rw [zCt _ _ _ _ z y,g0,hS];simp
 have hle := (V.lh he).2.1
 have hll := (V.lh hl).2.1
 have ca : zAs (loP js l) (hiP js l) (loP js e) = 0 := by have := gS_sa hle hll;rw [hall] at this;omega
 have cb : zAs (loP js l) (hiP js l) (hiP js e) = 0 := by have := gS_sb hle hll;rw [hall] at this;omega
 have cc : zAs (loP js e) (hiP js e) (loP js l) = 0 := by have := gS_sc hle hll;rw [hall] at this;omega
 have cd : zAs (loP js e) (hiP js e) (hiP js l) = 0 := by have := gS_sd hle hll;rw [hall] at this;omega
 obtain ⟨-, -,i,hi,k,hk,e1,e2,e3,e4⟩ := V.lh he
 obtain ⟨-, -,i',hi',k',hk',e1',e2',e3',e4'⟩ := V.lh hl
 have hlo : loI js e = loI js l := by
  rcases Int.le_total (ht (loP js e)) (ht (loP js l)) with q | q
  ·have := V.offL he hi' (by rw [← e3'];exact q) (by rw [← e3'];omega) (by rw [← e3'];exact cc)
   rcases this with t | t
   ·rw [← t,e1']
   ·have := (V.hiEq he hi').1 t.symm
    rw [← e3'] at this;omega
  ·have := V.offL hl hi (by rw [← e3];exact q) (by rw [← e3];omega) (by rw [← e3];exact ca)
   rcases this with t | t
   ·rw [← t,e1]
   ·have := (V.hiEq hl hi).1 t.symm
    rw [← e3] at this;omega
 have hhi : hiI js e = hiI js l := by
  rcases Int.le_total (ht (hiP js l)) (ht (hiP js e)) with q | q
  ·have := V.offL he hk' (by rw [← e4'];omega) (by rw [← e4'];omega) (by rw [← e4'];exact cd)
   rcases this with t | t
   ·have := (V.loEq he hk').1 t.symm
    rw [← e4'] at this;omega
   ·rw [← t,e2']
  ·have := V.offL hl hk (by rw [← e4];omega) (by rw [← e4];omega) (by rw [← e4];exact cb)
   rcases this with t | t
   ·have := (V.loEq hl hk).1 t.symm
    rw [← e4] at this;omega
   ·rw [← t,e2]
 have hp : zBb e = zBb l := by
  unfold zBb
  rcases (V.lh he).1 with ⟨a1,a2⟩ | ⟨a1,a2⟩ <;> rcases (V.lh hl).1 with ⟨b1,b2⟩ | ⟨b1,b2⟩ <;> rw [a1,b1] at hlo <;> rw [a2,b2] at hhi <;> rw [hlo,hhi]
  ·rw [Int.min_comm,Int.max_comm]
  ·rw [Int.min_comm,Int.max_comm]
 rcases pw_or V.lend he hl with q | q | q
 ·exact hne (by rw [q])
 ·exact q hp
 ·exact q hp.symm
theorem ValidW.lft_keep {e l : Lead} (he : e ∈ ls) (hl : l ∈ ls) {z z' : Int} (s1 : zAV js e z = true) (s2 : zAV js l z = true) (s3 : zAV js e z' = true) (s4 : zAV js l z' = true) : lft js e l z = lft js e l z' := by
 by_cases hne : e.id = l.id
 ·have := V.lead_id he hl hne
  subst this
  have h : ∀ y,gL js e e y = 0 := fun y => by have := gL_anti js e e y;omega
  unfold lft;rw [h,h]
 ·have a := V.gne he hl hne s1 s2
  have b := V.gne he hl hne s3 s4
  rw [zA3] at s1 s2 s3 s4
  have n1 := fun h h' => V.noX he hl hne (z1 := z) (z2 := z') (by omega) (by omega) (by omega) (by omega) (by omega) (by omega) (by omega) (by omega) h h'
  have n2 := fun h h' => V.noX he hl hne (z1 := z') (z2 := z) (by omega) (by omega) (by omega) (by omega) (by omega) (by omega) (by omega) (by omega) h h'
  unfold lft
  rw [decide_eq_decide]
  constructor
  ·intro q
   rcases Int.lt_or_le 0 (gL js e l z') with t | t
   ·exact t
   ·exact (n2 (by omega) q).elim
  ·intro q
   rcases Int.lt_or_le 0 (gL js e l z) with t | t
   ·exact t
   ·exact (n1 (by omega) q).elim
theorem ValidW.lft_anti {e l : Lead} (he : e ∈ ls) (hl : l ∈ ls) (hne : e.id ≠ l.id) {z : Int} (s1 : zAV js e z = true) (s2 : zAV js l z = true) : lft js l e z = !lft js e l z := by
 have a := V.gne he hl hne s1 s2
 unfold lft
 rw [gL_anti js e l z]
 rcases Int.lt_or_le 0 (gL js e l z) with t | t
 ·rw [decide_eq_true t,decide_eq_false (by omega)];rfl
 ·rw [decide_eq_false (by omega : ¬ 0 < gL js e l z),decide_eq_true (by omega)];rfl
theorem ValidW.lft_pt {e l : Lead} (he : e ∈ ls) (hl : l ∈ ls) {j : Joint} (hj : j ∈ js) (hi : loI js l = j.id ∨ hiI js l = j.id) (h1 : ht (loP js e) < ht j.at_) (h2 : ht j.at_ < ht (hiP js e)) {z : Int} (s1 : zAV js e z = true) (s2 : zAV js l z = true) :
  lft js e l z = decide (0 < zAs (loP js e) (hiP js e) j.at_) := by
 have hne : e.id ≠ l.id := fun q => by
  have := V.lead_id he hl q
  subst this
  rcases hi with q | q
  ·have := (V.loEq he hj).1 q;omega
  ·have := (V.hiEq he hj).1 q;omega
 have a := V.gne he hl hne s1 s2
 rw [zA3] at s1 s2
 have hle := (V.lh he).2.1
 have hll := (V.lh hl).2.1
 have hz : 2 * ht (loP js l) ≤ 2 * ht j.at_ ∧ 2 * ht j.at_ ≤ 2 * ht (hiP js l) ∧ (0 < gL js e l (2 * ht j.at_) ↔ 0 < zAs (loP js e) (hiP js e) j.at_) ∧ (gL js e l (2 * ht j.at_) < 0 ↔ zAs (loP js e) (hiP js e) j.at_ < 0) := by
  rcases hi with q | q
  ·have q2 := (V.loEq hl hj).1 q
   have q3 : loP js l = j.at_ := by unfold loP;rw [q,V.pt_id hj]
   refine ⟨by omega,by omega, ?_⟩
   have := gS_sc hle hll
   rw [q3] at this
   unfold gL;rw [q3];exact this
  ·have q2 := (V.hiEq hl hj).1 q
   have q3 : hiP js l = j.at_ := by unfold hiP;rw [q,V.pt_id hj]
   refine ⟨by omega,by omega, ?_⟩
   have := gS_sd hle hll
   rw [q3] at this
   unfold gL;rw [q3];exact this
 obtain ⟨z1,z2,z3,z4⟩ := hz
 have hn0 : zAs (loP js e) (hiP js e) j.at_ ≠ 0 := fun q => by
  rcases V.offL he hj (by omega) (by omega) q with t | t
  ·have := (V.loEq he hj).1 t.symm;omega
  ·have := (V.hiEq he hj).1 t.symm;omega
 have n1 := fun h h' => V.noX he hl hne (z1 := z) (z2 := 2 * ht j.at_) (by omega) (by omega) (by omega) (by omega) (by omega) (by omega) (by omega) (by omega) h h'
 have n2 := fun h h' => V.noX he hl hne (z1 := 2 * ht j.at_) (z2 := z) (by omega) (by omega) (by omega) (by omega) (by omega) (by omega) (by omega) (by omega) h h'
 unfold lft
 rw [decide_eq_decide]
 constructor
 ·intro q
  rcases Int.lt_or_le 0 (zAs (loP js e) (hiP js e) j.at_) with t | t
  ·exact t
  ·exact (n2 (z4.2 (by omega)) q).elim
 ·intro q
  rcases Int.lt_or_le 0 (gL js e l z) with t | t
  ·exact t
  ·exact (n1 (by omega) (z3.2 q)).elim
end
def par (p : Lead → Bool) (ls : List Lead) : Bool := ls.foldr (fun l b => p l ^^ b) false
theorem zBJ {p q : Lead → Bool} : ∀ {ls : List Lead},(∀ l ∈ ls,p l = q l) → par p ls = par q ls
 | [],_ => rfl
 | l :: r,h => by
  have := zBJ (ls := r) fun x hx => h x (by simp [hx])
  unfold par at this ⊢
  simp only [List.foldr_cons]
  rw [this,h l (by simp)]
theorem zC3 (p q : Lead → Bool) : ∀ ls : List Lead,par (fun l => p l ^^ q l) ls = (par p ls ^^ par q ls)
 | [] => rfl
 | l :: r => by
  have := zC3 p q r
  unfold par at this ⊢
  simp only [List.foldr_cons]
  rw [this]
  cases p l <;> cases q l <;> cases List.foldr (fun l b => p l ^^ b) false r <;> cases List.foldr (fun l b => q l ^^ b) false r <;> rfl
theorem zDk : ∀ ls : List Lead,par (fun _ => false) ls = false
 | [] => rfl
 | l :: r => by have := zDk r;unfold par at this ⊢;simp only [List.foldr_cons];rw [this];rfl
theorem par_and (k : Bool) (p : Lead → Bool) (ls : List Lead) : par (fun l => p l && k) ls = (par p ls && k) := by
 cases k
 ·rw [zBJ (q := fun _ => false) (fun l _ => by simp),zDk];simp
 ·rw [zBJ (q := p) (fun l _ => by simp)];simp
theorem par_one {c : Int → Bool} {e : Lead} : ∀ {ls : List Lead},ls.Pairwise (fun a b => a.id < b.id) → e ∈ ls → par (fun l => c l.id && l.id == e.id) ls = c e.id
 | [],_,h => by cases h
 | l :: r,hp,h => by
  obtain ⟨h1,h2⟩ := List.pairwise_cons.1 hp
  rcases List.mem_cons.1 h with rfl | h
  ·have : par (fun l => c l.id && l.id == e.id) r = false := by
    rw [zBJ (q := fun _ => false) (fun x hx => by have := h1 x hx;simp;intro _;omega),zDk]
   unfold par at this ⊢
   simp only [List.foldr_cons]
   rw [this];simp
  ·have := par_one (c := c) h2 h
   have hlt := h1 e h
   unfold par at this ⊢
   simp only [List.foldr_cons]
   rw [this]
   have : (l.id == e.id) = false := by simp;omega
   rw [this];simp
def incB (l : Lead) (v : Int) : Bool := l.a == v || l.b == v
def evenC (c : Int → Bool) (ls : List Lead) : Prop := ∀ v,par (fun l => c l.id && incB l v) ls = false
def cntA (c : Int → Bool) (js : List Joint) (ls : List Lead) (e : Lead) (z : Int) : Bool := par (fun l => c l.id && (zAV js l z && lft js e l z)) ls
section
variable {js : List Joint} {ls : List Lead} (V : ValidW js ls)
include V
theorem ValidW.inc_iff {l : Lead} (hl : l ∈ ls) (j : Int) : incB l j = true ↔ (loI js l = j ∨ hiI js l = j) := by
 rw [← V.inc_lh hl];unfold incB;simp
theorem ValidW.past {e l : Lead} (he : e ∈ ls) (hl : l ∈ ls) {h : Int} (n1 : ht (loP js l) ≠ h) (n2 : ht (hiP js l) ≠ h) (s1 : zAV js e (2 * h - 1) = true) (s2 : zAV js e (2 * h + 1) = true) :
  (zAV js l (2 * h - 1) && lft js e l (2 * h - 1)) = (zAV js l (2 * h + 1) && lft js e l (2 * h + 1)) := by
 have hs : zAV js l (2 * h - 1) = zAV js l (2 * h + 1) := by
  rw [Bool.eq_iff_iff,zA3,zA3]
  constructor <;> intro <;> omega
 cases q : zAV js l (2 * h + 1)
 ·rw [hs,q];rfl
 ·rw [hs,q,Bool.true_and,Bool.true_and]
  exact V.lft_keep he hl s1 (by rw [hs];exact q) s2 q
theorem ValidW.cnt_step {c : Int → Bool} (hc : evenC c ls) {e : Lead} (he : e ∈ ls) {h : Int} (s1 : zAV js e (2 * h - 1) = true) (s2 : zAV js e (2 * h + 1) = true) : cntA c js ls e (2 * h - 1) = cntA c js ls e (2 * h + 1) := by
 by_cases hj : ∃ j ∈ js,ht j.at_ = h
 ·obtain ⟨j,hj,rfl⟩ := hj
  have hp : ∀ l ∈ ls,((c l.id && (zAV js l (2 * ht j.at_ - 1) && lft js e l (2 * ht j.at_ - 1))) ^^ (c l.id && (zAV js l (2 * ht j.at_ + 1) && lft js e l (2 * ht j.at_ + 1)))) = ((c l.id && incB l j.id) && decide (0 < zAs (loP js e) (hiP js e) j.at_)) := fun l hl => by
   have hle := (V.lh he).2.1
   have hll := (V.lh hl).2.1
   have t1 := zA3.1 s1
   have t2 := zA3.1 s2
   by_cases hi : incB l j.id = true
   ·rw [hi]
    have hi2 := (V.inc_iff hl _).1 hi
    rcases hi2 with q | q
    ·have q2 := (V.loEq hl hj).1 q
     have u1 : zAV js l (2 * ht j.at_ - 1) = false := by rw [Bool.eq_false_iff,ne_eq,zA3];omega
     have u2 : zAV js l (2 * ht j.at_ + 1) = true := by rw [zA3];omega
     rw [u1,u2,V.lft_pt he hl hj (.inl q) (by omega) (by omega) s2 u2]
     simp
    ·have q2 := (V.hiEq hl hj).1 q
     have u1 : zAV js l (2 * ht j.at_ + 1) = false := by rw [Bool.eq_false_iff,ne_eq,zA3];omega
     have u2 : zAV js l (2 * ht j.at_ - 1) = true := by rw [zA3];omega
     rw [u1,u2,V.lft_pt he hl hj (.inr q) (by omega) (by omega) s1 u2]
     simp
   ·have hi2 : ¬ (loI js l = j.id ∨ hiI js l = j.id) := fun q => hi ((V.inc_iff hl _).2 q)
    have hi3 : incB l j.id = false := by simpa using hi
    rw [V.past he hl (fun q => hi2 (.inl ((V.loEq hl hj).2 q))) (fun q => hi2 (.inr ((V.hiEq hl hj).2 q))) s1 s2,hi3]
    simp
  have := zBJ hp
  rw [zC3,par_and,hc j.id,Bool.false_and] at this
  unfold cntA
  revert this
  cases par (fun l => c l.id && (zAV js l (2 * ht j.at_ - 1) && lft js e l (2 * ht j.at_ - 1))) ls <;> cases par (fun l => c l.id && (zAV js l (2 * ht j.at_ + 1) && lft js e l (2 * ht j.at_ + 1))) ls <;> simp
 ·unfold cntA
  refine zBJ fun l hl => ?_
  obtain ⟨-, -,i,hi,k,hk,e1,e2,e3,e4⟩ := V.lh hl
  rw [V.past he hl (fun q => hj ⟨i,hi,by rw [← e3];exact q⟩) (fun q => hj ⟨k,hk,by rw [← e4];exact q⟩) s1 s2]
theorem ValidW.cnt_const {c : Int → Bool} (hc : evenC c ls) {e : Lead} (he : e ∈ ls) {h : Int} : ∀ n : Nat,zAV js e (2 * h + 1) = true → zAV js e (2 * (h + n) + 1) = true → cntA c js ls e (2 * h + 1) = cntA c js ls e (2 * (h + n) + 1)
 | 0,_,_ => by simp
 | n + 1,s1,s2 => by
  have t1 := zA3.1 s1
  have t2 := zA3.1 s2
  have s3 : zAV js e (2 * (h + n) + 1) = true := by rw [zA3];omega
  have e1 : 2 * (h + (n + 1 : Nat)) - 1 = 2 * (h + n) + 1 := by omega
  rw [ValidW.cnt_const hc he n s1 s3,← e1,V.cnt_step hc he (by rw [e1];exact s3) s2]
end
end Go.Proofs.YtcebcklecmppnaaGreat
end
section
namespace Go.Proofs.YtcebcklecmppnaaGreat
open Go.RowKit
def isUp (js : List Joint) (ls : List Lead) (s : Side) : Bool := decide (ht (ptA js (zAq ls s).1) < ht (ptA js (zAq ls s).2))
def zCh (ls : List Lead) (s : Side) : Lead := (zBB ls s.lead).getD zCo
def posZ (js : List Joint) (ls : List Lead) (s : Side) : Int := if isUp js ls s = true then 2 * ht (ptA js (zAq ls s).1) + 1 else 2 * ht (ptA js (zAq ls s).1) - 1
def phi (c : Int → Bool) (js : List Joint) (ls : List Lead) (s : Side) : Bool := cntA c js ls (zCh ls s) (posZ js ls s) ^^ (c s.lead && !isUp js ls s)
def psi (c : Int → Bool) (js : List Joint) (ls : List Lead) (s : Side) : Bool := cntA c js ls (zCh ls s) (posZ js ls s) ^^ (c s.lead && isUp js ls s)
theorem phi_psi (c : Int → Bool) (js : List Joint) (ls : List Lead) (s : Side) : (phi c js ls s ^^ psi c js ls s) = c s.lead := by
 unfold phi psi
 cases cntA c js ls (zCh ls s) (posZ js ls s) <;> cases c s.lead <;> cases isUp js ls s <;> rfl
theorem low_ht {o p : Point} (ho : inP o = true) (hp : inP p = true) : zBa o p = decide (ht p < ht o) := by
 unfold inP winI at ho hp
 simp only [Bool.and_eq_true,decide_eq_true_eq] at ho hp
 unfold zBa ht
 rw [Bool.eq_iff_iff]
 simp only [Bool.or_eq_true,decide_eq_true_eq,Bool.and_eq_true,beq_iff_eq]
 omega
section
variable {js : List Joint} {ls : List Lead} (V : ValidW js ls)
include V
theorem ValidW.sidePts {s : Side} (h : zAF ls s) : ∃ l ∈ ls,l.id = s.lead ∧ zCh ls s = l ∧ ((isUp js ls s = true ∧ (zAq ls s).1 = loI js l ∧ (zAq ls s).2 = hiI js l) ∨ (isUp js ls s = false ∧ (zAq ls s).1 = hiI js l ∧ (zAq ls s).2 = loI js l)) := by
 obtain ⟨l,hl,e⟩ := h
 refine ⟨l,hl,e,by unfold zCh;rw [← e,V.lead hl];rfl, ?_⟩
 have hs : s = ⟨l.id,s.back⟩ := by rw [e]
 have hlt := (V.lh hl).2.1
 unfold loP hiP at hlt
 unfold isUp
 rw [hs,V.sideEnds hl]
 rcases (V.lh hl).1 with ⟨a,b⟩ | ⟨a,b⟩ <;> rw [a,b] at hlt ⊢ <;> cases s.back <;> simp <;> omega
theorem ValidW.psi_rev {c : Int → Bool} (hc : evenC c ls) {s : Side} (h : zAF ls s) : psi c js ls (revA s) = phi c js ls s := by
 obtain ⟨l,hl,e,e1,e2⟩ := V.sidePts h
 obtain ⟨l',hl',e',e1',e2'⟩ := V.sidePts (rev_side h)
 have hll : l' = l := V.lead_id hl' hl (by rw [e',e];rfl)
 subst hll
 have hlt := (V.lh hl).2.1
 rw [V.rev_ends h] at e2'
 have hu : isUp js ls (revA s) = !isUp js ls s := by
  unfold isUp
  rw [V.rev_ends h]
  rcases e2 with ⟨a,b,d⟩ | ⟨a,b,d⟩ <;> rw [b,d] <;> unfold loP hiP at hlt <;> dsimp only
  ·rw [decide_eq_true hlt,decide_eq_false (by omega)];rfl
  ·rw [decide_eq_true hlt,decide_eq_false (by omega)];rfl
 unfold psi phi
 rw [e1,e1',hu,show (revA s).lead = s.lead from rfl]
 congr 1
 have key : cntA c js ls l' (2 * ht (loP js l') + 1) = cntA c js ls l' (2 * ht (hiP js l') - 1) := by
  have := V.cnt_const hc hl (h := ht (loP js l')) (ht (hiP js l') - ht (loP js l') - 1).toNat (by rw [zA3];omega) (by rw [zA3];omega)
  rw [this];congr 1;omega
 unfold posZ
 rw [hu,V.rev_ends h]
 rcases e2 with ⟨a,b,d⟩ | ⟨a,b,d⟩ <;> rw [a,b,d]
 ·simp only [Bool.not_true,Bool.false_eq_true,if_false,if_true]
  exact key.symm
 ·simp only [Bool.not_false,Bool.false_eq_true,if_false,if_true]
  exact key
theorem ValidW.nextTo {v : Int} {r : Side} (hr : r ∈ outA js ls v) : (ltAt js ls v (zBF (outA js ls v) r) r = true ∧ ∀ s ∈ outA js ls v,s = zBF (outA js ls v) r ∨ s = r ∨ ltAt js ls v s (zBF (outA js ls v) r) = true ∨ ltAt js ls v r s = true) ∨
  (∀ s ∈ outA js ls v,(s = r ∨ ltAt js ls v r s = true) ∧ (s = zBF (outA js ls v) r ∨ ltAt js ls v s (zBF (outA js ls v) r) = true)) := by
 have hO := V.ord v
 have hup := V.out_up v
 have hnd := V.out_nodup v
 have hmem : ∀ s ∈ outA js ls v,s ∈ zAv v ls := fun s hs => zBg.1 hs
 obtain ⟨k,hk,ek,e⟩ := zER hr
 rw [e]
 have hi := List.idxOf_lt_length_of_mem hr
 have hri : (outA js ls v)[(outA js ls v).idxOf r] = r := List.getElem_idxOf hi
 generalize (outA js ls v).idxOf r = i at *
 have strict : ∀ a b (ha : a < (outA js ls v).length) (hb : b < (outA js ls v).length),a < b → ltAt js ls v (outA js ls v)[a] (outA js ls v)[b] = true := fun a b ha hb hab => by
  have h1 := List.pairwise_iff_getElem.1 hup a b ha hb hab
  cases h2 : ltAt js ls v (outA js ls v)[a] (outA js ls v)[b] with
  | true => rfl
  | false =>
   have := hO.tot _ _ (hmem _ (List.getElem_mem ha)) (hmem _ (List.getElem_mem hb)) h2 h1
   have := (List.getElem_inj hnd).1 this
   omega
 generalize outA js ls v = O at *
 rcases Nat.eq_zero_or_pos i with h0 | h0
 ·right
  subst h0
  rw [Nat.zero_add,Nat.mod_eq_of_lt (by omega)] at ek
  intro s hs
  obtain ⟨m,hm,rfl⟩ := List.getElem_of_mem hs
  refine ⟨?_, ?_⟩
  ·rcases Nat.eq_zero_or_pos m with q | q
   ·subst q;exact .inl hri
   ·exact .inr (by have := strict 0 m hi hm q;rw [hri] at this;exact this)
  ·rcases Nat.lt_or_ge m k with q | q
   ·exact .inr (strict m k hm hk q)
   ·have : m = k := by omega
    subst this;exact .inl rfl
 ·left
  have hk2 : k = i - 1 := by
   rw [ek,show i + O.length - 1 = (i - 1) + O.length by omega,Nat.add_mod_right,Nat.mod_eq_of_lt (by omega)]
  refine ⟨by have := strict k i hk hi (by omega);rw [hri] at this;exact this,fun s hs => ?_⟩
  obtain ⟨m,hm,rfl⟩ := List.getElem_of_mem hs
  rcases Nat.lt_trichotomy m k with q | q | q
  ·exact .inr (.inr (.inl (strict m k hm hk q)))
  ·subst q;exact .inl rfl
  ·rcases Nat.lt_trichotomy m i with t | t | t
   ·omega
   ·subst t;exact .inr (.inl hri)
   ·exact .inr (.inr (.inr (by have := strict i m hi hm t;rw [hri] at this;exact this)))
def zCT (v : Int) (l : Lead) : Side := ⟨l.id,!(l.a == v)⟩
omit V in
theorem out_of {v : Int} {l : Lead} (hl : l ∈ ls) (hi : incB l v = true) : zCT v l ∈ zAv v ls := by
 unfold zCT
 unfold incB at hi
 simp only [Bool.or_eq_true,beq_iff_eq] at hi
 refine zBk.2 ⟨l,hl, ?_⟩
 by_cases h : l.a = v
 ·exact .inl ⟨h,by simp [h]⟩
 ·exact .inr ⟨hi.resolve_left h,by simp [h]⟩
theorem ValidW.leaves {v : Int} {s : Side} (h : s ∈ zAv v ls) : ∃ l ∈ ls,∃ j ∈ js,j.id = v ∧ l.id = s.lead ∧ zCh ls s = l ∧ ptA js v = j.at_ ∧ (zAq ls s).1 = v ∧ inP (ptA js v) = true ∧ inP (ptA js (zAq ls s).2) = true ∧
  ((isUp js ls s = true ∧ loI js l = v ∧ loP js l = j.at_ ∧ ptA js (zAq ls s).2 = hiP js l ∧ ht j.at_ < ht (hiP js l) ∧ posZ js ls s = 2 * ht j.at_ + 1) ∨ (isUp js ls s = false ∧ hiI js l = v ∧ hiP js l = j.at_ ∧ ptA js (zAq ls s).2 = loP js l ∧ ht (loP js l) < ht j.at_ ∧ posZ js ls s = 2 * ht j.at_ - 1)) := by
 obtain ⟨hs,he⟩ := V.of_leave h
 obtain ⟨l,hl,e1,e2,e3⟩ := V.sidePts hs
 obtain ⟨m,hm,_,_,i,hi,k,hk,f1,f2,f3,f4,f5,_⟩ := V.leave h
 have hlt := (V.lh hl).2.1
 refine ⟨l,hl,i,hi,f1,e1,e2,f4,he,by rw [f4];exact (V.jok i hi).2,by rw [f5];exact (V.jok k hk).2, ?_⟩
 unfold posZ
 rcases e3 with ⟨a,b,d⟩ | ⟨a,b,d⟩
 ·left
  rw [he] at b
  have hlo : loP js l = i.at_ := by unfold loP;rw [← b,f4]
  refine ⟨a,b.symm,hlo,by rw [d];rfl,by rw [← hlo];exact hlt,by rw [if_pos a,he,f4]⟩
 ·right
  rw [he] at b
  have hhi : hiP js l = i.at_ := by unfold hiP;rw [← b,f4]
  refine ⟨a,b.symm,hhi,by rw [d];rfl,by rw [← hhi];exact hlt,by rw [if_neg (by rw [a];decide),he,f4]⟩
theorem ValidW.at_inc {v : Int} {t s : Side} (htv : t ∈ zAv v ls) (hsv : s ∈ zAv v ls) :
  (zAV js (zCh ls s) (posZ js ls t) && lft js (zCh ls t) (zCh ls s) (posZ js ls t)) = if isUp js ls t = true then (isUp js ls s && ltAt js ls v t s) else (!isUp js ls s && ltAt js ls v s t) := by
 obtain ⟨e,he,j,hj,j1,t1,t2,t3,t4,t5,t6,t7⟩ := V.leaves htv
 obtain ⟨l,hl,j',hj',j1',s1,s2,s3,s4,s5,s6,s7⟩ := V.leaves hsv
 obtain rfl : j' = j := V.inj hj' hj (by rw [j1,j1'])
 have lt1 := low_ht t5 t6
 have ls1 := low_ht s5 s6
 rw [t2,s2]
 unfold ltAt
 have hk1 : 2 * ht j'.at_ + 1 - 2 * ht j'.at_ = 1 := by omega
 have hk2 : 2 * ht j'.at_ - (2 * ht j'.at_ - 1) = 1 := by omega
 rw [s3] at lt1 ls1 ⊢
 rcases t7 with ⟨a1,a2,a3,a4,a5,a6⟩ | ⟨a1,a2,a3,a4,a5,a6⟩ <;> rcases s7 with ⟨b1,b2,b3,b4,b5,b6⟩ | ⟨b1,b2,b3,b4,b5,b6⟩ <;> rw [a4] at lt1 ⊢ <;> rw [b4] at ls1 ⊢ <;> rw [a1,b1,a6]
 ·have hsp : zAV js l (2 * ht j'.at_ + 1) = true := by rw [zA3,b3];omega
  rw [decide_eq_false (by omega)] at lt1 ls1
  rw [hsp,if_pos rfl]
  unfold lft gL
  rw [a3,b3,gS_lo,hk1,Bool.eq_iff_iff]
  simp only [Bool.true_and,decide_eq_true_eq,zDH,lt1,ls1,Bool.false_eq_true,and_false,true_and,false_or]
  omega
 ·have hsp : zAV js l (2 * ht j'.at_ + 1) = false := by rw [Bool.eq_false_iff,ne_eq,zA3,b3];omega
  rw [hsp];simp
 ·have hsp : zAV js l (2 * ht j'.at_ - 1) = false := by rw [Bool.eq_false_iff,ne_eq,zA3,b3];omega
  rw [hsp];simp
 ·have hsp : zAV js l (2 * ht j'.at_ - 1) = true := by rw [zA3,b3];omega
  rw [decide_eq_true (by omega)] at lt1 ls1
  rw [hsp,if_neg (by decide)]
  unfold lft gL
  rw [a3,b3,gS_hi,hk2,Bool.eq_iff_iff]
  simp only [Bool.true_and,Bool.not_false,decide_eq_true_eq,zDH,lt1,ls1,Bool.true_eq_false,false_and,true_and,false_or]
  omega
theorem ValidW.at_far {v : Int} {t : Side} (htv : t ∈ zAv v ls) {l : Lead} (hl : l ∈ ls) (hn : incB l v = false) :
  (zAV js l (posZ js ls t) && lft js (zCh ls t) l (posZ js ls t)) = (zAV js l (2 * ht (ptA js v)) && !decide (0 < zAs (loP js l) (hiP js l) (ptA js v))) := by
 obtain ⟨e,he,j,hj,j1,t1,t2,t3,t4,t5,t6,t7⟩ := V.leaves htv
 have hni : ¬ (loI js l = v ∨ hiI js l = v) := fun q => by rw [(V.inc_iff hl v).2 q] at hn;cases hn
 rw [← j1] at hni
 have n1 : ht (loP js l) ≠ ht j.at_ := fun q => hni (.inl ((V.loEq hl hj).2 q))
 have n2 : ht (hiP js l) ≠ ht j.at_ := fun q => hni (.inr ((V.hiEq hl hj).2 q))
 rw [t2,t3]
 have hinc : loI js e = j.id ∨ hiI js e = j.id := by rcases t7 with h | h <;> rw [j1] <;> simp [h.2.1]
 have hsp : zAV js l (posZ js ls t) = zAV js l (2 * ht j.at_) := by
  rw [Bool.eq_iff_iff,zA3,zA3]
  rcases t7 with ⟨_,_,_,_,_,a⟩ | ⟨_,_,_,_,_,a⟩ <;> rw [a] <;> constructor <;> intro <;> omega
 cases q : zAV js l (2 * ht j.at_)
 ·rw [hsp,q];rfl
 ·rw [hsp,q,Bool.true_and,Bool.true_and]
  have hse : zAV js e (posZ js ls t) = true := by
   rw [zA3]
   rcases t7 with ⟨_,_,a1,_,a2,a⟩ | ⟨_,_,a1,_,a2,a⟩ <;> rw [a,a1] <;> omega
  have hne : l.id ≠ e.id := fun h => by
   have := V.lead_id hl he h
   subst this;exact hni hinc
  rw [V.lft_anti hl he hne (by rw [hsp];exact q) hse]
  have := zA3.1 q
  rw [V.lft_pt hl he hj hinc (by omega) (by omega) (by rw [hsp];exact q) hse]
theorem ValidW.corner {c : Int → Bool} (hc : evenC c ls) {v : Int} {r : Side} (hr : r ∈ outA js ls v) : phi c js ls (zBF (outA js ls v) r) = psi c js ls r := by
 have hrl := zBg.1 hr
 have htO := (zEt (V.out_nodup v) hr).1
 have htl := zBg.1 htO
 have hadj := V.nextTo hr
 generalize zBF (outA js ls v) r = t at *
 have hO := V.ord v
 obtain ⟨e,he,_,_,_,e1,_,_,_,_,_,_⟩ := V.leaves htl
 obtain ⟨f,hf,_,_,_,f1,_,_,_,_,_,_⟩ := V.leaves hrl
 have hud : ∀ x ∈ zAv v ls,∀ y ∈ zAv v ls,ltAt js ls v x y = true → isUp js ls y = true → isUp js ls x = true := fun x hx y hy hlt hu => by
  obtain ⟨_,_,j,hj,j1,_,_,s3,_,s5,s6,s7⟩ := V.leaves hx
  obtain ⟨_,_,j',hj',j1',_,_,u3,_,u5,u6,u7⟩ := V.leaves hy
  obtain rfl : j' = j := V.inj hj' hj (by rw [j1,j1'])
  rcases s7 with ⟨a,_⟩ | ⟨a,_,_,a2,a3,_⟩
  ·exact a
  ·rcases u7 with ⟨b,_,_,b2,b3,_⟩ | ⟨b,_⟩
   ·exfalso
    unfold ltAt at hlt
    rw [zDH,low_ht s5 s6,low_ht u5 u6,s3,a2,b2,decide_eq_true a3,decide_eq_false (by omega)] at hlt
    simp at hlt
   ·rw [b] at hu;cases hu
 obtain ⟨wide,hw⟩ : ∃ w : Bool,(w = false → ltAt js ls v t r = true ∧ ∀ s ∈ outA js ls v,s = t ∨ s = r ∨ ltAt js ls v s t = true ∨ ltAt js ls v r s = true) ∧ (w = true → ∀ s ∈ outA js ls v,(s = r ∨ ltAt js ls v r s = true) ∧ (s = t ∨ ltAt js ls v s t = true)) := by
  rcases hadj with h | h
  ·exact ⟨false,fun _ => h,fun h => by cases h⟩
  ·exact ⟨true,fun h => (by cases h),fun _ => h⟩
 have hp : ∀ l ∈ ls,((c l.id && (zAV js l (posZ js ls t) && lft js (zCh ls t) l (posZ js ls t))) ^^ (c l.id && (zAV js l (posZ js ls r) && lft js (zCh ls r) l (posZ js ls r)))) =
   ((((c l.id && l.id == e.id) && !isUp js ls t) ^^ ((c l.id && l.id == f.id) && isUp js ls r)) ^^ ((c l.id && incB l v) && wide)) := fun l hl => by
  by_cases hi : incB l v = true
  ·have hs := out_of hl hi
   have hsO : zCT v l ∈ outA js ls v := zBg.2 hs
   have hsl : zCh ls (zCT v l) = l := by unfold zCh zCT;rw [V.lead hl];rfl
   have a := V.at_inc htl hs
   have b := V.at_inc hrl hs
   rw [hsl] at a b
   rw [a,b,hi]
   have ht1 : (l.id == e.id) = decide (zCT v l = t) := by
    rw [Bool.eq_iff_iff,beq_iff_eq,decide_eq_true_eq]
    constructor
    ·intro h
     have : l = e := V.lead_id hl he h
     subst this
     obtain ⟨m,hm,q⟩ := zBk.1 htl
     have hab := V.ends hl
     obtain ⟨_,_,_,_,_,_,hab,_,_⟩ := hab
     rcases q with ⟨q1,q2⟩ | ⟨q1,q2⟩
     ·have : m = l := V.lead_id hm hl (by rw [e1,q2])
      subst this;rw [q2];unfold zCT;simp [q1]
     ·have : m = l := V.lead_id hm hl (by rw [e1,q2])
      subst this;rw [q2];unfold zCT;rw [← q1];simp [hab]
    ·intro h
     rw [e1,← h];rfl
   have hr1 : (l.id == f.id) = decide (zCT v l = r) := by
    rw [Bool.eq_iff_iff,beq_iff_eq,decide_eq_true_eq]
    constructor
    ·intro h
     have : l = f := V.lead_id hl hf h
     subst this
     obtain ⟨m,hm,q⟩ := zBk.1 hrl
     have hab := V.ends hl
     obtain ⟨_,_,_,_,_,_,hab,_,_⟩ := hab
     rcases q with ⟨q1,q2⟩ | ⟨q1,q2⟩
     ·have : m = l := V.lead_id hm hl (by rw [f1,q2])
      subst this;rw [q2];unfold zCT;simp [q1]
     ·have : m = l := V.lead_id hm hl (by rw [f1,q2])
      subst this;rw [q2];unfold zCT;rw [← q1];simp [hab]
    ·intro h
     rw [f1,← h];rfl
   rw [ht1,hr1]
   generalize zCT v l = s at *
   clear a b ht1 hr1 hsl e1 f1 hadj
   cases c l.id
   ·rfl
   simp only [Bool.true_and]
   have irr := fun x hx => hO.irr x hx
   have as := fun x y (hx : x ∈ zAv v ls) (hy : y ∈ zAv v ls) h => hO.as (a := x) (b := y) hx hy h
   have tr := fun x y z hx hy hz h k => hO.tr x y z hx hy hz h k
   have u1 := hud s hs t htl
   have u2 := hud t htl s hs
   have u3 := hud s hs r hrl
   have u4 := hud r hrl s hs
   have u5 := hud t htl r hrl
   have u6 := hud r hrl t htl
   have i1 := irr s hs
   have i2 := irr t htl
   have i3 := irr r hrl
   have a1 := as s t hs htl
   have a2 := as t s htl hs
   have a3 := as s r hs hrl
   have a4 := as r s hrl hs
   have a5 := as t r htl hrl
   have a6 := as r t hrl htl
   have t1 := tr s t r hs htl hrl
   have t2 := tr t r s htl hrl hs
   have t3 := tr r s t hrl hs htl
   cases wide
   ·obtain ⟨h1,h2⟩ := hw.1 rfl
    have h3 := h2 s hsO
    clear hw h2 hO hc
    by_cases q1 : s = t
    ·by_cases q2 : s = r
     ·subst q1 q2;simp_all
     ·subst q1
      rw [decide_eq_true rfl,decide_eq_false q2]
      cases hs1 : isUp js ls s <;> cases hr1 : isUp js ls r <;> simp_all
    ·by_cases q2 : s = r
     ·subst q2
      rw [decide_eq_true rfl,decide_eq_false q1]
      cases ht1 : isUp js ls t <;> cases hr1 : isUp js ls s <;> simp_all
     ·rw [decide_eq_false q1,decide_eq_false q2]
      cases ht1 : isUp js ls t <;> cases hr1 : isUp js ls r <;> cases hs1 : isUp js ls s <;> simp_all
      all_goals (rcases h3 with h3 | h3 <;> simp_all)
   ·have h3 := hw.2 rfl s hsO
    have h4 := hw.2 rfl t htO
    clear hw hO hc
    by_cases q1 : s = t
    ·by_cases q2 : s = r
     ·subst q1 q2
      cases hs1 : isUp js ls s <;> simp_all
     ·subst q1
      rw [decide_eq_true rfl,decide_eq_false q2]
      cases hs1 : isUp js ls s <;> cases hr1 : isUp js ls r <;> simp_all
    ·by_cases q2 : s = r
     ·subst q2
      rw [decide_eq_true rfl,decide_eq_false q1]
      cases ht1 : isUp js ls t <;> cases hr1 : isUp js ls s <;> simp_all
     ·rw [decide_eq_false q1,decide_eq_false q2]
      cases ht1 : isUp js ls t <;> cases hr1 : isUp js ls r <;> cases hs1 : isUp js ls s <;> simp_all
  ·have hi2 : incB l v = false := by simpa using hi
   rw [V.at_far htl hl hi2,V.at_far hrl hl hi2,hi2]
   have n1 : (l.id == e.id) = false := by
    rw [beq_eq_false_iff_ne]
    intro h
    have := V.lead_id hl he h
    subst this
    obtain ⟨m,hm,q⟩ := zBk.1 htl
    refine hi ?_
    unfold incB
    rcases q with ⟨q1,q2⟩ | ⟨q1,q2⟩
    ·have : m = l := V.lead_id hm hl (by rw [e1,q2])
     subst this;simp [q1]
    ·have : m = l := V.lead_id hm hl (by rw [e1,q2])
     subst this;simp [q1]
   have n2 : (l.id == f.id) = false := by
    rw [beq_eq_false_iff_ne]
    intro h
    have := V.lead_id hl hf h
    subst this
    obtain ⟨m,hm,q⟩ := zBk.1 hrl
    refine hi ?_
    unfold incB
    rcases q with ⟨q1,q2⟩ | ⟨q1,q2⟩
    ·have : m = l := V.lead_id hm hl (by rw [f1,q2])
     subst this;simp [q1]
    ·have : m = l := V.lead_id hm hl (by rw [f1,q2])
     subst this;simp [q1]
   rw [n1,n2];simp
 have := zBJ hp
 rw [zC3,zC3,zC3,par_and,par_and,par_and,par_one V.lid he,par_one V.lid hf,hc v,Bool.false_and,Bool.xor_false] at this
 unfold phi psi cntA
 rw [← e1,← f1]
 revert this
 generalize par (fun l => c l.id && (zAV js l (posZ js ls t) && lft js (zCh ls t) l (posZ js ls t))) ls = A
 generalize par (fun l => c l.id && (zAV js l (posZ js ls r) && lft js (zCh ls r) l (posZ js ls r))) ls = B
 cases A <;> cases B <;> cases c e.id <;> cases c f.id <;> cases isUp js ls t <;> cases isUp js ls r <;> simp
theorem ValidW.phi_next {c : Int → Bool} (hc : evenC c ls) {s : Side} (h : zAF ls s) : phi c js ls (zAw js ls s) = phi c js ls s := by
 unfold zAw
 rw [V.corner hc (V.rev_out h),V.psi_rev hc h]
theorem ValidW.phi_it {c : Int → Bool} (hc : evenC c ls) {s : Side} (h : zAF ls s) : ∀ n,phi c js ls (itA (zAw js ls) n s) = phi c js ls s
 | 0 => rfl
 | n + 1 => by
  have e : itA (zAw js ls) (n + 1) s = zAw js ls (itA (zAw js ls) n s) := by rw [Nat.add_comm,zCO];rfl
  rw [e,V.phi_next hc (V.it_side h n),ValidW.phi_it hc h n]
theorem ValidW.apart {c : Int → Bool} (hc : evenC c ls) {s : Side} (h : zAF ls s) (hw : revA s ∈ zAK js ls s) : c s.lead = false := by
 obtain ⟨n,_,_,_,_,e⟩ := V.walk h
 rw [e] at hw
 obtain ⟨k,_,hk⟩ := List.mem_map.1 hw
 have h1 := V.phi_it hc h k
 rw [hk] at h1
 have h2 := phi_psi c js ls (revA s)
 rw [V.psi_rev hc h,h1,show (revA s).lead = s.lead from rfl] at h2
 rw [← h2];simp
end
end Go.Proofs.YtcebcklecmppnaaGreat
end
section
namespace Go.Proofs.YtcebcklecmppnaaGreat
open Go.RowKit
def AdjJ (ls : List Lead) (joint lead u v : Int) : Prop := ∃ l ∈ ls,l.id ≠ lead ∧ u ≠ joint ∧ v ≠ joint ∧ ((l.a = u ∧ l.b = v) ∨ (l.a = v ∧ l.b = u))
inductive ConJ (ls : List Lead) (joint lead : Int) : Int → Int → Prop
 | refl (u : Int) : ConJ ls joint lead u u
 | step {u v x : Int} : ConJ ls joint lead u v → AdjJ ls joint lead v x → ConJ ls joint lead u x
theorem AdjJ.symm {ls : List Lead} {joint lead u v : Int} (h : AdjJ ls joint lead u v) : AdjJ ls joint lead v u := by
 obtain ⟨l,h1,h2,h3,h4,h5⟩ := h
 exact ⟨l,h1,h2,h4,h3,h5.elim (fun h => .inr h) (fun h => .inl h)⟩
theorem ConJ.trans {ls : List Lead} {joint lead u v x : Int} (h : ConJ ls joint lead u v) (k : ConJ ls joint lead v x) : ConJ ls joint lead u x := by
 induction k with
 | refl => exact h
 | step _ a ih => exact .step ih a
theorem ConJ.one {ls : List Lead} {joint lead u v : Int} (h : AdjJ ls joint lead u v) : ConJ ls joint lead u v := .step (.refl u) h
theorem ConJ.symm {ls : List Lead} {joint lead u v : Int} (h : ConJ ls joint lead u v) : ConJ ls joint lead v u := by
 induction h with
 | refl => exact .refl _
 | step _ a ih => exact (ConJ.one a.symm).trans ih
theorem ValidW.adj_out {js : List Joint} {ls : List Lead} (V : ValidW js ls) {joint lead u v : Int} : AdjJ ls joint lead u v ↔ u ≠ joint ∧ v ≠ joint ∧ ∃ s ∈ outA js ls u,s.lead ≠ lead ∧ (zAq ls s).2 = v := by
 constructor
 ·rintro ⟨l,hl,h1,h2,h3,h4⟩
  refine ⟨h2,h3, ?_⟩
  rcases h4 with ⟨ha,hb⟩ | ⟨ha,hb⟩
  ·exact ⟨⟨l.id,false⟩,zBg.2 (zBk.2 ⟨l,hl, .inl ⟨ha,rfl⟩⟩),h1,by rw [V.sideEnds hl];exact hb⟩
  ·exact ⟨⟨l.id,true⟩,zBg.2 (zBk.2 ⟨l,hl, .inr ⟨hb,rfl⟩⟩),h1,by rw [V.sideEnds hl];exact ha⟩
 ·rintro ⟨h1,h2,s,hs,h3,h4⟩
  obtain ⟨l,hl,h | h⟩ := zBk.1 (zBg.1 hs)
  ·obtain ⟨ha,rfl⟩ := h
   rw [V.sideEnds hl] at h4
   exact ⟨l,hl,h3,h1,h2, .inl ⟨ha,h4⟩⟩
  ·obtain ⟨ha,rfl⟩ := h
   rw [V.sideEnds hl] at h4
   exact ⟨l,hl,h3,h1,h2, .inr ⟨h4,ha⟩⟩
end Go.Proofs.YtcebcklecmppnaaGreat
end
section
namespace Go.Proofs.YtcebcklecmppnaaGreat
open Go.RowKit
theorem par_at {p : Lead → Bool} {e : Lead} : ∀ {ls : List Lead},ls.Pairwise (fun a b => a.id < b.id) → e ∈ ls → par (fun l => (l.id == e.id) && p l) ls = p e
 | [],_,h => by cases h
 | l :: r,hp,h => by
  obtain ⟨h1,h2⟩ := List.pairwise_cons.1 hp
  rcases List.mem_cons.1 h with rfl | h
  ·have : par (fun x => (x.id == e.id) && p x) r = false := by
    rw [zBJ (q := fun _ => false) (fun x hx => by
     have := h1 x hx
     have : (x.id == e.id) = false := by simp;omega
     rw [this];rfl),zDk]
   unfold par at this ⊢
   simp only [List.foldr_cons]
   rw [this];simp
  ·have := par_at (p := p) h2 h
   have hlt := h1 e h
   unfold par at this ⊢
   simp only [List.foldr_cons]
   rw [this]
   have : (l.id == e.id) = false := by simp;omega
   rw [this];simp
section
variable {js : List Joint} {ls : List Lead} (V : ValidW js ls)
include V
theorem ValidW.jpos {x : Joint} (hx : x ∈ js) : x.id ≠ 0 := by
 have := (V.jok x hx).1
 unfold zBw at this
 simp only [Bool.and_eq_true,decide_eq_true_eq] at this
 omega
theorem ValidW.lpos {l : Lead} (hl : l ∈ ls) : l.id ≠ 0 := by
 have := V.lok l hl
 unfold zCs zBw at this
 simp only [Bool.and_eq_true,decide_eq_true_eq] at this
 omega
theorem ValidW.endne {l : Lead} (hl : l ∈ ls) : l.a ≠ l.b := by
 obtain ⟨_,_,_,_,_,_,h,_,_⟩ := V.ends hl
 exact h
theorem ValidW.path {q : Int} {u w : Int} (h : ConJ ls 0 q u w) : ∃ c : Int → Bool,c q = false ∧ ∀ v,par (fun l => c l.id && incB l v) ls = (decide (v = u) ^^ decide (v = w)) := by
 induction h with
 | refl => exact ⟨fun _ => false,rfl,fun v => by rw [zBJ (q := fun _ => false) (fun l _ => by simp),zDk];simp⟩
 | @step v x _ hd ih =>
  obtain ⟨c,hc,hv⟩ := ih
  obtain ⟨m,hm,h1,_,_,h2⟩ := hd
  refine ⟨fun i => c i ^^ (i == m.id), ?_,fun y => ?_⟩
  ·show (c q ^^ (q == m.id)) = false
   have : (q == m.id) = false := by simpa using fun e => h1 e.symm
   rw [hc,this];rfl
  ·have e : par (fun l => (c l.id ^^ (l.id == m.id)) && incB l y) ls = (par (fun l => c l.id && incB l y) ls ^^ par (fun l => (l.id == m.id) && incB l y) ls) := by
    rw [← zC3]
    refine zBJ fun l _ => ?_
    cases c l.id <;> cases (l.id == m.id) <;> cases incB l y <;> rfl
   rw [e,hv,par_at (p := fun l => incB l y) V.lid hm]
   have hab := V.endne hm
   have : incB m y = (decide (y = v) ^^ decide (y = x)) := by
    unfold incB
    rcases h2 with ⟨rfl,rfl⟩ | ⟨rfl,rfl⟩
    ·by_cases a : y = m.a
     ·subst a;simp [hab]
     ·by_cases b : y = m.b
      ·subst b;simp [hab,Ne.symm hab]
      ·simp [a,b,Ne.symm a,Ne.symm b]
    ·by_cases a : y = m.a
     ·subst a;simp [hab,Ne.symm hab]
     ·by_cases b : y = m.b
      ·subst b;simp [hab,Ne.symm hab]
      ·simp [a,b,Ne.symm a,Ne.symm b]
   rw [this]
   cases decide (y = u) <;> cases decide (y = v) <;> cases decide (y = x) <;> rfl
theorem ValidW.one_walk {s : Side} {l : Lead} (hl : l ∈ ls) (hs : l.id = s.lead) (hw : revA s ∈ zAK js ls s) : ¬ ConJ ls 0 l.id l.a l.b := fun h => by
 obtain ⟨c,hc,hv⟩ := V.path h
 have he : evenC (fun i => c i ^^ (i == l.id)) ls := fun y => by
  have e : par (fun m => (c m.id ^^ (m.id == l.id)) && incB m y) ls = (par (fun m => c m.id && incB m y) ls ^^ par (fun m => (m.id == l.id) && incB m y) ls) := by
   rw [← zC3]
   refine zBJ fun m _ => ?_
   cases c m.id <;> cases (m.id == l.id) <;> cases incB m y <;> rfl
  rw [e,hv,par_at (p := fun m => incB m y) V.lid hl]
  have hab := V.endne hl
  unfold incB
  by_cases a : y = l.a
  ·subst a;simp [hab]
  ·by_cases b : y = l.b
   ·subst b;simp [hab,Ne.symm hab]
   ·simp [a,b,Ne.symm a,Ne.symm b]
 have := V.apart he (s := s) ⟨l,hl,hs⟩ hw
 simp [← hs,hc] at this
omit V in
theorem side_two {s t : Side} (h : t.lead = s.lead) : t = s ∨ t = revA s := by
 obtain ⟨a,b⟩ := s
 obtain ⟨c,d⟩ := t
 simp only at h
 subst h
 unfold revA
 cases b <;> cases d <;> simp
theorem ValidW.adj_side {t : Side} (ht : zAF ls t) {q : Int} (hq : t.lead ≠ q) : AdjJ ls 0 q (zAq ls t).1 (zAq ls t).2 := by
 obtain ⟨m,hm,e⟩ := ht
 obtain ⟨i,hi,k,hk,e1,e2,_⟩ := V.ends hm
 have h1 := V.jpos hi
 have h2 := V.jpos hk
 rw [e1] at h1
 rw [e2] at h2
 have hs : t = ⟨m.id,t.back⟩ := by rw [e]
 rw [hs,V.sideEnds hm]
 refine ⟨m,hm,by rw [e];exact hq, ?_⟩
 cases t.back
 ·exact ⟨h1,h2, .inl ⟨rfl,rfl⟩⟩
 ·exact ⟨h2,h1, .inr ⟨rfl,rfl⟩⟩
theorem ValidW.two_walks {s : Side} (hs : zAF ls s) (hw : revA s ∉ zAK js ls s) : ConJ ls 0 s.lead (zAq ls s).2 (zAq ls s).1 := by
 obtain ⟨n,h0,_,h1,h2,h3⟩ := V.walk hs
 have key : ∀ k,k + 1 ≤ n → ConJ ls 0 s.lead (zAq ls s).2 (zAq ls (itA (zAw js ls) (k + 1) s)).1 := by
  intro k
  induction k with
  | zero => intro _;show ConJ ls 0 s.lead (zAq ls s).2 (zAq ls (zAw js ls s)).1;rw [(V.next hs).2.1];exact .refl _
  | succ k ih =>
   intro hk
   have e : itA (zAw js ls) (k + 1 + 1) s = zAw js ls (itA (zAw js ls) (k + 1) s) := by rw [Nat.add_comm,zCO];rfl
   have hts := V.it_side hs (k + 1)
   rw [e,(V.next hts).2.1]
   refine (ih (by omega)).step (V.adj_side hts fun hq => ?_)
   rcases side_two hq with q | q
   ·exact h2 (k + 1) (by omega) (by omega) q
   ·exact hw (by rw [h3,← q];exact List.mem_map.2 ⟨k + 1,List.mem_range.2 (by omega),rfl⟩)
 have := key (n - 1) (by omega)
 rw [show n - 1 + 1 = n by omega,h1] at this
 exact this
theorem ValidW.walk_bridge {s : Side} {l : Lead} (hl : l ∈ ls) (hs : l.id = s.lead) : revA s ∈ zAK js ls s ↔ ¬ ConJ ls 0 l.id l.a l.b := by
 refine ⟨V.one_walk hl hs,fun h => ?_⟩
 by_cases hw : revA s ∈ zAK js ls s
 ·exact hw
 ·refine (h ?_).elim
  have := V.two_walks ⟨l,hl,hs⟩ hw
  have e : s = ⟨l.id,s.back⟩ := by rw [hs]
  rw [e,V.sideEnds hl] at this
  cases hb : s.back
  ·rw [hb] at this;exact this.symm
  ·rw [hb] at this;exact this
end
end Go.Proofs.YtcebcklecmppnaaGreat
end
section
namespace Go.Proofs.YtcebcklecmppnaaGreat
open Go.RowKit
section
variable {α : Type}
structure Reps (R : α → α → Prop) (X T : List α) : Prop where
 sub : ∀ t ∈ T,t ∈ X
 pw : T.Pairwise fun a b => ¬ R a b
 all : ∀ x ∈ X,∃ t ∈ T,R x t
structure EqOn (R : α → α → Prop) (X : List α) : Prop where
 rf : ∀ x ∈ X,R x x
 sy : ∀ x ∈ X,∀ y ∈ X,R x y → R y x
 tr : ∀ x ∈ X,∀ y ∈ X,∀ z ∈ X,R x y → R y z → R x z
open Classical in
theorem reps_le {R : α → α → Prop} {X T T' : List α} (E : EqOn R X) (h : Reps R X T) (k : Reps R X T') : T.length ≤ T'.length := by
 obtain ⟨g,hg⟩ : ∃ g : α → α,∀ t ∈ T,g t ∈ T' ∧ R t (g t) := by
  refine ⟨fun t => if q : ∃ t' ∈ T',R t t' then q.choose else t,fun t ht => ?_⟩
  have q := k.all t (h.sub t ht)
  simp only [dif_pos q]
  exact q.choose_spec
 have hn : (T.map g).Nodup := by
  rw [List.nodup_iff_pairwise_ne,List.pairwise_map]
  refine h.pw.imp_of_mem fun {a b} ha hb hab e => hab ?_
  have a1 := hg a ha
  have b1 := hg b hb
  rw [← e] at b1
  exact E.tr _ (h.sub a ha) _ (k.sub _ a1.1) _ (h.sub b hb) a1.2 (E.sy _ (h.sub b hb) _ (k.sub _ a1.1) b1.2)
 have := zCB hn (m := T') fun x hx => by
  obtain ⟨t,ht,rfl⟩ := List.mem_map.1 hx
  exact (hg t ht).1
 simpa using this
theorem zEg {R : α → α → Prop} {X T T' : List α} (E : EqOn R X) (h : Reps R X T) (k : Reps R X T') : T.length = T'.length := Nat.le_antisymm (reps_le E h k) (reps_le E k h)
theorem Reps.congr {R R' : α → α → Prop} {X X' T : List α} (h : Reps R X T) (hX : ∀ x,x ∈ X ↔ x ∈ X') (hR : ∀ x ∈ X,∀ y ∈ X,R x y ↔ R' x y) : Reps R' X' T :=
 ⟨fun t ht => (hX t).1 (h.sub t ht),h.pw.imp_of_mem fun {a b} ha hb k q => k ((hR a (h.sub a ha) b (h.sub b hb)).2 q),fun x hx => by
  obtain ⟨t,ht,q⟩ := h.all x ((hX x).2 hx)
  exact ⟨t,ht,(hR x ((hX x).2 hx) t (h.sub t ht)).1 q⟩⟩
theorem Reps.merge {R R' : α → α → Prop} {X T : List α} (E : EqOn R X) {s s' : α} (hs : s ∈ X) (hs' : s' ∈ X) (hn : ¬ R s s') (hR : ∀ x ∈ X,∀ y ∈ X,R' x y ↔ R x y ∨ ((R x s ∨ R x s') ∧ (R y s ∨ R y s'))) (h : Reps R X T) :
  ∃ T',Reps R' X T' ∧ T'.length + 1 = T.length := by
 classical
 obtain ⟨t2,ht2,r2⟩ := h.all s' hs'
 obtain ⟨t1,ht1,r1⟩ := h.all s hs
 have x1 := h.sub t1 ht1
 have x2 := h.sub t2 ht2
 have hne : t1 ≠ t2 := fun e => hn (E.tr _ hs _ x1 _ hs' r1 (by rw [e];exact E.sy _ hs' _ x2 r2))
 have hnd : T.Nodup := by
  rw [List.nodup_iff_pairwise_ne]
  exact h.pw.imp_of_mem fun {a b} ha hb k e => k (by rw [← e];exact E.rf _ (h.sub a ha))
 have hm : ∀ x,x ∈ T.erase t2 ↔ x ∈ T ∧ x ≠ t2 := fun x => by rw [hnd.mem_erase_iff];exact and_comm
 refine ⟨T.erase t2,⟨fun t ht => h.sub t ((hm t).1 ht).1, ?_,fun x hx => ?_⟩, ?_⟩
 ·have hne2 : ∀ a ∈ T,a ≠ t2 → ¬ R a s' := fun a ha hat hr => by
   have hat2 : R a t2 := E.tr _ (h.sub a ha) _ hs' _ x2 hr r2
   rcases pw_or h.pw ha ht2 with q | q | q
   ·exact hat q
   ·exact q hat2
   ·exact q (E.sy _ (h.sub a ha) _ x2 hat2)
  refine (h.pw.sublist List.erase_sublist).imp_of_mem fun {a b} ha hb k q => ?_
  obtain ⟨a1,a2⟩ := (hm a).1 ha
  obtain ⟨b1,b2⟩ := (hm b).1 hb
  rcases (hR a (h.sub a a1) b (h.sub b b1)).1 q with q | ⟨q1,q2⟩
  ·exact k q
  ·have u := q1.resolve_right (hne2 a a1 a2)
   have v := q2.resolve_right (hne2 b b1 b2)
   exact k (E.tr _ (h.sub a a1) _ hs _ (h.sub b b1) u (E.sy _ (h.sub b b1) _ hs v))
 ·obtain ⟨t,ht,r⟩ := h.all x hx
  by_cases e : t = t2
  ·subst e
   exact ⟨t1,(hm t1).2 ⟨ht1,hne⟩,(hR x hx t1 x1).2 (.inr ⟨.inr (E.tr _ hx _ x2 _ hs' r (E.sy _ hs' _ x2 r2)), .inl (E.sy _ hs _ x1 r1)⟩)⟩
  ·exact ⟨t,(hm t).2 ⟨ht,e⟩,(hR x hx t (h.sub t ht)).2 (.inl r)⟩
 ·rw [List.length_erase_of_mem ht2]
  have := List.length_pos_of_mem ht2
  omega
structure PermOn (f : α → α) (X : List α) : Prop where
 mem : ∀ x ∈ X,f x ∈ X
 inj : ∀ x ∈ X,∀ y ∈ X,f x = f y → x = y
def Orb (f : α → α) (x y : α) : Prop := ∃ n,itA f n x = y
theorem zBM (f : α → α) (n : Nat) (x : α) : itA f (n + 1) x = f (itA f n x) := by rw [Nat.add_comm,zCO];rfl
theorem Orb.one (f : α → α) (x : α) : Orb f x (f x) := ⟨1,rfl⟩
theorem Orb.refl (f : α → α) (x : α) : Orb f x x := ⟨0,rfl⟩
theorem Orb.trans {f : α → α} {x y z : α} (h : Orb f x y) (k : Orb f y z) : Orb f x z := by
 obtain ⟨n,rfl⟩ := h
 obtain ⟨m,rfl⟩ := k
 exact ⟨m + n,zCO _ _ _ _⟩
section
variable {f : α → α} {X : List α} (P : PermOn f X)
include P
theorem PermOn.it {x : α} (hx : x ∈ X) : ∀ n,itA f n x ∈ X
 | 0 => hx
 | n + 1 => by rw [zBM];exact P.mem _ (PermOn.it hx n)
theorem PermOn.cancel {x : α} (hx : x ∈ X) : ∀ k i,itA f k x = itA f (k + i) x → itA f i x = x
 | 0,i,h => by rw [Nat.zero_add] at h;exact h.symm
 | k + 1,i,h => by
  rw [show k + 1 + i = (k + i) + 1 by omega,zBM,zBM] at h
  exact PermOn.cancel hx k i (P.inj _ (P.it hx _) _ (P.it hx _) h)
theorem PermOn.period {x : α} (hx : x ∈ X) : ∃ n,0 < n ∧ itA f n x = x ∧ ∀ k,0 < k → k < n → itA f k x ≠ x := by
 classical
 have hd : ∃ n,0 < n ∧ itA f n x = x := by
  apply Classical.byContradiction
  intro hno
  have hn : ((List.range (X.length + 1)).map fun k => itA f k x).Nodup := by
   rw [List.nodup_iff_pairwise_ne,List.pairwise_map]
   have hne : ∀ a b : Nat,a < b → itA f a x ≠ itA f b x := fun a b hab e => hno ⟨b - a,by omega,P.cancel hx a (b - a) (by rw [e];congr 1;omega)⟩
   exact List.pairwise_lt_range.imp fun {a b} hab => hne a b hab
  have := zCB hn (m := X) fun y hy => by
   obtain ⟨k,_,rfl⟩ := List.mem_map.1 hy
   exact P.it hx k
  simp at this
  omega
 obtain ⟨n,h0,h1⟩ := hd
 obtain ⟨m,_,⟨m0,m1⟩,m2⟩ := least (P := fun n => 0 < n ∧ itA f n x = x) n ⟨h0,h1⟩
 exact ⟨m,m0,m1,fun k k0 k1 e => m2 k k1 ⟨k0,e⟩⟩
omit P in
theorem it_mul {x : α} {p : Nat} (h : itA f p x = x) : ∀ k,itA f (p * k) x = x
 | 0 => rfl
 | k + 1 => by rw [Nat.mul_succ,zCO,h];exact it_mul h k
theorem PermOn.sym {x y : α} (hx : x ∈ X) (h : Orb f x y) : Orb f y x := by
 obtain ⟨n,rfl⟩ := h
 obtain ⟨p,p0,p1,_⟩ := P.period hx
 refine ⟨p * n - n, ?_⟩
 have : n ≤ p * n := Nat.le_mul_of_pos_left n p0
 rw [← zCO,show p * n - n + n = p * n by omega]
 exact it_mul p1 n
theorem PermOn.eqOn : EqOn (Orb f) X := ⟨fun x _ => Orb.refl f x,fun x hx y _ h => P.sym hx h,fun x _ y _ z _ h k => h.trans k⟩
end
theorem orb_congr {f g : α → α} {X : List α} (hm : ∀ x ∈ X,f x ∈ X) (h : ∀ x ∈ X,g x = f x) {x y : α} (hx : x ∈ X) : Orb g x y ↔ Orb f x y := by
 have key : ∀ n,itA g n x = itA f n x ∧ itA f n x ∈ X := fun n => by
  induction n with
  | zero => exact ⟨rfl,hx⟩
  | succ n ih => rw [zBM,zBM,ih.1];exact ⟨h _ ih.2,hm _ ih.2⟩
 constructor
 ·rintro ⟨n,e⟩;exact ⟨n,by rw [← (key n).1];exact e⟩
 ·rintro ⟨n,e⟩;exact ⟨n,by rw [(key n).1];exact e⟩
open Classical in
noncomputable def swp (s s' x : α) : α := if x = s then s' else if x = s' then s else x
theorem swp_l (s s' : α) : swp s s' s = s' := by unfold swp;simp
theorem swp_r {s s' : α} : swp s s' s' = s := by unfold swp;by_cases h : s' = s <;> simp [h]
theorem swp_n {s s' x : α} (h : x ≠ s) (k : x ≠ s') : swp s s' x = x := by unfold swp;simp [h,k]
theorem swp_inv (s s' x : α) : swp s s' (swp s s' x) = x := by
 by_cases h : x = s
 ·subst h;rw [swp_l,swp_r]
 ·by_cases k : x = s'
  ·subst k;rw [swp_r,swp_l]
  ·rw [swp_n h k,swp_n h k]
section
variable {f : α → α} {X : List α} (P : PermOn f X) {s s' : α} (hs : s ∈ X) (hs' : s' ∈ X)
include P hs hs'
theorem PermOn.swap : PermOn (fun x => f (swp s s' x)) X := by
 have hm : ∀ x ∈ X,swp s s' x ∈ X := fun x hx => by
  by_cases h : x = s
  ·subst h;rw [swp_l];exact hs'
  ·by_cases k : x = s'
   ·subst k;rw [swp_r];exact hs
   ·rw [swp_n h k];exact hx
 refine ⟨fun x hx => P.mem _ (hm x hx),fun x hx y hy e => ?_⟩
 have := P.inj _ (hm x hx) _ (hm y hy) e
 have := congrArg (swp s s') this
 rwa [swp_inv,swp_inv] at this
theorem PermOn.far (hn : ¬ Orb f s s') {T : List α} (h : Reps (Orb f) X T) : ∃ T',Reps (Orb fun x => f (swp s s' x)) X T' ∧ T'.length + 1 = T.length := by
 have Q := P.swap hs hs'
 obtain ⟨g,hg⟩ : ∃ g : α → α,(fun x => f (swp s s' x)) = g := ⟨_,rfl⟩
 have gs : g s = f s' := by rw [← hg];simp only [swp_l]
 have gs' : g s' = f s := by rw [← hg];simp only [swp_r]
 have gn : ∀ x,x ≠ s → x ≠ s' → g x = f x := fun x a b => by rw [← hg];simp only [swp_n a b]
 rw [hg] at Q ⊢
 have hb : Orb g s' s := by
  obtain ⟨n,n0,n1,n2⟩ := P.period hs
  have key : ∀ k,k + 1 ≤ n → itA g (k + 1) s' = itA f (k + 1) s := by
   intro k
   induction k with
   | zero => intro _;exact gs'
   | succ k ih =>
    intro hk
    rw [zBM,ih (by omega),zBM f (k + 1)]
    exact gn _ (n2 (k + 1) (by omega) (by omega)) fun e => hn ⟨_,e⟩
  refine ⟨n, ?_⟩
  have := key (n - 1) (by omega)
  rw [show n - 1 + 1 = n by omega,n1] at this
  exact this
 have hf : Orb g s s' := Q.sym hs' hb
 have step : ∀ x ∈ X,Orb g x (f x) := fun x hx => by
  by_cases a : x = s
  ·subst a;rw [← gs'];exact hf.trans (Orb.one g s')
  ·by_cases b : x = s'
   ·subst b;rw [← gs];exact hb.trans (Orb.one g s)
   ·rw [← gn x a b];exact Orb.one g x
 have up : ∀ x ∈ X,∀ n,Orb g x (itA f n x) := fun x hx n => by
  induction n with
  | zero => exact Orb.refl _ _
  | succ n ih => rw [zBM];exact ih.trans (step _ (P.it hx n))
 have E := P.eqOn
 have down : ∀ x ∈ X,∀ n,Orb f x (itA g n x) ∨ ((Orb f x s ∨ Orb f x s') ∧ (Orb f (itA g n x) s ∨ Orb f (itA g n x) s')) := fun x hx n => by
  induction n with
  | zero => exact .inl (Orb.refl _ _)
  | succ n ih =>
   rw [zBM]
   have hy := Q.it hx n
   generalize itA g n x = y at *
   have one : (Orb f y (g y)) ∨ ((Orb f y s ∨ Orb f y s') ∧ (Orb f (g y) s ∨ Orb f (g y) s')) := by
    by_cases a : y = s
    ·right;rw [a,gs];exact ⟨.inl (Orb.refl _ _), .inr (P.sym hs' (Orb.one f s'))⟩
    ·by_cases b : y = s'
     ·right;rw [b,gs'];exact ⟨.inr (Orb.refl _ _), .inl (P.sym hs (Orb.one f s))⟩
     ·left;rw [gn y a b];exact Orb.one f y
   have hgy := Q.mem y hy
   rcases ih with ih | ⟨i1,i2⟩
   ·rcases one with o | ⟨o1,o2⟩
    ·exact .inl (ih.trans o)
    ·exact .inr ⟨o1.imp (fun o => ih.trans o) (fun o => ih.trans o),o2⟩
   ·rcases one with o | ⟨o1,o2⟩
    ·have b := P.sym hy o
     exact .inr ⟨i1,i2.imp (fun i => b.trans i) (fun i => b.trans i)⟩
    ·exact .inr ⟨i1,o2⟩
 refine h.merge E hs hs' hn fun x hx y hy => ⟨?_, ?_⟩
 ·rintro ⟨n,rfl⟩;exact down x hx n
 ·rintro (⟨n,rfl⟩ | ⟨h1,h2⟩)
  ·exact up x hx n
  ·have a : Orb g x s := by
    rcases h1 with ⟨n,e⟩ | ⟨n,e⟩
    ·rw [← e];exact up x hx n
    ·exact (show Orb g x s' by rw [← e];exact up x hx n).trans hb
   have b : Orb g y s := by
    rcases h2 with ⟨n,e⟩ | ⟨n,e⟩
    ·rw [← e];exact up y hy n
    ·exact (show Orb g y s' by rw [← e];exact up y hy n).trans hb
   exact a.trans (Q.sym hy b)
theorem PermOn.near (hne : s ≠ s') (hn : Orb f s s') {T : List α} (h : Reps (Orb fun x => f (swp s s' x)) X T) : ∃ T',Reps (Orb f) X T' ∧ T'.length + 1 = T.length := by
 have Q := P.swap hs hs'
 have hff : (fun x => (fun y => f (swp s s' y)) (swp s s' x)) = f := by funext x;simp only [swp_inv]
 have hno : ¬ Orb (fun x => f (swp s s' x)) s s' := by
  obtain ⟨g,hg⟩ : ∃ g : α → α,(fun x => f (swp s s' x)) = g := ⟨_,rfl⟩
  have gs : g s = f s' := by rw [← hg];simp only [swp_l]
  have gn : ∀ x,x ≠ s → x ≠ s' → g x = f x := fun x a b => by rw [← hg];simp only [swp_n a b]
  rw [hg]
  obtain ⟨n,n0,n1,n2⟩ := P.period hs
  obtain ⟨m0,e0⟩ := hn
  obtain ⟨m,_,m1,m2⟩ := least (P := fun m => itA f m s = s') m0 e0
  have mpos : 0 < m := by
   rcases Nat.eq_zero_or_pos m with q | q
   ·subst q;exact (hne m1).elim
   ·exact q
  have mlt : m < n := by
   rcases Nat.lt_or_ge m n with q | q
   ·exact q
   ·exfalso
    refine m2 (m - n) (by omega) ?_
    rw [← m1,← (show m - n + n = m by omega),zCO,n1,show m - n + n - n = m - n by omega]
  have inv : ∀ q,∃ j,m < j ∧ j ≤ n ∧ itA g q s = itA f j s := fun q => by
   induction q with
   | zero => exact ⟨n,mlt,Nat.le_refl _,n1.symm⟩
   | succ q ih =>
    obtain ⟨j,j1,j2,j3⟩ := ih
    rw [zBM,j3]
    by_cases hj : j = n
    ·subst hj
     rw [n1,gs,← m1,← zBM f m s]
     exact ⟨m + 1,by omega,by omega,rfl⟩
    ·refine ⟨j + 1,by omega,by omega, ?_⟩
     rw [zBM]
     refine gn _ (n2 j (by omega) (by omega)) fun e => ?_
     have := P.cancel hs m (j - m) (by rw [m1,← e];congr 1;omega)
     exact n2 (j - m) (by omega) (by omega) this
  rintro ⟨q,e⟩
  obtain ⟨j,j1,j2,j3⟩ := inv q
  rw [e,← m1] at j3
  by_cases hj : j = n
  ·rw [hj,n1,m1] at j3;exact hne j3.symm
  ·have := P.cancel hs m (j - m) (by rw [j3];congr 1;omega)
   exact n2 (j - m) (by omega) (by omega) this
 obtain ⟨T',h1,h2⟩ := Q.far hs hs' hno h
 rw [hff] at h1
 exact ⟨T',h1,h2⟩
end
open Classical in
noncomputable def skp (f : α → α) (s x : α) : α := if f x = s then f s else f x
section
variable {f : α → α} {X Y : List α} (P : PermOn f X) {s : α} (hs : s ∈ X) (hY : ∀ x,x ∈ Y ↔ x ∈ X ∧ x ≠ s)
include P hs hY
theorem PermOn.skip : PermOn (skp f s) Y := by
 refine ⟨fun x hx => ?_,fun x hx y hy e => ?_⟩
 ·obtain ⟨x1,x2⟩ := (hY x).1 hx
  unfold skp
  split
  ·rename_i h
   exact (hY _).2 ⟨P.mem s hs,fun e => x2 (P.inj x x1 s hs (h.trans e.symm))⟩
  ·rename_i h
   exact (hY _).2 ⟨P.mem x x1,h⟩
 ·obtain ⟨x1,x2⟩ := (hY x).1 hx
  obtain ⟨y1,y2⟩ := (hY y).1 hy
  unfold skp at e
  split at e <;> split at e
  ·rename_i h k;exact P.inj x x1 y y1 (h.trans k.symm)
  ·exact (y2 (P.inj _ hs _ y1 e).symm).elim
  ·exact (x2 (P.inj _ x1 _ hs e)).elim
  ·exact P.inj x x1 y y1 e
theorem PermOn.skip_orb {x y : α} (hx : x ∈ Y) (hy : y ∈ Y) : Orb (skp f s) x y ↔ Orb f x y := by
 constructor
 ·rintro ⟨n,rfl⟩
  have Q := P.skip hs hY
  clear hy
  induction n with
  | zero => exact Orb.refl _ _
  | succ n ih =>
   rw [zBM]
   refine ih.trans ?_
   unfold skp
   split
   ·rename_i h;exact (Orb.one f _).trans (by rw [h];exact Orb.one f s)
   ·exact Orb.one f _
 ·rintro ⟨n,e⟩
  have key : ∀ n x,x ∈ Y → itA f n x = y → Orb (skp f s) x y := by
   intro n
   induction n using Nat.strongRecOn with
   | ind n ih =>
    intro x hx e
    obtain ⟨x1,x2⟩ := (hY x).1 hx
    cases n with
    | zero => exact ⟨0,e⟩
    | succ n =>
     have e2 : itA f n (f x) = y := by rw [zCO] at e;exact e
     by_cases h : f x = s
     ·cases n with
      | zero => exact (((hY y).1 hy).2 (by rw [← e2,← h];rfl)).elim
      | succ n =>
       have e3 : itA f n (f s) = y := by rw [zCO,h] at e2;exact e2
       have hfs : f s ∈ Y := (hY _).2 ⟨P.mem s hs,fun k => x2 (P.inj x x1 s hs (h.trans k.symm))⟩
       have h1 : Orb (skp f s) x (f s) := ⟨1,by show skp f s x = f s;unfold skp;rw [if_pos h]⟩
       exact h1.trans (ih n (by omega) _ hfs e3)
     ·have hfx : f x ∈ Y := (hY _).2 ⟨P.mem x x1,h⟩
      have h1 : Orb (skp f s) x (f x) := ⟨1,by show skp f s x = f x;unfold skp;rw [if_neg h]⟩
      exact h1.trans (ih n (by omega) _ hfx e2)
  exact key n x hx e
theorem PermOn.skip_reps {T : List α} (h : Reps (Orb (skp f s)) Y T) : (f s ≠ s → Reps (Orb f) X T) ∧ (f s = s → Reps (Orb f) X (s :: T)) := by
 have sub : ∀ t ∈ T,t ∈ X := fun t ht => ((hY t).1 (h.sub t ht)).1
 have pw : T.Pairwise fun a b => ¬ Orb f a b := h.pw.imp_of_mem fun {a b} ha hb k q => k ((P.skip_orb hs hY (h.sub a ha) (h.sub b hb)).2 q)
 have all : ∀ x ∈ Y,∃ t ∈ T,Orb f x t := fun x hx => by
  obtain ⟨t,ht,q⟩ := h.all x hx
  exact ⟨t,ht,(P.skip_orb hs hY hx (h.sub t ht)).1 q⟩
 constructor
 ·intro hne
  refine ⟨sub,pw,fun x hx => ?_⟩
  by_cases e : x = s
  ·subst e
   obtain ⟨t,ht,q⟩ := all (f x) ((hY _).2 ⟨P.mem x hx,hne⟩)
   exact ⟨t,ht,(Orb.one f x).trans q⟩
  ·exact all x ((hY x).2 ⟨hx,e⟩)
 ·intro he
  have hst : ∀ n,itA f n s = s := fun n => by
   induction n with
   | zero => rfl
   | succ n ih => rw [zBM,ih,he]
  refine ⟨fun t ht => ?_,List.pairwise_cons.2 ⟨fun t ht ⟨n,q⟩ => ?_,pw⟩,fun x hx => ?_⟩
  ·rcases List.mem_cons.1 ht with rfl | ht
   ·exact hs
   ·exact sub t ht
  ·rw [hst] at q
   exact ((hY t).1 (h.sub t ht)).2 q.symm
  ·by_cases e : x = s
   ·subst e;exact ⟨x,by simp,Orb.refl _ _⟩
   ·obtain ⟨t,ht,q⟩ := all x ((hY x).2 ⟨hx,e⟩)
    exact ⟨t,by simp [ht],q⟩
end
end
end Go.Proofs.YtcebcklecmppnaaGreat
end
section
namespace Go.Proofs.YtcebcklecmppnaaGreat
open Go.RowKit
open Classical in
theorem reps_ex {α : Type} {R : α → α → Prop} : ∀ {X : List α},EqOn R X → ∃ T,Reps R X T
 | [],_ => ⟨[],by simp, .nil,by simp⟩
 | x :: X,E => by
  obtain ⟨T,h⟩ := reps_ex (X := X) (R := R) ⟨fun a ha => E.rf a (by simp [ha]),fun a ha b hb => E.sy a (by simp [ha]) b (by simp [hb]),fun a ha b hb c hc => E.tr a (by simp [ha]) b (by simp [hb]) c (by simp [hc])⟩
  by_cases q : ∃ t ∈ T,R x t
  ·refine ⟨T,fun t ht => by simp [h.sub t ht],h.pw,fun y hy => ?_⟩
   rcases List.mem_cons.1 hy with rfl | hy
   ·exact q
   ·exact h.all y hy
  ·refine ⟨x :: T,fun t ht => ?_,List.pairwise_cons.2 ⟨fun t ht r => q ⟨t,ht,r⟩,h.pw⟩,fun y hy => ?_⟩
   ·rcases List.mem_cons.1 ht with rfl | ht
    ·simp
    ·simp [h.sub t ht]
   ·rcases List.mem_cons.1 hy with rfl | hy
    ·exact ⟨y,by simp,E.rf y (by simp)⟩
    ·obtain ⟨t,ht,r⟩ := h.all y hy
     exact ⟨t,by simp [ht],r⟩
theorem ValidW.tail {js : List Joint} {l : Lead} {r : List Lead} (V : ValidW js (l :: r)) : ValidW js r :=
 ⟨V.nj,by have := V.nl;simp at this;omega,V.jid,V.jok,V.jat,(List.pairwise_cons.1 V.lid).2,fun x hx => V.lok x (by simp [hx]),(List.pairwise_cons.1 V.lend).2,fun x hx => V.touch x (by simp [hx]),(List.pairwise_cons.1 V.meet).2⟩
def zDf {α : Type} (lt : α → α → Bool) (O : List α) (y t : α) : Prop :=
 t ∈ O ∧ ((lt t y = true ∧ ∀ z ∈ O,lt z y = true → z = t ∨ lt z t = true) ∨ ((∀ z ∈ O,lt z y = false) ∧ ∀ z ∈ O,z = t ∨ lt z t = true))
theorem zDf.uniq {α : Type} {lt : α → α → Bool} {p : α → Prop} {O : List α} (H : OrdOn lt p) (hO : ∀ x ∈ O,p x) {y t t' : α} (h : zDf lt O y t) (k : zDf lt O y t') : t = t' := by
 obtain ⟨a,h⟩ := h
 obtain ⟨b,k⟩ := k
 have asy : lt t t' = true → lt t' t = true → False := fun u v => by rw [H.as (hO t a) (hO t' b) u] at v;cases v
 rcases h with ⟨h1,h2⟩ | ⟨h1,h2⟩ <;> rcases k with ⟨k1,k2⟩ | ⟨k1,k2⟩
 ·rcases h2 t' b k1 with e | e
  ·exact e.symm
  ·rcases k2 t a h1 with e' | e'
   ·exact e'
   ·exact (asy e' e).elim
 ·rw [k1 t a] at h1;cases h1
 ·rw [h1 t' b] at k1;cases k1
 ·rcases h2 t' b with e | e
  ·exact e.symm
  ·rcases k2 t a with e' | e'
   ·exact e'
   ·exact (asy e' e).elim
theorem zDf.less {α : Type} {lt lt' : α → α → Bool} {p : α → Prop} {O O' : List α} (H : OrdOn lt p) (hO : ∀ x ∈ O,p x) {s : α} (hm : ∀ z,z ∈ O' ↔ z ∈ O ∧ z ≠ s) (hl : ∀ a ∈ O',∀ b ∈ O',lt' a b = lt a b) {y t : α} (hy : y ∈ O') (h : zDf lt O y t) :
  (t ≠ s → zDf lt' O' y t) ∧ (t = s → ∀ u,zDf lt O s u → u ≠ s ∧ zDf lt' O' y u) := by
 obtain ⟨hyO,hys⟩ := (hm y).1 hy
 obtain ⟨a,h⟩ := h
 constructor
 ·intro hts
  have ht' := (hm t).2 ⟨a,hts⟩
  refine ⟨ht', ?_⟩
  rcases h with ⟨h1,h2⟩ | ⟨h1,h2⟩
  ·left
   refine ⟨by rw [hl t ht' y hy];exact h1,fun z hz hzy => ?_⟩
   rw [hl z hz y hy] at hzy
   rw [hl z hz t ht']
   exact h2 z ((hm z).1 hz).1 hzy
  ·right
   refine ⟨fun z hz => by rw [hl z hz y hy];exact h1 z ((hm z).1 hz).1,fun z hz => ?_⟩
   rw [hl z hz t ht']
   exact h2 z ((hm z).1 hz).1
 ·rintro rfl u ⟨c,k⟩
  have hut : u ≠ t := fun e => by
   subst e
   rcases k with ⟨k1,_⟩ | ⟨k1,k2⟩
   ·rw [H.irr u (hO u c)] at k1;cases k1
   ·rcases k2 y hyO with e | e
    ·exact hys e
    ·rw [k1 y hyO] at e;cases e
  have hu' := (hm u).2 ⟨c,hut⟩
  refine ⟨hut,hu', ?_⟩
  rcases h with ⟨h1,h2⟩ | ⟨h1,h2⟩
  ·have low : ∀ z ∈ O',lt' z y = true → lt z t = true := fun z hz q => by
    rw [hl z hz y hy] at q
    exact (h2 z ((hm z).1 hz).1 q).resolve_left ((hm z).1 hz).2
   rcases k with ⟨k1,k2⟩ | ⟨k1,k2⟩
   ·left
    refine ⟨by rw [hl u hu' y hy];exact H.tr _ _ _ (hO u c) (hO t a) (hO y hyO) k1 h1,fun z hz q => ?_⟩
    rw [hl z hz u hu']
    exact k2 z ((hm z).1 hz).1 (low z hz q)
   ·right
    refine ⟨fun z hz => ?_,fun z hz => by rw [hl z hz u hu'];exact k2 z ((hm z).1 hz).1⟩
    cases q : lt' z y with
    | false => rfl
    | true => have := low z hz q;rw [k1 z ((hm z).1 hz).1] at this;cases this
  ·right
   refine ⟨fun z hz => by rw [hl z hz y hy];exact h1 z ((hm z).1 hz).1,fun z hz => ?_⟩
   have hzt := (h2 z ((hm z).1 hz).1).resolve_left ((hm z).1 hz).2
   rw [hl z hz u hu']
   rcases k with ⟨k1,k2⟩ | ⟨k1,k2⟩
   ·exact k2 z ((hm z).1 hz).1 hzt
   ·exact k2 z ((hm z).1 hz).1
section
variable {js : List Joint} {ls : List Lead} (V : ValidW js ls)
include V
theorem ValidW.predI {v : Int} {r : Side} (hr : r ∈ outA js ls v) : zDf (ltAt js ls v) (outA js ls v) r (zBF (outA js ls v) r) := by
 have hO := V.ord v
 have hm : ∀ s ∈ outA js ls v,s ∈ zAv v ls := fun s hs => zBg.1 hs
 refine ⟨(zEt (V.out_nodup v) hr).1, ?_⟩
 rcases V.nextTo hr with ⟨h1,h2⟩ | h
 ·left
  refine ⟨h1,fun z hz q => ?_⟩
  rcases h2 z hz with e | e | e | e
  ·exact .inl e
  ·subst e;rw [hO.irr z (hm z hz)] at q;cases q
  ·exact .inr e
  ·rw [hO.as (hm r hr) (hm z hz) e] at q;cases q
 ·right
  refine ⟨fun z hz => ?_,fun z hz => (h z hz).2⟩
  rcases (h z hz).1 with e | e
  ·subst e;exact hO.irr z (hm z hz)
  ·exact hO.as (hm r hr) (hm z hz) e
theorem ValidW.permOn : PermOn (zAw js ls) (zA7 ls) :=
 ⟨fun x hx => zBd.2 (V.next (zBd.1 hx)).1,fun x hx y hy e => V.next_inj (zBd.1 hx) (zBd.1 hy) e⟩
theorem ValidW.orb_walk {s t : Side} (hs : zAF ls s) : Orb (zAw js ls) s t ↔ t ∈ zAK js ls s := by
 constructor
 ·rintro ⟨n,rfl⟩;exact V.walk_it hs (zDM hs) n
 ·intro h
  obtain ⟨n,_,_,_,_,e⟩ := V.walk hs
  rw [e] at h
  obtain ⟨k,_,hk⟩ := List.mem_map.1 h
  exact ⟨k,hk⟩
theorem ValidW.walks_reps : Reps (Orb (zAw js ls)) (zA7 ls) ((zBZ js ls).map fun x => x.headD zCG) := by
 have hI := V.walks_inv
 have hd : ∀ x ∈ zBZ js ls,∃ s,zAF ls s ∧ x = zAK js ls s ∧ x.headD zCG = s := fun x hx => by
  obtain ⟨s,hs,rfl⟩ := hI.1 x hx
  exact ⟨s,hs,rfl,by unfold zAK;rfl⟩
 refine ⟨fun t ht => ?_, ?_,fun x hx => ?_⟩
 ·obtain ⟨x,hx,rfl⟩ := List.mem_map.1 ht
  obtain ⟨s,hs,_,e⟩ := hd x hx
  rw [e];exact zBd.2 hs
 ·rw [List.pairwise_map]
  have hp := hI.2
  rw [List.nodup_iff_pairwise_ne,List.pairwise_flatten] at hp
  refine hp.2.imp_of_mem fun {a b} ha hb k q => ?_
  obtain ⟨s,hs,e1,e2⟩ := hd a ha
  obtain ⟨t,ht,e3,e4⟩ := hd b hb
  rw [e2,e4,V.orb_walk hs] at q
  exact k t (by rw [e1];exact q) t (by rw [e3];exact zDM ht) rfl
 ·have hs := zBd.1 hx
  have hc := V.walks_once hs
  have hm : x ∈ (zBZ js ls).flatten := List.count_pos_iff.1 (by rw [hc];exact Nat.one_pos)
  obtain ⟨y,hy,hxy⟩ := List.mem_flatten.1 hm
  obtain ⟨s,hs',e1,e2⟩ := hd y hy
  refine ⟨s,List.mem_map.2 ⟨y,hy,e2⟩, ?_⟩
  rw [e1] at hxy
  exact V.permOn.sym (zBd.2 hs') ((V.orb_walk hs').2 hxy)
end
def isoN (js : List Joint) (ls : List Lead) : Nat := (js.filter fun x => (outA js ls x.id).isEmpty).length
theorem zEw (ls : List Lead) (X : List Int) (q : Int) : EqOn (ConJ ls 0 q) X := ⟨fun x _ => .refl x,fun _ _ _ _ h => h.symm,fun _ _ _ _ _ _ h k => h.trans k⟩
theorem zDE {α : Type} {p q e : α → Bool} : ∀ {l : List α},(∀ x ∈ l,p x = (q x || e x) ∧ (q x && e x) = false) → (l.filter p).length = (l.filter q).length + (l.filter e).length
 | [],_ => rfl
 | x :: l,h => by
  have ih := zDE (l := l) (p := p) (q := q) (e := e) fun y hy => h y (by simp [hy])
  obtain ⟨h1,h2⟩ := h x (by simp)
  simp only [List.filter_cons,h1]
  cases hq : q x <;> cases he : e x <;> simp [hq,he] at h2 ⊢ <;> omega
theorem zEx {q : Bool} {x : Joint} : ∀ {js : List Joint},js.Pairwise (fun a b => a.id < b.id) → x ∈ js → (js.filter fun y => y.id == x.id && q).length = q.toNat
 | [],_,h => by cases h
 | y :: t,hp,h => by
  obtain ⟨h1,h2⟩ := List.pairwise_cons.1 hp
  rcases List.mem_cons.1 h with rfl | hx
  ·have : t.filter (fun y => y.id == x.id && q) = [] := List.filter_eq_nil_iff.2 fun y hy => by
    have := h1 y hy
    have e : (y.id == x.id) = false := by simp;omega
    simp [e]
   cases q
   ·rw [List.filter_cons_of_neg (by simp)];rw [this];rfl
   ·rw [List.filter_cons_of_pos (by simp),this];rfl
  ·have e : (y.id == x.id) = false := by have := h1 x hx;simp;omega
   rw [List.filter_cons_of_neg (by simp [e])]
   exact zEx h2 hx
section
variable {js : List Joint} {l : Lead} {r : List Lead} (V : ValidW js (l :: r))
include V
theorem ValidW.id_tl {x : Lead} (hx : x ∈ r) : x.id ≠ l.id := by
 have := (List.pairwise_cons.1 V.lid).1 x hx
 omega
theorem ValidW.side_tl {x : Side} : zAF r x ↔ zAF (l :: r) x ∧ x.lead ≠ l.id := by
 constructor
 ·rintro ⟨m,hm,e⟩
  exact ⟨⟨m,by simp [hm],e⟩,by rw [← e];exact V.id_tl hm⟩
 ·rintro ⟨⟨m,hm,e⟩,h⟩
  rcases List.mem_cons.1 hm with rfl | hm
  ·exact (h e.symm).elim
  ·exact ⟨m,hm,e⟩
omit V in
theorem ends_tl {x : Side} (h : x.lead ≠ l.id) : zAq r x = zAq (l :: r) x := by
 have : zBB (l :: r) x.lead = zBB r x.lead := by
  unfold zBB
  rw [List.find?_cons_of_neg (by simpa using Ne.symm h)]
 unfold zAq
 rw [this]
theorem ValidW.out_tl {v : Int} {z : Side} : z ∈ outA js r v ↔ z ∈ outA js (l :: r) v ∧ z.lead ≠ l.id := by
 rw [zBg,zBg,zBk,zBk]
 constructor
 ·rintro ⟨m,hm,h⟩
  have := V.id_tl hm
  refine ⟨⟨m,by simp [hm],h⟩, ?_⟩
  rcases h with ⟨_,rfl⟩ | ⟨_,rfl⟩ <;> exact this
 ·rintro ⟨⟨m,hm,h⟩,k⟩
  rcases List.mem_cons.1 hm with rfl | hm
  ·rcases h with ⟨_,rfl⟩ | ⟨_,rfl⟩ <;> exact (k rfl).elim
  ·exact ⟨m,hm,h⟩
theorem ValidW.one_out {v : Int} {z t : Side} (hz : z ∈ outA js (l :: r) v) (ht : t ∈ outA js (l :: r) v) (e : z.lead = t.lead) : z = t := by
 rcases side_two e with h | h
 ·exact h
 ·exfalso
  obtain ⟨h1,h2⟩ := V.of_leave (zBg.1 ht)
  obtain ⟨h3,h4⟩ := V.of_leave (zBg.1 hz)
  rw [h,V.rev_ends h1] at h4
  obtain ⟨m,hm,em⟩ := h1
  have hab := V.endne hm
  have ets : t = ⟨m.id,t.back⟩ := by rw [em]
  rw [ets,V.sideEnds hm] at h2 h4
  cases hb : t.back <;> rw [hb] at h2 h4 <;> simp at h2 h4 <;> omega
theorem ValidW.next_tl {x : Side} (hx : zAF r x) : zAw js r x = if zAw js (l :: r) x = ⟨l.id,false⟩ then zAw js (l :: r) ⟨l.id,true⟩ else if zAw js (l :: r) x = ⟨l.id,true⟩ then zAw js (l :: r) ⟨l.id,false⟩ else zAw js (l :: r) x := by
 obtain ⟨hx1,hx2⟩ := V.side_tl.1 hx
 have hy := V.rev_out hx1
 have hy' : revA x ∈ outA js r (zAq (l :: r) x).2 := V.out_tl.2 ⟨hy,hx2⟩
 have V' := V.tail
 obtain ⟨v,hv⟩ : ∃ v,(zAq (l :: r) x).2 = v := ⟨_,rfl⟩
 have hp := V.predI hy
 have hp' := V'.predI hy'
 have e1 : zAw js (l :: r) x = zBF (outA js (l :: r) v) (revA x) := by unfold zAw;rw [hv]
 have e2 : zAw js r x = zBF (outA js r v) (revA x) := by unfold zAw;rw [ends_tl hx2,hv]
 rw [hv] at hy hy' hp hp'
 rw [← e1] at hp
 rw [← e2] at hp'
 have hO := V.ord v
 have hO' := V'.ord v
 have hmO : ∀ s ∈ outA js (l :: r) v,s ∈ zAv v (l :: r) := fun s hs => zBg.1 hs
 have hmO' : ∀ s ∈ outA js r v,s ∈ zAv v r := fun s hs => zBg.1 hs
 have hlt : ∀ a ∈ outA js r v,∀ b ∈ outA js r v,ltAt js r v a b = ltAt js (l :: r) v a b := fun a ha b hb => by
  unfold ltAt
  rw [ends_tl (V.out_tl.1 ha).2,ends_tl (V.out_tl.1 hb).2]
 obtain ⟨t,ht⟩ : ∃ t,zAw js (l :: r) x = t := ⟨_,rfl⟩
 rw [ht] at hp ⊢
 by_cases hl : t.lead = l.id
 ·have htO := hp.1
  have hm : ∀ z,z ∈ outA js r v ↔ z ∈ outA js (l :: r) v ∧ z ≠ t := fun z => by
   rw [V.out_tl]
   exact ⟨fun h => ⟨h.1,fun e => h.2 (by rw [e];exact hl)⟩,fun h => ⟨h.1,fun e => h.2 (V.one_out h.1 htO (by rw [e,hl]))⟩⟩
  have hu := V.predI htO
  obtain ⟨_,k⟩ := (hp.less hO hmO hm hlt hy').2 rfl _ hu
  rw [hp'.uniq hO' hmO' k]
  obtain ⟨h1,h2⟩ := V.of_leave (zBg.1 htO)
  have hnx : zAw js (l :: r) (revA t) = zBF (outA js (l :: r) v) t := by
   unfold zAw
   rw [V.rev_ends h1,rev_rev,h2]
  rw [← hnx]
  have ht2 : t = ⟨l.id,t.back⟩ := by rw [← hl]
  cases hb : t.back
  ·rw [hb] at ht2
   rw [if_pos ht2,ht2];rfl
  ·rw [hb] at ht2
   rw [if_neg (by rw [ht2];simp),if_pos ht2,ht2];rfl
 ·have hm : ∀ z,z ∈ outA js r v ↔ z ∈ outA js (l :: r) v ∧ z.lead ≠ l.id := fun z => V.out_tl
  rw [if_neg (fun e => hl (by rw [e])),if_neg (fun e => hl (by rw [e]))]
  have k : zDf (ltAt js r v) (outA js r v) (revA x) t := by
   have ht' := (hm t).2 ⟨hp.1,hl⟩
   refine ⟨ht', ?_⟩
   rcases hp.2 with ⟨h1,h2⟩ | ⟨h1,h2⟩
   ·left
    refine ⟨by rw [hlt t ht' _ hy'];exact h1,fun z hz q => ?_⟩
    rw [hlt z hz _ hy'] at q
    rw [hlt z hz t ht']
    exact h2 z ((hm z).1 hz).1 q
   ·right
    refine ⟨fun z hz => by rw [hlt z hz _ hy'];exact h1 z ((hm z).1 hz).1,fun z hz => ?_⟩
    rw [hlt z hz t ht']
    exact h2 z ((hm z).1 hz).1
  exact hp'.uniq hO' hmO' k
theorem ValidW.alone {s : Side} (hs : zAF (l :: r) s) : zAw js (l :: r) (revA s) = s ↔ ∀ z ∈ outA js (l :: r) (zAq (l :: r) s).1,z = s := by
 have hso : s ∈ outA js (l :: r) (zAq (l :: r) s).1 := by
  have := V.rev_out (rev_side hs)
  rwa [V.rev_ends hs,rev_rev] at this
 have e : zAw js (l :: r) (revA s) = zBF (outA js (l :: r) (zAq (l :: r) s).1) s := by unfold zAw;rw [V.rev_ends hs,rev_rev]
 rw [e]
 have hp := V.predI hso
 constructor
 ·intro h z hz
  rw [h] at hp
  rcases hp.2 with ⟨h1,_⟩ | ⟨h1,h2⟩
  ·rw [(V.ord _).irr s (zBg.1 hso)] at h1;cases h1
  ·rcases h2 z hz with q | q
   ·exact q
   ·rw [h1 z hz] at q;cases q
 ·intro h
  exact h _ hp.1
theorem ValidW.con_tl {u v : Int} : ConJ r 0 0 u v ↔ ConJ (l :: r) 0 l.id u v := by
 have hadj : ∀ a b,AdjJ r 0 0 a b ↔ AdjJ (l :: r) 0 l.id a b := fun a b => by
  constructor
  ·rintro ⟨m,hm,_,h2,h3,h4⟩
   exact ⟨m,by simp [hm],V.id_tl hm,h2,h3,h4⟩
  ·rintro ⟨m,hm,h1,h2,h3,h4⟩
   rcases List.mem_cons.1 hm with rfl | hm
   ·exact (h1 rfl).elim
   ·exact ⟨m,hm,V.lpos (by simp [hm]),h2,h3,h4⟩
 constructor <;> intro h
 ·induction h with
  | refl => exact .refl _
  | step _ q ih => exact ih.step ((hadj _ _).1 q)
 ·induction h with
  | refl => exact .refl _
  | step _ q ih => exact ih.step ((hadj _ _).2 q)
theorem ValidW.con_hd {u v : Int} : ConJ (l :: r) 0 0 u v ↔ ConJ r 0 0 u v ∨ ((ConJ r 0 0 u l.a ∨ ConJ r 0 0 u l.b) ∧ (ConJ r 0 0 v l.a ∨ ConJ r 0 0 v l.b)) := by
 have up : ∀ {a b},ConJ r 0 0 a b → ConJ (l :: r) 0 0 a b := fun h => by
  induction h with
  | refl => exact .refl _
  | step _ q ih =>
   obtain ⟨m,hm,h1,h2⟩ := q
   exact ih.step ⟨m,by simp [hm],h1,h2⟩
 obtain ⟨i,hi,k,hk,e1,e2,_⟩ := V.ends (l := l) (by simp)
 have h1 := V.jpos hi
 have h2 := V.jpos hk
 rw [e1] at h1
 rw [e2] at h2
 have hl : ConJ (l :: r) 0 0 l.a l.b := ConJ.one ⟨l,by simp,V.lpos (by simp),h1,h2, .inl ⟨rfl,rfl⟩⟩
 constructor
 ·intro h
  induction h with
  | refl => exact .inl (.refl _)
  | @step v x hp q ih =>
   obtain ⟨m,hm,g1,g2,g3,g4⟩ := q
   rcases List.mem_cons.1 hm with rfl | hm
   ·have hvx : (ConJ r 0 0 v m.a ∨ ConJ r 0 0 v m.b) ∧ (ConJ r 0 0 x m.a ∨ ConJ r 0 0 x m.b) := by
     rcases g4 with ⟨rfl,rfl⟩ | ⟨rfl,rfl⟩
     ·exact ⟨.inl (.refl _), .inr (.refl _)⟩
     ·exact ⟨.inr (.refl _), .inl (.refl _)⟩
    rcases ih with ih | ih
    ·exact .inr ⟨hvx.1.imp (fun c => ih.trans c) (fun c => ih.trans c),hvx.2⟩
    ·exact .inr ⟨ih.1,hvx.2⟩
   ·have hs : ConJ r 0 0 v x := ConJ.one ⟨m,hm,g1,g2,g3,g4⟩
    rcases ih with ih | ih
    ·exact .inl (ih.trans hs)
    ·exact .inr ⟨ih.1,ih.2.imp (fun c => hs.symm.trans c) (fun c => hs.symm.trans c)⟩
 ·rintro (h | ⟨h3,h4⟩)
  ·exact up h
  ·have a : ConJ (l :: r) 0 0 u l.a := by
    rcases h3 with h | h
    ·exact up h
    ·exact (up h).trans hl.symm
   have b : ConJ (l :: r) 0 0 v l.a := by
    rcases h4 with h | h
    ·exact up h
    ·exact (up h).trans hl.symm
   exact a.trans b.symm
theorem ValidW.iso_tl {A B : Bool} (hA0 : A = true ↔ zAw js (l :: r) ⟨l.id,true⟩ = ⟨l.id,false⟩) (hB0 : B = true ↔ zAw js (l :: r) ⟨l.id,false⟩ = ⟨l.id,true⟩) : isoN js r = isoN js (l :: r) + A.toNat + B.toNat := by
 have hs : zAF (l :: r) ⟨l.id,false⟩ := ⟨l,by simp,rfl⟩
 have hs' : zAF (l :: r) ⟨l.id,true⟩ := ⟨l,by simp,rfl⟩
 have hA1 := V.alone hs
 have hB1 := V.alone hs'
 rw [show revA ⟨l.id,false⟩ = ⟨l.id,true⟩ from rfl,V.sideEnds (by simp : l ∈ l :: r)] at hA1
 rw [show revA ⟨l.id,true⟩ = ⟨l.id,false⟩ from rfl,V.sideEnds (by simp : l ∈ l :: r)] at hB1
 rw [← hA0] at hA1
 rw [← hB0] at hB1
 have hA := hA1
 have hB := hB1
 clear hA1 hB1
 simp only [Bool.false_eq_true,if_false,if_true] at hA hB
 clear hA0 hB0
 have hab := V.endne (l := l) (by simp)
 obtain ⟨i,hi,k,hk,e1,e2,_⟩ := V.ends (l := l) (by simp)
 have ha : (⟨l.id,false⟩ : Side) ∈ outA js (l :: r) l.a := zBg.2 (zBk.2 ⟨l,by simp, .inl ⟨rfl,rfl⟩⟩)
 have hb : (⟨l.id,true⟩ : Side) ∈ outA js (l :: r) l.b := zBg.2 (zBk.2 ⟨l,by simp, .inr ⟨rfl,rfl⟩⟩)
 have hemp : ∀ (ls' : List Lead) (v : Int),(outA js ls' v).isEmpty = true ↔ ∀ z,z ∉ outA js ls' v := fun ls' v => by
  rw [List.isEmpty_iff,List.eq_nil_iff_forall_not_mem]
 have key : ∀ v,∀ z ∈ outA js (l :: r) v,z.lead = l.id → (v = l.a ∧ z = ⟨l.id,false⟩) ∨ (v = l.b ∧ z = ⟨l.id,true⟩) := fun v z hz hl => by
  obtain ⟨m,hm,h⟩ := zBk.1 (zBg.1 hz)
  rcases h with ⟨h1,rfl⟩ | ⟨h1,rfl⟩
  ·obtain rfl : m = l := V.lead_id hm (by simp) hl
   exact .inl ⟨h1.symm,rfl⟩
  ·obtain rfl : m = l := V.lead_id hm (by simp) hl
   exact .inr ⟨h1.symm,rfl⟩
 have tl := fun v z => V.out_tl (v := v) (z := z)
 have emp : ∀ v,(outA js r v).isEmpty = (((outA js (l :: r) v).isEmpty || (v == l.a && A)) || (v == l.b && B)) ∧ ((outA js (l :: r) v).isEmpty && (v == l.a && A)) = false ∧ (((outA js (l :: r) v).isEmpty || (v == l.a && A)) && (v == l.b && B)) = false := fun v => by
  generalize hO : outA js (l :: r) = O at *
  by_cases xa : v = l.a
  ·have xb : v ≠ l.b := fun e => hab (by rw [← xa,e])
   have ne : (O v).isEmpty = false := by
    have h := hemp (l :: r) v
    rw [hO] at h
    rw [Bool.eq_false_iff,ne_eq,h,xa];exact fun q => q _ ha
   have : (outA js r v).isEmpty = A := by
    rw [Bool.eq_iff_iff,hemp,hA,xa]
    constructor
    ·intro q z hz
     by_cases hl : z.lead = l.id
     ·rcases key l.a z hz hl with h | h
      ·exact h.2
      ·exact (hab h.1).elim
     ·exact (q z ((tl _ _).2 ⟨hz,hl⟩)).elim
    ·intro q z hz
     obtain ⟨z1,z2⟩ := (tl _ _).1 hz
     exact z2 (by rw [q z z1])
   rw [this,ne]
   subst xa
   have : (l.a == l.b) = false := by simpa using hab
   rw [this];simp
  ·by_cases xb : v = l.b
   ·have ne : (O v).isEmpty = false := by
     have h := hemp (l :: r) v
     rw [hO] at h
     rw [Bool.eq_false_iff,ne_eq,h,xb];exact fun q => q _ hb
    have : (outA js r v).isEmpty = B := by
     rw [Bool.eq_iff_iff,hemp,hB,xb]
     constructor
     ·intro q z hz
      by_cases hl : z.lead = l.id
      ·rcases key l.b z hz hl with h | h
       ·exact (hab h.1.symm).elim
       ·exact h.2
      ·exact (q z ((tl _ _).2 ⟨hz,hl⟩)).elim
     ·intro q z hz
      obtain ⟨z1,z2⟩ := (tl _ _).1 hz
      exact z2 (by rw [q z z1])
    rw [this,ne]
    subst xb
    have : (l.b == l.a) = false := by simpa using Ne.symm hab
    rw [this];simp
   ·have n1 : (v == l.a) = false := by simpa using xa
    have n2 : (v == l.b) = false := by simpa using xb
    rw [n1,n2]
    have : (outA js r v).isEmpty = (O v).isEmpty := by
     have h := hemp (l :: r) v
     rw [hO] at h
     rw [Bool.eq_iff_iff,hemp,h]
     constructor
     ·intro q z hz
      refine q z ((tl _ _).2 ⟨hz,fun hl => ?_⟩)
      rcases key v z hz hl with h | h
      ·exact xa h.1
      ·exact xb h.1
     ·intro q z hz
      exact q z ((tl _ _).1 hz).1
    rw [this];simp
 have f1 := zEx (q := A) V.jid hi
 have f2 := zEx (q := B) V.jid hk
 rw [e1] at f1
 rw [e2] at f2
 unfold isoN
 generalize outA js (l :: r) = O at *
 generalize outA js r = O' at *
 have g1 : ∀ x ∈ js,(O' x.id).isEmpty = (((O x.id).isEmpty || (x.id == l.a && A)) || (x.id == l.b && B)) ∧ (((O x.id).isEmpty || (x.id == l.a && A)) && (x.id == l.b && B)) = false := fun x _ => ⟨(emp x.id).1,(emp x.id).2.2⟩
 have g2 : ∀ x ∈ js,((O x.id).isEmpty || (x.id == l.a && A)) = ((O x.id).isEmpty || (x.id == l.a && A)) ∧ ((O x.id).isEmpty && (x.id == l.a && A)) = false := fun x _ => ⟨rfl,(emp x.id).2.1⟩
 have s1 := zDE (p := fun x : Joint => (O' x.id).isEmpty) (q := fun x => (O x.id).isEmpty || (x.id == l.a && A)) (e := fun x => x.id == l.b && B) g1
 have s2 := zDE (p := fun x : Joint => (O x.id).isEmpty || (x.id == l.a && A)) (q := fun x => (O x.id).isEmpty) (e := fun x => x.id == l.a && A) g2
 omega
end
end Go.Proofs.YtcebcklecmppnaaGreat
end
section
namespace Go.Proofs.YtcebcklecmppnaaGreat
open Go.RowKit
section
variable {js : List Joint} {l : Lead} {r : List Lead} (V : ValidW js (l :: r))
include V
theorem ValidW.walks_tl {A B : Bool} (hA : A = true ↔ zAw js (l :: r) ⟨l.id,true⟩ = ⟨l.id,false⟩) (hB : B = true ↔ zAw js (l :: r) ⟨l.id,false⟩ = ⟨l.id,true⟩) {T T' : List Side} (h : Reps (Orb (zAw js (l :: r))) (zA7 (l :: r)) T) (h' : Reps (Orb (zAw js r)) (zA7 r) T') :
  (⟨l.id,true⟩ ∈ zAK js (l :: r) ⟨l.id,false⟩ → T.length + 1 = T'.length + A.toNat + B.toNat) ∧ (⟨l.id,true⟩ ∉ zAK js (l :: r) ⟨l.id,false⟩ → T.length = T'.length + A.toNat + B.toNat + 1) := by
 have P := V.permOn
 have hs0 : zAF (l :: r) ⟨l.id,false⟩ := ⟨l,by simp,rfl⟩
 have hs0' : zAF (l :: r) ⟨l.id,true⟩ := ⟨l,by simp,rfl⟩
 have hs := zBd.2 hs0
 have hs' := zBd.2 hs0'
 have hw := V.orb_walk (t := ⟨l.id,true⟩) hs0
 have hnx : ∀ x ∈ zA7 r,zAw js r x = if zAw js (l :: r) x = ⟨l.id,false⟩ then zAw js (l :: r) ⟨l.id,true⟩ else if zAw js (l :: r) x = ⟨l.id,true⟩ then zAw js (l :: r) ⟨l.id,false⟩ else zAw js (l :: r) x := fun x hx => V.next_tl (zBd.1 hx)
 have hmem : ∀ x,x ∈ zA7 r ↔ x ∈ zA7 (l :: r) ∧ x.lead ≠ l.id := fun x => by rw [zBd,zBd];exact V.side_tl
 have htl := V.tail.permOn
 have hab := V.endne (l := l) (by simp)
 have hf : zAw js (l :: r) ⟨l.id,false⟩ ≠ ⟨l.id,false⟩ := fun e => by
  have := (V.next hs0).2.1
  rw [e,V.sideEnds (by simp : l ∈ l :: r)] at this
  exact hab this
 have hf' : zAw js (l :: r) ⟨l.id,true⟩ ≠ ⟨l.id,true⟩ := fun e => by
  have := (V.next hs0').2.1
  rw [e,V.sideEnds (by simp : l ∈ l :: r)] at this
  exact hab this.symm
 obtain ⟨s,es⟩ : ∃ s : Side,s = ⟨l.id,false⟩ := ⟨_,rfl⟩
 obtain ⟨s',es'⟩ : ∃ s : Side,s = ⟨l.id,true⟩ := ⟨_,rfl⟩
 have hne : s ≠ s' := by rw [es,es'];simp
 have hlead : ∀ x : Side,x.lead ≠ l.id ↔ x ≠ s ∧ x ≠ s' := fun x => by
  rw [es,es']
  constructor
  ·intro h;exact ⟨fun e => h (by rw [e]),fun e => h (by rw [e])⟩
  ·rintro ⟨h1,h2⟩ e
   obtain ⟨a,b⟩ := x
   simp only at e
   subst e
   cases b
   ·exact h1 rfl
   ·exact h2 rfl
 simp only [← es,← es'] at hs hs' hnx hf hf' hw hA hB ⊢
 generalize hfe : zAw js (l :: r) = f at *
 generalize hXe : zA7 (l :: r) = X at *
 have Q := P.swap hs hs'
 obtain ⟨g,hg⟩ : ∃ g : Side → Side,(fun x => f (swp s s' x)) = g := ⟨_,rfl⟩
 have gs : g s = f s' := by rw [← hg];simp only [swp_l]
 have gs' : g s' = f s := by rw [← hg];simp only [swp_r]
 have gn : ∀ x,x ≠ s → x ≠ s' → g x = f x := fun x a b => by rw [← hg];simp only [swp_n a b]
 rw [hg] at Q
 obtain ⟨Y,hY⟩ : ∃ Y : List Side,∀ x,x ∈ Y ↔ x ∈ X ∧ x ≠ s := ⟨X.filter fun x => decide (x ≠ s),fun x => by simp⟩
 have hY2 : ∀ x,x ∈ zA7 r ↔ x ∈ Y ∧ x ≠ s' := fun x => by rw [hmem,hY,hlead];exact ⟨fun h => ⟨⟨h.1,h.2.1⟩,h.2.2⟩,fun h => ⟨h.1.1,h.1.2,h.2⟩⟩
 have K1 := Q.skip hs hY
 have hsY : s' ∈ Y := (hY s').2 ⟨hs',Ne.symm hne⟩
 have K2 := K1.skip hsY hY2
 have k1s : skp g s s' = f s := by
  unfold skp
  rw [gs',gs]
  rw [if_neg hf]
 have hk : ∀ x ∈ zA7 r,zAw js r x = skp (skp g s) s' x := fun x hx => by
  obtain ⟨hxX,hxl⟩ := (hmem x).1 hx
  obtain ⟨x1,x2⟩ := (hlead x).1 hxl
  rw [hnx x hx]
  by_cases h1 : f x = s
  ·rw [if_pos h1]
   have e : skp g s x = f s' := by unfold skp;rw [gn x x1 x2,if_pos h1,gs]
   unfold skp at e ⊢
   rw [e,if_neg hf']
  ·rw [if_neg h1]
   have e : skp g s x = f x := by unfold skp;rw [gn x x1 x2,if_neg h1]
   by_cases h2 : f x = s'
   ·rw [if_pos h2]
    have e2 : skp (skp g s) s' x = skp g s s' := by rw [skp,e,if_pos h2]
    rw [e2,k1s]
   ·rw [if_neg h2]
    rw [skp,e,if_neg h2]
 have h2 : Reps (Orb (skp (skp g s) s')) (zA7 r) T' := h'.congr (fun _ => Iff.rfl) fun x hx y _ => orb_congr (fun z hz => K2.mem z hz) (fun z hz => hk z hz) hx
 have h3 : ∃ T1,Reps (Orb (skp g s)) Y T1 ∧ T1.length = T'.length + B.toNat := by
  obtain ⟨a,b⟩ := K1.skip_reps hsY hY2 h2
  cases hb : B
  ·exact ⟨T',a (fun e => by rw [k1s] at e;rw [hB.2 e] at hb;cases hb),rfl⟩
  ·exact ⟨s' :: T',b (by rw [k1s];exact hB.1 hb),rfl⟩
 obtain ⟨T1,h3,l1⟩ := h3
 have h4 : ∃ T2,Reps (Orb g) X T2 ∧ T2.length = T1.length + A.toNat := by
  obtain ⟨a,b⟩ := Q.skip_reps hs hY h3
  cases ha : A
  ·exact ⟨T1,a (fun e => by rw [gs] at e;rw [hA.2 e] at ha;cases ha),rfl⟩
  ·exact ⟨s :: T1,b (by rw [gs];exact hA.1 ha),rfl⟩
 obtain ⟨T2,h4,l2⟩ := h4
 rw [← hg] at h4
 constructor
 ·intro hin
  obtain ⟨T3,h5,l3⟩ := P.near hs hs' hne (hw.2 hin) h4
  have := zEg P.eqOn h h5
  omega
 ·intro hout
  obtain ⟨T3,h5,l3⟩ := P.far hs hs' (fun e => hout (hw.1 e)) h
  have := zEg (P.swap hs hs').eqOn h4 h5
  omega
end
theorem con_nil {u v : Int} (h : ConJ [] 0 0 u v) : u = v := by
 induction h with
 | refl => rfl
 | step _ q _ => obtain ⟨m,hm,_⟩ := q;cases hm
theorem zFf {js : List Joint} : ∀ {ls : List Lead},ValidW js ls → ∀ {TC : List Int} {TF : List Side},Reps (ConJ ls 0 0) (js.map (·.id)) TC → Reps (Orb (zAw js ls)) (zA7 ls) TF → js.length + TF.length + isoN js ls = 2 * TC.length + ls.length
 | [],V,TC,TF,hC,hF => by
  have h1 : TF = [] := List.eq_nil_iff_forall_not_mem.2 fun x hx => by have := hF.sub x hx;cases this
  have h2 : isoN js [] = js.length := by unfold isoN;rw [List.filter_eq_self.2];intro x _;rfl
  have h3 : Reps (ConJ [] 0 0) (js.map (·.id)) (js.map (·.id)) := ⟨fun _ h => h,by
   rw [List.pairwise_map]
   exact V.jid.imp fun {a b} hab q => by have := con_nil q;omega,fun x hx => ⟨x,hx, .refl x⟩⟩
  have h4 := zEg (zEw [] _ 0) hC h3
  rw [List.length_map] at h4
  rw [h1,h2,h4]
  simp;omega
 | l :: r,V,TC,TF,hC,hF => by
  obtain ⟨TC',hC'⟩ := reps_ex (zEw r (js.map (·.id)) 0)
  obtain ⟨TF',hF'⟩ := reps_ex V.tail.permOn.eqOn
  have ih := zFf V.tail hC' hF'
  have hA : (decide (zAw js (l :: r) ⟨l.id,true⟩ = ⟨l.id,false⟩)) = true ↔ zAw js (l :: r) ⟨l.id,true⟩ = ⟨l.id,false⟩ := decide_eq_true_iff
  have hB : (decide (zAw js (l :: r) ⟨l.id,false⟩ = ⟨l.id,true⟩)) = true ↔ zAw js (l :: r) ⟨l.id,false⟩ = ⟨l.id,true⟩ := decide_eq_true_iff
  generalize decide (zAw js (l :: r) ⟨l.id,true⟩ = ⟨l.id,false⟩) = A at hA
  generalize decide (zAw js (l :: r) ⟨l.id,false⟩ = ⟨l.id,true⟩) = B at hB
  have hi := V.iso_tl hA hB
  obtain ⟨w1,w2⟩ := V.walks_tl hA hB hF hF'
  have hb := V.walk_bridge (s := ⟨l.id,false⟩) (l := l) (by simp) rfl
  rw [show revA (⟨l.id,false⟩ : Side) = ⟨l.id,true⟩ from rfl] at hb
  have hct := V.con_tl (u := l.a) (v := l.b)
  have hlen : (l :: r).length = r.length + 1 := rfl
  have E := zEw r (js.map (·.id)) 0
  obtain ⟨i,hi1,k,hk1,e1,e2,_⟩ := V.ends (l := l) (by simp)
  have ma : l.a ∈ js.map (·.id) := List.mem_map.2 ⟨i,hi1,e1⟩
  have mb : l.b ∈ js.map (·.id) := List.mem_map.2 ⟨k,hk1,e2⟩
  by_cases hcon : ConJ r 0 0 l.a l.b
  ·have hout : (⟨l.id,true⟩ : Side) ∉ zAK js (l :: r) ⟨l.id,false⟩ := fun q => hb.1 q (hct.1 hcon)
   have hCC : Reps (ConJ r 0 0) (js.map (·.id)) TC := hC.congr (fun _ => Iff.rfl) fun x _ y _ => by
    rw [V.con_hd]
    constructor
    ·rintro (h | ⟨h1,h2⟩)
     ·exact h
     ·have a : ConJ r 0 0 x l.a := h1.elim (fun h => h) fun h => h.trans hcon.symm
      have b : ConJ r 0 0 y l.a := h2.elim (fun h => h) fun h => h.trans hcon.symm
      exact a.trans b.symm
    ·exact .inl
   have := zEg E hCC hC'
   have := w2 hout
   omega
  ·have hin : (⟨l.id,true⟩ : Side) ∈ zAK js (l :: r) ⟨l.id,false⟩ := hb.2 fun q => hcon (hct.2 q)
   obtain ⟨T3,hm1,hm2⟩ := hC'.merge E ma mb hcon (R' := ConJ (l :: r) 0 0) fun x _ y _ => V.con_hd
   have := zEg (zEw (l :: r) _ 0) hC hm1
   have := w1 hin
   omega
end Go.Proofs.YtcebcklecmppnaaGreat
end
