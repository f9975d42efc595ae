/-The plane of a web swept by heights: leads do not cross, so their order from left to right does not change.-/
import Derived.Test.YtbbblemfodpmaaaGreatWebGa
import Derived.RowKit
set_option linter.unusedVariables false
set_option linter.unusedSimpArgs false
set_option maxHeartbeats 16000000
set_option maxRecDepth 100000
section
namespace Go.Proofs.YtbbblemfodpmaaaGreat
open Go.RowKit
def ht (p : Point) : Int := 8192 * p.y + p.x
def xS (a b : Point) (z : Int) : Int := a.x * (2 * ht b - z) + b.x * (z - 2 * ht a)
def gS (a b c d : Point) (z : Int) : Int := xS a b z * (ht d - ht c) - xS c d z * (ht b - ht a)
def slS (a b c d : Point) : Int := (b.x - a.x) * (ht d - ht c) - (d.x - c.x) * (ht b - ht a)
theorem gS_anti (a b c d : Point) (z : Int) : gS c d a b z = - gS a b c d z := by unfold gS;grind
theorem zCC (a b c d : Point) (z z' : Int) : gS a b c d z' = gS a b c d z + (z' - z) * slS a b c d := by unfold gS xS slS;grind
theorem gS_c (a b c d : Point) : gS a b c d (2 * ht c) = 16384 * (zAl a b c * (ht d - ht c)) := by unfold gS xS zAl ht;grind
theorem gS_d (a b c d : Point) : gS a b c d (2 * ht d) = 16384 * (zAl a b d * (ht d - ht c)) := by unfold gS xS zAl ht;grind
theorem gS_a (a b c d : Point) : gS a b c d (2 * ht a) = - (16384 * (zAl c d a * (ht b - ht a))) := by unfold gS xS zAl ht;grind
theorem gS_b (a b c d : Point) : gS a b c d (2 * ht b) = - (16384 * (zAl c d b * (ht b - ht a))) := by unfold gS xS zAl ht;grind
theorem gS_lo (a b d : Point) (z : Int) : gS a b a d z = (z - 2 * ht a) * (8192 * zAl a b d) := by unfold gS xS zAl ht;grind
theorem gS_hi (a b c : Point) (z : Int) : gS a b c b z = (2 * ht b - z) * (8192 * zAl b c a) := by unfold gS xS zAl ht;grind
theorem mul_sgn {x y : Int} (hy : 0 < y) : (0 < x * y ↔ 0 < x) ∧ (x * y < 0 ↔ x < 0) := by
 rcases Int.lt_trichotomy x 0 with h | h | h
 ·have := Int.mul_neg_of_neg_of_pos h hy
  constructor <;> constructor <;> intro <;> omega
 ·subst h;simp
 ·have := Int.mul_pos h hy
  constructor <;> constructor <;> intro <;> omega
section
variable {a b c d : Point} (h1 : ht a < ht b) (h2 : ht c < ht d)
include h1 h2
theorem gS_sc : (0 < gS a b c d (2 * ht c) ↔ 0 < zAl a b c) ∧ (gS a b c d (2 * ht c) < 0 ↔ zAl a b c < 0) := by
 have _ := h1;rw [gS_c];obtain ⟨p,q⟩ := mul_sgn (x := zAl a b c) (y := ht d - ht c) (by omega);omega
theorem gS_sd : (0 < gS a b c d (2 * ht d) ↔ 0 < zAl a b d) ∧ (gS a b c d (2 * ht d) < 0 ↔ zAl a b d < 0) := by
 have _ := h1;rw [gS_d];obtain ⟨p,q⟩ := mul_sgn (x := zAl a b d) (y := ht d - ht c) (by omega);omega
theorem gS_sa : (0 < gS a b c d (2 * ht a) ↔ zAl c d a < 0) ∧ (gS a b c d (2 * ht a) < 0 ↔ 0 < zAl c d a) := by
 have _ := h2;rw [gS_a];obtain ⟨p,q⟩ := mul_sgn (x := zAl c d a) (y := ht b - ht a) (by omega);omega
theorem gS_sb : (0 < gS a b c d (2 * ht b) ↔ zAl c d b < 0) ∧ (gS a b c d (2 * ht b) < 0 ↔ 0 < zAl c d b) := by
 have _ := h2;rw [gS_b];obtain ⟨p,q⟩ := mul_sgn (x := zAl c d b) (y := ht b - ht a) (by omega);omega
theorem gS_cross {z1 z2 : Int} (a1 : 2 * ht a ≤ z1) (a2 : z1 ≤ 2 * ht b) (a3 : 2 * ht c ≤ z1) (a4 : z1 ≤ 2 * ht d) (b1 : 2 * ht a ≤ z2) (b2 : z2 ≤ 2 * ht b) (b3 : 2 * ht c ≤ z2) (b4 : z2 ≤ 2 * ht d)
  (k1 : gS a b c d z1 < 0) (k2 : 0 < gS a b c d z2) : (zAl a b c < 0 ∧ 0 < zAl a b d ∧ 0 < zAl c d a ∧ zAl c d b < 0) ∨ (0 < zAl a b c ∧ zAl a b d < 0 ∧ zAl c d a < 0 ∧ 0 < zAl c d b) := by
 obtain ⟨p1,p2⟩ := gS_sa h1 h2;obtain ⟨q1,q2⟩ := gS_sb h1 h2;obtain ⟨r1,r2⟩ := gS_sc h1 h2;obtain ⟨s1,s2⟩ := gS_sd h1 h2;have e12 := zCC a b c d z1 z2;have ea := zCC a b c d z1 (2 * ht a);have eb := zCC a b c d z1 (2 * ht b);have ec := zCC a b c d z1 (2 * ht c);have ed := zCC a b c d z1 (2 * ht d);have fa := zCC a b c d z2 (2 * ht a);have fb := zCC a b c d z2 (2 * ht b);have fc := zCC a b c d z2 (2 * ht c);have fd := zCC a b c d z2 (2 * ht d);generalize slS a b c d = S at *
 rcases Int.lt_trichotomy z1 z2 with h | h | h
 ·have hS : 0 < S := by
   rcases Int.lt_or_le 0 S with hs | hs
   ·exact hs
   ·have := Int.mul_nonpos_of_nonneg_of_nonpos (show 0 ≤ z2 - z1 by omega) hs;omega
  left
  have m1 := Int.mul_nonpos_of_nonpos_of_nonneg (show 2 * ht a - z1 ≤ 0 by omega) (Int.le_of_lt hS);have m2 := Int.mul_nonneg (show 0 ≤ 2 * ht b - z2 by omega) (Int.le_of_lt hS);have m3 := Int.mul_nonpos_of_nonpos_of_nonneg (show 2 * ht c - z1 ≤ 0 by omega) (Int.le_of_lt hS);have m4 := Int.mul_nonneg (show 0 ≤ 2 * ht d - z2 by omega) (Int.le_of_lt hS);exact ⟨r2.1 (by omega),s1.1 (by omega),p2.1 (by omega),q1.1 (by omega)⟩
 ·subst h;omega
 ·have hS : S < 0 := by
   rcases Int.lt_or_le S 0 with hs | hs
   ·exact hs
   ·have := Int.mul_nonpos_of_nonpos_of_nonneg (show z2 - z1 ≤ 0 by omega) hs;omega
  right
  have m1 := Int.mul_nonneg_of_nonpos_of_nonpos (show 2 * ht a - z2 ≤ 0 by omega) (Int.le_of_lt hS);have m2 := Int.mul_nonpos_of_nonneg_of_nonpos (show 0 ≤ 2 * ht b - z1 by omega) (Int.le_of_lt hS);have m3 := Int.mul_nonneg_of_nonpos_of_nonpos (show 2 * ht c - z2 ≤ 0 by omega) (Int.le_of_lt hS);have m4 := Int.mul_nonpos_of_nonneg_of_nonpos (show 0 ≤ 2 * ht d - z1 by omega) (Int.le_of_lt hS);exact ⟨r1.1 (by omega),s2.1 (by omega),p1.1 (by omega),q2.1 (by omega)⟩
end
theorem cmpZ_lt {x y : Int} : cmpZ x 0 * cmpZ y 0 < 0 ↔ (x < 0 ∧ 0 < y) ∨ (0 < x ∧ y < 0) := by
 unfold cmpZ
 split <;> split <;> (try split) <;> (try split) <;> simp <;> omega
theorem zCc (a b p : Point) : zAl b a p = - zAl a b p := by unfold zAl;grind
theorem zEL (a b : Point) : zAl a b a = 0 := by unfold zAl;grind
theorem zEM (a b : Point) : zAl a b b = 0 := by unfold zAl;grind
theorem on_line {a b p : Point} (h1 : ht a < ht b) (h2 : ht a ≤ ht p) (h3 : ht p ≤ ht b) (h : zAl a b p = 0) : onP a b p = true := by
 unfold onP;simp only [h,beq_self_eq_true,Bool.true_and,decide_eq_true_eq];have e1 : (ht b - ht a) * (p.x - a.x) = (ht p - ht a) * (b.x - a.x) := by unfold zAl at h;unfold ht;grind
 have e2 : (ht b - ht a) * (p.y - a.y) = (ht p - ht a) * (b.y - a.y) := by unfold zAl at h;unfold ht;grind
 have hd : dotP p a b = - ((p.x - a.x) * ((b.x - a.x) - (p.x - a.x)) + (p.y - a.y) * ((b.y - a.y) - (p.y - a.y))) := by unfold dotP;grind
 rw [hd];have hU : 0 < ht b - ht a := by omega
 have hW : 0 ≤ ht p - ht a := by omega
 have hV : 0 ≤ (ht b - ht a) - (ht p - ht a) := by omega
 generalize ht b - ht a = U at *;generalize ht p - ht a = W at *;generalize p.x - a.x = wx at *;generalize p.y - a.y = wy at *;generalize b.x - a.x = ux at *;generalize b.y - a.y = uy at *;have e3 : U * U * (wx * (ux - wx) + wy * (uy - wy)) = W * (U - W) * (ux * ux + uy * uy) := by grind
 have n1 := sq_nn ux;have n2 := sq_nn uy;have n3 : 0 ≤ W * (U - W) * (ux * ux + uy * uy) := Int.mul_nonneg (Int.mul_nonneg hW hV) (by omega)
 rcases Int.lt_or_le (wx * (ux - wx) + wy * (uy - wy)) 0 with q | q
 ·have := Int.mul_neg_of_pos_of_neg (Int.mul_pos hU hU) q;omega
 ·omega
def loI (js : List Joint) (l : Lead) : Int := if ht (ptA js l.a) < ht (ptA js l.b) then l.a else l.b
def hiI (js : List Joint) (l : Lead) : Int := if ht (ptA js l.a) < ht (ptA js l.b) then l.b else l.a
def loP (js : List Joint) (l : Lead) : Point := ptA js (loI js l)
def hiP (js : List Joint) (l : Lead) : Point := ptA js (hiI js l)
def gL (js : List Joint) (e l : Lead) (z : Int) : Int := gS (loP js e) (hiP js e) (loP js l) (hiP js l) z
def zAS (js : List Joint) (l : Lead) (z : Int) : Bool := decide (2 * ht (loP js l) < z) && decide (z < 2 * ht (hiP js l))
theorem zA4 {js : List Joint} {l : Lead} {z : Int} : zAS js l z = true ↔ 2 * ht (loP js l) < z ∧ z < 2 * ht (hiP js l) := by unfold zAS;simp
theorem gL_anti (js : List Joint) (e l : Lead) (z : Int) : gL js l e z = - gL js e l z := gS_anti _ _ _ _ _
theorem ht_inj {p q : Point} (hp : inP p = true) (hq : inP q = true) (h : ht p = ht q) : p = q := by
 unfold inP winI at hp hq;simp only [Bool.and_eq_true,decide_eq_true_eq] at hp hq;unfold ht at h;obtain ⟨x,y⟩ := p;obtain ⟨u,v⟩ := q;simp only at *;have : y = v := by omega
 have : x = u := by omega
 subst_vars;rfl
section
variable {js : List Joint} {ls : List Lead} (V : ValidW js ls)
include V
theorem ValidW.ht_j {i k : Joint} (hi : i ∈ js) (hk : k ∈ js) (h : ht i.at_ = ht k.at_) : i = k := by
 have := ht_inj (V.jok i hi).2 (V.jok k hk).2 h
 rcases pw_or V.jat hi hk with e | e | e
 ·exact e
 ·exact absurd this e
 ·exact absurd this.symm e
theorem ValidW.lh {l : Lead} (hl : l ∈ ls) : ((loI js l = l.a ∧ hiI js l = l.b) ∨ (loI js l = l.b ∧ hiI js l = l.a)) ∧ ht (loP js l) < ht (hiP js l) ∧ ∃ i ∈ js,∃ k ∈ js,i.id = loI js l ∧ k.id = hiI js l ∧ loP js l = i.at_ ∧ hiP js l = k.at_ := by
 obtain ⟨i,hi,k,hk,e1,e2,e3,e4,e5⟩ := V.ends hl;unfold loP hiP loI hiI
 by_cases h : ht (ptA js l.a) < ht (ptA js l.b)
 ·simp only [if_pos h];exact ⟨.inl ⟨trivial,trivial⟩,h,i,hi,k,hk,e1,e2,e4,e5⟩
 ·simp only [if_neg h];refine ⟨.inr ⟨trivial,trivial⟩, ?_,k,hk,i,hi,e2,e1,e5,e4⟩
  rcases Int.lt_or_le (ht (ptA js l.b)) (ht (ptA js l.a)) with q | q
  ·exact q
  ·have e : ht i.at_ = ht k.at_ := by rw [← e4,← e5];omega
   have := V.ht_j hi hk e;rw [← e1,← e2,this] at e3;exact absurd rfl e3
theorem ValidW.inc_lh {l : Lead} (hl : l ∈ ls) (j : Int) : (l.a = j ∨ l.b = j) ↔ (loI js l = j ∨ hiI js l = j) := by
 rcases (V.lh hl).1 with ⟨a,b⟩ | ⟨a,b⟩ <;> rw [a,b];exact or_comm
theorem ValidW.noX {e l : Lead} (he : e ∈ ls) (hl : l ∈ ls) (hne : e.id ≠ l.id) {z1 z2 : Int} (a1 : 2 * ht (loP js e) ≤ z1) (a2 : z1 ≤ 2 * ht (hiP js e)) (a3 : 2 * ht (loP js l) ≤ z1) (a4 : z1 ≤ 2 * ht (hiP js l))
  (b1 : 2 * ht (loP js e) ≤ z2) (b2 : z2 ≤ 2 * ht (hiP js e)) (b3 : 2 * ht (loP js l) ≤ z2) (b4 : z2 ≤ 2 * ht (hiP js l)) (k1 : gL js e l z1 < 0) (k2 : 0 < gL js e l z2) : False := by
 have hx := gS_cross (V.lh he).2.1 (V.lh hl).2.1 a1 a2 a3 a4 b1 b2 b3 b4 k1 k2;have hse : ((loP js e = ptA js e.a ∧ hiP js e = ptA js e.b) ∨ (loP js e = ptA js e.b ∧ hiP js e = ptA js e.a)) := by
  unfold loP hiP;rcases (V.lh he).1 with ⟨u,v⟩ | ⟨u,v⟩ <;> rw [u,v] <;> simp
 have hsl : ((loP js l = ptA js l.a ∧ hiP js l = ptA js l.b) ∨ (loP js l = ptA js l.b ∧ hiP js l = ptA js l.a)) := by
  unfold loP hiP;rcases (V.lh hl).1 with ⟨u,v⟩ | ⟨u,v⟩ <;> rw [u,v] <;> simp
 clear k1 k2 a1 a2 a3 a4 b1 b2 b3 b4;have key : ((zAl (ptA js e.a) (ptA js e.b) (ptA js l.a) < 0 ∧ 0 < zAl (ptA js e.a) (ptA js e.b) (ptA js l.b)) ∨ (0 < zAl (ptA js e.a) (ptA js e.b) (ptA js l.a) ∧ zAl (ptA js e.a) (ptA js e.b) (ptA js l.b) < 0)) ∧
   ((zAl (ptA js l.a) (ptA js l.b) (ptA js e.a) < 0 ∧ 0 < zAl (ptA js l.a) (ptA js l.b) (ptA js e.b)) ∨ (0 < zAl (ptA js l.a) (ptA js l.b) (ptA js e.a) ∧ zAl (ptA js l.a) (ptA js l.b) (ptA js e.b) < 0)) := by
  rcases hse with ⟨u1,u2⟩ | ⟨u1,u2⟩ <;> rcases hsl with ⟨v1,v2⟩ | ⟨v1,v2⟩ <;> rw [u1,u2,v1,v2] at hx
  ·omega
  ·rw [zCc (ptA js l.a) (ptA js l.b),zCc (ptA js l.a) (ptA js l.b)] at hx;omega
  ·rw [zCc (ptA js e.a) (ptA js e.b),zCc (ptA js e.a) (ptA js e.b)] at hx;omega
  ·rw [zCc (ptA js l.a) (ptA js l.b),zCc (ptA js l.a) (ptA js l.b),zCc (ptA js e.a) (ptA js e.b),zCc (ptA js e.a) (ptA js e.b)] at hx;omega
 have n1 : e.a ≠ l.a := fun q => by rw [q] at key;simp only [zEL,zEM] at key;omega
 have n2 : e.a ≠ l.b := fun q => by rw [q] at key;simp only [zEL,zEM] at key;omega
 have n3 : e.b ≠ l.a := fun q => by rw [q] at key;simp only [zEL,zEM] at key;omega
 have n4 : e.b ≠ l.b := fun q => by rw [q] at key;simp only [zEL,zEM] at key;omega
 have c1 : zB5 js e l = true := by
  unfold zB5;rw [if_neg (by simp [n1,n2,n3,n4])];simp only [Bool.and_eq_true,decide_eq_true_eq,cmpZ_lt];exact key
 have c2 : zB5 js l e = true := by
  unfold zB5;rw [if_neg (by simp [Ne.symm n1,Ne.symm n2,Ne.symm n3,Ne.symm n4])];simp only [Bool.and_eq_true,decide_eq_true_eq,cmpZ_lt];exact key.symm
 rcases pw_or V.meet he hl with q | q | q
 ·rw [q] at hne;exact hne rfl
 ·rw [c2] at q;cases q.1
 ·rw [c1] at q;cases q.1
theorem ValidW.offL {e : Lead} (he : e ∈ ls) {j : Joint} (hj : j ∈ js) (h1 : ht (loP js e) ≤ ht j.at_) (h2 : ht j.at_ ≤ ht (hiP js e)) (h : zAl (loP js e) (hiP js e) j.at_ = 0) : j.id = loI js e ∨ j.id = hiI js e := by
 have ho := on_line (V.lh he).2.1 h1 h2 h;have ht := V.touch e he;have hs : onP (ptA js e.a) (ptA js e.b) j.at_ = true := by
  unfold loP hiP at ho
  rcases (V.lh he).1 with ⟨u,v⟩ | ⟨u,v⟩ <;> rw [u,v] at ho
  ·exact ho
  ·rw [onP_symm];exact ho
 unfold zD2 at ht;rw [List.any_eq_false] at ht;have := ht j hj;simp only [hs,Bool.and_true,Bool.and_eq_true,bne_iff_ne,ne_eq,not_and,Decidable.not_not] at this
 by_cases q : j.id = e.a
 ·exact (V.inc_lh he j.id).1 (.inl q.symm) |>.imp Eq.symm Eq.symm
 ·exact (V.inc_lh he j.id).1 (.inr (this q).symm) |>.imp Eq.symm Eq.symm
end
end Go.Proofs.YtbbblemfodpmaaaGreat
end
section
namespace Go.Proofs.YtbbblemfodpmaaaGreat
open Go.RowKit
def lft (js : List Joint) (e l : Lead) (z : Int) : Bool := decide (0 < gL js e l z)
section
variable {js : List Joint} {ls : List Lead} (V : ValidW js ls)
include V
theorem ValidW.pt_id {i : Joint} (hi : i ∈ js) : ptA js i.id = i.at_ := by
 unfold ptA;rw [V.at_ hi];rfl
theorem ValidW.lead_id {l m : Lead} (hl : l ∈ ls) (hm : m ∈ ls) (h : l.id = m.id) : l = m := by
 have a := V.lead hl;have b := V.lead hm;rw [h,b] at a
 injection a with e;exact e.symm
theorem ValidW.loEq {e : Lead} (he : e ∈ ls) {j : Joint} (hj : j ∈ js) : loI js e = j.id ↔ ht (loP js e) = ht j.at_ := by
 obtain ⟨_,_,i,hi,k,hk,e1,e2,e3,e4⟩ := V.lh he;rw [← e1,e3];exact ⟨fun q => by rw [V.inj hi hj q],fun q => by rw [V.ht_j hi hj q]⟩
theorem ValidW.hiEq {e : Lead} (he : e ∈ ls) {j : Joint} (hj : j ∈ js) : hiI js e = j.id ↔ ht (hiP js e) = ht j.at_ := by
 obtain ⟨_,_,i,hi,k,hk,e1,e2,e3,e4⟩ := V.lh he;rw [← e2,e4];exact ⟨fun q => by rw [V.inj hk hj q],fun q => by rw [V.ht_j hk hj q]⟩
theorem ValidW.gne {e l : Lead} (he : e ∈ ls) (hl : l ∈ ls) (hne : e.id ≠ l.id) {z : Int} (s1 : zAS js e z = true) (s2 : zAS js l z = true) : gL js e l z ≠ 0 := fun h0 => by
 rw [zA4] at s1 s2;have u1 := zCC (loP js e) (hiP js e) (loP js l) (hiP js l) z (z + 1);have u2 := zCC (loP js e) (hiP js e) (loP js l) (hiP js l) z (z - 1);have n1 := fun h h' => V.noX he hl hne (z1 := z - 1) (z2 := z + 1) (by omega) (by omega) (by omega) (by omega) (by omega) (by omega) (by omega) (by omega) h h';have n2 := fun h h' => V.noX he hl hne (z1 := z + 1) (z2 := z - 1) (by omega) (by omega) (by omega) (by omega) (by omega) (by omega) (by omega) (by omega) h h';have g0 : gS (loP js e) (hiP js e) (loP js l) (hiP js l) z = 0 := h0;unfold gL at n1 n2;have hS : slS (loP js e) (hiP js e) (loP js l) (hiP js l) = 0 := by
  rcases Int.lt_trichotomy (slS (loP js e) (hiP js e) (loP js l) (hiP js l)) 0 with q | q | q
  ·exact (n2 (by omega) (by omega)).elim
  ·exact q
  ·exact (n1 (by omega) (by omega)).elim
 have hall : ∀ y,gS (loP js e) (hiP js e) (loP js l) (hiP js l) y = 0 := fun y => by
  rw [zCC _ _ _ _ z y,g0,hS];simp
 have hle := (V.lh he).2.1;have hll := (V.lh hl).2.1;have ca : zAl (loP js l) (hiP js l) (loP js e) = 0 := by have := gS_sa hle hll;rw [hall] at this;omega
 have cb : zAl (loP js l) (hiP js l) (hiP js e) = 0 := by have := gS_sb hle hll;rw [hall] at this;omega
 have cc : zAl (loP js e) (hiP js e) (loP js l) = 0 := by have := gS_sc hle hll;rw [hall] at this;omega
 have cd : zAl (loP js e) (hiP js e) (hiP js l) = 0 := by have := gS_sd hle hll;rw [hall] at this;omega
 obtain ⟨-, -,i,hi,k,hk,e1,e2,e3,e4⟩ := V.lh he;obtain ⟨-, -,i',hi',k',hk',e1',e2',e3',e4'⟩ := V.lh hl;have hlo : loI js e = loI js l := by
  rcases Int.le_total (ht (loP js e)) (ht (loP js l)) with q | q
  ·have := V.offL he hi' (by rw [← e3'];exact q) (by rw [← e3'];omega) (by rw [← e3'];exact cc)
   rcases this with t | t
   ·rw [← t,e1']
   ·have := (V.hiEq he hi').1 t.symm;rw [← e3'] at this;omega
  ·have := V.offL hl hi (by rw [← e3];exact q) (by rw [← e3];omega) (by rw [← e3];exact ca)
   rcases this with t | t
   ·rw [← t,e1]
   ·have := (V.hiEq hl hi).1 t.symm;rw [← e3] at this;omega
 have hhi : hiI js e = hiI js l := by
  rcases Int.le_total (ht (hiP js l)) (ht (hiP js e)) with q | q
  ·have := V.offL he hk' (by rw [← e4'];omega) (by rw [← e4'];omega) (by rw [← e4'];exact cd)
   rcases this with t | t
   ·have := (V.loEq he hk').1 t.symm;rw [← e4'] at this;omega
   ·rw [← t,e2']
  ·have := V.offL hl hk (by rw [← e4];omega) (by rw [← e4];omega) (by rw [← e4];exact cb)
   rcases this with t | t
   ·have := (V.loEq hl hk).1 t.symm;rw [← e4] at this;omega
   ·rw [← t,e2]
 have hp : zBa e = zBa l := by
  unfold zBa
  rcases (V.lh he).1 with ⟨a1,a2⟩ | ⟨a1,a2⟩ <;> rcases (V.lh hl).1 with ⟨b1,b2⟩ | ⟨b1,b2⟩ <;> rw [a1,b1] at hlo <;> rw [a2,b2] at hhi <;> rw [hlo,hhi]
  ·rw [Int.min_comm,Int.max_comm]
  ·rw [Int.min_comm,Int.max_comm]
 rcases pw_or V.lend he hl with q | q | q
 ·exact hne (by rw [q])
 ·exact q hp
 ·exact q hp.symm
theorem ValidW.lft_keep {e l : Lead} (he : e ∈ ls) (hl : l ∈ ls) {z z' : Int} (s1 : zAS js e z = true) (s2 : zAS js l z = true) (s3 : zAS js e z' = true) (s4 : zAS js l z' = true) : lft js e l z = lft js e l z' := by
 by_cases hne : e.id = l.id
 ·have := V.lead_id he hl hne;subst this;have h : ∀ y,gL js e e y = 0 := fun y => by have := gL_anti js e e y;omega
  unfold lft;rw [h,h]
 ·have a := V.gne he hl hne s1 s2;have b := V.gne he hl hne s3 s4;rw [zA4] at s1 s2 s3 s4;have n1 := fun h h' => V.noX he hl hne (z1 := z) (z2 := z') (by omega) (by omega) (by omega) (by omega) (by omega) (by omega) (by omega) (by omega) h h';have n2 := fun h h' => V.noX he hl hne (z1 := z') (z2 := z) (by omega) (by omega) (by omega) (by omega) (by omega) (by omega) (by omega) (by omega) h h';unfold lft;rw [decide_eq_decide]
  constructor
  ·intro q
   rcases Int.lt_or_le 0 (gL js e l z') with t | t
   ·exact t
   ·exact (n2 (by omega) q).elim
  ·intro q
   rcases Int.lt_or_le 0 (gL js e l z) with t | t
   ·exact t
   ·exact (n1 (by omega) q).elim
theorem ValidW.lft_anti {e l : Lead} (he : e ∈ ls) (hl : l ∈ ls) (hne : e.id ≠ l.id) {z : Int} (s1 : zAS js e z = true) (s2 : zAS js l z = true) : lft js l e z = !lft js e l z := by
 have a := V.gne he hl hne s1 s2;unfold lft;rw [gL_anti js e l z]
 rcases Int.lt_or_le 0 (gL js e l z) with t | t
 ·rw [decide_eq_true t,decide_eq_false (by omega)];rfl
 ·rw [decide_eq_false (by omega : ¬ 0 < gL js e l z),decide_eq_true (by omega)];rfl
theorem ValidW.lft_pt {e l : Lead} (he : e ∈ ls) (hl : l ∈ ls) {j : Joint} (hj : j ∈ js) (hi : loI js l = j.id ∨ hiI js l = j.id) (h1 : ht (loP js e) < ht j.at_) (h2 : ht j.at_ < ht (hiP js e)) {z : Int} (s1 : zAS js e z = true) (s2 : zAS js l z = true) :
  lft js e l z = decide (0 < zAl (loP js e) (hiP js e) j.at_) := by
 have hne : e.id ≠ l.id := fun q => by
  have := V.lead_id he hl q;subst this
  rcases hi with q | q
  ·have := (V.loEq he hj).1 q;omega
  ·have := (V.hiEq he hj).1 q;omega
 have a := V.gne he hl hne s1 s2;rw [zA4] at s1 s2;have hle := (V.lh he).2.1;have hll := (V.lh hl).2.1;have hz : 2 * ht (loP js l) ≤ 2 * ht j.at_ ∧ 2 * ht j.at_ ≤ 2 * ht (hiP js l) ∧ (0 < gL js e l (2 * ht j.at_) ↔ 0 < zAl (loP js e) (hiP js e) j.at_) ∧ (gL js e l (2 * ht j.at_) < 0 ↔ zAl (loP js e) (hiP js e) j.at_ < 0) := by
  rcases hi with q | q
  ·have q2 := (V.loEq hl hj).1 q;have q3 : loP js l = j.at_ := by unfold loP;rw [q,V.pt_id hj]
   refine ⟨by omega,by omega, ?_⟩;have := gS_sc hle hll;rw [q3] at this;unfold gL;rw [q3];exact this
  ·have q2 := (V.hiEq hl hj).1 q;have q3 : hiP js l = j.at_ := by unfold hiP;rw [q,V.pt_id hj]
   refine ⟨by omega,by omega, ?_⟩;have := gS_sd hle hll;rw [q3] at this;unfold gL;rw [q3];exact this
 obtain ⟨z1,z2,z3,z4⟩ := hz;have hn0 : zAl (loP js e) (hiP js e) j.at_ ≠ 0 := fun q => by
  rcases V.offL he hj (by omega) (by omega) q with t | t
  ·have := (V.loEq he hj).1 t.symm;omega
  ·have := (V.hiEq he hj).1 t.symm;omega
 have n1 := fun h h' => V.noX he hl hne (z1 := z) (z2 := 2 * ht j.at_) (by omega) (by omega) (by omega) (by omega) (by omega) (by omega) (by omega) (by omega) h h';have n2 := fun h h' => V.noX he hl hne (z1 := 2 * ht j.at_) (z2 := z) (by omega) (by omega) (by omega) (by omega) (by omega) (by omega) (by omega) (by omega) h h';unfold lft;rw [decide_eq_decide]
 constructor
 ·intro q
  rcases Int.lt_or_le 0 (zAl (loP js e) (hiP js e) j.at_) with t | t
  ·exact t
  ·exact (n2 (z4.2 (by omega)) q).elim
 ·intro q
  rcases Int.lt_or_le 0 (gL js e l z) with t | t
  ·exact t
  ·exact (n1 (by omega) (z3.2 q)).elim
end
def par (p : Lead → Bool) (ls : List Lead) : Bool := ls.foldr (fun l b => p l ^^ b) false
theorem zBP {p q : Lead → Bool} : ∀ {ls : List Lead},(∀ l ∈ ls,p l = q l) → par p ls = par q ls
 | [],_ => rfl
 | l :: r,h => by
  have := zBP (ls := r) fun x hx => h x (by simp [hx]);unfold par at this ⊢;simp only [List.foldr_cons];rw [this,h l (by simp)]
theorem zDo (p q : Lead → Bool) : ∀ ls : List Lead,par (fun l => p l ^^ q l) ls = (par p ls ^^ par q ls)
 | [] => rfl
 | l :: r => by
  have := zDo p q r;unfold par at this ⊢;simp only [List.foldr_cons];rw [this]
  cases p l <;> cases q l <;> cases List.foldr (fun l b => p l ^^ b) false r <;> cases List.foldr (fun l b => q l ^^ b) false r <;> rfl
theorem zDE : ∀ ls : List Lead,par (fun _ => false) ls = false
 | [] => rfl
 | l :: r => by have := zDE r;unfold par at this ⊢;simp only [List.foldr_cons];rw [this];rfl
theorem par_and (k : Bool) (p : Lead → Bool) (ls : List Lead) : par (fun l => p l && k) ls = (par p ls && k) := by
 cases k
 ·rw [zBP (q := fun _ => false) (fun l _ => by simp),zDE];simp
 ·rw [zBP (q := p) (fun l _ => by simp)];simp
theorem par_one {c : Int → Bool} {e : Lead} : ∀ {ls : List Lead},ls.Pairwise (fun a b => a.id < b.id) → e ∈ ls → par (fun l => c l.id && l.id == e.id) ls = c e.id
 | [],_,h => by cases h
 | l :: r,hp,h => by
  obtain ⟨h1,h2⟩ := List.pairwise_cons.1 hp
  rcases List.mem_cons.1 h with rfl | h
  ·have : par (fun l => c l.id && l.id == e.id) r = false := by
    rw [zBP (q := fun _ => false) (fun x hx => by have := h1 x hx;simp;intro _;omega),zDE]
   unfold par at this ⊢;simp only [List.foldr_cons];rw [this];simp
  ·have := par_one (c := c) h2 h;have hlt := h1 e h;unfold par at this ⊢;simp only [List.foldr_cons];rw [this];have : (l.id == e.id) = false := by simp;omega
   rw [this];simp
def incB (l : Lead) (v : Int) : Bool := l.a == v || l.b == v
def evenC (c : Int → Bool) (ls : List Lead) : Prop := ∀ v,par (fun l => c l.id && incB l v) ls = false
def cntA (c : Int → Bool) (js : List Joint) (ls : List Lead) (e : Lead) (z : Int) : Bool := par (fun l => c l.id && (zAS js l z && lft js e l z)) ls
section
variable {js : List Joint} {ls : List Lead} (V : ValidW js ls)
include V
theorem ValidW.inc_iff {l : Lead} (hl : l ∈ ls) (j : Int) : incB l j = true ↔ (loI js l = j ∨ hiI js l = j) := by
 rw [← V.inc_lh hl];unfold incB;simp
theorem ValidW.past {e l : Lead} (he : e ∈ ls) (hl : l ∈ ls) {h : Int} (n1 : ht (loP js l) ≠ h) (n2 : ht (hiP js l) ≠ h) (s1 : zAS js e (2 * h - 1) = true) (s2 : zAS js e (2 * h + 1) = true) :
  (zAS js l (2 * h - 1) && lft js e l (2 * h - 1)) = (zAS js l (2 * h + 1) && lft js e l (2 * h + 1)) := by
 have hs : zAS js l (2 * h - 1) = zAS js l (2 * h + 1) := by
  rw [Bool.eq_iff_iff,zA4,zA4]
  constructor <;> intro <;> omega
 cases q : zAS js l (2 * h + 1)
 ·rw [hs,q];rfl
 ·rw [hs,q,Bool.true_and,Bool.true_and];exact V.lft_keep he hl s1 (by rw [hs];exact q) s2 q
theorem ValidW.cnt_step {c : Int → Bool} (hc : evenC c ls) {e : Lead} (he : e ∈ ls) {h : Int} (s1 : zAS js e (2 * h - 1) = true) (s2 : zAS js e (2 * h + 1) = true) : cntA c js ls e (2 * h - 1) = cntA c js ls e (2 * h + 1) := by
 by_cases hj : ∃ j ∈ js,ht j.at_ = h
 ·obtain ⟨j,hj,rfl⟩ := hj;have hp : ∀ l ∈ ls,((c l.id && (zAS js l (2 * ht j.at_ - 1) && lft js e l (2 * ht j.at_ - 1))) ^^ (c l.id && (zAS js l (2 * ht j.at_ + 1) && lft js e l (2 * ht j.at_ + 1)))) = ((c l.id && incB l j.id) && decide (0 < zAl (loP js e) (hiP js e) j.at_)) := fun l hl => by
   have hle := (V.lh he).2.1;have hll := (V.lh hl).2.1;have t1 := zA4.1 s1;have t2 := zA4.1 s2
   by_cases hi : incB l j.id = true
   ·rw [hi];have hi2 := (V.inc_iff hl _).1 hi
    rcases hi2 with q | q
    ·have q2 := (V.loEq hl hj).1 q;have u1 : zAS js l (2 * ht j.at_ - 1) = false := by rw [Bool.eq_false_iff,ne_eq,zA4];omega
     have u2 : zAS js l (2 * ht j.at_ + 1) = true := by rw [zA4];omega
     rw [u1,u2,V.lft_pt he hl hj (.inl q) (by omega) (by omega) s2 u2];simp
    ·have q2 := (V.hiEq hl hj).1 q;have u1 : zAS js l (2 * ht j.at_ + 1) = false := by rw [Bool.eq_false_iff,ne_eq,zA4];omega
     have u2 : zAS js l (2 * ht j.at_ - 1) = true := by rw [zA4];omega
     rw [u1,u2,V.lft_pt he hl hj (.inr q) (by omega) (by omega) s1 u2];simp
   ·have hi2 : ¬ (loI js l = j.id ∨ hiI js l = j.id) := fun q => hi ((V.inc_iff hl _).2 q);have hi3 : incB l j.id = false := by simpa using hi
    rw [V.past he hl (fun q => hi2 (.inl ((V.loEq hl hj).2 q))) (fun q => hi2 (.inr ((V.hiEq hl hj).2 q))) s1 s2,hi3];simp
  have := zBP hp;rw [zDo,par_and,hc j.id,Bool.false_and] at this;unfold cntA
  revert this
  cases par (fun l => c l.id && (zAS js l (2 * ht j.at_ - 1) && lft js e l (2 * ht j.at_ - 1))) ls <;> cases par (fun l => c l.id && (zAS js l (2 * ht j.at_ + 1) && lft js e l (2 * ht j.at_ + 1))) ls <;> simp
 ·unfold cntA;refine zBP fun l hl => ?_;obtain ⟨-, -,i,hi,k,hk,e1,e2,e3,e4⟩ := V.lh hl;rw [V.past he hl (fun q => hj ⟨i,hi,by rw [← e3];exact q⟩) (fun q => hj ⟨k,hk,by rw [← e4];exact q⟩) s1 s2]
theorem ValidW.cnt_const {c : Int → Bool} (hc : evenC c ls) {e : Lead} (he : e ∈ ls) {h : Int} : ∀ n : Nat,zAS js e (2 * h + 1) = true → zAS js e (2 * (h + n) + 1) = true → cntA c js ls e (2 * h + 1) = cntA c js ls e (2 * (h + n) + 1)
 | 0,_,_ => by simp
 | n + 1,s1,s2 => by
  have t1 := zA4.1 s1;have t2 := zA4.1 s2;have s3 : zAS js e (2 * (h + n) + 1) = true := by rw [zA4];omega
  have e1 : 2 * (h + (n + 1 : Nat)) - 1 = 2 * (h + n) + 1 := by omega
  rw [ValidW.cnt_const hc he n s1 s3,← e1,V.cnt_step hc he (by rw [e1];exact s3) s2]
end
end Go.Proofs.YtbbblemfodpmaaaGreat
end
section
namespace Go.Proofs.YtbbblemfodpmaaaGreat
open Go.RowKit
def isUp (js : List Joint) (ls : List Lead) (s : Side) : Bool := decide (ht (ptA js (zAj ls s).1) < ht (ptA js (zAj ls s).2))
def zCk (ls : List Lead) (s : Side) : Lead := (zBn ls s.lead).getD zCv
def posZ (js : List Joint) (ls : List Lead) (s : Side) : Int := if isUp js ls s = true then 2 * ht (ptA js (zAj ls s).1) + 1 else 2 * ht (ptA js (zAj ls s).1) - 1
def phi (c : Int → Bool) (js : List Joint) (ls : List Lead) (s : Side) : Bool := cntA c js ls (zCk ls s) (posZ js ls s) ^^ (c s.lead && !isUp js ls s)
def psi (c : Int → Bool) (js : List Joint) (ls : List Lead) (s : Side) : Bool := cntA c js ls (zCk ls s) (posZ js ls s) ^^ (c s.lead && isUp js ls s)
theorem phi_psi (c : Int → Bool) (js : List Joint) (ls : List Lead) (s : Side) : (phi c js ls s ^^ psi c js ls s) = c s.lead := by
 unfold phi psi
 cases cntA c js ls (zCk ls s) (posZ js ls s) <;> cases c s.lead <;> cases isUp js ls s <;> rfl
theorem low_ht {o p : Point} (ho : inP o = true) (hp : inP p = true) : zAU o p = decide (ht p < ht o) := by
 unfold inP winI at ho hp;simp only [Bool.and_eq_true,decide_eq_true_eq] at ho hp;unfold zAU ht;rw [Bool.eq_iff_iff];simp only [Bool.or_eq_true,decide_eq_true_eq,Bool.and_eq_true,beq_iff_eq];omega
section
variable {js : List Joint} {ls : List Lead} (V : ValidW js ls)
include V
theorem ValidW.sidePts {s : Side} (h : zAE ls s) : ∃ l ∈ ls,l.id = s.lead ∧ zCk ls s = l ∧ ((isUp js ls s = true ∧ (zAj ls s).1 = loI js l ∧ (zAj ls s).2 = hiI js l) ∨ (isUp js ls s = false ∧ (zAj ls s).1 = hiI js l ∧ (zAj ls s).2 = loI js l)) := by
 obtain ⟨l,hl,e⟩ := h;refine ⟨l,hl,e,by unfold zCk;rw [← e,V.lead hl];rfl, ?_⟩;have hs : s = ⟨l.id,s.back⟩ := by rw [e]
 have hlt := (V.lh hl).2.1;unfold loP hiP at hlt;unfold isUp;rw [hs,V.sideEnds hl]
 rcases (V.lh hl).1 with ⟨a,b⟩ | ⟨a,b⟩ <;> rw [a,b] at hlt ⊢ <;> cases s.back <;> simp <;> omega
theorem ValidW.psi_rev {c : Int → Bool} (hc : evenC c ls) {s : Side} (h : zAE ls s) : psi c js ls (revA s) = phi c js ls s := by
 obtain ⟨l,hl,e,e1,e2⟩ := V.sidePts h;obtain ⟨l',hl',e',e1',e2'⟩ := V.sidePts (rev_side h);have hll : l' = l := V.lead_id hl' hl (by rw [e',e];rfl);subst hll;have hlt := (V.lh hl).2.1;rw [V.rev_ends h] at e2';have hu : isUp js ls (revA s) = !isUp js ls s := by
  unfold isUp;rw [V.rev_ends h]
  rcases e2 with ⟨a,b,d⟩ | ⟨a,b,d⟩ <;> rw [b,d] <;> unfold loP hiP at hlt <;> dsimp only
  ·rw [decide_eq_true hlt,decide_eq_false (by omega)];rfl
  ·rw [decide_eq_true hlt,decide_eq_false (by omega)];rfl
 unfold psi phi;rw [e1,e1',hu,show (revA s).lead = s.lead from rfl]
 congr 1
 have key : cntA c js ls l' (2 * ht (loP js l') + 1) = cntA c js ls l' (2 * ht (hiP js l') - 1) := by
  have := V.cnt_const hc hl (h := ht (loP js l')) (ht (hiP js l') - ht (loP js l') - 1).toNat (by rw [zA4];omega) (by rw [zA4];omega);rw [this];congr 1;omega
 unfold posZ;rw [hu,V.rev_ends h]
 rcases e2 with ⟨a,b,d⟩ | ⟨a,b,d⟩ <;> rw [a,b,d]
 ·simp only [Bool.not_true,Bool.false_eq_true,if_false,if_true];exact key.symm
 ·simp only [Bool.not_false,Bool.false_eq_true,if_false,if_true];exact key
theorem ValidW.nextTo {v : Int} {r : Side} (hr : r ∈ outA js ls v) : (ltAt js ls v (zCl (outA js ls v) r) r = true ∧ ∀ s ∈ outA js ls v,s = zCl (outA js ls v) r ∨ s = r ∨ ltAt js ls v s (zCl (outA js ls v) r) = true ∨ ltAt js ls v r s = true) ∨
  (∀ s ∈ outA js ls v,(s = r ∨ ltAt js ls v r s = true) ∧ (s = zCl (outA js ls v) r ∨ ltAt js ls v s (zCl (outA js ls v) r) = true)) := by
 have hO := V.ord v;have hup := V.out_up v;have hnd := V.out_nodup v;have hmem : ∀ s ∈ outA js ls v,s ∈ zAu v ls := fun s hs => zB2.1 hs;obtain ⟨k,hk,ek,e⟩ := zFa hr;rw [e];have hi := List.idxOf_lt_length_of_mem hr;have hri : (outA js ls v)[(outA js ls v).idxOf r] = r := List.getElem_idxOf hi;generalize (outA js ls v).idxOf r = i at *;have strict : ∀ a b (ha : a < (outA js ls v).length) (hb : b < (outA js ls v).length),a < b → ltAt js ls v (outA js ls v)[a] (outA js ls v)[b] = true := fun a b ha hb hab => by
  have h1 := List.pairwise_iff_getElem.1 hup a b ha hb hab
  cases h2 : ltAt js ls v (outA js ls v)[a] (outA js ls v)[b] with
  | true => rfl
  | false =>
   have := hO.tot _ _ (hmem _ (List.getElem_mem ha)) (hmem _ (List.getElem_mem hb)) h2 h1;have := (List.getElem_inj hnd).1 this;omega
 generalize outA js ls v = O at *
 rcases Nat.eq_zero_or_pos i with h0 | h0
 ·right
  subst h0;rw [Nat.zero_add,Nat.mod_eq_of_lt (by omega)] at ek;intro s hs;obtain ⟨m,hm,rfl⟩ := List.getElem_of_mem hs;refine ⟨?_, ?_⟩
  ·rcases Nat.eq_zero_or_pos m with q | q
   ·subst q;exact .inl hri
   ·exact .inr (by have := strict 0 m hi hm q;rw [hri] at this;exact this)
  ·rcases Nat.lt_or_ge m k with q | q
   ·exact .inr (strict m k hm hk q)
   ·have : m = k := by omega
    subst this;exact .inl rfl
 ·left
  have hk2 : k = i - 1 := by
   rw [ek,show i + O.length - 1 = (i - 1) + O.length by omega,Nat.add_mod_right,Nat.mod_eq_of_lt (by omega)]
  refine ⟨by have := strict k i hk hi (by omega);rw [hri] at this;exact this,fun s hs => ?_⟩;obtain ⟨m,hm,rfl⟩ := List.getElem_of_mem hs
  rcases Nat.lt_trichotomy m k with q | q | q
  ·exact .inr (.inr (.inl (strict m k hm hk q)))
  ·subst q;exact .inl rfl
  ·rcases Nat.lt_trichotomy m i with t | t | t
   ·omega
   ·subst t;exact .inr (.inl hri)
   ·exact .inr (.inr (.inr (by have := strict i m hi hm t;rw [hri] at this;exact this)))
def zC3 (v : Int) (l : Lead) : Side := ⟨l.id,!(l.a == v)⟩
omit V in
theorem out_of {v : Int} {l : Lead} (hl : l ∈ ls) (hi : incB l v = true) : zC3 v l ∈ zAu v ls := by
 unfold zC3;unfold incB at hi;simp only [Bool.or_eq_true,beq_iff_eq] at hi;refine zBF.2 ⟨l,hl, ?_⟩
 by_cases h : l.a = v
 ·exact .inl ⟨h,by simp [h]⟩
 ·exact .inr ⟨hi.resolve_left h,by simp [h]⟩
theorem ValidW.leaves {v : Int} {s : Side} (h : s ∈ zAu v ls) : ∃ l ∈ ls,∃ j ∈ js,j.id = v ∧ l.id = s.lead ∧ zCk ls s = l ∧ ptA js v = j.at_ ∧ (zAj ls s).1 = v ∧ inP (ptA js v) = true ∧ inP (ptA js (zAj ls s).2) = true ∧
  ((isUp js ls s = true ∧ loI js l = v ∧ loP js l = j.at_ ∧ ptA js (zAj ls s).2 = hiP js l ∧ ht j.at_ < ht (hiP js l) ∧ posZ js ls s = 2 * ht j.at_ + 1) ∨ (isUp js ls s = false ∧ hiI js l = v ∧ hiP js l = j.at_ ∧ ptA js (zAj ls s).2 = loP js l ∧ ht (loP js l) < ht j.at_ ∧ posZ js ls s = 2 * ht j.at_ - 1)) := by
 obtain ⟨hs,he⟩ := V.of_leave h;obtain ⟨l,hl,e1,e2,e3⟩ := V.sidePts hs;obtain ⟨m,hm,_,_,i,hi,k,hk,f1,f2,f3,f4,f5,_⟩ := V.leave h;have hlt := (V.lh hl).2.1;refine ⟨l,hl,i,hi,f1,e1,e2,f4,he,by rw [f4];exact (V.jok i hi).2,by rw [f5];exact (V.jok k hk).2, ?_⟩;unfold posZ
 rcases e3 with ⟨a,b,d⟩ | ⟨a,b,d⟩
 ·left
  rw [he] at b;have hlo : loP js l = i.at_ := by unfold loP;rw [← b,f4]
  refine ⟨a,b.symm,hlo,by rw [d];rfl,by rw [← hlo];exact hlt,by rw [if_pos a,he,f4]⟩
 ·right
  rw [he] at b;have hhi : hiP js l = i.at_ := by unfold hiP;rw [← b,f4]
  refine ⟨a,b.symm,hhi,by rw [d];rfl,by rw [← hhi];exact hlt,by rw [if_neg (by rw [a];decide),he,f4]⟩
theorem ValidW.at_inc {v : Int} {t s : Side} (htv : t ∈ zAu v ls) (hsv : s ∈ zAu v ls) :
  (zAS js (zCk ls s) (posZ js ls t) && lft js (zCk ls t) (zCk ls s) (posZ js ls t)) = if isUp js ls t = true then (isUp js ls s && ltAt js ls v t s) else (!isUp js ls s && ltAt js ls v s t) := by
 obtain ⟨e,he,j,hj,j1,t1,t2,t3,t4,t5,t6,t7⟩ := V.leaves htv;obtain ⟨l,hl,j',hj',j1',s1,s2,s3,s4,s5,s6,s7⟩ := V.leaves hsv;obtain rfl : j' = j := V.inj hj' hj (by rw [j1,j1']);have lt1 := low_ht t5 t6;have ls1 := low_ht s5 s6;rw [t2,s2];unfold ltAt;have hk1 : 2 * ht j'.at_ + 1 - 2 * ht j'.at_ = 1 := by omega
 have hk2 : 2 * ht j'.at_ - (2 * ht j'.at_ - 1) = 1 := by omega
 rw [s3] at lt1 ls1 ⊢
 rcases t7 with ⟨a1,a2,a3,a4,a5,a6⟩ | ⟨a1,a2,a3,a4,a5,a6⟩ <;> rcases s7 with ⟨b1,b2,b3,b4,b5,b6⟩ | ⟨b1,b2,b3,b4,b5,b6⟩ <;> rw [a4] at lt1 ⊢ <;> rw [b4] at ls1 ⊢ <;> rw [a1,b1,a6]
 ·have hsp : zAS js l (2 * ht j'.at_ + 1) = true := by rw [zA4,b3];omega
  rw [decide_eq_false (by omega)] at lt1 ls1;rw [hsp,if_pos rfl];unfold lft gL;rw [a3,b3,gS_lo,hk1,Bool.eq_iff_iff];simp only [Bool.true_and,decide_eq_true_eq,zC8,lt1,ls1,Bool.false_eq_true,and_false,true_and,false_or];omega
 ·have hsp : zAS js l (2 * ht j'.at_ + 1) = false := by rw [Bool.eq_false_iff,ne_eq,zA4,b3];omega
  rw [hsp];simp
 ·have hsp : zAS js l (2 * ht j'.at_ - 1) = false := by rw [Bool.eq_false_iff,ne_eq,zA4,b3];omega
  rw [hsp];simp
 ·have hsp : zAS js l (2 * ht j'.at_ - 1) = true := by rw [zA4,b3];omega
  rw [decide_eq_true (by omega)] at lt1 ls1;rw [hsp,if_neg (by decide)];unfold lft gL;rw [a3,b3,gS_hi,hk2,Bool.eq_iff_iff];simp only [Bool.true_and,Bool.not_false,decide_eq_true_eq,zC8,lt1,ls1,Bool.true_eq_false,false_and,true_and,false_or];omega
theorem ValidW.at_far {v : Int} {t : Side} (htv : t ∈ zAu v ls) {l : Lead} (hl : l ∈ ls) (hn : incB l v = false) :
  (zAS js l (posZ js ls t) && lft js (zCk ls t) l (posZ js ls t)) = (zAS js l (2 * ht (ptA js v)) && !decide (0 < zAl (loP js l) (hiP js l) (ptA js v))) := by
 obtain ⟨e,he,j,hj,j1,t1,t2,t3,t4,t5,t6,t7⟩ := V.leaves htv;have hni : ¬ (loI js l = v ∨ hiI js l = v) := fun q => by rw [(V.inc_iff hl v).2 q] at hn;cases hn
 rw [← j1] at hni;have n1 : ht (loP js l) ≠ ht j.at_ := fun q => hni (.inl ((V.loEq hl hj).2 q));have n2 : ht (hiP js l) ≠ ht j.at_ := fun q => hni (.inr ((V.hiEq hl hj).2 q));rw [t2,t3];have hinc : loI js e = j.id ∨ hiI js e = j.id := by rcases t7 with h | h <;> rw [j1] <;> simp [h.2.1]
 have hsp : zAS js l (posZ js ls t) = zAS js l (2 * ht j.at_) := by
  rw [Bool.eq_iff_iff,zA4,zA4]
  rcases t7 with ⟨_,_,_,_,_,a⟩ | ⟨_,_,_,_,_,a⟩ <;> rw [a] <;> constructor <;> intro <;> omega
 cases q : zAS js l (2 * ht j.at_)
 ·rw [hsp,q];rfl
 ·rw [hsp,q,Bool.true_and,Bool.true_and];have hse : zAS js e (posZ js ls t) = true := by
   rw [zA4]
   rcases t7 with ⟨_,_,a1,_,a2,a⟩ | ⟨_,_,a1,_,a2,a⟩ <;> rw [a,a1] <;> omega
  have hne : l.id ≠ e.id := fun h => by
   have := V.lead_id hl he h;subst this;exact hni hinc
  rw [V.lft_anti hl he hne (by rw [hsp];exact q) hse];have := zA4.1 q;rw [V.lft_pt hl he hj hinc (by omega) (by omega) (by rw [hsp];exact q) hse]
theorem ValidW.corner {c : Int → Bool} (hc : evenC c ls) {v : Int} {r : Side} (hr : r ∈ outA js ls v) : phi c js ls (zCl (outA js ls v) r) = psi c js ls r := by
 have hrl := zB2.1 hr;have htO := (zFS (V.out_nodup v) hr).1;have htl := zB2.1 htO;have hadj := V.nextTo hr;generalize zCl (outA js ls v) r = t at *;have hO := V.ord v;obtain ⟨e,he,_,_,_,e1,_,_,_,_,_,_⟩ := V.leaves htl;obtain ⟨f,hf,_,_,_,f1,_,_,_,_,_,_⟩ := V.leaves hrl;have hud : ∀ x ∈ zAu v ls,∀ y ∈ zAu v ls,ltAt js ls v x y = true → isUp js ls y = true → isUp js ls x = true := fun x hx y hy hlt hu => by
  obtain ⟨_,_,j,hj,j1,_,_,s3,_,s5,s6,s7⟩ := V.leaves hx;obtain ⟨_,_,j',hj',j1',_,_,u3,_,u5,u6,u7⟩ := V.leaves hy;obtain rfl : j' = j := V.inj hj' hj (by rw [j1,j1'])
  rcases s7 with ⟨a,_⟩ | ⟨a,_,_,a2,a3,_⟩
  ·exact a
  ·rcases u7 with ⟨b,_,_,b2,b3,_⟩ | ⟨b,_⟩
   ·exfalso;unfold ltAt at hlt;rw [zC8,low_ht s5 s6,low_ht u5 u6,s3,a2,b2,decide_eq_true a3,decide_eq_false (by omega)] at hlt;simp at hlt
   ·rw [b] at hu;cases hu
 obtain ⟨wide,hw⟩ : ∃ w : Bool,(w = false → ltAt js ls v t r = true ∧ ∀ s ∈ outA js ls v,s = t ∨ s = r ∨ ltAt js ls v s t = true ∨ ltAt js ls v r s = true) ∧ (w = true → ∀ s ∈ outA js ls v,(s = r ∨ ltAt js ls v r s = true) ∧ (s = t ∨ ltAt js ls v s t = true)) := by
  rcases hadj with h | h
  ·exact ⟨false,fun _ => h,fun h => by cases h⟩
  ·exact ⟨true,fun h => (by cases h),fun _ => h⟩
 have hp : ∀ l ∈ ls,((c l.id && (zAS js l (posZ js ls t) && lft js (zCk ls t) l (posZ js ls t))) ^^ (c l.id && (zAS js l (posZ js ls r) && lft js (zCk ls r) l (posZ js ls r)))) =
   ((((c l.id && l.id == e.id) && !isUp js ls t) ^^ ((c l.id && l.id == f.id) && isUp js ls r)) ^^ ((c l.id && incB l v) && wide)) := fun l hl => by
  by_cases hi : incB l v = true
  ·have hs := out_of hl hi;have hsO : zC3 v l ∈ outA js ls v := zB2.2 hs;have hsl : zCk ls (zC3 v l) = l := by unfold zCk zC3;rw [V.lead hl];rfl
   have a := V.at_inc htl hs;have b := V.at_inc hrl hs;rw [hsl] at a b;rw [a,b,hi];have ht1 : (l.id == e.id) = decide (zC3 v l = t) := by
    rw [Bool.eq_iff_iff,beq_iff_eq,decide_eq_true_eq]
    constructor
    ·intro h;have : l = e := V.lead_id hl he h;subst this;obtain ⟨m,hm,q⟩ := zBF.1 htl;have hab := V.ends hl;obtain ⟨_,_,_,_,_,_,hab,_,_⟩ := hab
     rcases q with ⟨q1,q2⟩ | ⟨q1,q2⟩
     ·have : m = l := V.lead_id hm hl (by rw [e1,q2]);subst this;rw [q2];unfold zC3;simp [q1]
     ·have : m = l := V.lead_id hm hl (by rw [e1,q2]);subst this;rw [q2];unfold zC3;rw [← q1];simp [hab]
    ·intro h;rw [e1,← h];rfl
   have hr1 : (l.id == f.id) = decide (zC3 v l = r) := by
    rw [Bool.eq_iff_iff,beq_iff_eq,decide_eq_true_eq]
    constructor
    ·intro h;have : l = f := V.lead_id hl hf h;subst this;obtain ⟨m,hm,q⟩ := zBF.1 hrl;have hab := V.ends hl;obtain ⟨_,_,_,_,_,_,hab,_,_⟩ := hab
     rcases q with ⟨q1,q2⟩ | ⟨q1,q2⟩
     ·have : m = l := V.lead_id hm hl (by rw [f1,q2]);subst this;rw [q2];unfold zC3;simp [q1]
     ·have : m = l := V.lead_id hm hl (by rw [f1,q2]);subst this;rw [q2];unfold zC3;rw [← q1];simp [hab]
    ·intro h;rw [f1,← h];rfl
   rw [ht1,hr1];generalize zC3 v l = s at *;clear a b ht1 hr1 hsl e1 f1 hadj
   cases c l.id
   ·rfl
   simp only [Bool.true_and];have irr := fun x hx => hO.irr x hx;have as := fun x y (hx : x ∈ zAu v ls) (hy : y ∈ zAu v ls) h => hO.as (a := x) (b := y) hx hy h;have tr := fun x y z hx hy hz h k => hO.tr x y z hx hy hz h k;have u1 := hud s hs t htl;have u2 := hud t htl s hs;have u3 := hud s hs r hrl;have u4 := hud r hrl s hs;have u5 := hud t htl r hrl;have u6 := hud r hrl t htl;have i1 := irr s hs;have i2 := irr t htl;have i3 := irr r hrl;have a1 := as s t hs htl;have a2 := as t s htl hs;have a3 := as s r hs hrl;have a4 := as r s hrl hs;have a5 := as t r htl hrl;have a6 := as r t hrl htl;have t1 := tr s t r hs htl hrl;have t2 := tr t r s htl hrl hs;have t3 := tr r s t hrl hs htl
   cases wide
   ·obtain ⟨h1,h2⟩ := hw.1 rfl;have h3 := h2 s hsO;clear hw h2 hO hc
    by_cases q1 : s = t
    ·by_cases q2 : s = r
     ·subst q1 q2;simp_all
     ·subst q1;rw [decide_eq_true rfl,decide_eq_false q2]
      cases hs1 : isUp js ls s <;> cases hr1 : isUp js ls r <;> simp_all
    ·by_cases q2 : s = r
     ·subst q2;rw [decide_eq_true rfl,decide_eq_false q1]
      cases ht1 : isUp js ls t <;> cases hr1 : isUp js ls s <;> simp_all
     ·rw [decide_eq_false q1,decide_eq_false q2]
      cases ht1 : isUp js ls t <;> cases hr1 : isUp js ls r <;> cases hs1 : isUp js ls s <;> simp_all
      all_goals (rcases h3 with h3 | h3 <;> simp_all)
   ·have h3 := hw.2 rfl s hsO;have h4 := hw.2 rfl t htO;clear hw hO hc
    by_cases q1 : s = t
    ·by_cases q2 : s = r
     ·subst q1 q2
      cases hs1 : isUp js ls s <;> simp_all
     ·subst q1;rw [decide_eq_true rfl,decide_eq_false q2]
      cases hs1 : isUp js ls s <;> cases hr1 : isUp js ls r <;> simp_all
    ·by_cases q2 : s = r
     ·subst q2;rw [decide_eq_true rfl,decide_eq_false q1]
      cases ht1 : isUp js ls t <;> cases hr1 : isUp js ls s <;> simp_all
     ·rw [decide_eq_false q1,decide_eq_false q2]
      cases ht1 : isUp js ls t <;> cases hr1 : isUp js ls r <;> cases hs1 : isUp js ls s <;> simp_all
  ·have hi2 : incB l v = false := by simpa using hi
   rw [V.at_far htl hl hi2,V.at_far hrl hl hi2,hi2];have n1 : (l.id == e.id) = false := by
    rw [beq_eq_false_iff_ne];intro h;have := V.lead_id hl he h;subst this;obtain ⟨m,hm,q⟩ := zBF.1 htl;refine hi ?_;unfold incB
    rcases q with ⟨q1,q2⟩ | ⟨q1,q2⟩
    ·have : m = l := V.lead_id hm hl (by rw [e1,q2]);subst this;simp [q1]
    ·have : m = l := V.lead_id hm hl (by rw [e1,q2]);subst this;simp [q1]
   have n2 : (l.id == f.id) = false := by
    rw [beq_eq_false_iff_ne];intro h;have := V.lead_id hl hf h;subst this;obtain ⟨m,hm,q⟩ := zBF.1 hrl;refine hi ?_;unfold incB
    rcases q with ⟨q1,q2⟩ | ⟨q1,q2⟩
    ·have : m = l := V.lead_id hm hl (by rw [f1,q2]);subst this;simp [q1]
    ·have : m = l := V.lead_id hm hl (by rw [f1,q2]);subst this;simp [q1]
   rw [n1,n2];simp
 have := zBP hp;rw [zDo,zDo,zDo,par_and,par_and,par_and,par_one V.lid he,par_one V.lid hf,hc v,Bool.false_and,Bool.xor_false] at this;unfold phi psi cntA;rw [← e1,← f1]
 revert this
 generalize par (fun l => c l.id && (zAS js l (posZ js ls t) && lft js (zCk ls t) l (posZ js ls t))) ls = A;generalize par (fun l => c l.id && (zAS js l (posZ js ls r) && lft js (zCk ls r) l (posZ js ls r))) ls = B
 cases A <;> cases B <;> cases c e.id <;> cases c f.id <;> cases isUp js ls t <;> cases isUp js ls r <;> simp
theorem ValidW.phi_next {c : Int → Bool} (hc : evenC c ls) {s : Side} (h : zAE ls s) : phi c js ls (zAv js ls s) = phi c js ls s := by
 unfold zAv;rw [V.corner hc (V.rev_out h),V.psi_rev hc h]
theorem ValidW.phi_it {c : Int → Bool} (hc : evenC c ls) {s : Side} (h : zAE ls s) : ∀ n,phi c js ls (itA (zAv js ls) n s) = phi c js ls s
 | 0 => rfl
 | n + 1 => by
  have e : itA (zAv js ls) (n + 1) s = zAv js ls (itA (zAv js ls) n s) := by rw [Nat.add_comm,it_add];rfl
  rw [e,V.phi_next hc (V.it_side h n),ValidW.phi_it hc h n]
theorem ValidW.apart {c : Int → Bool} (hc : evenC c ls) {s : Side} (h : zAE ls s) (hw : revA s ∈ zAr js ls s) : c s.lead = false := by
 obtain ⟨n,_,_,_,_,e⟩ := V.walk h;rw [e] at hw;obtain ⟨k,_,hk⟩ := List.mem_map.1 hw;have h1 := V.phi_it hc h k;rw [hk] at h1;have h2 := phi_psi c js ls (revA s);rw [V.psi_rev hc h,h1,show (revA s).lead = s.lead from rfl] at h2;rw [← h2];simp
end
end Go.Proofs.YtbbblemfodpmaaaGreat
end
section
namespace Go.Proofs.YtbbblemfodpmaaaGreat
open Go.RowKit
def AdjJ (ls : List Lead) (joint lead u v : Int) : Prop := ∃ l ∈ ls,l.id ≠ lead ∧ u ≠ joint ∧ v ≠ joint ∧ ((l.a = u ∧ l.b = v) ∨ (l.a = v ∧ l.b = u))
inductive ConJ (ls : List Lead) (joint lead : Int) : Int → Int → Prop
 | refl (u : Int) : ConJ ls joint lead u u
 | step {u v x : Int} : ConJ ls joint lead u v → AdjJ ls joint lead v x → ConJ ls joint lead u x
theorem AdjJ.symm {ls : List Lead} {joint lead u v : Int} (h : AdjJ ls joint lead u v) : AdjJ ls joint lead v u := by
 obtain ⟨l,h1,h2,h3,h4,h5⟩ := h;exact ⟨l,h1,h2,h4,h3,h5.elim (fun h => .inr h) (fun h => .inl h)⟩
theorem ConJ.trans {ls : List Lead} {joint lead u v x : Int} (h : ConJ ls joint lead u v) (k : ConJ ls joint lead v x) : ConJ ls joint lead u x := by
 induction k with
 | refl => exact h
 | step _ a ih => exact .step ih a
theorem ConJ.one {ls : List Lead} {joint lead u v : Int} (h : AdjJ ls joint lead u v) : ConJ ls joint lead u v := .step (.refl u) h
theorem ConJ.symm {ls : List Lead} {joint lead u v : Int} (h : ConJ ls joint lead u v) : ConJ ls joint lead v u := by
 induction h with
 | refl => exact .refl _
 | step _ a ih => exact (ConJ.one a.symm).trans ih
theorem ValidW.adj_out {js : List Joint} {ls : List Lead} (V : ValidW js ls) {joint lead u v : Int} : AdjJ ls joint lead u v ↔ u ≠ joint ∧ v ≠ joint ∧ ∃ s ∈ outA js ls u,s.lead ≠ lead ∧ (zAj ls s).2 = v := by
 constructor
 ·rintro ⟨l,hl,h1,h2,h3,h4⟩;refine ⟨h2,h3, ?_⟩
  rcases h4 with ⟨ha,hb⟩ | ⟨ha,hb⟩
  ·exact ⟨⟨l.id,false⟩,zB2.2 (zBF.2 ⟨l,hl, .inl ⟨ha,rfl⟩⟩),h1,by rw [V.sideEnds hl];exact hb⟩
  ·exact ⟨⟨l.id,true⟩,zB2.2 (zBF.2 ⟨l,hl, .inr ⟨hb,rfl⟩⟩),h1,by rw [V.sideEnds hl];exact ha⟩
 ·rintro ⟨h1,h2,s,hs,h3,h4⟩;obtain ⟨l,hl,h | h⟩ := zBF.1 (zB2.1 hs)
  ·obtain ⟨ha,rfl⟩ := h;rw [V.sideEnds hl] at h4;exact ⟨l,hl,h3,h1,h2, .inl ⟨ha,h4⟩⟩
  ·obtain ⟨ha,rfl⟩ := h;rw [V.sideEnds hl] at h4;exact ⟨l,hl,h3,h1,h2, .inr ⟨h4,ha⟩⟩
end Go.Proofs.YtbbblemfodpmaaaGreat
end
section
namespace Go.Proofs.YtbbblemfodpmaaaGreat
open Go.RowKit
theorem par_at {p : Lead → Bool} {e : Lead} : ∀ {ls : List Lead},ls.Pairwise (fun a b => a.id < b.id) → e ∈ ls → par (fun l => (l.id == e.id) && p l) ls = p e
 | [],_,h => by cases h
 | l :: r,hp,h => by
  obtain ⟨h1,h2⟩ := List.pairwise_cons.1 hp
  rcases List.mem_cons.1 h with rfl | h
  ·have : par (fun x => (x.id == e.id) && p x) r = false := by
    rw [zBP (q := fun _ => false) (fun x hx => by
     have := h1 x hx;have : (x.id == e.id) = false := by simp;omega
     rw [this];rfl),zDE]
   unfold par at this ⊢;simp only [List.foldr_cons];rw [this];simp
  ·have := par_at (p := p) h2 h;have hlt := h1 e h;unfold par at this ⊢;simp only [List.foldr_cons];rw [this];have : (l.id == e.id) = false := by simp;omega
   rw [this];simp
section
variable {js : List Joint} {ls : List Lead} (V : ValidW js ls)
include V
theorem ValidW.jpos {x : Joint} (hx : x ∈ js) : x.id ≠ 0 := by
 have := (V.jok x hx).1;unfold zBS at this;simp only [Bool.and_eq_true,decide_eq_true_eq] at this;omega
theorem ValidW.endne {l : Lead} (hl : l ∈ ls) : l.a ≠ l.b := by
 obtain ⟨_,_,_,_,_,_,h,_,_⟩ := V.ends hl;exact h
theorem ValidW.path {q : Int} {u w : Int} (h : ConJ ls 0 q u w) : ∃ c : Int → Bool,c q = false ∧ ∀ v,par (fun l => c l.id && incB l v) ls = (decide (v = u) ^^ decide (v = w)) := by
 induction h with
 | refl => exact ⟨fun _ => false,rfl,fun v => by rw [zBP (q := fun _ => false) (fun l _ => by simp),zDE];simp⟩
 | @step v x _ hd ih =>
  obtain ⟨c,hc,hv⟩ := ih;obtain ⟨m,hm,h1,_,_,h2⟩ := hd;refine ⟨fun i => c i ^^ (i == m.id), ?_,fun y => ?_⟩
  ·show (c q ^^ (q == m.id)) = false
   have : (q == m.id) = false := by simpa using fun e => h1 e.symm
   rw [hc,this];rfl
  ·have e : par (fun l => (c l.id ^^ (l.id == m.id)) && incB l y) ls = (par (fun l => c l.id && incB l y) ls ^^ par (fun l => (l.id == m.id) && incB l y) ls) := by
    rw [← zDo];refine zBP fun l _ => ?_
    cases c l.id <;> cases (l.id == m.id) <;> cases incB l y <;> rfl
   rw [e,hv,par_at (p := fun l => incB l y) V.lid hm];have hab := V.endne hm;have : incB m y = (decide (y = v) ^^ decide (y = x)) := by
    unfold incB
    rcases h2 with ⟨rfl,rfl⟩ | ⟨rfl,rfl⟩
    ·by_cases a : y = m.a
     ·subst a;simp [hab]
     ·by_cases b : y = m.b
      ·subst b;simp [hab,Ne.symm hab]
      ·simp [a,b,Ne.symm a,Ne.symm b]
    ·by_cases a : y = m.a
     ·subst a;simp [hab,Ne.symm hab]
     ·by_cases b : y = m.b
      ·subst b;simp [hab,Ne.symm hab]
      ·simp [a,b,Ne.symm a,Ne.symm b]
   rw [this]
   cases decide (y = u) <;> cases decide (y = v) <;> cases decide (y = x) <;> rfl
theorem ValidW.one_walk {s : Side} {l : Lead} (hl : l ∈ ls) (hs : l.id = s.lead) (hw : revA s ∈ zAr js ls s) : ¬ ConJ ls 0 l.id l.a l.b := fun h => by
 obtain ⟨c,hc,hv⟩ := V.path h;have he : evenC (fun i => c i ^^ (i == l.id)) ls := fun y => by
  have e : par (fun m => (c m.id ^^ (m.id == l.id)) && incB m y) ls = (par (fun m => c m.id && incB m y) ls ^^ par (fun m => (m.id == l.id) && incB m y) ls) := by
   rw [← zDo];refine zBP fun m _ => ?_
   cases c m.id <;> cases (m.id == l.id) <;> cases incB m y <;> rfl
  rw [e,hv,par_at (p := fun m => incB m y) V.lid hl];have hab := V.endne hl;unfold incB
  by_cases a : y = l.a
  ·subst a;simp [hab]
  ·by_cases b : y = l.b
   ·subst b;simp [hab,Ne.symm hab]
   ·simp [a,b,Ne.symm a,Ne.symm b]
 have := V.apart he (s := s) ⟨l,hl,hs⟩ hw;simp [← hs,hc] at this
omit V in
theorem side_two {s t : Side} (h : t.lead = s.lead) : t = s ∨ t = revA s := by
 obtain ⟨a,b⟩ := s;obtain ⟨c,d⟩ := t;simp only at h;subst h;unfold revA
 cases b <;> cases d <;> simp
theorem ValidW.adj_side {t : Side} (ht : zAE ls t) {q : Int} (hq : t.lead ≠ q) : AdjJ ls 0 q (zAj ls t).1 (zAj ls t).2 := by
 obtain ⟨m,hm,e⟩ := ht;obtain ⟨i,hi,k,hk,e1,e2,_⟩ := V.ends hm;have h1 := V.jpos hi;have h2 := V.jpos hk;rw [e1] at h1;rw [e2] at h2;have hs : t = ⟨m.id,t.back⟩ := by rw [e]
 rw [hs,V.sideEnds hm];refine ⟨m,hm,by rw [e];exact hq, ?_⟩
 cases t.back
 ·exact ⟨h1,h2, .inl ⟨rfl,rfl⟩⟩
 ·exact ⟨h2,h1, .inr ⟨rfl,rfl⟩⟩
theorem ValidW.two_walks {s : Side} (hs : zAE ls s) (hw : revA s ∉ zAr js ls s) : ConJ ls 0 s.lead (zAj ls s).2 (zAj ls s).1 := by
 obtain ⟨n,h0,_,h1,h2,h3⟩ := V.walk hs;have key : ∀ k,k + 1 ≤ n → ConJ ls 0 s.lead (zAj ls s).2 (zAj ls (itA (zAv js ls) (k + 1) s)).1 := by
  intro k
  induction k with
  | zero => intro _;show ConJ ls 0 s.lead (zAj ls s).2 (zAj ls (zAv js ls s)).1;rw [(V.next hs).2.1];exact .refl _
  | succ k ih =>
   intro hk;have e : itA (zAv js ls) (k + 1 + 1) s = zAv js ls (itA (zAv js ls) (k + 1) s) := by rw [Nat.add_comm,it_add];rfl
   have hts := V.it_side hs (k + 1);rw [e,(V.next hts).2.1];refine (ih (by omega)).step (V.adj_side hts fun hq => ?_)
   rcases side_two hq with q | q
   ·exact h2 (k + 1) (by omega) (by omega) q
   ·exact hw (by rw [h3,← q];exact List.mem_map.2 ⟨k + 1,List.mem_range.2 (by omega),rfl⟩)
 have := key (n - 1) (by omega);rw [show n - 1 + 1 = n by omega,h1] at this;exact this
theorem ValidW.walk_bridge {s : Side} {l : Lead} (hl : l ∈ ls) (hs : l.id = s.lead) : revA s ∈ zAr js ls s ↔ ¬ ConJ ls 0 l.id l.a l.b := by
 refine ⟨V.one_walk hl hs,fun h => ?_⟩
 by_cases hw : revA s ∈ zAr js ls s
 ·exact hw
 ·refine (h ?_).elim;have := V.two_walks ⟨l,hl,hs⟩ hw;have e : s = ⟨l.id,s.back⟩ := by rw [hs]
  rw [e,V.sideEnds hl] at this
  cases hb : s.back
  ·rw [hb] at this;exact this.symm
  ·rw [hb] at this;exact this
end
end Go.Proofs.YtbbblemfodpmaaaGreat
end
section
namespace Go.Proofs.YtbbblemfodpmaaaGreat
open Go.RowKit
section
variable {α : Type}
structure PermOn (f : α → α) (X : List α) : Prop where
 mem : ∀ x ∈ X,f x ∈ X
 inj : ∀ x ∈ X,∀ y ∈ X,f x = f y → x = y
section
variable {f : α → α} {X : List α} (P : PermOn f X)
include P
end
open Classical in
noncomputable def swp (s s' x : α) : α := if x = s then s' else if x = s' then s else x
section
variable {f : α → α} {X : List α} (P : PermOn f X) {s s' : α} (hs : s ∈ X) (hs' : s' ∈ X)
include P hs hs'
end
section
variable {f : α → α} {X Y : List α} (P : PermOn f X) {s : α} (hs : s ∈ X) (hY : ∀ x,x ∈ Y ↔ x ∈ X ∧ x ≠ s)
include P hs hY
end
end
end Go.Proofs.YtbbblemfodpmaaaGreat
end
section
namespace Go.Proofs.YtbbblemfodpmaaaGreat
open Go.RowKit
section
variable {js : List Joint} {ls : List Lead} (V : ValidW js ls)
include V
end
section
variable {js : List Joint} {l : Lead} {r : List Lead} (V : ValidW js (l :: r))
include V
end
end Go.Proofs.YtbbblemfodpmaaaGreat
end
section
namespace Go.Proofs.YtbbblemfodpmaaaGreat
open Go.RowKit
section
variable {js : List Joint} {l : Lead} {r : List Lead} (V : ValidW js (l :: r))
include V
end
end Go.Proofs.YtbbblemfodpmaaaGreat
end
