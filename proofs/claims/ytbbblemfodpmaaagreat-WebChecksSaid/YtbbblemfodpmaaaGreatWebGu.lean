/-The reference of layer 2, plain: what its Check answers is what the program's answers.-/
import Derived.Test.YtbbblemfodpmaaaGreatWebGa
import Derived.RowKit
import Derived.Test.YtbbblemfodpmaaaGreatWebGb
import Derived.Test.YtbbblemfodpmaaaGreatWebGi
import Derived.Test.YtbbblemfodpmaaaGreatWebGc
set_option linter.unusedVariables false
set_option linter.unusedSimpArgs false
set_option maxHeartbeats 16000000
set_option maxRecDepth 100000
section
namespace Go.Proofs.YtbbblemfodpmaaaGreat
open Go.RowKit
theorem mul_le_zero {x y : Int} : x * y ≤ 0 ↔ (x ≤ 0∧0 ≤ y) ∨ (0 ≤ x∧y ≤ 0):=by
 constructor
 ·intro h
  rcases Int.lt_trichotomy x 0 with hx | hx | hx
  ·have : 0 ≤ y:=by
    apply Int.not_lt.1;intro hy
    have:=Int.mul_pos_of_neg_of_neg hx hy;omega
   left;omega
  ·omega
  ·have : y ≤ 0:=by
    apply Int.not_lt.1;intro hy
    have:=Int.mul_pos hx hy;omega
   right;omega
 ·rintro (⟨h1,h2⟩ | ⟨h1,h2⟩)
  ·exact Int.mul_nonpos_of_nonpos_of_nonneg h1 h2
  ·exact Int.mul_nonpos_of_nonneg_of_nonpos h1 h2
theorem mul_sign {x y u v : Int} (hc : x * v = u * y) (hs : x * y + u * v ≤ 0) : x * y ≤ 0∧u * v ≤ 0:=by
 have key : ∀ {x y u v : Int},x * v = u * y→x * y + u * v ≤ 0→¬ 0 < x * y:=by
  intro x y u v hc hs h;have h1 : u * v < 0:=by omega
  have h2 : (x * y) * (u * v) < 0:=Int.mul_neg_of_pos_of_neg h h1;have h3 : (x * y) * (u * v) = (x * v) * (x * v):=by
   rw [show (x * y) * (u * v) = (x * v) * (u * y) by rw [Int.mul_assoc,Int.mul_assoc,show y * (u * v) = v * (u * y) by rw [Int.mul_left_comm,Int.mul_comm y v,Int.mul_left_comm]],← hc]
  have h4 : 0 ≤ (x * v) * (x * v):=by
   rcases Int.le_total 0 (x * v) with h | h
   ·exact Int.mul_nonneg h h
   ·exact Int.mul_nonneg_of_nonpos_of_nonpos h h
  omega
 have a:=key hc hs;have b:=key (x:=u) (y:=v) (u:=x) (v:=y) hc.symm (by omega);omega
def onR (a b p : Point) : Bool:=decide (zAw a b p = 0) && decide (min a.x b.x ≤ p.x) && decide (p.x ≤ max a.x b.x) && decide (min a.y b.y ≤ p.y) && decide (p.y ≤ max a.y b.y)
theorem zFN {a b p : Int} : (a - p) * (b - p) ≤ 0 ↔ min a b ≤ p∧p ≤ max a b:=by
 rw [mul_le_zero];omega
theorem onR_onP (a b p : Point) : onR a b p = onP a b p:=by
 unfold onR onP
 by_cases hc : zAw a b p = 0
 ·have e1 : (zAw a b p == 0) = true:=by simpa using hc
  rw [e1,decide_eq_true hc];have hx : dotP p a b = (a.x - p.x) * (b.x - p.x) + (a.y - p.y) * (b.y - p.y):=rfl;have hcr : (a.x - p.x) * (b.y - p.y) = (a.y - p.y) * (b.x - p.x):=by
   unfold zAw at hc;have e : (b.x - a.x) * (p.y - a.y) - (b.y - a.y) * (p.x - a.x) = (a.x - p.x) * (b.y - p.y) - (a.y - p.y) * (b.x - p.x):=by
    simp only [Int.sub_mul,Int.mul_sub];have:=Int.mul_comm a.x a.y;have:=Int.mul_comm b.x p.y;have:=Int.mul_comm p.x a.y;have:=Int.mul_comm p.x b.y;have:=Int.mul_comm p.x p.y;have:=Int.mul_comm b.x a.y;have:=Int.mul_comm a.x b.y;have:=Int.mul_comm a.x p.y;omega
   omega
  have key : dotP p a b ≤ 0 ↔ (min a.x b.x ≤ p.x∧p.x ≤ max a.x b.x)∧(min a.y b.y ≤ p.y∧p.y ≤ max a.y b.y):=by
   rw [← zFN,← zFN,hx]
   constructor
   ·intro h;exact mul_sign hcr h
   ·intro ⟨h1,h2⟩;omega
  by_cases hd : dotP p a b ≤ 0
  ·obtain ⟨⟨k1,k2⟩,k3,k4⟩:=key.1 hd;simp [hd,k1,k2,k3,k4]
  ·rw [decide_eq_false hd];have:=fun h=>hd (key.2 h);simp only [Bool.true_and,Bool.and_false]
   apply Bool.eq_false_iff.2
   intro h;simp only [Bool.and_eq_true,decide_eq_true_eq] at h;exact this ⟨⟨h.1.1.1,h.1.1.2⟩,h.1.2,h.2⟩
 ·have e1 : (zAw a b p == 0) = false:=by simpa using hc
  rw [e1,decide_eq_false hc];simp
def zBK (n : Int) : Int:=if 0 < n then 1 else if n < 0 then -1 else 0
def zCS (a b c d : Point) : Bool:=
 if onR a b c || onR a b d || onR c d a || onR c d b then true
 else decide (zBK (zAw a b c) * zBK (zAw a b d) < 0) && decide (zBK (zAw c d a) * zBK (zAw c d b) < 0)
def zDf (js : List Joint) (l o : Lead) : Bool:=
 if zCS (ptA js l.a) (ptA js l.b) (ptA js o.a) (ptA js o.b) = false then false
 else if l.a ≠ o.a∧l.a ≠ o.b∧l.b ≠ o.a∧l.b ≠ o.b then true
 else if ptA js l.a = ptA js o.b then onR (ptA js l.a) (ptA js l.b) (ptA js o.a) || onR (ptA js o.a) (ptA js o.b) (ptA js l.b)
 else if ptA js l.b = ptA js o.a then onR (ptA js l.a) (ptA js l.b) (ptA js o.b) || onR (ptA js o.a) (ptA js o.b) (ptA js l.a)
 else if ptA js l.a = ptA js o.a then onR (ptA js l.a) (ptA js l.b) (ptA js o.b) || onR (ptA js o.a) (ptA js o.b) (ptA js l.b)
 else onR (ptA js l.a) (ptA js l.b) (ptA js o.a) || onR (ptA js o.a) (ptA js o.b) (ptA js l.a)
theorem sign_eq (n : Int) : cmpZ n 0 = zBK n:=by
 unfold zBK cmpZ;split <;> (try split) <;> (try split) <;> (try split) <;> omega
theorem on_self_l (a b : Point) : onR a b a = true:=by
 unfold onR zAw;simp;omega
theorem on_self_r (a b : Point) : onR a b b = true:=by
 unfold onR zAw;have e : (b.x - a.x) * (b.y - a.y) - (b.y - a.y) * (b.x - a.x) = 0:=by rw [Int.mul_comm];omega
 simp [e];omega
theorem meets_eq {js : List Joint} {l o : Lead} (hinj : ∀ i k,(i = l.a ∨ i = l.b)→(k = o.a ∨ k = o.b)→ptA js i = ptA js k→i = k) (hl : l.a ≠ l.b) (ho : o.a ≠ o.b) (h1 : ¬ (l.a = o.a∧l.b = o.b)) (h2 : ¬ (l.a = o.b∧l.b = o.a)) :
  zDf js l o = (zBO js l o || zBH js l o):=by
 have i1 : ptA js l.a = ptA js o.b ↔ l.a = o.b:=⟨fun h=>hinj _ _ (.inl rfl) (.inr rfl) h,fun h=>by rw [h]⟩
 have i2 : ptA js l.b = ptA js o.a ↔ l.b = o.a:=⟨fun h=>hinj _ _ (.inr rfl) (.inl rfl) h,fun h=>by rw [h]⟩
 have i3 : ptA js l.a = ptA js o.a ↔ l.a = o.a:=⟨fun h=>hinj _ _ (.inl rfl) (.inl rfl) h,fun h=>by rw [h]⟩
 by_cases hs : l.a ≠ o.a∧l.a ≠ o.b∧l.b ≠ o.a∧l.b ≠ o.b
 ·obtain ⟨e1,e2,e3,e4⟩:=hs;have b1 : (l.a == o.a) = false:=by simpa using e1
  have b2 : (l.a == o.b) = false:=by simpa using e2
  have b3 : (l.b == o.a) = false:=by simpa using e3
  have b4 : (l.b == o.b) = false:=by simpa using e4
  have c1 : (o.a == l.a) = false:=by simpa using Ne.symm e1
  have c2 : (o.b == l.a) = false:=by simpa using Ne.symm e2
  have c3 : (o.a == l.b) = false:=by simpa using Ne.symm e3
  have c4 : (o.b == l.b) = false:=by simpa using Ne.symm e4
  unfold zDf zBO zBH insA;simp only [onR_onP,zCS,sign_eq,bne,b1,b2,b3,b4,c1,c2,c3,c4,Bool.or_false,Bool.not_false,Bool.true_and,if_pos (show l.a ≠ o.a∧l.a ≠ o.b∧l.b ≠ o.a∧l.b ≠ o.b from ⟨e1,e2,e3,e4⟩)];generalize onP (ptA js l.a) (ptA js l.b) (ptA js o.a) = q1;generalize onP (ptA js l.a) (ptA js l.b) (ptA js o.b) = q2;generalize onP (ptA js o.a) (ptA js o.b) (ptA js l.a) = q3;generalize onP (ptA js o.a) (ptA js o.b) (ptA js l.b) = q4;generalize decide (zBK (zAw (ptA js l.a) (ptA js l.b) (ptA js o.a)) * zBK (zAw (ptA js l.a) (ptA js l.b) (ptA js o.b)) < 0) = q5;generalize decide (zBK (zAw (ptA js o.a) (ptA js o.b) (ptA js l.a)) * zBK (zAw (ptA js o.a) (ptA js o.b) (ptA js l.b)) < 0) = q6
  cases q1 <;> cases q2 <;> cases q3 <;> cases q4 <;> cases q5 <;> cases q6 <;> rfl
 ·have hm : zBO js l o = false:=by
   unfold zBO;rw [if_pos];simp;omega
  have hcm : zCS (ptA js l.a) (ptA js l.b) (ptA js o.a) (ptA js o.b) = true:=by
   unfold zCS;rw [if_pos]
   by_cases k1 : l.a = o.a
   ·rw [← k1,on_self_l];simp
   by_cases k2 : l.a = o.b
   ·rw [← k2,on_self_l];simp
   by_cases k3 : l.b = o.a
   ·rw [← k3,on_self_r];simp
   ·have k4 : l.b = o.b:=by omega
    rw [← k4,on_self_r];simp
  unfold zDf zBH insA;rw [hm,Bool.false_or,if_neg hs,hcm];simp only [i1,i2,i3,onR_onP,Bool.true_eq_false,if_false]
  by_cases hab : l.a = o.b
  ·have hba : l.b ≠ o.a:=fun h=>h2 ⟨hab,h⟩;have hbb : l.b ≠ o.b:=fun h=>hl (hab.trans h.symm);have haa : l.a ≠ o.a:=fun h=>ho (h.symm.trans hab);rw [if_pos hab];have aa : (l.a == o.a) = false:=by simpa using haa
   have aas : (o.a == l.a) = false:=by simpa using Ne.symm haa
   have ab : (l.a == o.b) = true:=by simp [hab]
   have abs : (o.b == l.a) = true:=by simp [hab]
   have ba : (l.b == o.a) = false:=by simpa using hba
   have bas : (o.a == l.b) = false:=by simpa using Ne.symm hba
   have bb : (l.b == o.b) = false:=by simpa using hbb
   have bbs : (o.b == l.b) = false:=by simpa using Ne.symm hbb
   simp only [bne,aa,aas,ab,abs,ba,bas,bb,bbs,Bool.not_true,Bool.not_false,Bool.true_and,Bool.false_and,Bool.and_false,Bool.or_false,Bool.false_or]
  rw [if_neg hab]
  by_cases hba : l.b = o.a
  ·have haa : l.a ≠ o.a:=fun h=>hl (h.trans hba.symm);have hbb : l.b ≠ o.b:=fun h=>ho (hba.symm.trans h);rw [if_pos hba];have aa : (l.a == o.a) = false:=by simpa using haa
   have aas : (o.a == l.a) = false:=by simpa using Ne.symm haa
   have ab : (l.a == o.b) = false:=by simpa using hab
   have abs : (o.b == l.a) = false:=by simpa using Ne.symm hab
   have ba : (l.b == o.a) = true:=by simp [hba]
   have bas : (o.a == l.b) = true:=by simp [hba]
   have bb : (l.b == o.b) = false:=by simpa using hbb
   have bbs : (o.b == l.b) = false:=by simpa using Ne.symm hbb
   simp only [bne,aa,aas,ab,abs,ba,bas,bb,bbs,Bool.not_true,Bool.not_false,Bool.true_and,Bool.false_and,Bool.and_false,Bool.or_false,Bool.false_or]
  rw [if_neg hba]
  by_cases haa : l.a = o.a
  ·have hbb : l.b ≠ o.b:=fun h=>h1 ⟨haa,h⟩;rw [if_pos haa];have aa : (l.a == o.a) = true:=by simp [haa]
   have aas : (o.a == l.a) = true:=by simp [haa]
   have ab : (l.a == o.b) = false:=by simpa using hab
   have abs : (o.b == l.a) = false:=by simpa using Ne.symm hab
   have ba : (l.b == o.a) = false:=by simpa using hba
   have bas : (o.a == l.b) = false:=by simpa using Ne.symm hba
   have bb : (l.b == o.b) = false:=by simpa using hbb
   have bbs : (o.b == l.b) = false:=by simpa using Ne.symm hbb
   simp only [bne,aa,aas,ab,abs,ba,bas,bb,bbs,Bool.not_true,Bool.not_false,Bool.true_and,Bool.false_and,Bool.and_false,Bool.or_false,Bool.false_or]
  rw [if_neg haa];have hbb : l.b = o.b:=by omega
  have aa : (l.a == o.a) = false:=by simpa using haa
  have aas : (o.a == l.a) = false:=by simpa using Ne.symm haa
  have ab : (l.a == o.b) = false:=by simpa using hab
  have abs : (o.b == l.a) = false:=by simpa using Ne.symm hab
  have ba : (l.b == o.a) = false:=by simpa using hba
  have bas : (o.a == l.b) = false:=by simpa using Ne.symm hba
  have bb : (l.b == o.b) = true:=by simp [hbb]
  have bbs : (o.b == l.b) = true:=by simp [hbb]
  simp only [bne,aa,aas,ab,abs,ba,bas,bb,bbs,Bool.not_true,Bool.not_false,Bool.true_and,Bool.false_and,Bool.and_false,Bool.or_false,Bool.false_or]
end Go.Proofs.YtbbblemfodpmaaaGreat
end
section
namespace Go.Proofs.YtbbblemfodpmaaaGreat
open Go.RowKit
theorem zD7 (a b c : Point) (ha : zAy a) (hb : zAy b) (hc : zAy c) (w : World) :
  Calls Tryz.prog 179 #[.agg (zAb a), .agg (zAb b), .agg (zAb c)] w fun e w'=>e = .returned (.int .i64 (zAw a b c))∧Lays w w':=by
 obtain ⟨a1,a2,a3,a4⟩:=ha;obtain ⟨b1,b2,b3,b4⟩:=hb;obtain ⟨c1,c2,c3,c4⟩:=hc;obtain ⟨p0,q0⟩:=zBt (x:=b.x - a.x) (y:=c.y - a.y) (by omega) (by omega) (by omega) (by omega);have k0 : IntKind.i64.wrap ((b.x - a.x) * (c.y - a.y)) = (b.x - a.x) * (c.y - a.y):=IntWalk.i64_in _ (by omega);obtain ⟨p1,q1⟩:=zBt (x:=b.y - a.y) (y:=c.x - a.x) (by omega) (by omega) (by omega) (by omega);have k1 : IntKind.i64.wrap ((b.y - a.y) * (c.x - a.x)) = (b.y - a.y) * (c.x - a.x):=IntWalk.i64_in _ (by omega);have k9 : IntKind.i64.wrap ((b.x - a.x) * (c.y - a.y) - (b.y - a.y) * (c.x - a.x)) = (b.x - a.x) * (c.y - a.y) - (b.y - a.y) * (c.x - a.x):=IntWalk.i64_in _ (by omega);go_enter Tryz.func179,Tryz.ntmps179;go_wp2;go_ret;exact ⟨by simp [zAw],(((Lays.refl _).alloc _).alloc _).alloc _⟩
theorem zCT (n m : Int) (w : World) :
  Calls Tryz.prog 172 #[.int .i64 n, .int .i64 m] w fun e w'=>e = .returned (.bool (winI n m))∧w = w':=by
 go_enter Tryz.func172,Tryz.ntmps172;go_wp2
 all_goals (go_ret;exact ⟨by simp [winI, *];try omega,rfl⟩)
theorem rsign_any (n : Int) (w : World) :
  Calls Tryz.prog 211 #[.int .i64 n] w fun e w'=>e = .returned (.int .i64 (zBK n))∧w = w':=by
 go_enter Tryz.func211,Tryz.ntmps211;go_wp2
 all_goals (go_ret;exact ⟨by simp [zBK, *];try omega,rfl⟩)
theorem zE8 (p : Point) (w : World) :
  Calls Tryz.prog 133 #[.agg (zAb p)] w fun e w'=>e = .returned (.bool (inP p))∧Lays w w':=by
 go_enter Tryz.func133,Tryz.ntmps133;go_wp2
 all_goals (go_ret;exact ⟨by simp [inP,winI, *];try omega,(Lays.refl _).alloc _⟩)
end Go.Proofs.YtbbblemfodpmaaaGreat
end
section
namespace Go.Proofs.YtbbblemfodpmaaaGreat
open Go.RowKit
theorem ron_any (a b p : Point) (ha : zAy a) (hb : zAy b) (hp : zAy p) (w : World) :
  Calls Tryz.prog 134 #[.agg (zAb a), .agg (zAb b), .agg (zAb p)] w fun e w'=>e = .returned (.bool (onR a b p))∧Below w.heap.size w w':=by
 have HC : Hid (∀ W,Calls Tryz.prog 179 #[.agg (zAb a), .agg (zAb b), .agg (zAb p)] W fun e w'=>e = .returned (.int .i64 (zAw a b p))∧Lays W w'):=zz fun W=>zD7 a b p ha hb hp W;have HB0 : Hid (Below w.heap.size w (((w.alloc (.cells (zAb a) 27)).alloc (.cells (zAb b) 27)).alloc (.cells (zAb p) 27))):=zz ((((Lays.refl w).alloc _).alloc _).alloc _ |>.below (Nat.le_refl _));have HBA : Hid (∀ W,Lays (((w.alloc (.cells (zAb a) 27)).alloc (.cells (zAb b) 27)).alloc (.cells (zAb p) 27)) W→zAe W w.heap.size 27 (zAb a)∧zAe W (w.heap.size + 1) 27 (zAb b)∧zAe W (w.heap.size + 1 + 1) 27 (zAb p)):=zz fun W hW=>by
  have h1:=zAe.new w 27 (zAb a);have h2:=zAe.new (w.alloc (.cells (zAb a) 27)) 27 (zAb b);have h3:=zAe.new ((w.alloc (.cells (zAb a) 27)).alloc (.cells (zAb b) 27)) 27 (zAb p);rw [World.size_alloc] at h2;rw [World.size_alloc,World.size_alloc] at h3;have hb:=hW.below (Nat.le_refl _);exact ⟨((h1.alloc _).alloc _).belowAll hb,(h2.alloc _).belowAll hb,h3.belowAll hb⟩
 obtain ⟨c,hc⟩ : ∃ c,zAw a b p = c:=⟨_,rfl⟩
 have HO : Hid (onR a b p = (decide (c = 0) && decide (min a.x b.x ≤ p.x) && decide (p.x ≤ max a.x b.x) && decide (min a.y b.y ≤ p.y) && decide (p.y ≤ max a.y b.y))):=zz (by rw [← hc];rfl);rw [HO.out];simp only [hc] at HC;clear ha hb hp hc HO;go_enter Tryz.func134,Tryz.ntmps134
 by_cases hc : c = 0
 ·go_wp2_with (first
   | (go_at_call 179;refine (HC.out _).mono ?_;rintro e w1 ⟨rfl,l1⟩;obtain ⟨b1,b2,b3⟩:=HBA.out _ l1;have q1:=(b1.cell 0).trans (show _ = some (.int .i64 a.x) from rfl);have q2:=(b1.cell 1).trans (show _ = some (.int .i64 a.y) from rfl);have q3:=(b2.cell 0).trans (show _ = some (.int .i64 b.x) from rfl);have q4:=(b2.cell 1).trans (show _ = some (.int .i64 b.y) from rfl);have q5:=(b3.cell 0).trans (show _ = some (.int .i64 p.x) from rfl);have q6:=(b3.cell 1).trans (show _ = some (.int .i64 p.y) from rfl);have HL:=zz (HB0.out.trans ((l1.below (Nat.le_refl _)).mono HB0.out.size));clear b1 b2 b3 l1))
  all_goals (go_ret;exact ⟨by simp [*];try omega,HL.out⟩)
 ·go_wp2_with (first
   | (go_at_call 179;refine (HC.out _).mono ?_;rintro e w1 ⟨rfl,l1⟩;have HL:=zz (HB0.out.trans ((l1.below (Nat.le_refl _)).mono HB0.out.size));clear l1))
  go_ret;exact ⟨by simp [hc],HL.out⟩
end Go.Proofs.YtbbblemfodpmaaaGreat
end
section
namespace Go.Proofs.YtbbblemfodpmaaaGreat
open Go.RowKit
theorem zE9 (sj : Sl Joint) (sl : Sl Lead) (id : Int) (w : World) (h : sj.OK 3 zAh zAs (fun _=>False) w) :
  Calls Tryz.prog 121 #[.agg #[.slice sj.a sj.val.length sj.cap, .slice sl.a sl.val.length sl.cap], .int .i64 id] w fun e w'=>e = .returned (.int .i64 (idxI (fun x=>decide (x.id = id)) sj.val))∧Below w.heap.size w w':=by
 have hroom:=h.room;have HS:=zz h;clear h;have HB0 : Hid (Below w.heap.size w (w.alloc (.cells #[.slice sj.a sj.val.length sj.cap, .slice sl.a sl.val.length sl.cap] 25))):=zz ((Below.refl _ _).alloc (Nat.le_refl _) _);have HX0:=zz (zAe.new w 25 #[.slice sj.a sj.val.length sj.cap, .slice sl.a sl.val.length sl.cap]);obtain ⟨ov,hov⟩ : ∃ z,Value.slice sl.a sl.val.length sl.cap = z:=⟨_,rfl⟩
 obtain ⟨a,cap,val⟩:=sj;simp only [hov] at hroom HS HB0 HX0 ⊢;clear hov;obtain ⟨n,hn⟩ : ∃ n,val.length = n:=⟨_,rfl⟩
 have HN:=zz hn;simp only [hn] at hroom HB0 HX0 ⊢;clear hn;go_enter Tryz.func121,Tryz.ntmps121;go_wp2
 go_loopw [5] (fun i wr=>∃ k : Nat,k ≤ n∧i = .int .i64 k∧Hid (∀ j y,j < k→val[j]? = some y→decide (y.id = id) = false)∧Hid (Below w.heap.size w wr∧zAe wr w.heap.size 25 #[.slice a n cap,ov])) (fun i _=>n - (intOf i).toNat)
 case atStart=>exact ⟨0,Nat.zero_le _,rfl,zz (by omega),zz ⟨HB0.out,HX0.out⟩⟩
 case round=>
  obtain ⟨k,hk,rfl,hno,HW⟩:=hrel;have q0:=(HW.out.2.cell 0).trans (show _ = some (.slice a n cap) from rfl)
  by_cases hlt : k < n
  ·obtain ⟨x,hx⟩ : ∃ x,val[k]? = some x:=⟨_,List.getElem?_eq_getElem (by rw [HN.out];exact hlt)⟩
   obtain ⟨bb,o,rfl,hbb,_,_,hc⟩:=HS.out.at hx;have q1 : wr.cell? ⟨bb,o + k * 3,none⟩ = some (.int .i64 x.id):=(HW.out.1.cell (p:=⟨bb,o + k * 3,none⟩) hbb).trans ((hc 0 (by decide : 0 < 3)).trans rfl);have HX:=zz hx;clear hx hc hbb
   by_cases hi : x.id = id
   ·have HI:=zz hi;clear hi
    by_cases hi : x.id = id
    ·go_wp2;go_ret;exact ⟨by simp [zCg HX.out hno.out (decide_eq_true HI.out)],HW.out.1⟩
    ·exact absurd HI.out hi
   ·go_wp2;go_roundw
    case rel=>
     refine ⟨k + 1,by omega,by go_num,zz fun j y hj hy=>?_,HW⟩
     rcases Nat.lt_succ_iff_lt_or_eq.1 hj with h | rfl
     ·exact hno.out j y h hy
     ·rw [HX.out] at hy;cases hy;exact decide_eq_false hi
    case measure=>simp [intOf];omega
  ·go_wp2;go_ret;refine ⟨?_,HW.out.1⟩;rw [zCy fun j y hy=>hno.out j y (by have:=(List.getElem?_eq_some_iff.1 hy).1;rw [HN.out] at this;omega) hy]
   rfl
theorem rlead_any (sj : Sl Joint) (sl : Sl Lead) (id : Int) (w : World) (h : sl.OK 8 zAd zAA (fun _=>False) w) :
  Calls Tryz.prog 122 #[.agg #[.slice sj.a sj.val.length sj.cap, .slice sl.a sl.val.length sl.cap], .int .i64 id] w fun e w'=>e = .returned (.int .i64 (idxI (fun x=>decide (x.id = id)) sl.val))∧Below w.heap.size w w':=by
 have hroom:=h.room;have HS:=zz h;clear h;have HB0 : Hid (Below w.heap.size w (w.alloc (.cells #[.slice sj.a sj.val.length sj.cap, .slice sl.a sl.val.length sl.cap] 25))):=zz ((Below.refl _ _).alloc (Nat.le_refl _) _);have HX0:=zz (zAe.new w 25 #[.slice sj.a sj.val.length sj.cap, .slice sl.a sl.val.length sl.cap]);obtain ⟨ov,hov⟩ : ∃ z,Value.slice sj.a sj.val.length sj.cap = z:=⟨_,rfl⟩
 obtain ⟨a,cap,val⟩:=sl;simp only [hov] at hroom HS HB0 HX0 ⊢;clear hov;obtain ⟨n,hn⟩ : ∃ n,val.length = n:=⟨_,rfl⟩
 have HN:=zz hn;simp only [hn] at hroom HB0 HX0 ⊢;clear hn;go_enter Tryz.func122,Tryz.ntmps122;go_wp2
 go_loopw [5] (fun i wr=>∃ k : Nat,k ≤ n∧i = .int .i64 k∧Hid (∀ j y,j < k→val[j]? = some y→decide (y.id = id) = false)∧Hid (Below w.heap.size w wr∧zAe wr w.heap.size 25 #[ov, .slice a n cap])) (fun i _=>n - (intOf i).toNat)
 case atStart=>exact ⟨0,Nat.zero_le _,rfl,zz (by omega),zz ⟨HB0.out,HX0.out⟩⟩
 case round=>
  obtain ⟨k,hk,rfl,hno,HW⟩:=hrel;have q0:=(HW.out.2.cell 1).trans (show _ = some (.slice a n cap) from rfl)
  by_cases hlt : k < n
  ·obtain ⟨x,hx⟩ : ∃ x,val[k]? = some x:=⟨_,List.getElem?_eq_getElem (by rw [HN.out];exact hlt)⟩
   obtain ⟨bb,o,rfl,hbb,_,_,hc⟩:=HS.out.at hx;have q1 : wr.cell? ⟨bb,o + k * 8,none⟩ = some (.int .i64 x.id):=(HW.out.1.cell (p:=⟨bb,o + k * 8,none⟩) hbb).trans ((hc 0 (by decide : 0 < 8)).trans rfl);have HX:=zz hx;clear hx hc hbb
   by_cases hi : x.id = id
   ·have HI:=zz hi;clear hi
    by_cases hi : x.id = id
    ·go_wp2;go_ret;exact ⟨by simp [zCg HX.out hno.out (decide_eq_true HI.out)],HW.out.1⟩
    ·exact absurd HI.out hi
   ·go_wp2;go_roundw
    case rel=>
     refine ⟨k + 1,by omega,by go_num,zz fun j y hj hy=>?_,HW⟩
     rcases Nat.lt_succ_iff_lt_or_eq.1 hj with h | rfl
     ·exact hno.out j y h hy
     ·rw [HX.out] at hy;cases hy;exact decide_eq_false hi
    case measure=>simp [intOf];omega
  ·go_wp2;go_ret;refine ⟨?_,HW.out.1⟩;rw [zCy fun j y hy=>hno.out j y (by have:=(List.getElem?_eq_some_iff.1 hy).1;rw [HN.out] at this;omega) hy]
   rfl
end Go.Proofs.YtbbblemfodpmaaaGreat
end
section
namespace Go.Proofs.YtbbblemfodpmaaaGreat
open Go.RowKit
theorem jpt (x : Joint) : ∀ j,j < (zAb x.at_).size→(zAh x)[1 + j]? = (zAb x.at_)[j]?:=by
 intro j hj;have : (zAb x.at_).size = 2:=rfl;rw [this] at hj
 rcases j with _ | _ | j <;> first | rfl | omega
theorem any_contains (l : List Joint) (p : Point) : (l.map (·.at_)).contains p = l.any fun y=>decide (y.at_ = p):=by
 induction l with
 | nil=>rfl
 | cons y l ih=>
  rw [List.map_cons,List.contains_cons,List.any_cons,ih]
  congr 1
  by_cases h : y.at_ = p
  ·simp [h]
  ·have : p ≠ y.at_:=fun e=>h e.symm;simp [h,this]
def zC1 (js : List Joint) (k : Nat) : Option Int:=if k = 0 then none else js[k - 1]?.map (·.id)
theorem rj_step {js : List Joint} {k : Nat} {x : Joint} (hx : js[k]? = some x) :
  cjA ((js.take k).map (·.at_)) (zC1 js k) (js.drop k) = if (!zBg x.id || !inP x.at_ || zBE (zC1 js k) x.id || (js.take k).any (fun y=>decide (y.at_ = x.at_))) = true then (x.id,false) else cjA ((js.take (k + 1)).map (·.at_)) (zC1 js (k + 1)) (js.drop (k + 1)):=by
 have hk:=(List.getElem?_eq_some_iff.1 hx).1;have he : js.drop k = x :: js.drop (k + 1):=by
  rw [List.drop_eq_getElem_cons hk]
  congr 1
  exact Option.some.inj (by rw [← hx,List.getElem?_eq_getElem hk])
 have hp : zC1 js (k + 1) = some x.id:=by unfold zC1;simp [hx]
 have ht : (js.take (k + 1)).map (·.at_) = (js.take k).map (·.at_) ++ [x.at_]:=by rw [List.take_add_one,hx];simp
 rw [he,cjA,any_contains,hp,ht]
theorem badJoint_any (sj : Sl Joint) (sl : Sl Lead) (w : World) (h : sj.OK 3 zAh zAs (fun _=>False) w) :
  Calls Tryz.prog 83 #[.agg #[.slice sj.a sj.val.length sj.cap, .slice sl.a sl.val.length sl.cap]] w fun e w'=>e = .returned (.tuple #[.int .i64 (cjA [] none sj.val).1, .bool (!(cjA [] none sj.val).2)])∧Below w.heap.size w w':=by
 have hroom:=h.room;have HS:=zz h;clear h;have HB0 : Hid (Below w.heap.size w (w.alloc (.cells #[.slice sj.a sj.val.length sj.cap, .slice sl.a sl.val.length sl.cap] 25))):=zz ((Below.refl _ _).alloc (Nat.le_refl _) _);have HX0:=zz (zAe.new w 25 #[.slice sj.a sj.val.length sj.cap, .slice sl.a sl.val.length sl.cap]);obtain ⟨ov,hov⟩ : ∃ z,Value.slice sl.a sl.val.length sl.cap = z:=⟨_,rfl⟩
 obtain ⟨a,cap,val⟩:=sj;simp only [hov] at hroom HS HB0 HX0 ⊢;clear hov;obtain ⟨n,hn⟩ : ∃ n,val.length = n:=⟨_,rfl⟩
 have HN:=zz hn;simp only [hn] at hroom HB0 HX0 ⊢;clear hn;obtain ⟨R,hR⟩ : ∃ R,cjA [] none val = R:=⟨_,rfl⟩
 have HR0 : Hid (R = cjA ((val.take 0).map (·.at_)) (zC1 val 0) (val.drop 0)):=zz hR.symm;simp only [hR];clear hR;go_enter Tryz.func83,Tryz.ntmps83;go_wp2
 go_loopw [4] (fun i wr=>∃ k : Nat,k ≤ n∧i = .int .i64 k∧Hid (R = cjA ((val.take k).map (·.at_)) (zC1 val k) (val.drop k))∧Hid (Below w.heap.size w wr∧zAe wr w.heap.size 25 #[.slice a n cap,ov])) (fun i _=>n - (intOf i).toNat)
 case atStart=>exact ⟨0,Nat.zero_le _,rfl,HR0,zz ⟨HB0.out,HX0.out⟩⟩
 case round=>
  obtain ⟨k,hk,rfl,HRK,HW⟩:=hrel;have q0:=(HW.out.2.cell 0).trans (show _ = some (.slice a n cap) from rfl)
  by_cases hlt : k < n
  ·obtain ⟨x,hx⟩ : ∃ x,val[k]? = some x:=⟨_,List.getElem?_eq_getElem (by rw [HN.out];exact hlt)⟩
   obtain ⟨bb,o,rfl,hbb,_,_,hc⟩:=HS.out.at hx;have HCX : Hid (∀ j,j < (zAh x).size→wr.cell? ⟨bb,o + k * 3 + j,none⟩ = (zAh x)[j]?):=zz fun j hj=>(HW.out.1.cell (p:=⟨bb,o + k * 3 + j,none⟩) hbb).trans (hc j hj);have HX:=zz hx;have HRS:=zz (rj_step hx);clear hx hc hbb
   go_upto_region 5 with (first
    | ((with_reducible refine zAm 19 ?_);refine zLe 19 bb (o + k * 3) (zAh x) HCX.out zuG ?_)
    | ((with_reducible refine zAv 29 ?_);refine zAk (cs:=zAh x) rfl 29 _ _ rfl rfl rfl rfl (by kernel_rfl) rfl (zBj _) ?_;simp only [pTn]))
   go_cut [6] from 8 to 69 (fun v wc=>∃ b0 : Bool,v = .bool b0∧Hid (b0 = (!zBg x.id || !inP x.at_ || zBE (zC1 val k) x.id))∧Hid (Below w.heap.size w wc∧zAe wc w.heap.size 25 #[.slice (some ⟨bb,o,none⟩) n cap,ov]∧zAe wc wr.heap.size 29 (zAh x)))
   case first=>
    have HJB : Hid (zAe (wr.alloc (.cells (zAh x) 29)) wr.heap.size 29 (zAh x)):=zz (zAe.new _ _ _);have HWB : Hid (zAe (wr.alloc (.cells (zAh x) 29)) w.heap.size 25 #[.slice (some ⟨bb,o,none⟩) n cap,ov]):=zz (HW.out.2.alloc _);have HWL : Hid (Below w.heap.size w (wr.alloc (.cells (zAh x) 29))):=zz (HW.out.1.alloc HW.out.1.size _);clear HCX
    by_cases h1 : x.id < 1
    ·have hp : zBg x.id = false:=by unfold zBg;rw [decide_eq_false (by omega)];rfl
     refine rgO [(0,true),(1,true),(2,true),(3,true),(4,true),(5,true),(6,true),(7,true),(8,true),(9,true),(10,true),(11,false),(12,true),(13,true),(14,true),(15,true),(16,true),(17,true),(18,true),(19,true),(20,true),(21,true),(22,true),(23,true),(24,true),(25,true),(26,true),(27,true),(28,true),(29,true),(30,true)] ?_;refine wB rfl ?_;simp only [pT];refine zAf (v:=.int .i64 x.id) rfl rfl (fun W hW=>by have e : W.cell? ⟨wr.heap.size,0,none⟩ = some (.int .i64 x.id):=((HJB.out.drew.belowAll hW).cell 0).trans rfl;go_simp) ?_;simp only [pT];iterate 2 (refine wB rfl ?_;simp only [pT])
     iterate 3 (refine wK rfl ?_;simp only [pT])
     iterate 2 (refine wB rfl ?_;simp only [pT])
     iterate 2 (refine wK rfl ?_;simp only [pT])
     refine wL rfl ?_;simp only [pT];refine wK rfl ?_;simp only [pT];iterate 2 (refine wB rfl ?_;simp only [pT])
     iterate 14 (refine wK rfl ?_;simp only [pT])
     iterate 2 (refine wB rfl ?_;simp only [pT])
     simp only [wpB];go_wp2
     go_meet
     case rel=>exact ⟨true,rfl,zz (by simp [hp]),zz ⟨HWL.out.drew,HWB.out.drew,HJB.out.drew⟩⟩
    by_cases h2 : 65535 < x.id
    ·have hp : zBg x.id = false:=by unfold zBg;rw [decide_eq_false (show ¬ x.id ≤ 65535 by omega)];simp
     refine rgO [(0,true),(1,true),(2,true),(3,true),(4,true),(5,true),(6,true),(7,true),(8,true),(9,true),(10,true),(11,false),(12,true),(13,true),(14,true),(15,true),(16,true),(17,true),(18,true),(19,true),(20,true),(21,true),(22,true),(23,true),(24,true),(25,true),(26,true),(27,true),(28,true),(29,true),(30,true)] ?_;refine wB rfl ?_;simp only [pT];refine zAf (v:=.int .i64 x.id) rfl rfl (fun W hW=>by have e : W.cell? ⟨wr.heap.size,0,none⟩ = some (.int .i64 x.id):=((HJB.out.drew.belowAll hW).cell 0).trans rfl;go_simp) ?_;simp only [pT];iterate 3 (refine wB rfl ?_;simp only [pT])
     refine zAf (v:=.int .i64 x.id) rfl rfl (fun W hW=>by have e : W.cell? ⟨wr.heap.size,0,none⟩ = some (.int .i64 x.id):=((HJB.out.drew.belowAll hW).cell 0).trans rfl;go_simp) ?_;simp only [pT];iterate 3 (refine wB rfl ?_;simp only [pT])
     iterate 2 (refine wK rfl ?_;simp only [pT])
     refine wL rfl ?_;simp only [pT];refine wK rfl ?_;simp only [pT];iterate 2 (refine wB rfl ?_;simp only [pT])
     iterate 14 (refine wK rfl ?_;simp only [pT])
     iterate 2 (refine wB rfl ?_;simp only [pT])
     simp only [wpB];go_wp2
     go_meet
     case rel=>exact ⟨true,rfl,zz (by simp [hp]),zz ⟨HWL.out.drew,HWB.out.drew,HJB.out.drew⟩⟩
    have hp : zBg x.id = true:=by unfold zBg;rw [decide_eq_true (show 1 ≤ x.id by omega),decide_eq_true (show x.id ≤ 65535 by omega)];rfl
    by_cases h3 : inP x.at_ = true
    case neg=>
     have h3 : inP x.at_ = false:=by simpa using h3
     refine rgO [(0,true),(1,true),(2,true),(3,true),(4,true),(5,true),(6,true),(7,true),(8,true),(9,true),(10,true),(11,false),(12,true),(13,true),(14,true),(15,true),(16,true),(17,true),(18,true),(19,true),(20,true),(21,true),(22,true),(23,true),(24,true),(25,true),(26,true),(27,true),(28,true),(29,true),(30,true)] ?_;refine wB rfl ?_;simp only [pT];refine zAf (v:=.int .i64 x.id) rfl rfl (fun W hW=>by have e : W.cell? ⟨wr.heap.size,0,none⟩ = some (.int .i64 x.id):=((HJB.out.drew.belowAll hW).cell 0).trans rfl;go_simp) ?_;simp only [pT];iterate 3 (refine wB rfl ?_;simp only [pT])
     refine zAf (v:=.int .i64 x.id) rfl rfl (fun W hW=>by have e : W.cell? ⟨wr.heap.size,0,none⟩ = some (.int .i64 x.id):=((HJB.out.drew.belowAll hW).cell 0).trans rfl;go_simp) ?_;simp only [pT];iterate 4 (refine wB rfl ?_;simp only [pT])
     refine zAf (v:=.agg (zAb x.at_)) rfl rfl (fun W hW=>zAc (zAb x.at_) (HJB.out.drew.belowAll hW) rfl (fun j hj=>jpt x j hj) zuB) ?_;simp only [pT];refine zAG rfl rfl (fun K hK=>?_)
     go_simp
     refine (zE8 x.at_ _).mono ?_;rintro e w6 ⟨rfl,l6⟩;have hb6:=l6.below (Nat.le_refl _);refine hK _ _ hb6 ?_;clear hK K
     try simp only [pT]
     iterate 3 (refine wB rfl ?_;simp only [pT])
     iterate 14 (refine wK rfl ?_;simp only [pT])
     iterate 2 (refine wB rfl ?_;simp only [pT])
     simp only [wpB];go_wp2
     go_meet
     case rel=>exact ⟨true,rfl,zz (by simp [hp,h3]),zz ⟨HWL.out.drew.trans (hb6.mono HWL.out.drew.size),HWB.out.drew.belowAll hb6,HJB.out.drew.belowAll hb6⟩⟩
    by_cases h4 : k = 0
    ·subst h4;refine rgO [(0,true),(1,true),(2,true),(3,true),(4,true),(5,true),(6,true),(7,true),(8,true),(9,true),(10,true),(11,false),(12,true),(13,true),(14,true),(15,true),(16,true),(17,true),(18,true),(19,true),(20,true),(21,true),(22,true),(23,true),(24,true),(25,true),(26,true),(27,true),(28,true),(29,true),(30,true)] ?_;refine wB rfl ?_;simp only [pT];refine zAf (v:=.int .i64 x.id) rfl rfl (fun W hW=>by have e : W.cell? ⟨wr.heap.size,0,none⟩ = some (.int .i64 x.id):=((HJB.out.drew.belowAll hW).cell 0).trans rfl;go_simp) ?_;simp only [pT];iterate 3 (refine wB rfl ?_;simp only [pT])
     refine zAf (v:=.int .i64 x.id) rfl rfl (fun W hW=>by have e : W.cell? ⟨wr.heap.size,0,none⟩ = some (.int .i64 x.id):=((HJB.out.drew.belowAll hW).cell 0).trans rfl;go_simp) ?_;simp only [pT];iterate 4 (refine wB rfl ?_;simp only [pT])
     refine zAf (v:=.agg (zAb x.at_)) rfl rfl (fun W hW=>zAc (zAb x.at_) (HJB.out.drew.belowAll hW) rfl (fun j hj=>jpt x j hj) zuB) ?_;simp only [pT];refine zAG rfl rfl (fun K hK=>?_)
     go_simp
     refine (zE8 x.at_ _).mono ?_;rintro e w6 ⟨rfl,l6⟩;have hb6:=l6.below (Nat.le_refl _);refine hK _ _ hb6 ?_;clear hK K
     try simp only [pT]
     iterate 6 (refine wB rfl ?_;simp only [pT])
     iterate 10 (refine wK rfl ?_;simp only [pT])
     iterate 3 (refine wB rfl ?_;simp only [pT])
     simp only [wpB];go_wp2
     go_meet
     case rel=>exact ⟨false,rfl,zz (by simp [hp,h3,zC1,zBE]),zz ⟨HWL.out.drew.trans (hb6.mono HWL.out.drew.size),HWB.out.drew.belowAll hb6,HJB.out.drew.belowAll hb6⟩⟩
    obtain ⟨k1,rfl⟩ : ∃ k1,k = k1 + 1:=⟨k - 1,by omega⟩
    obtain ⟨y,hy⟩ : ∃ y,val[k1]? = some y:=⟨_,List.getElem?_eq_getElem (by rw [HN.out];omega)⟩
    obtain ⟨b2,o2,e,hb2,_,_,hcy⟩:=HS.out.at hy;simp only [Option.some.injEq,Addr.mk.injEq,and_true] at e;obtain ⟨rfl,rfl⟩:=e;have HYC : Hid (∀ W,Below w.heap.size w W→W.cell? ⟨bb,o + k1 * 3,none⟩ = some (.int .i64 y.id)):=zz fun W hW=>(hW.cell (p:=⟨bb,o + k1 * 3,none⟩) hb2).trans ((hcy 0 (by decide : 0 < 3)).trans rfl);have W3 : Hid (IntKind.i64.wrap (k1 : Int) = (k1 : Int)):=zz (IntWalk.i64_in _ (by omega));have hk1 : k1 < n:=by omega
    have HPV : Hid (zBE (zC1 val (k1 + 1)) x.id = decide (x.id ≤ y.id)):=zz (by unfold zC1;simp [hy,zBE]);clear hy hcy hb2 h4;refine rgO [(0,true),(1,true),(2,true),(3,true),(4,true),(5,true),(6,true),(7,true),(8,true),(9,true),(10,true),(11,false),(12,true),(13,true),(14,true),(15,true),(16,true),(17,true),(18,true),(19,true),(20,true),(21,true),(22,true),(23,true),(24,true),(25,true),(26,true),(27,true),(28,true),(29,true),(30,true)] ?_;refine wB rfl ?_;simp only [pT];refine zAf (v:=.int .i64 x.id) rfl rfl (fun W hW=>by have e : W.cell? ⟨wr.heap.size,0,none⟩ = some (.int .i64 x.id):=((HJB.out.drew.belowAll hW).cell 0).trans rfl;go_simp) ?_;simp only [pT];iterate 3 (refine wB rfl ?_;simp only [pT])
    refine zAf (v:=.int .i64 x.id) rfl rfl (fun W hW=>by have e : W.cell? ⟨wr.heap.size,0,none⟩ = some (.int .i64 x.id):=((HJB.out.drew.belowAll hW).cell 0).trans rfl;go_simp) ?_;simp only [pT];iterate 4 (refine wB rfl ?_;simp only [pT])
    refine zAf (v:=.agg (zAb x.at_)) rfl rfl (fun W hW=>zAc (zAb x.at_) (HJB.out.drew.belowAll hW) rfl (fun j hj=>jpt x j hj) zuB) ?_;simp only [pT];refine zAG rfl rfl (fun K hK=>?_)
    go_simp
    refine (zE8 x.at_ _).mono ?_;rintro e w6 ⟨rfl,l6⟩;have hb6:=l6.below (Nat.le_refl _);refine hK _ _ hb6 ?_;clear hK K
    try simp only [pT]
    iterate 7 (refine wB rfl ?_;simp only [pT])
    refine zAf (v:=.int .i64 x.id) rfl rfl (fun W hW=>by have e : W.cell? ⟨wr.heap.size,0,none⟩ = some (.int .i64 x.id):=(((HJB.out.drew.belowAll hb6).belowAll hW).cell 0).trans rfl;go_simp) ?_;simp only [pT];refine wB rfl ?_;simp only [pT];refine zAf (v:=.slice (some ⟨bb,o,none⟩) n cap) rfl rfl (fun W hW=>by have e : W.cell? ⟨w.heap.size,0,none⟩ = some (.slice (some ⟨bb,o,none⟩) n cap):=(((HWB.out.drew.belowAll hb6).belowAll hW).cell 0).trans rfl;go_simp) ?_;simp only [pT];refine wB rfl ?_;simp only [pT];refine zAf (v:=.int .i64 (k1 : Int)) rfl rfl (fun W hW=>by go_simp;rw [W3.out]) ?_;simp only [pT];iterate 2 (refine wB rfl ?_;simp only [pT])
    refine zAf (v:=.int .i64 y.id) rfl rfl (fun W hW=>by have e : W.cell? ⟨bb,o + k1 * 3,none⟩ = some (.int .i64 y.id):=HYC.out W ((HWL.out.drew.trans (hb6.mono HWL.out.drew.size)).trans (hW.mono (HWL.out.drew.trans (hb6.mono HWL.out.drew.size)).size));go_simp) ?_;simp only [pT];refine zAf (v:=.bool (decide (x.id ≤ y.id))) rfl rfl (fun W hW=>by go_simp) ?_;simp only [pT];iterate 3 (refine wB rfl ?_;simp only [pT])
    simp only [wpB];go_wp2
    go_meet
    case rel=>exact ⟨_,rfl,zz (by simp [hp,h3,HPV.out]),zz ⟨HWL.out.drew.trans (hb6.mono HWL.out.drew.size),HWB.out.drew.belowAll hb6,HJB.out.drew.belowAll hb6⟩⟩
   obtain ⟨b0,rfl,HB,HW2⟩:=hcut;obtain ⟨jb,hjb⟩ : ∃ jb,wr.heap.size = jb:=⟨_,rfl⟩
   simp only [hjb] at HW2 ⊢;clear hjb q0 HW HCX;go_wp2
   go_loopw [6,7] (fun v i wr=>∃ q : Nat,q ≤ k∧i = .int .i64 q∧v = .bool (b0 || (val.take q).any (fun y=>decide (y.at_ = x.at_)))∧Hid (Below w.heap.size w wr∧zAe wr w.heap.size 25 #[.slice (some ⟨bb,o,none⟩) n cap,ov]∧zAe wr jb 29 (zAh x))) (fun _ i _=>k - (intOf i).toNat)
   case atStart=>exact ⟨0,Nat.zero_le _,rfl,by simp,HW2⟩
   case round=>
    obtain ⟨q,hq,rfl,rfl,HW3⟩:=hrel
    by_cases hqk : q < k
    ·obtain ⟨y,hy⟩ : ∃ y,val[q]? = some y:=⟨_,List.getElem?_eq_getElem (by rw [HN.out];omega)⟩
     obtain ⟨b2,o2,e,hb2,_,_,hcy⟩:=HS.out.at hy;simp only [Option.some.injEq,Addr.mk.injEq,and_true] at e;obtain ⟨rfl,rfl⟩:=e;have HCY : Hid (∀ W,Below w.heap.size w W→∀ j,j < (zAb y.at_).size→W.cell? ⟨bb,o + q * 3 + 1 + j,none⟩ = (zAb y.at_)[j]?):=zz fun W hW j hj=>by
      rw [hW.cell (p:=⟨bb,o + q * 3 + 1 + j,none⟩) hb2,← jpt y j hj,← hcy (1 + j) (by have : (zAb y.at_).size = 2:=rfl;rw [this] at hj;show 1 + j < 3;omega),Nat.add_assoc]
     have HTK : Hid ((b0 || (val.take (q + 1)).any (fun y=>decide (y.at_ = x.at_))) = ((b0 || (val.take q).any (fun y=>decide (y.at_ = x.at_))) || zCr y.at_ x.at_)):=zz (by rw [List.take_add_one,hy,List.any_append,Bool.or_assoc];simp [zCr]);have hqn : q < n:=by omega
     obtain ⟨bv,hbv⟩ : ∃ bv,(b0 || (val.take q).any (fun y=>decide (y.at_ = x.at_))) = bv:=⟨_,rfl⟩
     simp only [hbv] at HTK ⊢;clear hy hcy hb2 hbv
     cases bv
     case false=>
      go_wp2;refine rgO [(0,true),(1,true),(2,true),(3,true),(4,true),(5,true),(6,true),(7,true),(8,true),(9,true),(10,true),(11,true),(12,true)] ?_;iterate 3 (refine wB rfl ?_;simp only [pT])
      refine zAf (v:=.slice (some ⟨bb,o,none⟩) n cap) rfl rfl (fun W hW=>by have e : W.cell? ⟨w.heap.size,0,none⟩ = some (.slice (some ⟨bb,o,none⟩) n cap):=((HW3.out.2.1.drew.belowAll hW).cell 0).trans rfl;go_simp) ?_;simp only [pT];iterate 3 (refine wB rfl ?_;simp only [pT])
      refine zAf (v:=.agg (zAb y.at_)) rfl rfl (fun W hW=>zAE (zAb y.at_) (HCY.out W (HW3.out.1.trans ((Lays.refl wr).drew.below (Nat.le_refl _) |>.trans hW |>.mono HW3.out.1.size))) rfl zuB) ?_;simp only [pT];refine wB rfl ?_;simp only [pT];refine zAf (v:=.agg (zAb x.at_)) rfl rfl (fun W hW=>zAc (zAb x.at_) (HW3.out.2.2.drew.belowAll hW) rfl (jpt x) zuB) ?_;simp only [pT];iterate 3 (refine wB rfl ?_;simp only [pT])
      simp only [wpB];go_wp2;go_roundw
      case rel=>exact ⟨q + 1,by omega,by go_num,by rw [HTK.out];simp,zz ⟨HW3.out.1.trans ((Lays.refl _).drew.below HW3.out.1.size),HW3.out.2.1.drew,HW3.out.2.2.drew⟩⟩
      case measure=>simp [intOf];omega
     case true=>
      go_wp2;refine rgO [(0,true),(1,true),(2,true),(3,true),(4,true),(5,true),(6,true),(7,true),(8,true),(9,true),(10,true),(11,true),(12,true)] ?_;iterate 2 (refine wB rfl ?_;simp only [pT])
      iterate 9 (refine wK rfl ?_;simp only [pT])
      iterate 2 (refine wB rfl ?_;simp only [pT])
      simp only [wpB];go_wp2;go_roundw
      case rel=>exact ⟨q + 1,by omega,by go_num,by rw [HTK.out];simp,zz ⟨HW3.out.1.trans ((Lays.refl _).drew.below HW3.out.1.size),HW3.out.2.1.drew,HW3.out.2.2.drew⟩⟩
      case measure=>simp [intOf];omega
    ·have hqe : q = k:=by omega
     subst hqe;rw [← HB.out] at HRS;have HRK2:=zz (HRK.out.trans HRS.out);have qx:=(HW3.out.2.2.cell 0).trans (show _ = some (.int .i64 x.id) from rfl);obtain ⟨bv,hbv⟩ : ∃ bv,(b0 || (val.take q).any (fun y=>decide (y.at_ = x.at_))) = bv:=⟨_,rfl⟩
     simp only [hbv] at HRK2 ⊢;clear hbv
     cases bv
     case true=>
      go_wp2;go_ret2;have h:=HRK2.out;rw [if_pos (by trivial)] at h;rw [h];exact ⟨rfl,HW3.out.1⟩
     case false=>
      go_wp2;go_roundw
      case rel=>
       have h:=HRK2.out;rw [if_neg (by decide)] at h;exact ⟨q + 1,by omega,by go_num,zz h,zz ⟨HW3.out.1,HW3.out.2.1⟩⟩
      case measure=>simp [intOf];omega
  ·go_wp2;go_ret2;have hkn : k = n:=by omega
   subst hkn;have h:=HRK.out;rw [List.drop_of_length_le (by rw [HN.out];exact Nat.le_refl _)] at h;rw [h];exact ⟨rfl,HW.out.1⟩
end Go.Proofs.YtbbblemfodpmaaaGreat
end
section
namespace Go.Proofs.YtbbblemfodpmaaaGreat
open Go.RowKit
theorem find_some {α : Type} (p : α→Bool) (l : List α) : (l.find? p).isSome = l.any p:=by
 induction l with
 | nil=>rfl
 | cons y l ih=>
  rw [List.find?_cons,List.any_cons]
  cases h : p y
  ·simpa using ih
  ·simp
theorem at_any (js : List Joint) (id : Int) : (atA js id).isSome = js.any fun j=>decide (j.id = id):=by
 unfold atA;rw [Option.isSome_map,find_some]
theorem idx_neg {α : Type} (p : α→Bool) (l : List α) : decide (idxI p l < 0) = !l.any p:=by
 unfold idxI
 cases h : l.findIdx? p with
 | none=>
  have : l.any p = false:=by
   rw [List.findIdx?_eq_none_iff] at h;rw [List.any_eq_false];intro x hx;simpa using h x hx
  rw [this];rfl
 | some i=>
  rw [List.findIdx?_eq_some_iff_getElem] at h;obtain ⟨hlt,hp,_⟩:=h;have : l.any p = true:=List.any_eq_true.2 ⟨_,List.getElem_mem hlt,hp⟩;rw [this];simp
theorem right_eq (js : List Joint) (l : Lead) : zBI js l = (!(decide (l.id < 1) || decide (65535 < l.id) || decide (l.a = l.b) || decide (idxI (fun x=>decide (x.id = l.a)) js < 0) || decide (idxI (fun x=>decide (x.id = l.b)) js < 0)) && winI l.heart 64 && winI l.left 64 && winI l.right 64 && winI l.give 64 && winI l.cost 1000000):=by
 unfold zBI zBg;rw [at_any,at_any,idx_neg,idx_neg];have e1 : decide (1 ≤ l.id) = !decide (l.id < 1):=by by_cases h : l.id < 1 <;> simp [h] <;> omega
 have e2 : decide (l.id ≤ 65535) = !decide (65535 < l.id):=by by_cases h : 65535 < l.id <;> simp [h] <;> omega
 have e3 : (l.a != l.b) = !decide (l.a = l.b):=by by_cases h : l.a = l.b <;> simp [h]
 rw [e1,e2,e3];generalize decide (l.id < 1) = q1;generalize decide (65535 < l.id) = q2;generalize decide (l.a = l.b) = q3;generalize (js.any fun x=>decide (x.id = l.a)) = q4;generalize (js.any fun x=>decide (x.id = l.b)) = q5
 cases q1 <;> cases q2 <;> cases q3 <;> cases q4 <;> cases q5 <;> simp
theorem rvalid_any (sj : Sl Joint) (sl : Sl Lead) (l : Lead) (w : World) (hj : sj.OK 3 zAh zAs (fun _=>False) w) :
  Calls Tryz.prog 150 #[.agg #[.slice sj.a sj.val.length sj.cap, .slice sl.a sl.val.length sl.cap], .agg (zAd l)] w fun e w'=>e = .returned (.bool (zBI sj.val l))∧Below w.heap.size w w':=by
 have HB0 : Hid (Below w.heap.size w ((w.alloc (.cells #[.slice sj.a sj.val.length sj.cap, .slice sl.a sl.val.length sl.cap] 25)).alloc (.cells (zAd l) 31))):=zz ((((Lays.refl w).alloc _).alloc _).below (Nat.le_refl _));have HIX : Hid (∀ W id,Below w.heap.size w W→Calls Tryz.prog 121 #[.agg #[.slice sj.a sj.val.length sj.cap, .slice sl.a sl.val.length sl.cap], .int .i64 id] W fun e w'=>e = .returned (.int .i64 (idxI (fun x=>decide (x.id = id)) sj.val))∧Below W.heap.size W w'):=zz fun W id hW=>zE9 sj sl id W (hj.jmoved hW);have HBX : Hid (∀ W,Below ((w.alloc (.cells #[.slice sj.a sj.val.length sj.cap, .slice sl.a sl.val.length sl.cap] 25)).alloc (.cells (zAd l) 31)).heap.size ((w.alloc (.cells #[.slice sj.a sj.val.length sj.cap, .slice sl.a sl.val.length sl.cap] 25)).alloc (.cells (zAd l) 31)) W→zAe W w.heap.size 25 #[.slice sj.a sj.val.length sj.cap, .slice sl.a sl.val.length sl.cap]∧zAe W (w.heap.size + 1) 31 (zAd l)):=zz fun W hW=>by
  have h2:=zAe.new (w.alloc (.cells #[.slice sj.a sj.val.length sj.cap, .slice sl.a sl.val.length sl.cap] 25)) 31 (zAd l);rw [World.size_alloc] at h2;exact ⟨((zAe.new _ _ _).alloc _).belowAll hW,h2.belowAll hW⟩
 rw [right_eq];clear hj;obtain ⟨ia,hia⟩ : ∃ i,idxI (fun x=>decide (x.id = l.a)) sj.val = i:=⟨_,rfl⟩
 obtain ⟨ib,hib⟩ : ∃ i,idxI (fun x=>decide (x.id = l.b)) sj.val = i:=⟨_,rfl⟩
 have HIA:=zz fun W (hW : Below w.heap.size w W)=>HIX.out W l.a hW;have HIB:=zz fun W (hW : Below w.heap.size w W)=>HIX.out W l.b hW;simp only [hia] at HIA ⊢;simp only [hib] at HIB ⊢;clear hia hib HIX;go_enter Tryz.func150,Tryz.ntmps150
 by_cases h1 : l.id < 1
 ·go_wp2;go_ret;exact ⟨by simp [h1],HB0.out⟩
 by_cases h2 : 65535 < l.id
 ·go_wp2;go_ret;exact ⟨by simp [h2],HB0.out⟩
 by_cases h3 : l.a = l.b
 ·go_wp2;go_ret;exact ⟨by simp [h3],HB0.out⟩
 by_cases h4 : ia < 0
 ·go_wp2_with (go_at_call 121;refine (HIA.out _ HB0.out).mono ?_;rintro e w1 ⟨rfl,hb1⟩;have hB1:=HB0.out.trans (hb1.mono HB0.out.size);have d1:=HBX.out _ hb1;have z0:=(d1.1.cell 0).trans (show _ = some (.slice sj.a sj.val.length sj.cap) from rfl);have z1:=(d1.1.cell 1).trans (show _ = some (.slice sl.a sl.val.length sl.cap) from rfl);have z2:=(d1.2.cell 2).trans (show _ = some (.int .i64 l.b) from rfl))
  go_ret;exact ⟨by simp [h4],hB1⟩
 by_cases h5 : ib < 0
 ·go_wp2_with (first | (go_at_call 121;refine (HIB.out _ hB1).mono ?_;rintro e w2 ⟨rfl,hb2⟩;have hB2:=hB1.trans (hb2.mono hB1.size);have d2:=d1.2.belowAll hb2;have t3:=(d2.cell 3).trans (show _ = some (.int .i64 l.heart) from rfl);have t4:=(d2.cell 4).trans (show _ = some (.int .i64 l.left) from rfl);have t5:=(d2.cell 5).trans (show _ = some (.int .i64 l.right) from rfl);have t6:=(d2.cell 6).trans (show _ = some (.int .i64 l.give) from rfl);have t7:=(d2.cell 7).trans (show _ = some (.int .i64 l.cost) from rfl)) | (go_at_call 121;refine (HIA.out _ HB0.out).mono ?_;rintro e w1 ⟨rfl,hb1⟩;have hB1:=HB0.out.trans (hb1.mono HB0.out.size);have d1:=HBX.out _ hb1;have z0:=(d1.1.cell 0).trans (show _ = some (.slice sj.a sj.val.length sj.cap) from rfl);have z1:=(d1.1.cell 1).trans (show _ = some (.slice sl.a sl.val.length sl.cap) from rfl);have z2:=(d1.2.cell 2).trans (show _ = some (.int .i64 l.b) from rfl)))
  go_ret;exact ⟨by simp [h5],hB2⟩
 have hd : (!(decide (l.id < 1) || decide (65535 < l.id) || decide (l.a = l.b) || decide (ia < 0) || decide (ib < 0))) = true:=by simp [h1,h2,h3,h4,h5]
 rw [hd]
 by_cases hq0 : winI l.heart 64 = true
 case neg=>
  have hq0 : winI l.heart 64 = false:=by simpa using hq0
  go_wp2_with (first | (go_at_call 121;refine (HIB.out _ hB1).mono ?_;rintro e w2 ⟨rfl,hb2⟩;have hB2:=hB1.trans (hb2.mono hB1.size);have d2:=d1.2.belowAll hb2;have t3:=(d2.cell 3).trans (show _ = some (.int .i64 l.heart) from rfl);have t4:=(d2.cell 4).trans (show _ = some (.int .i64 l.left) from rfl);have t5:=(d2.cell 5).trans (show _ = some (.int .i64 l.right) from rfl);have t6:=(d2.cell 6).trans (show _ = some (.int .i64 l.give) from rfl);have t7:=(d2.cell 7).trans (show _ = some (.int .i64 l.cost) from rfl)) | (go_at_call 121;refine (HIA.out _ HB0.out).mono ?_;rintro e w1 ⟨rfl,hb1⟩;have hB1:=HB0.out.trans (hb1.mono HB0.out.size);have d1:=HBX.out _ hb1;have z0:=(d1.1.cell 0).trans (show _ = some (.slice sj.a sj.val.length sj.cap) from rfl);have z1:=(d1.1.cell 1).trans (show _ = some (.slice sl.a sl.val.length sl.cap) from rfl);have z2:=(d1.2.cell 2).trans (show _ = some (.int .i64 l.b) from rfl)) | (go_at_call 172;(with_reducible refine (zCT _ _ _).mono ?_);rintro e wx ⟨rfl,e5⟩;obtain rfl:=e5.symm;simp only [hq0]))
  all_goals (go_ret;exact ⟨by simp [hq0],hB2⟩)
 by_cases hq1 : winI l.left 64 = true
 case neg=>
  have hq1 : winI l.left 64 = false:=by simpa using hq1
  go_wp2_with (first | (go_at_call 121;refine (HIB.out _ hB1).mono ?_;rintro e w2 ⟨rfl,hb2⟩;have hB2:=hB1.trans (hb2.mono hB1.size);have d2:=d1.2.belowAll hb2;have t3:=(d2.cell 3).trans (show _ = some (.int .i64 l.heart) from rfl);have t4:=(d2.cell 4).trans (show _ = some (.int .i64 l.left) from rfl);have t5:=(d2.cell 5).trans (show _ = some (.int .i64 l.right) from rfl);have t6:=(d2.cell 6).trans (show _ = some (.int .i64 l.give) from rfl);have t7:=(d2.cell 7).trans (show _ = some (.int .i64 l.cost) from rfl)) | (go_at_call 121;refine (HIA.out _ HB0.out).mono ?_;rintro e w1 ⟨rfl,hb1⟩;have hB1:=HB0.out.trans (hb1.mono HB0.out.size);have d1:=HBX.out _ hb1;have z0:=(d1.1.cell 0).trans (show _ = some (.slice sj.a sj.val.length sj.cap) from rfl);have z1:=(d1.1.cell 1).trans (show _ = some (.slice sl.a sl.val.length sl.cap) from rfl);have z2:=(d1.2.cell 2).trans (show _ = some (.int .i64 l.b) from rfl)) | (go_at_call 172;(with_reducible refine (zCT _ _ _).mono ?_);rintro e wx ⟨rfl,e5⟩;obtain rfl:=e5.symm;simp only [hq0,hq1]))
  all_goals (go_ret;exact ⟨by simp [hq0,hq1],hB2⟩)
 by_cases hq2 : winI l.right 64 = true
 case neg=>
  have hq2 : winI l.right 64 = false:=by simpa using hq2
  go_wp2_with (first | (go_at_call 121;refine (HIB.out _ hB1).mono ?_;rintro e w2 ⟨rfl,hb2⟩;have hB2:=hB1.trans (hb2.mono hB1.size);have d2:=d1.2.belowAll hb2;have t3:=(d2.cell 3).trans (show _ = some (.int .i64 l.heart) from rfl);have t4:=(d2.cell 4).trans (show _ = some (.int .i64 l.left) from rfl);have t5:=(d2.cell 5).trans (show _ = some (.int .i64 l.right) from rfl);have t6:=(d2.cell 6).trans (show _ = some (.int .i64 l.give) from rfl);have t7:=(d2.cell 7).trans (show _ = some (.int .i64 l.cost) from rfl)) | (go_at_call 121;refine (HIA.out _ HB0.out).mono ?_;rintro e w1 ⟨rfl,hb1⟩;have hB1:=HB0.out.trans (hb1.mono HB0.out.size);have d1:=HBX.out _ hb1;have z0:=(d1.1.cell 0).trans (show _ = some (.slice sj.a sj.val.length sj.cap) from rfl);have z1:=(d1.1.cell 1).trans (show _ = some (.slice sl.a sl.val.length sl.cap) from rfl);have z2:=(d1.2.cell 2).trans (show _ = some (.int .i64 l.b) from rfl)) | (go_at_call 172;(with_reducible refine (zCT _ _ _).mono ?_);rintro e wx ⟨rfl,e5⟩;obtain rfl:=e5.symm;simp only [hq0,hq1,hq2]))
  all_goals (go_ret;exact ⟨by simp [hq0,hq1,hq2],hB2⟩)
 by_cases hq3 : winI l.give 64 = true
 case neg=>
  have hq3 : winI l.give 64 = false:=by simpa using hq3
  go_wp2_with (first | (go_at_call 121;refine (HIB.out _ hB1).mono ?_;rintro e w2 ⟨rfl,hb2⟩;have hB2:=hB1.trans (hb2.mono hB1.size);have d2:=d1.2.belowAll hb2;have t3:=(d2.cell 3).trans (show _ = some (.int .i64 l.heart) from rfl);have t4:=(d2.cell 4).trans (show _ = some (.int .i64 l.left) from rfl);have t5:=(d2.cell 5).trans (show _ = some (.int .i64 l.right) from rfl);have t6:=(d2.cell 6).trans (show _ = some (.int .i64 l.give) from rfl);have t7:=(d2.cell 7).trans (show _ = some (.int .i64 l.cost) from rfl)) | (go_at_call 121;refine (HIA.out _ HB0.out).mono ?_;rintro e w1 ⟨rfl,hb1⟩;have hB1:=HB0.out.trans (hb1.mono HB0.out.size);have d1:=HBX.out _ hb1;have z0:=(d1.1.cell 0).trans (show _ = some (.slice sj.a sj.val.length sj.cap) from rfl);have z1:=(d1.1.cell 1).trans (show _ = some (.slice sl.a sl.val.length sl.cap) from rfl);have z2:=(d1.2.cell 2).trans (show _ = some (.int .i64 l.b) from rfl)) | (go_at_call 172;(with_reducible refine (zCT _ _ _).mono ?_);rintro e wx ⟨rfl,e5⟩;obtain rfl:=e5.symm;simp only [hq0,hq1,hq2,hq3]))
  all_goals (go_ret;exact ⟨by simp [hq0,hq1,hq2,hq3],hB2⟩)
 by_cases hq4 : winI l.cost 1000000 = true
 case neg=>
  have hq4 : winI l.cost 1000000 = false:=by simpa using hq4
  go_wp2_with (first | (go_at_call 121;refine (HIB.out _ hB1).mono ?_;rintro e w2 ⟨rfl,hb2⟩;have hB2:=hB1.trans (hb2.mono hB1.size);have d2:=d1.2.belowAll hb2;have t3:=(d2.cell 3).trans (show _ = some (.int .i64 l.heart) from rfl);have t4:=(d2.cell 4).trans (show _ = some (.int .i64 l.left) from rfl);have t5:=(d2.cell 5).trans (show _ = some (.int .i64 l.right) from rfl);have t6:=(d2.cell 6).trans (show _ = some (.int .i64 l.give) from rfl);have t7:=(d2.cell 7).trans (show _ = some (.int .i64 l.cost) from rfl)) | (go_at_call 121;refine (HIA.out _ HB0.out).mono ?_;rintro e w1 ⟨rfl,hb1⟩;have hB1:=HB0.out.trans (hb1.mono HB0.out.size);have d1:=HBX.out _ hb1;have z0:=(d1.1.cell 0).trans (show _ = some (.slice sj.a sj.val.length sj.cap) from rfl);have z1:=(d1.1.cell 1).trans (show _ = some (.slice sl.a sl.val.length sl.cap) from rfl);have z2:=(d1.2.cell 2).trans (show _ = some (.int .i64 l.b) from rfl)) | (go_at_call 172;(with_reducible refine (zCT _ _ _).mono ?_);rintro e wx ⟨rfl,e5⟩;obtain rfl:=e5.symm;simp only [hq0,hq1,hq2,hq3,hq4]))
  all_goals (go_ret;exact ⟨by first | (simp [hq0,hq1,hq2,hq3,hq4];done) | (rename_i hh;rcases hh with (hh | hh) | hh <;> first | (exact absurd (by simpa using hh) h3) | omega),hB2⟩)
 go_wp2_with (first | (go_at_call 121;refine (HIB.out _ hB1).mono ?_;rintro e w2 ⟨rfl,hb2⟩;have hB2:=hB1.trans (hb2.mono hB1.size);have d2:=d1.2.belowAll hb2;have t3:=(d2.cell 3).trans (show _ = some (.int .i64 l.heart) from rfl);have t4:=(d2.cell 4).trans (show _ = some (.int .i64 l.left) from rfl);have t5:=(d2.cell 5).trans (show _ = some (.int .i64 l.right) from rfl);have t6:=(d2.cell 6).trans (show _ = some (.int .i64 l.give) from rfl);have t7:=(d2.cell 7).trans (show _ = some (.int .i64 l.cost) from rfl)) | (go_at_call 121;refine (HIA.out _ HB0.out).mono ?_;rintro e w1 ⟨rfl,hb1⟩;have hB1:=HB0.out.trans (hb1.mono HB0.out.size);have d1:=HBX.out _ hb1;have z0:=(d1.1.cell 0).trans (show _ = some (.slice sj.a sj.val.length sj.cap) from rfl);have z1:=(d1.1.cell 1).trans (show _ = some (.slice sl.a sl.val.length sl.cap) from rfl);have z2:=(d1.2.cell 2).trans (show _ = some (.int .i64 l.b) from rfl)) | (go_at_call 172;(with_reducible refine (zCT _ _ _).mono ?_);rintro e wx ⟨rfl,e5⟩;obtain rfl:=e5.symm;simp only [hq0,hq1,hq2,hq3,hq4]))
 all_goals (go_ret;exact ⟨by first | (simp [hq0,hq1,hq2,hq3,hq4];done) | (rename_i hh;rcases hh with (hh | hh) | hh <;> first | (exact absurd (by simpa using hh) h3) | omega),hB2⟩)
end Go.Proofs.YtbbblemfodpmaaaGreat
end
