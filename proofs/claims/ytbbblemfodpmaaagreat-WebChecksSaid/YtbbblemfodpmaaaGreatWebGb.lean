/-Keys of maps: ints, points, sides, pairs of ints.-/
import Derived.Test.YtbbblemfodpmaaaGreatMaps
import Derived.Test.YtbbblemfodpmaaaGreatEq
import Derived.Test.YtbbblemfodpmaaaGreatWebK
import Derived.Test.YtbbblemfodpmaaaGreatAppR
import Derived.Test.YtbbblemfodpmaaaGreatWebGa
import Derived.Sort.Grow
set_option linter.unusedVariables false
set_option linter.unusedSimpArgs false
set_option maxHeartbeats 16000000
set_option maxRecDepth 100000
section
namespace Go.Proofs.YtbbblemfodpmaaaGreat
open Go.RowKit
theorem zAQ : KeyOK Tryz.prog 3 vi I64:=KeyOK.of_keyed (Maps.int_keyed Tryz.underlying3) (fun {a b} h=>by simpa using h) (fun a ha=>⟨_,Maps.keyOf_int_mk Tryz.underlying3 (by unfold I64 at ha;simp [Lit.wf,IntKind.min,IntKind.max,IntKind.bits,IntKind.signed];omega)⟩)
section
variable {κ : Type} [DecidableEq κ] {K : κ→Value} {good : κ→Prop} {T : TypeId}
theorem gen_ask (he : ∀ a b w,(Op.equal T (K a) (K b)).run Tryz.prog w = .ok (decide (a = b)) w) (inj : ∀ {a b : κ},K a = K b→a = b) (r : κ) (w : World) : ∀ (es : List MapEntry) (i : Nat),(∀ e ∈ es,∃ x,e.key = K x∧good x)→
  ((Instr.findAsking T (K r) es i).run Tryz.prog w = .ok none w∧∀ e ∈ es,e.key ≠ K r) ∨
   ∃ j e,(Instr.findAsking T (K r) es i).run Tryz.prog w = .ok (some (i + j,e.val)) w∧es[j]? = some e∧e.key = K r
 | [],i,_=>.inl ⟨by simp [Instr.findAsking],by simp⟩
 | e :: es,i,h=>by
  obtain ⟨x,hx,_⟩:=h e (by simp);have he' : (Op.equal T (K r) e.key).run Tryz.prog w = .ok (decide (r = x)) w:=by rw [hx];exact he r x w
  by_cases hrx : r = x
  ·subst hrx;refine .inr ⟨0,e, ?_,rfl,hx⟩;simp [Instr.findAsking,Sem.run_bind,he']
  ·have hne : e.key ≠ K r:=fun e1=>hrx (by rw [hx] at e1;exact (inj e1).symm)
   rcases gen_ask he inj r w es (i + 1) (fun e he=>h e (by simp [he])) with ⟨h1,h2⟩ | ⟨j,e',h1,h2,h3⟩
   ·refine .inl ⟨?_,fun e1 h1=>?_⟩
    ·simp [Instr.findAsking,Sem.run_bind,he',hrx,h1]
    ·rcases List.mem_cons.1 h1 with rfl | h1
     ·exact hne
     ·exact h2 e1 h1
   ·refine .inr ⟨j + 1,e', ?_,by simpa using h2,h3⟩;simp [Instr.findAsking,Sem.run_bind,he',hrx,h1];omega
theorem gen_key (hf : ∀ (k : Value) (es : List MapEntry) w,(∀ d,Instr.findNow d k es 0 = none)→(Instr.findKey T k es).run Tryz.prog w = (Instr.findAsking T k es).run Tryz.prog w) (h0 : ∀ (k : Value) w,(Instr.findKey T k []).run Tryz.prog w = .ok none w)
  (inj : ∀ {a b : κ},K a = K b→a = b) (hc : ∀ a w em,(Instr.checkKey em 10000 T (K a)).run Tryz.prog w = .ok () w) (hs : ∀ a,Instr.sameBits 10000 (K a) (K a) = true) (hn : ∀ d a b,Instr.sameNow d (K a) (K b) = none)
  (he : ∀ a b w,(Op.equal T (K a) (K b)).run Tryz.prog w = .ok (decide (a = b)) w) : KeyOK Tryz.prog T K good where
 inj:=inj
 check {a} _ w em:=hc a w em
 stays {a} _ w:=by simp [Instr.keyThatStays,hs a]
 find {a} ha w es hes:=by
  by_cases e0 : es = []
  ·subst e0;exact .inl ⟨h0 _ _,by simp⟩
  ·have hnow : ∀ d,Instr.findNow d (K a) es 0 = none:=fun d=>by
    cases es with
    | nil=>exact absurd rfl e0
    | cons e l=>
     obtain ⟨x,hx,_⟩:=hes e (by simp);have : Instr.sameNow d (K a) e.key = none:=by rw [hx];exact hn d a x
     simp [Instr.findNow,this]
   rw [hf _ _ _ hnow]
   rcases gen_ask he inj a w es 0 hes with ⟨h2,h3⟩ | ⟨j,e,h2,h3,h4⟩
   ·exact .inl ⟨h2,h3⟩
   ·exact .inr ⟨j,e,by simpa using h2,h3,h4⟩
end
theorem zFj (n : Nat) (em : Bool) (x : Int) (w : World) : (Instr.checkKey em (n + 1) 3 (vi x)).run Tryz.prog w = .ok () w:=by
 simp [Instr.checkKey,Sem.run_bind,run_underlying Tryz.underlying3]
theorem check_bool (n : Nat) (em : Bool) (x : Bool) (w : World) : (Instr.checkKey em (n + 1) 4 (.bool x)).run Tryz.prog w = .ok () w:=by
 simp [Instr.checkKey,Sem.run_bind,run_underlying Tryz.underlying4]
def zAL (p : Point) : Value:=.agg (zAb p)
def zCv (s : Side) : Value:=.agg (zAa s)
def zDH (p : Int × Int) : Value:=.agg #[vi p.1,vi p.2]
theorem zEW : KeyOK Tryz.prog 27 zAL (fun _=>True):=by
 refine gen_key (fun k es w h=>?_) (fun k w=>?_) (fun {a b} h=>?_) (fun a w em=>?_) (fun a=>?_) (fun d a b=>?_) (fun a b w=>?_)
 ·simp [Instr.findKey,Sem.run_bind,run_underlying Tryz.underlying27,h]
 ·simp [Instr.findKey,Sem.run_bind,run_underlying Tryz.underlying27,Instr.findNow]
 ·obtain ⟨a1,a2⟩:=a;obtain ⟨b1,b2⟩:=b;simp [zAL,zAb] at h;rw [h.1,h.2]
 ·rw [show (10000 : Nat) = 9998 + 1 + 1 from rfl];unfold zAL zAb;rw [Instr.checkKey];simp [Sem.run_bind,run_underlying Tryz.underlying27,zFj,go_sem]
 ·rw [show (10000 : Nat) = 9998 + 1 + 1 from rfl];simp [zAL,zAb,Instr.sameBits]
 ·cases d <;> simp [Instr.sameNow,zAL]
 ·unfold Op.equal zAL;rw [show Op.maxDepth = 9996 + 4 from rfl];exact zD2 9996 a b w
theorem sideKey : KeyOK Tryz.prog 59 zCv (fun _=>True):=by
 refine gen_key (fun k es w h=>?_) (fun k w=>?_) (fun {a b} h=>?_) (fun a w em=>?_) (fun a=>?_) (fun d a b=>?_) (fun a b w=>?_)
 ·simp [Instr.findKey,Sem.run_bind,run_underlying Tryz.underlying59,h]
 ·simp [Instr.findKey,Sem.run_bind,run_underlying Tryz.underlying59,Instr.findNow]
 ·obtain ⟨a1,a2⟩:=a;obtain ⟨b1,b2⟩:=b;simp [zCv,zAa] at h;rw [h.1,h.2]
 ·rw [show (10000 : Nat) = 9998 + 1 + 1 from rfl];unfold zCv zAa;rw [Instr.checkKey];simp [Sem.run_bind,run_underlying Tryz.underlying59,zFj,check_bool,go_sem]
 ·rw [show (10000 : Nat) = 9998 + 1 + 1 from rfl];simp [zCv,zAa,Instr.sameBits]
 ·cases d <;> simp [Instr.sameNow,zCv]
 ·unfold Op.equal zCv;rw [show Op.maxDepth = 9996 + 4 from rfl];exact zEb 9996 a b w
theorem pairKey : KeyOK Tryz.prog 203 zDH (fun _=>True):=by
 refine gen_key (fun k es w h=>?_) (fun k w=>?_) (fun {a b} h=>?_) (fun a w em=>?_) (fun a=>?_) (fun d a b=>?_) (fun a b w=>?_)
 ·simp [Instr.findKey,Sem.run_bind,run_underlying Tryz.underlying203,h]
 ·simp [Instr.findKey,Sem.run_bind,run_underlying Tryz.underlying203,Instr.findNow]
 ·obtain ⟨a1,a2⟩:=a;obtain ⟨b1,b2⟩:=b;simp [zDH] at h;rw [h.1,h.2]
 ·rw [show (10000 : Nat) = 9998 + 1 + 1 from rfl];unfold zDH;rw [Instr.checkKey];simp [Sem.run_bind,run_underlying Tryz.underlying203,zFj,go_sem,show List.range' 0 2 = [0,1] from rfl,Tryz.sizeOf3,Tryz.isAgg3]
 ·rw [show (10000 : Nat) = 9998 + 1 + 1 from rfl];simp [zDH,Instr.sameBits]
 ·cases d <;> simp [Instr.sameNow,zDH]
 ·unfold Op.equal zDH;rw [show Op.maxDepth = 9998 + 2 from rfl];have h:=zFS w 9998 203 3 [a.1,a.2] [b.1,b.2] 2 Tryz.underlying203 Tryz.underlying3 (by kernel_rfl) rfl rfl;refine Eq.trans h ?_;obtain ⟨a1,a2⟩:=a;obtain ⟨b1,b2⟩:=b;simp
end Go.Proofs.YtbbblemfodpmaaaGreat
end
section
namespace Go.Proofs.YtbbblemfodpmaaaGreat
open Go.RowKit
open Go.Sort (grow alloc_eq_grow)
def Lays (w w' : World) : Prop:=∃ q os,w' = grow (w.drewN q) os
theorem Lays.refl (w : World) : Lays w w:=⟨0,#[],by simp [grow,World.drewN]⟩
theorem Lays.trans {a b c : World} (h : Lays a b) (k : Lays b c) : Lays a c:=by
 obtain ⟨q,os,rfl⟩:=h;obtain ⟨q',os',rfl⟩:=k;exact ⟨q + q',os ++ os',by simp [grow,World.drewN,Array.append_assoc,Nat.add_assoc]⟩
theorem Lays.alloc {w w' : World} (h : Lays w w') (o : Obj) : Lays w (w'.alloc o):=h.trans ⟨0,#[o],by rw [alloc_eq_grow];simp [World.drewN]⟩
theorem Lays.drew {w w' : World} (h : Lays w w') : Lays w w'.drew:=h.trans ⟨1,#[],by rw [Go.Sort.grow_empty];rfl⟩
theorem Lays.below {w w' : World} {n : Nat} (h : Lays w w') (hn : n ≤ w.heap.size) : Below n w w':=by
 obtain ⟨q,os,rfl⟩:=h;refine ⟨rfl,rfl,rfl,by simp [grow,World.drewN],fun k hk=>?_⟩;simp only [grow,World.drewN];rw [Array.getElem?_append_left (by omega)]
def zAy (p : Point) : Prop:=0 ≤ p.x∧p.x ≤ 4096∧0 ≤ p.y∧p.y ≤ 4096
theorem webWithin (n m : Int) (w : World) :
  Calls Tryz.prog 118 #[.int .i64 n, .int .i64 m] w fun e w'=>e = .returned (.bool (winI n m))∧w = w':=by
 go_enter Tryz.func118,Tryz.ntmps118;go_wp2
 all_goals (go_ret;exact ⟨by simp [winI, *];try omega,rfl⟩)
theorem zFk (n : Int) (w : World) :
  Calls Tryz.prog 143 #[.int .i64 n] w fun e w'=>e = .returned (.bool (zBg n))∧w = w':=by
 go_enter Tryz.func143,Tryz.ntmps143;go_wp2
 all_goals (go_ret;exact ⟨by simp [zBg, *];try omega,rfl⟩)
theorem cmpNaN (n : Int) (w : World) :
  Calls Tryz.prog 169 #[.int .i64 n] w fun e w'=>e = .returned (.bool false)∧w = w':=by
 go_enter Tryz.func169,Tryz.ntmps169;go_wp2;go_ret;exact ⟨by simp,rfl⟩
theorem zDA (x y : Int) (w : World) :
  Calls Tryz.prog 113 #[.int .i64 x, .int .i64 y] w fun e w'=>e = .returned (.int .i64 (cmpZ x y))∧w = w':=by
 go_enter Tryz.func113,Tryz.ntmps113
 go_wp2_with (go_at_call 169;(with_reducible refine (cmpNaN _ _).mono ?_);rintro e w' ⟨rfl,rfl⟩)
 all_goals (go_ret;exact ⟨by unfold cmpZ;simp [*];try omega,rfl⟩)
theorem planeWithin (n lo hi : Int) (w : World) :
  Calls Tryz.prog 178 #[.int .i64 n, .int .i64 lo, .int .i64 hi] w fun e w'=>e = .returned (.bool (decide (lo ≤ n) && decide (n ≤ hi)))∧w = w':=by
 go_enter Tryz.func178,Tryz.ntmps178;go_wp2
 all_goals (go_ret;exact ⟨by simp [*];try omega,rfl⟩)
theorem zBt {x y : Int} (h1 : -4096 ≤ x) (h2 : x ≤ 4096) (h3 : -4096 ≤ y) (h4 : y ≤ 4096) : -16777216 ≤ x * y∧x * y ≤ 16777216:=by
 have a1 : 0 ≤ (4096 - x) * (4096 - y):=Int.mul_nonneg (by omega) (by omega);have a2 : 0 ≤ (4096 + x) * (4096 + y):=Int.mul_nonneg (by omega) (by omega);have a3 : 0 ≤ (4096 - x) * (4096 + y):=Int.mul_nonneg (by omega) (by omega);have a4 : 0 ≤ (4096 + x) * (4096 - y):=Int.mul_nonneg (by omega) (by omega);have e1 : (4096 - x) * (4096 - y) + (4096 + x) * (4096 + y) = 33554432 + 2 * (x * y):=by grind
 have e2 : (4096 - x) * (4096 + y) + (4096 + x) * (4096 - y) = 33554432 - 2 * (x * y):=by grind
 omega
theorem zCK (a b c : Point) (ha : zAy a) (hb : zAy b) (hc : zAy c) (w : World) :
  Calls Tryz.prog 146 #[.agg (zAb a), .agg (zAb b), .agg (zAb c)] w fun e w'=>e = .returned (.int .i64 (zAw a b c))∧Lays w w':=by
 obtain ⟨a1,a2,a3,a4⟩:=ha;obtain ⟨b1,b2,b3,b4⟩:=hb;obtain ⟨c1,c2,c3,c4⟩:=hc;obtain ⟨p0,q0⟩:=zBt (x:=b.x - a.x) (y:=c.y - a.y) (by omega) (by omega) (by omega) (by omega);have k0 : IntKind.i64.wrap ((b.x - a.x) * (c.y - a.y)) = (b.x - a.x) * (c.y - a.y):=IntWalk.i64_in _ (by omega);obtain ⟨p1,q1⟩:=zBt (x:=b.y - a.y) (y:=c.x - a.x) (by omega) (by omega) (by omega) (by omega);have k1 : IntKind.i64.wrap ((b.y - a.y) * (c.x - a.x)) = (b.y - a.y) * (c.x - a.x):=IntWalk.i64_in _ (by omega);have k9 : IntKind.i64.wrap ((b.x - a.x) * (c.y - a.y) - (b.y - a.y) * (c.x - a.x)) = (b.x - a.x) * (c.y - a.y) - (b.y - a.y) * (c.x - a.x):=IntWalk.i64_in _ (by omega);go_enter Tryz.func146,Tryz.ntmps146;go_wp2;go_ret;exact ⟨by simp [zAw],(((Lays.refl _).alloc _).alloc _).alloc _⟩
theorem dot_any (a b c : Point) (ha : zAy a) (hb : zAy b) (hc : zAy c) (w : World) :
  Calls Tryz.prog 147 #[.agg (zAb a), .agg (zAb b), .agg (zAb c)] w fun e w'=>e = .returned (.int .i64 (dotP a b c))∧Lays w w':=by
 obtain ⟨a1,a2,a3,a4⟩:=ha;obtain ⟨b1,b2,b3,b4⟩:=hb;obtain ⟨c1,c2,c3,c4⟩:=hc;obtain ⟨p0,q0⟩:=zBt (x:=b.x - a.x) (y:=c.x - a.x) (by omega) (by omega) (by omega) (by omega);have k0 : IntKind.i64.wrap ((b.x - a.x) * (c.x - a.x)) = (b.x - a.x) * (c.x - a.x):=IntWalk.i64_in _ (by omega);obtain ⟨p1,q1⟩:=zBt (x:=b.y - a.y) (y:=c.y - a.y) (by omega) (by omega) (by omega) (by omega);have k1 : IntKind.i64.wrap ((b.y - a.y) * (c.y - a.y)) = (b.y - a.y) * (c.y - a.y):=IntWalk.i64_in _ (by omega);have k9 : IntKind.i64.wrap ((b.x - a.x) * (c.x - a.x) + (b.y - a.y) * (c.y - a.y)) = (b.x - a.x) * (c.x - a.x) + (b.y - a.y) * (c.y - a.y):=IntWalk.i64_in _ (by omega);go_enter Tryz.func147,Tryz.ntmps147;go_wp2;go_ret;exact ⟨by simp [dotP],(((Lays.refl _).alloc _).alloc _).alloc _⟩
theorem on_any (a b c : Point) (ha : zAy a) (hb : zAy b) (hc : zAy c) (w : World) :
  Calls Tryz.prog 78 #[.agg (zAb a), .agg (zAb b), .agg (zAb c)] w fun e w'=>e = .returned (.bool (onP a b c))∧Lays w w':=by
 have h0 : zAe (((w.alloc (.cells (zAb a) 27)).alloc (.cells (zAb b) 27)).alloc (.cells (zAb c) 27)) w.heap.size 27 (zAb a):=((zAe.new _ _ _).alloc _).alloc _;have h1 : zAe (((w.alloc (.cells (zAb a) 27)).alloc (.cells (zAb b) 27)).alloc (.cells (zAb c) 27)) (w.heap.size + 1) 27 (zAb b):=by have h:=zAe.new (w.alloc (.cells (zAb a) 27)) 27 (zAb b);rw [World.size_alloc] at h;exact h.alloc _
 have h2 : zAe (((w.alloc (.cells (zAb a) 27)).alloc (.cells (zAb b) 27)).alloc (.cells (zAb c) 27)) (w.heap.size + 2) 27 (zAb c):=by have h:=zAe.new ((w.alloc (.cells (zAb a) 27)).alloc (.cells (zAb b) 27)) 27 (zAb c);rw [World.size_alloc,World.size_alloc] at h;exact h
 have hL : Lays w (((w.alloc (.cells (zAb a) 27)).alloc (.cells (zAb b) 27)).alloc (.cells (zAb c) 27)):=(((Lays.refl w).alloc _).alloc _).alloc _;have hon : onP a b c = (zAw a b c == 0 && decide (dotP c a b ≤ 0)):=rfl;have HON:=zz hon;clear hon
 cases hz : (zAw a b c == 0)
 all_goals
  go_enter Tryz.func78,Tryz.ntmps78
  go_wp2_with (first
   | (refine zLd 7 h0 (zAb a) zuB ?_)
   | (refine zLd 8 h1 (zAb b) zuB ?_)
   | (refine zLd 9 h2 (zAb c) zuB ?_)
   | (go_at_call 146;refine (zCK a b c ha hb hc _).mono ?_;rintro e w1 ⟨rfl,l1⟩;have hb1:=l1.below (Nat.le_refl _);have g0:=h0.belowAll hb1;have g1:=h1.belowAll hb1;have g2:=h2.belowAll hb1;clear hb1)
   | (refine zLd 13 g2 (zAb c) zuB ?_)
   | (refine zLd 14 g0 (zAb a) zuB ?_)
   | (refine zLd 15 g1 (zAb b) zuB ?_)
   | (go_at_call 147;refine (dot_any c a b hc ha hb _).mono ?_;rintro e w2 ⟨rfl,l2⟩))
  go_ret
  first | exact ⟨by simp [HON.out,hz],(hL.trans l1).trans l2⟩ | exact ⟨by simp [HON.out,hz],hL.trans l1⟩
theorem lower_any (a b : Point) (w : World) :
  Calls Tryz.prog 230 #[.agg (zAb a), .agg (zAb b)] w fun e w'=>e = .returned (.bool (zBi a b))∧Lays w w':=by
 have H : Hid (zBi a b = (decide (b.y < a.y) || (b.y == a.y && decide (b.x < a.x)))):=zz rfl
 cases h1 : decide (b.y < a.y) <;> cases h2 : (b.y == a.y)
 all_goals
  go_enter Tryz.func230,Tryz.ntmps230;go_wp2;go_ret;exact ⟨by simp [H.out,h1,h2],((Lays.refl _).alloc _).alloc _⟩
theorem zEO (a : Point) (w : World) :
  Calls Tryz.prog 131 #[.agg (zAb a)] w fun e w'=>e = .returned (.bool (inP a))∧Lays w w':=by
 have H : Hid (inP a = ((decide (0 ≤ a.x) && decide (a.x ≤ 4096)) && (decide (0 ≤ a.y) && decide (a.y ≤ 4096)))):=zz rfl
 cases h1 : (decide (0 ≤ a.x) && decide (a.x ≤ 4096))
 all_goals
  go_enter Tryz.func131,Tryz.ntmps131
  go_wp2_with (go_at_call 178;(with_reducible refine (planeWithin _ _ _ _).mono ?_);rintro e w' ⟨rfl,rfl⟩)
  go_ret;exact ⟨by simp [H.out,h1],(Lays.refl _).alloc _⟩
theorem cmpDir_any (a b c : Point) (ha : zAy a) (hb : zAy b) (hc : zAy c) (w : World) :
  Calls Tryz.prog 213 #[.agg (zAb a), .agg (zAb b), .agg (zAb c)] w fun e w'=>e = .returned (.int .i64 (zEH a b c))∧Lays w w':=by
 have h0 : zAe (((w.alloc (.cells (zAb a) 27)).alloc (.cells (zAb b) 27)).alloc (.cells (zAb c) 27)).drew w.heap.size 27 (zAb a):=(((zAe.new _ _ _).alloc _).alloc _).drew;have h1 : zAe (((w.alloc (.cells (zAb a) 27)).alloc (.cells (zAb b) 27)).alloc (.cells (zAb c) 27)).drew (w.heap.size + 1) 27 (zAb b):=by have h:=zAe.new (w.alloc (.cells (zAb a) 27)) 27 (zAb b);rw [World.size_alloc] at h;exact (h.alloc _).drew
 have h2 : zAe (((w.alloc (.cells (zAb a) 27)).alloc (.cells (zAb b) 27)).alloc (.cells (zAb c) 27)).drew (w.heap.size + 2) 27 (zAb c):=by have h:=zAe.new ((w.alloc (.cells (zAb a) 27)).alloc (.cells (zAb b) 27)) 27 (zAb c);rw [World.size_alloc,World.size_alloc] at h;exact h.drew
 have hL : Lays w (((w.alloc (.cells (zAb a) 27)).alloc (.cells (zAb b) 27)).alloc (.cells (zAb c) 27)).drew:=((((Lays.refl w).alloc _).alloc _).alloc _).drew;have H : Hid (zEH a b c = if !zBi a b && zBi a c then -1 else if zBi a b && !zBi a c then 1 else cmpZ 0 (zAw a b c)):=zz rfl
 cases x1 : zBi a b <;> cases x2 : zBi a c
 all_goals
  go_enter Tryz.func213,Tryz.ntmps213;go_wp2;refine rgO [(0,true),(1,true),(3,true),(4,true),(2,false),(5,false),(6,true),(7,true)] ?_;refine zAf (v:=.agg (zAb a)) rfl rfl (fun W hW=>zAc (zAb a) (h0.belowAll hW) rfl (zAg _) zuB) ?_;simp only [pT];refine zAf (v:=.agg (zAb b)) rfl rfl (fun W hW=>zAc (zAb b) (h1.belowAll hW) rfl (zAg _) zuB) ?_;simp only [pT];refine zAf (v:=.agg (zAb a)) rfl rfl (fun W hW=>zAc (zAb a) (h0.belowAll hW) rfl (zAg _) zuB) ?_;simp only [pT];refine zAf (v:=.agg (zAb c)) rfl rfl (fun W hW=>zAc (zAb c) (h2.belowAll hW) rfl (zAg _) zuB) ?_;simp only [pT];refine zAG rfl rfl (fun K hK=>?_)
  go_simp
  refine (lower_any a b _).mono ?_;rintro e w1 ⟨rfl,l1⟩;have hb1:=l1.below (Nat.le_refl _);have g0:=h0.belowAll hb1;have g1:=h1.belowAll hb1;have g2:=h2.belowAll hb1;refine hK _ _ hb1 ?_;clear hK K
  try simp only [pT]
  refine zAG rfl rfl (fun K hK=>?_)
  go_simp
  refine (lower_any a c _).mono ?_;rintro e w2 ⟨rfl,l2⟩;have hb2:=l2.below (Nat.le_refl _);have j0:=g0.belowAll hb2;have j1:=g1.belowAll hb2;have j2:=g2.belowAll hb2;refine hK _ _ hb2 ?_;clear hK K
  try simp only [pT]
  iterate 2 (refine wB rfl ?_;simp only [pT])
  simp only [wpB]
  go_wp2_with (first
   | (refine zLd 27 j0 (zAb a) zuB ?_)
   | (refine zLd 28 j1 (zAb b) zuB ?_)
   | (refine zLd 29 j2 (zAb c) zuB ?_)
   | (go_at_call 146;refine (zCK a b c ha hb hc _).mono ?_;rintro e w3 ⟨rfl,l3⟩)
   | (go_at_call 113;refine (zDA _ _ _).mono ?_;rintro e w4 ⟨rfl,rfl⟩))
  go_ret
  first | exact ⟨by simp [H.out,x1,x2],(hL.trans (l1.trans l2)).trans l3⟩ | exact ⟨by simp [H.out,x1,x2],hL.trans (l1.trans l2)⟩
end Go.Proofs.YtbbblemfodpmaaaGreat
end
section
namespace Go.Proofs.YtbbblemfodpmaaaGreat
open Go.RowKit
theorem zA6 {κ ν : Type} [DecidableEq κ] {P : Program} {Km : κ→Value} {V : ν→Value} {good : κ→Prop} {W : World} {b : Nat} {m : List (κ × ν)} {kt et : TypeId} {ev : Operand→Value} {dst : Option Tmp} {ty0 : TypeId} {pos : String} {af : Array Edge} {g : Option (Nat × Bool)}
  {mm x : Operand} {t : TypeId} {c : Bool} (KO : KeyOK P kt Km good) (ht : P.underlying t = some (.map kt et)) (d : ν) (hz : (zeroValue et).run P W = .ok (V d) W)
  (hm : ev mm = .map (some b)) (h : MapAt Km V good W b m) (k : κ) (hk : good k) (hx : ev x = Km k) :
  (execOp ev ⟨dst, .lookup t mm x c,ty0,pos,af,g⟩).run P W = .ok (.value (if c then .tuple #[V ((aget m k).getD d), .bool (ahas m k)] else V ((aget m k).getD d))) W:=by
 have hrun:=h.look KO ht c d hz hk;simp [execOp,hm,hx,hrun,Result.andThen]
theorem zFl {P : Program} {o : Oper} {a : Act} {K : Act→World→Prop} {Q : Exit→Act→World→Prop} (ty : TypeId) (x y : Operand) (ho : o.op = .store ty x y)
  (W : World) (old cs : Array Value) (hx : a.eval x = .pointer (some ⟨W.heap.size,0,none⟩)) (hy : a.eval y = .agg cs)
  (hi : (P.info? ty).map (·.size) = some cs.size) (ho2 : old.size = cs.size) (h1 : cs.all (·.oneCell') = true)
  (h : K (a.put o.dst undef) (W.alloc (.cells cs ty))) : o.wp P a (W.alloc (.cells old ty)) K Q:=by
 unfold Oper.wp execOp;simp only [ho,hx,hy,Sem.run_bind,run_storeAt_new W ty old cs hi ho2 h1,Result.andThen_ok,Sem.run_pure];exact h
theorem Lays.drews {w w' : World} (h : Lays w w') (n : Nat) : Lays w (w'.drewN n):=h.trans ⟨n,#[],by rw [Go.Sort.grow_empty]⟩
def zC7 (l : Lead) : Value:=.agg (zAd l)
def zA7 (js : List Joint) : List (Int × Point):=js.map fun j=>(j.id,j.at_)
def zCc (ls : List Lead) : List (Int × Lead):=ls.map fun l=>(l.id,l)
theorem zBf (js : List Joint) (id : Int) : aget (zA7 js) id = atA js id:=by
 unfold aget zA7 atA;rw [List.find?_map,Option.map_map]
 rfl
theorem leadM_get (ls : List Lead) (id : Int) : aget (zCc ls) id = zBT ls id:=by
 unfold aget zCc zBT;rw [List.find?_map,Option.map_map];simp [Function.comp_def]
theorem zeroLead (w : World) : (zeroValue 31).run Tryz.prog w = .ok (zC7 zCW) w:=by kernel_rfl
theorem zBq (w : World) : (zeroValue 27).run Tryz.prog w = .ok (zAL zAF) w:=by kernel_rfl
theorem ends_any {b bl : Nat} {ls : List Lead} (s : Side) (w : World) (hb : b < w.heap.size) (hc : w.cell? ⟨b,3,none⟩ = some (.map (some bl))) (hm : MapAt vi zC7 I64 w bl (zCc ls)) (hi : I64 s.lead) :
  Calls Tryz.prog 111 #[.pointer (some ⟨b,0,none⟩), .agg (zAa s)] w fun e w'=>e = .returned (.tuple #[.int .i64 (zAl ls s).1, .int .i64 (zAl ls s).2])∧Lays w w':=by
 obtain ⟨l,hl⟩ : ∃ l,(zBT ls s.lead).getD zCW = l:=⟨_,rfl⟩
 have HE : Hid (zAl ls s = if s.back then (l.b,l.a) else (l.a,l.b)):=zz (by unfold zAl;rw [hl]);have HL:=zz hl;have HI:=zz hi;have hbs : zAe (w.alloc (.cells (zAa s) 59)).drew w.heap.size 59 (zAa s):=(zAe.new _ _ _).drew;have hmd : MapAt vi zC7 I64 (w.alloc (.cells (zAa s) 59)).drew bl (zCc ls):=(hm.alloc _).of_block rfl;have hcd : (w.alloc (.cells (zAa s) 59)).drew.cell? ⟨b,3,none⟩ = some (.map (some bl)):=(((Below.refl w.heap.size w).alloc (Nat.le_refl _) (.cells (zAa s) 59)).cell (p:=⟨b,3,none⟩) hb).trans hc;have hbl : b < (w.alloc (.cells (zAa s) 59)).drew.heap.size:=by show b < (w.alloc _).heap.size;simp;omega
 clear hl hc hm hi hb
 rcases hback : s.back
 all_goals
  go_enter Tryz.func111,Tryz.ntmps111;go_wp2;refine rgM 8 [(0,none),(1,none),(2,none),(4,none),(3,some true),(5,some true),(6,some true),(7,some false),(8,some false)] ?_;iterate 4 (refine wC rfl ?_;simp only [pT])
  refine zAN (v:=.map (some bl)) rfl rfl (fun W hW=>by have e : W.cell? ⟨b,3,none⟩ = some (.map (some bl)):=(hW.cell (p:=⟨b,3,none⟩) hbl).trans hcd;go_simp) ?_;simp only [pT];refine zAN (v:=.int .i64 s.lead) rfl rfl (fun W hW=>by have e : W.cell? ⟨w.heap.size,0,none⟩ = some (.int .i64 s.lead):=((hbs.belowAll hW).cell 0).trans rfl;go_simp) ?_;simp only [pT];refine zAN (v:=zC7 l) rfl rfl (fun W hW=>Eq.trans (zA6 zAQ Tryz.underlying122 zCW (zeroLead _) rfl (hmd.below hW hmd.lt) s.lead HI.out rfl) (by rw [leadM_get,HL.out];rfl)) ?_;simp only [pT];refine wpC_act rfl rfl rfl (fun K hK=>?_)
  go_simp
  refine hK _ _ ((Below.refl _ _).alloc (Nat.le_refl _) _) ?_;clear hK K
  try simp only [pT]
  refine zBk rfl rfl (fun K hK=>?_);refine zFl 31 _ _ rfl ((w.alloc (.cells (zAa s) 59)).drew) (zAd zCW) (zAd l) (by show Value.pointer (some ⟨w.heap.size + 1,0,none⟩) = _;simp) rfl (by kernel_rfl) rfl (zA9 _) ?_;refine hK _ _ ?_;clear hK K
  try simp only [pT]
  simp only [wpC];go_wp2
  go_quiet (fail)
  go_wp2;go_ret2;exact ⟨by simp [HE.out,hback],(((Lays.refl _).alloc _).drew.alloc _).drews _⟩
theorem has_any {b bl : Nat} {ls : List Lead} (s : Side) (w : World) (hb : b < w.heap.size) (hc : w.cell? ⟨b,3,none⟩ = some (.map (some bl))) (hm : MapAt vi zC7 I64 w bl (zCc ls)) (hi : I64 s.lead) :
  Calls Tryz.prog 115 #[.pointer (some ⟨b,0,none⟩), .agg (zAa s)] w fun e w'=>e = .returned (.bool (zBT ls s.lead).isSome)∧Lays w w':=by
 obtain ⟨l,hl⟩ : ∃ l,(zBT ls s.lead).getD zCW = l:=⟨_,rfl⟩
 have HL:=zz hl;have HI:=zz hi;have hbs : zAe (w.alloc (.cells (zAa s) 59)).drew w.heap.size 59 (zAa s):=(zAe.new _ _ _).drew;have hmd : MapAt vi zC7 I64 (w.alloc (.cells (zAa s) 59)).drew bl (zCc ls):=(hm.alloc _).of_block rfl;have hcd : (w.alloc (.cells (zAa s) 59)).drew.cell? ⟨b,3,none⟩ = some (.map (some bl)):=(((Below.refl w.heap.size w).alloc (Nat.le_refl _) (.cells (zAa s) 59)).cell (p:=⟨b,3,none⟩) hb).trans hc;have hbl : b < (w.alloc (.cells (zAa s) 59)).drew.heap.size:=by show b < (w.alloc _).heap.size;simp;omega
 clear hl hc hm hi hb;go_enter Tryz.func115,Tryz.ntmps115;go_wp2;refine rgM 11 [(0,none),(1,none),(2,none),(4,none),(3,some true),(5,some true),(6,some true),(7,none),(8,none),(9,none),(10,some false),(11,some false),(12,some false)] ?_;iterate 4 (refine wC rfl ?_;simp only [pT])
 refine zAN (v:=.map (some bl)) rfl rfl (fun W hW=>by have e : W.cell? ⟨b,3,none⟩ = some (.map (some bl)):=(hW.cell (p:=⟨b,3,none⟩) hbl).trans hcd;go_simp) ?_;simp only [pT];refine zAN (v:=.int .i64 s.lead) rfl rfl (fun W hW=>by have e : W.cell? ⟨w.heap.size,0,none⟩ = some (.int .i64 s.lead):=((hbs.belowAll hW).cell 0).trans rfl;go_simp) ?_;simp only [pT];refine zAN (v:=.tuple #[zC7 l, .bool (zBT ls s.lead).isSome]) rfl rfl (fun W hW=>Eq.trans (zA6 zAQ Tryz.underlying122 zCW (zeroLead _) rfl (hmd.below hW hmd.lt) s.lead HI.out rfl) (by rw [← zBm,leadM_get,HL.out];rfl)) ?_;simp only [pT];iterate 3 (refine wC rfl ?_;simp only [pT])
 refine wpC_act rfl rfl rfl (fun K hK=>?_)
 go_simp
 refine hK _ _ ((Below.refl _ _).alloc (Nat.le_refl _) _) ?_;clear hK K
 try simp only [pT]
 refine zBk rfl rfl (fun K hK=>?_);refine zFl 31 _ _ rfl ((w.alloc (.cells (zAa s) 59)).drew) (zAd zCW) (zAd l) (by show Value.pointer (some ⟨w.heap.size + 1,0,none⟩) = _;simp) rfl (by kernel_rfl) rfl (zA9 _) ?_;refine hK _ _ ?_;clear hK K
 try simp only [pT]
 refine zBy rfl rfl (fun K hK=>?_)
 go_simp
 refine hK _ _ ?_;clear hK K
 try simp only [pT]
 simp only [wpC];go_wp2;go_ret;exact ⟨rfl,((Lays.refl _).alloc _).drew.alloc _⟩
theorem compare_any {b ba bl : Nat} {js : List Joint} {ls : List Lead} (j : Int) (s t : Side) (w : World) (hb : b < w.heap.size) (hc2 : w.cell? ⟨b,2,none⟩ = some (.map (some ba))) (hc3 : w.cell? ⟨b,3,none⟩ = some (.map (some bl)))
  (hma : MapAt vi zAL I64 w ba (zA7 js)) (hml : MapAt vi zC7 I64 w bl (zCc ls)) (hj : I64 j) (hs : I64 s.lead) (ht : I64 t.lead) (hsm : ∀ id,zAy (ptA js id)) (hep : ∀ x : Side,I64 (zAl ls x).2) :
  Calls Tryz.prog 187 #[.agg #[.pointer (some ⟨b,0,none⟩), .int .i64 j], .agg (zAa s), .agg (zAa t)] w fun e w'=>e = .returned (.int .i64 (zEH (ptA js j) (ptA js (zAl ls s).2) (ptA js (zAl ls t).2)))∧Lays w w':=by
 have HSM:=zz hsm;have HJ:=zz hj;have HS:=zz hs;have HT:=zz ht;obtain ⟨p,hp⟩ : ∃ p,(zAl ls s).2 = p:=⟨_,rfl⟩
 obtain ⟨q,hq⟩ : ∃ q,(zAl ls t).2 = q:=⟨_,rfl⟩
 have HPI : Hid (I64 p):=zz (hp ▸ hep s);have HQI : Hid (I64 q):=zz (hq ▸ hep t);have hL : Lays w (((w.alloc (.cells #[.pointer (some ⟨b,0,none⟩), .int .i64 j] 247)).alloc (.cells (zAa s) 59)).alloc (.cells (zAa t) 59)):=(((Lays.refl w).alloc _).alloc _).alloc _;have hBw:=hL.below (Nat.le_refl _);have h0 : zAe (((w.alloc (.cells #[.pointer (some ⟨b,0,none⟩), .int .i64 j] 247)).alloc (.cells (zAa s) 59)).alloc (.cells (zAa t) 59)) w.heap.size 247 #[.pointer (some ⟨b,0,none⟩), .int .i64 j]:=((zAe.new _ _ _).alloc _).alloc _;have h1 : zAe (((w.alloc (.cells #[.pointer (some ⟨b,0,none⟩), .int .i64 j] 247)).alloc (.cells (zAa s) 59)).alloc (.cells (zAa t) 59)) (w.heap.size + 1) 59 (zAa s):=by have h:=zAe.new (w.alloc (.cells #[.pointer (some ⟨b,0,none⟩), .int .i64 j] 247)) 59 (zAa s);rw [World.size_alloc] at h;exact h.alloc _
 have h2 : zAe (((w.alloc (.cells #[.pointer (some ⟨b,0,none⟩), .int .i64 j] 247)).alloc (.cells (zAa s) 59)).alloc (.cells (zAa t) 59)) (w.heap.size + 2) 59 (zAa t):=by have h:=zAe.new ((w.alloc (.cells #[.pointer (some ⟨b,0,none⟩), .int .i64 j] 247)).alloc (.cells (zAa s) 59)) 59 (zAa t);rw [World.size_alloc,World.size_alloc] at h;exact h
 have HEND : Hid (∀ (x : Side) (v : Int),(zAl ls x).2 = v→I64 x.lead→∀ W,Lays w W→Calls Tryz.prog 111 #[.pointer (some ⟨b,0,none⟩), .agg (zAa x)] W fun e w'=>(∃ u,e = .returned (.tuple #[.int .i64 u, .int .i64 v]))∧Lays W w'):=zz fun x v hv hx W hW=>by
  have hw:=hW.below (Nat.le_refl _);exact (ends_any x W (Nat.lt_of_lt_of_le hb hw.size) ((hw.cell (p:=⟨b,3,none⟩) hb).trans hc3) (hml.below hw hml.lt) hx).mono fun e w' h=>⟨⟨(zAl ls x).1,h.1.trans (by rw [hv])⟩,h.2⟩
 have HAT : Hid (∀ W,Lays w W→b < W.heap.size∧W.cell? ⟨b,2,none⟩ = some (.map (some ba))∧MapAt vi zAL I64 W ba (zA7 js)):=zz fun W hW=>by
  have hw:=hW.below (Nat.le_refl _);exact ⟨Nat.lt_of_lt_of_le hb hw.size,(hw.cell (p:=⟨b,2,none⟩) hb).trans hc2,hma.below hw hma.lt⟩
 have HP:=zz hp;have HQ:=zz hq;rw [hp,hq];have h0c : (((w.alloc (.cells #[.pointer (some ⟨b,0,none⟩), .int .i64 j] 247)).alloc (.cells (zAa s) 59)).alloc (.cells (zAa t) 59)).cell? ⟨w.heap.size,0,none⟩ = some (.pointer (some ⟨b,0,none⟩)):=(h0.cell 0).trans rfl;clear hsm hj hs ht hep hb hc2 hc3 hma hml hp hq hBw;go_enter Tryz.func187,Tryz.ntmps187
 go_wp2_with (first
  | (refine zLd 14 h1 (zAa s) zuA ?_)
  | (go_at_call 111;(with_reducible refine (HEND.out s p HP.out HS.out _ hL).mono ?_);rintro e w1 ⟨⟨u1,rfl⟩,l1⟩;have hb1:=l1.below (Nat.le_refl _);have hL1:=hL.trans l1;have g0:=h0.belowAll hb1;have g2:=h2.belowAll hb1;have g0c : w1.cell? ⟨w.heap.size,0,none⟩ = some (.pointer (some ⟨b,0,none⟩)):=(g0.cell 0).trans rfl;clear hb1)
  | (refine zLd 21 g2 (zAa t) zuA ?_)
  | (go_at_call 111;(with_reducible refine (HEND.out t q HQ.out HT.out _ hL1).mono ?_);rintro e w2 ⟨⟨u2,rfl⟩,l2⟩;have hb2:=l2.below (Nat.le_refl _);have hL2:=(hL1.trans l2).drew;have k0:=(g0.belowAll hb2).drew;obtain ⟨kb,kc,km⟩:=HAT.out _ hL2;clear hb2))
 refine rgO [(0,true),(1,true),(2,true),(3,true),(4,true),(5,true),(6,true),(7,true),(8,true),(9,true),(10,true),(11,true),(12,true),(13,true),(14,true),(15,true),(16,true),(17,true),(18,true),(19,true),(20,true),(21,true),(22,false),(23,true)] ?_;refine wB rfl ?_;simp only [pT];refine zAf (v:=.pointer (some ⟨b,0,none⟩)) rfl rfl (fun W hW=>by have e : W.cell? ⟨w.heap.size,0,none⟩ = some (.pointer (some ⟨b,0,none⟩)):=((k0.belowAll hW).cell 0).trans rfl;go_simp) ?_;simp only [pT];iterate 2 (refine wB rfl ?_;simp only [pT])
 refine zAf (v:=.map (some ba)) rfl rfl (fun W hW=>by have e : W.cell? ⟨b,2,none⟩ = some (.map (some ba)):=(hW.cell (p:=⟨b,2,none⟩) kb).trans kc;go_simp) ?_;simp only [pT];refine wB rfl ?_;simp only [pT];refine zAf (v:=.int .i64 j) rfl rfl (fun W hW=>by have e : W.cell? ⟨w.heap.size,1,none⟩ = some (.int .i64 j):=((k0.belowAll hW).cell 1).trans rfl;go_simp) ?_;simp only [pT];refine zAf (v:=zAL (ptA js j)) rfl rfl (fun W hW=>Eq.trans (zA6 zAQ zuF zAF (zBq _) rfl (km.below hW km.lt) j (HJ.out) rfl) (by rw [zBf];rfl)) ?_;simp only [pT];refine wB rfl ?_;simp only [pT];refine zAf (v:=.pointer (some ⟨b,0,none⟩)) rfl rfl (fun W hW=>by have e : W.cell? ⟨w.heap.size,0,none⟩ = some (.pointer (some ⟨b,0,none⟩)):=((k0.belowAll hW).cell 0).trans rfl;go_simp) ?_;simp only [pT];iterate 2 (refine wB rfl ?_;simp only [pT])
 refine zAf (v:=.map (some ba)) rfl rfl (fun W hW=>by have e : W.cell? ⟨b,2,none⟩ = some (.map (some ba)):=(hW.cell (p:=⟨b,2,none⟩) kb).trans kc;go_simp) ?_;simp only [pT];refine wB rfl ?_;simp only [pT];refine zAf (v:=zAL (ptA js p)) rfl rfl (fun W hW=>Eq.trans (zA6 zAQ zuF zAF (zBq _) rfl (km.below hW km.lt) p (HPI.out) rfl) (by rw [zBf];rfl)) ?_;simp only [pT];refine wB rfl ?_;simp only [pT];refine zAf (v:=.pointer (some ⟨b,0,none⟩)) rfl rfl (fun W hW=>by have e : W.cell? ⟨w.heap.size,0,none⟩ = some (.pointer (some ⟨b,0,none⟩)):=((k0.belowAll hW).cell 0).trans rfl;go_simp) ?_;simp only [pT];iterate 2 (refine wB rfl ?_;simp only [pT])
 refine zAf (v:=.map (some ba)) rfl rfl (fun W hW=>by have e : W.cell? ⟨b,2,none⟩ = some (.map (some ba)):=(hW.cell (p:=⟨b,2,none⟩) kb).trans kc;go_simp) ?_;simp only [pT];refine wB rfl ?_;simp only [pT];refine zAf (v:=zAL (ptA js q)) rfl rfl (fun W hW=>Eq.trans (zA6 zAQ zuF zAF (zBq _) rfl (km.below hW km.lt) q (HQI.out) rfl) (by rw [zBf];rfl)) ?_;simp only [pT];refine zAG rfl rfl (fun K hK=>?_)
 go_simp
 refine (cmpDir_any _ _ _ (HSM.out _) (HSM.out _) (HSM.out _) _).mono ?_;rintro e w3 ⟨rfl,l3⟩;have hb3:=l3.below (Nat.le_refl _);refine hK _ _ hb3 ?_;clear hK K
 try simp only [pT]
 refine wB rfl ?_;simp only [pT];simp only [wpB];go_wp2;go_ret;exact ⟨rfl,hL2.trans l3⟩
end Go.Proofs.YtbbblemfodpmaaaGreat
end
