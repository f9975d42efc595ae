/-The structs of webs.-/
import GoSem.Claim
set_option linter.unusedVariables false
set_option linter.unusedSimpArgs false
set_option maxHeartbeats 16000000
set_option maxRecDepth 100000
section
namespace Go.Proofs.YtbbblemfodpmaaaGreat
structure Point where
 x : Int
 y : Int
 deriving Inhabited,DecidableEq
structure Joint where
 id : Int
 at_ : Point
 deriving Inhabited,DecidableEq
structure Lead where
 id : Int
 a : Int
 b : Int
 heart : Int
 left : Int
 right : Int
 give : Int
 cost : Int
 deriving Inhabited,DecidableEq
structure Side where
 lead : Int
 back : Bool
 deriving Inhabited,DecidableEq
structure Edit where
 kind : Int
 joint : Joint
 lead : Lead
 other : Int
 deriving Inhabited,DecidableEq
structure Count where
 joints : Int
 leads : Int
 faces : Int
 components : Int
 deriving Inhabited,DecidableEq
structure Spot where
 kind : Int
 id : Int
 deriving Inhabited,DecidableEq
structure Pin where
 joint : Int
 play : Int
 deriving Inhabited,DecidableEq
end Go.Proofs.YtbbblemfodpmaaaGreat
end
section
namespace Go.Proofs.YtbbblemfodpmaaaGreat
def zAw (a b c : Point) : Int:=(b.x - a.x) * (c.y - a.y) - (b.y - a.y) * (c.x - a.x)
def dotP (a b c : Point) : Int:=(b.x - a.x) * (c.x - a.x) + (b.y - a.y) * (c.y - a.y)
def onP (a b p : Point) : Bool:=zAw a b p == 0 && decide (dotP p a b ≤ 0)
def cmpZ (x y : Int) : Int:=if x < y then -1 else if y < x then 1 else 0
def zBi (o p : Point) : Bool:=decide (p.y < o.y) || (p.y == o.y && decide (p.x < o.x))
def zEH (o p q : Point) : Int:=if !zBi o p && zBi o q then -1 else if zBi o p && !zBi o q then 1 else cmpZ 0 (zAw o p q)
def zBg (id : Int) : Bool:=decide (1 ≤ id) && decide (id ≤ 65535)
def winI (n most : Int) : Bool:=decide (0 ≤ n) && decide (n ≤ most)
def inP (p : Point) : Bool:=winI p.x 4096 && winI p.y 4096
def zAF : Point:=⟨0,0⟩
def zCW : Lead:=⟨0,0,0,0,0,0,0,0⟩
def zBE (prev : Option Int) (id : Int) : Bool:=match prev with
 | some q=>decide (id ≤ q)
 | none=>false
def cjA (seen : List Point) (prev : Option Int) : List Joint→Int × Bool
 | []=>(0,true)
 | j :: l=>if !zBg j.id || !inP j.at_ || zBE prev j.id || seen.contains j.at_ then (j.id,false) else cjA (seen ++ [j.at_]) (some j.id) l
def atA (js : List Joint) (id : Int) : Option Point:=(js.find? fun j=>decide (j.id = id)).map (·.at_)
def ptA (js : List Joint) (id : Int) : Point:=(atA js id).getD zAF
def zBI (js : List Joint) (l : Lead) : Bool:=
 zBg l.id && (atA js l.a).isSome && (atA js l.b).isSome && l.a != l.b && winI l.heart 64 && winI l.left 64 && winI l.right 64 && winI l.give 64 && winI l.cost 1000000
def clA (js : List Joint) (seen : List (Int × Int)) (prev : Option Int) : List Lead→Int × Bool
 | []=>(0,true)
 | x :: l=>if !zBI js x || zBE prev x.id || seen.contains (min x.a x.b,max x.a x.b) then (x.id,false) else clA js (seen ++ [(min x.a x.b,max x.a x.b)]) (some x.id) l
def zBO (js : List Joint) (l m : Lead) : Bool:=
 if l.a == m.a || l.a == m.b || l.b == m.a || l.b == m.b then false
 else decide (cmpZ (zAw (ptA js l.a) (ptA js l.b) (ptA js m.a)) 0 * cmpZ (zAw (ptA js l.a) (ptA js l.b) (ptA js m.b)) 0 < 0)
  && decide (cmpZ (zAw (ptA js m.a) (ptA js m.b) (ptA js l.a)) 0 * cmpZ (zAw (ptA js m.a) (ptA js m.b) (ptA js l.b)) 0 < 0)
def insA (js : List Joint) (l : Lead) (j : Int) : Bool:=j != l.a && j != l.b && onP (ptA js l.a) (ptA js l.b) (ptA js j)
def zBH (js : List Joint) (l m : Lead) : Bool:=insA js l m.a || insA js l m.b || insA js m l.a || insA js m l.b
def zDb (js : List Joint) (l : Lead) : Bool:=js.any fun j=>j.id != l.a && j.id != l.b && onP (ptA js l.a) (ptA js l.b) j.at_
def cmA (js : List Joint) (done : List Lead) : List Lead→Int × Int
 | []=>(0,0)
 | l :: r=>if zDb js l || done.any (fun m=>zBO js l m || zBH js l m) then (22,l.id) else cmA js (done ++ [l]) r
def zAK (js : List Joint) (ls : List Lead) : Int × Int:=
 if 200 < js.length ∨ 400 < ls.length then (2,0)
 else if (cjA [] none js).2 = false then (20,(cjA [] none js).1)
 else if (clA js [] none ls).2 = false then (21,(clA js [] none ls).1)
 else cmA js [] ls
def zBT (ls : List Lead) (id : Int) : Option Lead:=ls.find? fun l=>decide (l.id = id)
def zAl (ls : List Lead) (s : Side) : Int × Int:=
 if s.back then (((zBT ls s.lead).getD zCW).b,((zBT ls s.lead).getD zCW).a) else (((zBT ls s.lead).getD zCW).a,((zBT ls s.lead).getD zCW).b)
def revA (s : Side) : Side:=⟨s.lead,!s.back⟩
def zAp (j : Int) : List Lead→List Side
 | []=>[]
 | l :: r=>(if l.a = j then [⟨l.id,false⟩] else []) ++ (if l.b = j then [⟨l.id,true⟩] else []) ++ zAp j r
end Go.Proofs.YtbbblemfodpmaaaGreat
end
section
namespace Go.Proofs.YtbbblemfodpmaaaGreat
def upV (x y : Int) : Prop:=0 < y ∨ (y = 0∧0 < x)
theorem cr_trans {ux uy vx vy wx wy : Int} (hu : upV ux uy) (hv : upV vx vy) (hw : upV wx wy) (h1 : 0 < ux * vy - uy * vx) (h2 : 0 < vx * wy - vy * wx) : 0 < ux * wy - uy * wx:=by
 have key : vy * (ux * wy - uy * wx) = uy * (vx * wy - vy * wx) + wy * (ux * vy - uy * vx):=by grind
 have hu0 : 0 ≤ uy:=by unfold upV at hu;omega
 have hw0 : 0 ≤ wy:=by unfold upV at hw;omega
 rcases hv with hv | ⟨hv,hvx⟩
 ·have a1 : 0 ≤ uy * (vx * wy - vy * wx):=Int.mul_nonneg hu0 (Int.le_of_lt h2);have a2 : 0 ≤ wy * (ux * vy - uy * vx):=Int.mul_nonneg hw0 (Int.le_of_lt h1)
  rcases Int.lt_or_le 0 (ux * wy - uy * wx) with h | h
  ·exact h
  have a3 : vy * (ux * wy - uy * wx) ≤ 0:=Int.mul_nonpos_of_nonneg_of_nonpos (Int.le_of_lt hv) h;have b1 : uy * (vx * wy - vy * wx) = 0:=by omega
  have b2 : wy * (ux * vy - uy * vx) = 0:=by omega
  have c1 : uy = 0:=by
   rcases Int.mul_eq_zero.1 b1 with e | e
   ·exact e
   ·omega
  have c2 : wy = 0:=by
   rcases Int.mul_eq_zero.1 b2 with e | e
   ·exact e
   ·omega
  have hwx : 0 < wx:=by unfold upV at hw;omega
  subst c1 c2;have : 0 < vy * wx:=Int.mul_pos hv hwx;rw [Int.mul_zero] at h2;omega
 ·subst hv;have : 0 ≤ uy * vx:=Int.mul_nonneg hu0 (Int.le_of_lt hvx);rw [Int.mul_zero] at h1;omega
theorem sq_nn (a : Int) : 0 ≤ a * a:=by
 rcases Int.le_total 0 a with h | h
 ·exact Int.mul_nonneg h h
 ·have:=Int.mul_nonneg (Int.neg_nonneg_of_nonpos h) (Int.neg_nonneg_of_nonpos h)
  rwa [Int.neg_mul_neg] at this
theorem par_dot {ux uy vx vy : Int} (hu : upV ux uy) (hv : upV vx vy) (h : ux * vy - uy * vx = 0) : 0 < ux * vx + uy * vy:=by
 rcases hu with hu | ⟨hu,hux⟩
 ·rcases hv with hv | ⟨hv,hvx⟩
  ·have p : 0 < uy * vy:=Int.mul_pos hu hv;have e : (ux * vx) * (uy * vy) = (ux * vy) * (ux * vy):=by
    have e1 : uy * vx = ux * vy:=by omega
    have : (ux * vx) * (uy * vy) = (ux * vy) * (uy * vx):=by grind
    rw [this,e1]
   have q : 0 ≤ ux * vx:=by
    rcases Int.lt_or_le (ux * vx) 0 with n | n
    ·have h1 : (ux * vx) * (uy * vy) < 0:=Int.mul_neg_of_neg_of_pos n p;have h2 : 0 ≤ (ux * vy) * (ux * vy):=sq_nn _;omega
    ·exact n
   omega
  ·subst hv;have : 0 < uy * vx:=Int.mul_pos hu hvx;rw [Int.mul_zero] at h;omega
 ·subst hu
  rcases hv with hv | ⟨hv,hvx⟩
  ·have : 0 < ux * vy:=Int.mul_pos hux hv;rw [Int.zero_mul] at h;omega
  ·subst hv;have : 0 < ux * vx:=Int.mul_pos hux hvx;omega
theorem par_on {ux uy vx vy : Int} (h : ux * vy - uy * vx = 0) (hd : 0 < ux * vx + uy * vy) : vx * vx + vy * vy ≤ ux * vx + uy * vy ∨ ux * ux + uy * uy ≤ ux * vx + uy * vy:=by
 rcases Int.lt_or_le (ux * vx + uy * vy) (vx * vx + vy * vy) with h1 | h1
 ·right
  rcases Int.lt_or_le (ux * vx + uy * vy) (ux * ux + uy * uy) with h2 | h2
  ·exfalso;have e : (ux * vx + uy * vy) * (ux * vx + uy * vy) + (ux * vy - uy * vx) * (ux * vy - uy * vx) = (ux * ux + uy * uy) * (vx * vx + vy * vy):=by grind
   rw [h,Int.mul_zero,Int.add_zero] at e;have l1 : (ux * vx + uy * vy) * (ux * vx + uy * vy) < (ux * ux + uy * uy) * (ux * vx + uy * vy):=Int.mul_lt_mul_of_pos_right h2 hd;have l2 : (ux * ux + uy * uy) * (ux * vx + uy * vy) ≤ (ux * ux + uy * uy) * (vx * vx + vy * vy):=Int.mul_le_mul_of_nonneg_left (Int.le_of_lt h1) (by omega);omega
  ·exact h2
 ·exact .inl h1
end Go.Proofs.YtbbblemfodpmaaaGreat
end
section
namespace Go.Proofs.YtbbblemfodpmaaaGreat
theorem cj_ok : ∀ (l : List Joint) (seen : List Point) (prev : Option Int),(cjA seen prev l).2 = true→
  (∀ j ∈ l,zBg j.id = true∧inP j.at_ = true∧j.at_ ∉ seen∧zBE prev j.id = false)∧l.Pairwise (fun a b=>a.id < b.id)∧l.Pairwise (fun a b=>a.at_ ≠ b.at_)
 | [],_,_,_=>⟨by simp, .nil, .nil⟩
 | j :: l,seen,prev,h=>by
  unfold cjA at h
  split at h
  ·cases h
  rename_i hn;simp only [Bool.or_eq_true,Bool.not_eq_true',not_or,Bool.not_eq_true,Bool.not_eq_false] at hn;obtain ⟨⟨⟨h1,h2⟩,h3⟩,h4⟩:=hn;obtain ⟨k1,k2,k3⟩:=cj_ok l _ _ h;have h4' : j.at_ ∉ seen:=by simpa using h4
  have hlt : ∀ x ∈ l,j.id < x.id:=fun x hx=>by
   have:=(k1 x hx).2.2.2;simp only [zBE,decide_eq_false_iff_not] at this;omega
  refine ⟨fun x hx=>?_,List.pairwise_cons.2 ⟨hlt,k2⟩,List.pairwise_cons.2 ⟨fun x hx e=>?_,k3⟩⟩
  ·rcases List.mem_cons.1 hx with rfl | hx
   ·exact ⟨h1,h2,h4',h3⟩
   ·obtain ⟨a1,a2,a3,_⟩:=k1 x hx;refine ⟨a1,a2,fun hs=>a3 (List.mem_append.2 (.inl hs)), ?_⟩
    cases prev with
    | none=>rfl
    | some q=>
     simp only [zBE,decide_eq_false_iff_not] at h3 ⊢;have:=hlt x hx;omega
  ·exact (k1 x hx).2.2.1 (by rw [e];simp)
def zAX (l : Lead) : Int × Int:=(min l.a l.b,max l.a l.b)
theorem cl_ok (js : List Joint) : ∀ (l : List Lead) (seen : List (Int × Int)) (prev : Option Int),(clA js seen prev l).2 = true→
  (∀ x ∈ l,zBI js x = true∧zAX x ∉ seen∧zBE prev x.id = false)∧l.Pairwise (fun a b=>a.id < b.id)∧l.Pairwise (fun a b=>zAX a ≠ zAX b)
 | [],_,_,_=>⟨by simp, .nil, .nil⟩
 | j :: l,seen,prev,h=>by
  unfold clA at h
  split at h
  ·cases h
  rename_i hn;simp only [Bool.or_eq_true,Bool.not_eq_true',not_or,Bool.not_eq_true,Bool.not_eq_false] at hn;obtain ⟨⟨h1,h3⟩,h4⟩:=hn;obtain ⟨k1,k2,k3⟩:=cl_ok js l _ _ h;have h4' : zAX j ∉ seen:=by simpa [zAX] using h4
  have hlt : ∀ x ∈ l,j.id < x.id:=fun x hx=>by
   have:=(k1 x hx).2.2;simp only [zBE,decide_eq_false_iff_not] at this;omega
  refine ⟨fun x hx=>?_,List.pairwise_cons.2 ⟨hlt,k2⟩,List.pairwise_cons.2 ⟨fun x hx e=>?_,k3⟩⟩
  ·rcases List.mem_cons.1 hx with rfl | hx
   ·exact ⟨h1,h4',h3⟩
   ·obtain ⟨a1,a3,_⟩:=k1 x hx;refine ⟨a1,fun hs=>a3 (List.mem_append.2 (.inl hs)), ?_⟩
    cases prev with
    | none=>rfl
    | some q=>
     simp only [zBE,decide_eq_false_iff_not] at h3 ⊢;have:=hlt x hx;omega
  ·exact (k1 x hx).2.1 (by rw [← e];simp [zAX])
theorem cm_ok (js : List Joint) : ∀ (l done : List Lead),cmA js done l = (0,0)→
  (∀ x ∈ l,zDb js x = false∧∀ m ∈ done,zBO js x m = false∧zBH js x m = false)∧l.Pairwise (fun m x=>zBO js x m = false∧zBH js x m = false)
 | [],_,_=>⟨by simp, .nil⟩
 | x :: l,done,h=>by
  unfold cmA at h
  split at h
  ·cases h
  rename_i hn;simp only [Bool.or_eq_true,not_or,Bool.not_eq_true,List.any_eq_true,not_exists,not_and] at hn;obtain ⟨h1,h2⟩:=hn;obtain ⟨k1,k2⟩:=cm_ok js l _ h;refine ⟨fun y hy=>?_,List.pairwise_cons.2 ⟨fun y hy=>(k1 y hy).2 x (by simp),k2⟩⟩
  rcases List.mem_cons.1 hy with rfl | hy
  ·exact ⟨h1,fun m hm=>h2 m hm⟩
  ·exact ⟨(k1 y hy).1,fun m hm=>(k1 y hy).2 m (List.mem_append.2 (.inl hm))⟩
theorem pw_or {α : Type} {R : α→α→Prop} : ∀ {l : List α},l.Pairwise R→∀ {x y : α},x ∈ l→y ∈ l→x = y ∨ R x y ∨ R y x
 | a :: l,h,x,y,hx,hy=>by
  rw [List.pairwise_cons] at h
  rcases List.mem_cons.1 hx with ex | hx <;> rcases List.mem_cons.1 hy with ey | hy
  ·exact .inl (ex.trans ey.symm)
  ·exact .inr (.inl (ex ▸ h.1 _ hy))
  ·exact .inr (.inr (ey ▸ h.1 _ hx))
  ·exact pw_or h.2 hx hy
structure ValidW (js : List Joint) (ls : List Lead) : Prop where
 nj : js.length ≤ 200
 nl : ls.length ≤ 400
 jid : js.Pairwise fun a b=>a.id < b.id
 jok : ∀ j ∈ js,zBg j.id = true∧inP j.at_ = true
 jat : js.Pairwise fun a b=>a.at_ ≠ b.at_
 lid : ls.Pairwise fun a b=>a.id < b.id
 lok : ∀ l ∈ ls,zBI js l = true
 lend : ls.Pairwise fun a b=>zAX a ≠ zAX b
 touch : ∀ l ∈ ls,zDb js l = false
 meet : ls.Pairwise fun m l=>zBO js l m = false∧zBH js l m = false
theorem validW {js : List Joint} {ls : List Lead} (h : zAK js ls = (0,0)) : ValidW js ls:=by
 unfold zAK at h
 split at h
 ·cases h
 rename_i h0
 split at h
 ·cases h
 rename_i h1
 split at h
 ·cases h
 rename_i h2;obtain ⟨a1,a2,a3⟩:=cj_ok js [] none (by simpa using h1);obtain ⟨b1,b2,b3⟩:=cl_ok js ls [] none (by simpa using h2);obtain ⟨c1,c2⟩:=cm_ok js ls [] h;exact ⟨by omega,by omega,a2,fun j hj=>⟨(a1 j hj).1,(a1 j hj).2.1⟩,a3,b2,fun l hl=>(b1 l hl).1,b3,fun l hl=>(c1 l hl).1,c2⟩
section
variable {js : List Joint} {ls : List Lead} (V : ValidW js ls)
include V
theorem ValidW.at_ {j : Joint} (hj : j ∈ js) : atA js j.id = some j.at_:=by
 have h:=V.jid;unfold atA;have : js.find? (fun k=>decide (k.id = j.id)) = some j:=by
  clear V
  induction js with
  | nil=>cases hj
  | cons k l ih=>
   rw [List.pairwise_cons] at h
   rcases List.mem_cons.1 hj with rfl | hj
   ·simp
   ·have hlt:=h.1 j hj;rw [List.find?_cons_of_neg (by simp;omega)];exact ih hj h.2
 rw [this];rfl
theorem ValidW.lead {l : Lead} (hl : l ∈ ls) : zBT ls l.id = some l:=by
 have h:=V.lid;unfold zBT;clear V
 induction ls with
 | nil=>cases hl
 | cons k r ih=>
  rw [List.pairwise_cons] at h
  rcases List.mem_cons.1 hl with rfl | hl
  ·simp
  ·have hlt:=h.1 l hl;rw [List.find?_cons_of_neg (by simp;omega)];exact ih hl h.2
theorem ValidW.ends {l : Lead} (hl : l ∈ ls) : ∃ i ∈ js,∃ k ∈ js,i.id = l.a∧k.id = l.b∧l.a ≠ l.b∧ptA js l.a = i.at_∧ptA js l.b = k.at_:=by
 have h:=V.lok l hl;unfold zBI at h;simp only [Bool.and_eq_true,bne_iff_ne,ne_eq] at h;obtain ⟨⟨⟨⟨⟨⟨⟨⟨_,h1⟩,h2⟩,h3⟩,_⟩,_⟩,_⟩,_⟩,_⟩:=h;have key : ∀ id,(atA js id).isSome = true→∃ j ∈ js,j.id = id∧ptA js id = j.at_:=fun id hs=>by
  unfold atA at hs;rw [Option.isSome_map] at hs;obtain ⟨j,hj⟩:=Option.isSome_iff_exists.1 hs;refine ⟨j,List.mem_of_find?_eq_some hj,by simpa using List.find?_some hj, ?_⟩;unfold ptA atA;rw [hj];rfl
 obtain ⟨i,hi,e1,e2⟩:=key _ h1;obtain ⟨k,hk,e3,e4⟩:=key _ h2;exact ⟨i,hi,k,hk,e1,e3,h3,e2,e4⟩
theorem ValidW.atne {i k : Joint} (hi : i ∈ js) (hk : k ∈ js) (h : i.id ≠ k.id) : i.at_ ≠ k.at_:=by
 rcases pw_or V.jat hi hk with rfl | h1 | h1
 ·exact absurd rfl h
 ·exact h1
 ·exact fun e=>h1 e.symm
end
end Go.Proofs.YtbbblemfodpmaaaGreat
end
section
namespace Go.Proofs.YtbbblemfodpmaaaGreat
def insB {α : Type} (lt : α→α→Bool) (x : α) : List α→List α
 | []=>[x]
 | y :: r=>if lt y x then y :: insB lt x r else x :: y :: r
def sortB {α : Type} (lt : α→α→Bool) : List α→List α
 | []=>[]
 | x :: r=>insB lt x (sortB lt r)
def UpB {α : Type} (lt : α→α→Bool) (l : List α) : Prop:=l.Pairwise fun a b=>lt b a = false
theorem zDl {α : Type} (lt : α→α→Bool) (x : α) : ∀ l : List α,(insB lt x l).Perm (x :: l)
 | []=>.refl _
 | y :: r=>by
  unfold insB
  split
  ·exact ((zDl lt x r).cons y).trans (.swap x y r)
  ·exact .refl _
theorem zB2 {α : Type} (lt : α→α→Bool) : ∀ l : List α,(sortB lt l).Perm l
 | []=>.nil
 | x :: r=>(zDl lt x _).trans ((zB2 lt r).cons x)
structure OrdOn {α : Type} (lt : α→α→Bool) (p : α→Prop) : Prop where
 irr : ∀ a,p a→lt a a = false
 tr : ∀ a b c,p a→p b→p c→lt a b = true→lt b c = true→lt a c = true
 tot : ∀ a b,p a→p b→lt a b = false→lt b a = false→a = b
section
variable {α : Type} {lt : α→α→Bool} {p : α→Prop} (O : OrdOn lt p)
include O
theorem OrdOn.as {a b : α} (ha : p a) (hb : p b) (h : lt a b = true) : lt b a = false:=by
 cases e : lt b a with
 | false=>rfl
 | true=>have:=O.irr a ha;rw [O.tr a b a ha hb ha h e] at this;cases this
theorem OrdOn.nt {a b c : α} (ha : p a) (hb : p b) (hc : p c) (h : lt b a = false) (k : lt c b = false) : lt c a = false:=by
 cases e : lt c a with
 | false=>rfl
 | true=>
  cases e2 : lt a b with
  | true=>rw [O.tr c a b hc ha hb e e2] at k;cases k
  | false=>rw [O.tot a b ha hb e2 h] at e;rw [k] at e;cases e
theorem insB_up {x : α} (hx : p x) : ∀ l : List α,(∀ a ∈ l,p a)→UpB lt l→UpB lt (insB lt x l)
 | [],_,_=>by simp [insB,UpB]
 | y :: r,hp,h=>by
  obtain ⟨h1,h2⟩:=List.pairwise_cons.1 h;have hy:=hp y (by simp);unfold insB
  split
  ·rename_i hyx;refine List.pairwise_cons.2 ⟨fun z hz=>?_,insB_up hx r (fun a ha=>hp a (List.mem_cons_of_mem _ ha)) h2⟩
   rcases List.mem_cons.1 ((zDl lt x r).mem_iff.1 hz) with rfl | hz
   ·exact O.as hy hx hyx
   ·exact h1 z hz
  ·rename_i hyx;have hyx' : lt y x = false:=by simpa using hyx
   refine List.pairwise_cons.2 ⟨fun z hz=>?_,h⟩
   rcases List.mem_cons.1 hz with rfl | hz
   ·exact hyx'
   ·exact O.nt hx hy (hp z (List.mem_cons_of_mem _ hz)) hyx' (h1 z hz)
theorem sortB_up : ∀ l : List α,(∀ a ∈ l,p a)→UpB lt (sortB lt l)
 | [],_=>.nil
 | x :: r,hp=>insB_up O (hp x (by simp)) _ (fun a ha=>hp a (List.mem_cons_of_mem _ ((zB2 lt r).mem_iff.1 ha))) (sortB_up r fun a ha=>hp a (List.mem_cons_of_mem _ ha))
theorem upB_eq : ∀ {l l' : List α},(∀ a ∈ l,p a)→l.Perm l'→UpB lt l→UpB lt l'→l = l'
 | [],l',_,hp,_,_=>(List.Perm.nil_eq hp)
 | x :: r,l',hq,hp,h,h'=>by
  cases l' with
  | nil=>exact absurd hp.symm (by simp)
  | cons y r'=>
   obtain ⟨h1,h2⟩:=List.pairwise_cons.1 h;obtain ⟨h3,h4⟩:=List.pairwise_cons.1 h';have hxy : x = y:=by
    have hx : x ∈ y :: r':=hp.mem_iff.1 (by simp);have hy : y ∈ x :: r:=hp.mem_iff.2 (by simp)
    rcases List.mem_cons.1 hx with e | hx
    ·exact e
    ·rcases List.mem_cons.1 hy with e | hy
     ·exact e.symm
     ·exact O.tot x y (hq x (by simp)) (hq y (List.mem_cons_of_mem _ hy)) (h3 x hx) (h1 y hy)
   subst hxy;rw [upB_eq (fun a ha=>hq a (List.mem_cons_of_mem _ ha)) ((List.perm_cons x).1 hp) h2 h4]
end
theorem zEI {o q : Point} (h : o ≠ q) (hl : zBi o q = false) : upV (q.x - o.x) (q.y - o.y):=by
 unfold zBi at hl;simp only [Bool.or_eq_false_iff,Bool.and_eq_false_imp,decide_eq_false_iff_not,beq_iff_eq] at hl;unfold upV;have : ¬ (q.x = o.x∧q.y = o.y):=fun e=>h (by cases o;cases q;simp_all);omega
theorem zDw {o q : Point} (hl : zBi o q = true) : upV (o.x - q.x) (o.y - q.y):=by
 unfold zBi at hl;simp only [Bool.or_eq_true,Bool.and_eq_true,decide_eq_true_eq,beq_iff_eq] at hl;unfold upV;omega
theorem zFU (o p q : Point) : (o.x - p.x) * (o.y - q.y) - (o.y - p.y) * (o.x - q.x) = zAw o p q:=by unfold zAw;grind
theorem zFV (o p q : Point) : zAw o q p = - zAw o p q:=by unfold zAw;grind
def ltD (o p q : Point) : Bool:=decide (zEH o p q < 0)
theorem ltD_iff {o p q : Point} : ltD o p q = true ↔ (zBi o p = false∧zBi o q = true) ∨ (zBi o p = zBi o q∧0 < zAw o p q):=by
 unfold ltD zEH cmpZ
 cases zBi o p <;> cases zBi o q <;> simp
 all_goals (repeat' split) <;> omega
theorem dir_tr {o p q r : Point} (hp : o ≠ p) (hq : o ≠ q) (hr : o ≠ r) (h : ltD o p q = true) (k : ltD o q r = true) : ltD o p r = true:=by
 rw [ltD_iff] at h k ⊢
 rcases h with ⟨h1,h2⟩ | ⟨h1,h2⟩ <;> rcases k with ⟨k1,k2⟩ | ⟨k1,k2⟩
 ·rw [h2] at k1;cases k1
 ·exact .inl ⟨h1,by rw [← k1];exact h2⟩
 ·exact .inl ⟨by rw [h1];exact k1,k2⟩
 ·refine .inr ⟨h1.trans k1, ?_⟩
  cases e : zBi o q with
  | false=>exact cr_trans (zEI hp (h1.trans e)) (zEI hq e) (zEI hr (k1.symm.trans e)) h2 k2
  | true=>
   rw [← zFU] at h2 k2 ⊢;exact cr_trans (zDw (h1.trans e)) (zDw e) (zDw (k1.symm.trans e)) h2 k2
theorem dir_irr (o p : Point) : ltD o p p = false:=by
 cases e : ltD o p p with
 | false=>rfl
 | true=>
  rw [ltD_iff] at e;have hz : zAw o p p = 0:=by unfold zAw;grind
  rcases e with ⟨h1,h2⟩ | ⟨_,h2⟩
  ·rw [h1] at h2;cases h2
  ·omega
theorem dir_level {o p q : Point} (hp : o ≠ p) (hq : o ≠ q) (h : ltD o p q = false) (k : ltD o q p = false) : onP o p q = true ∨ onP o q p = true:=by
 have h' : ¬ ltD o p q = true:=by simp [h]
 have k' : ¬ ltD o q p = true:=by simp [k]
 rw [ltD_iff] at h' k';have e : zBi o p = zBi o q:=by
  cases a : zBi o p <;> cases b : zBi o q <;> simp_all
 have c : zAw o p q = 0:=by
  have:=zFV o p q;simp only [e,true_and] at h' k';omega
 have hd : 0 < (p.x - o.x) * (q.x - o.x) + (p.y - o.y) * (q.y - o.y):=by
  cases b : zBi o q with
  | false=>exact par_dot (zEI hp (e.trans b)) (zEI hq b) c
  | true=>
   have h2:=par_dot (zDw (e.trans b)) (zDw b) (by rw [zFU];exact c);have : (o.x - p.x) * (o.x - q.x) + (o.y - p.y) * (o.y - q.y) = (p.x - o.x) * (q.x - o.x) + (p.y - o.y) * (q.y - o.y):=by grind
   omega
 rcases par_on c hd with h1 | h1
 ·left
  unfold onP;have : dotP q o p = (q.x - o.x) * (q.x - o.x) + (q.y - o.y) * (q.y - o.y) - ((p.x - o.x) * (q.x - o.x) + (p.y - o.y) * (q.y - o.y)):=by unfold dotP;grind
  simp only [c,Bool.and_eq_true,decide_eq_true_eq,beq_self_eq_true,true_and];omega
 ·right
  unfold onP;have : dotP p o q = (p.x - o.x) * (p.x - o.x) + (p.y - o.y) * (p.y - o.y) - ((p.x - o.x) * (q.x - o.x) + (p.y - o.y) * (q.y - o.y)):=by unfold dotP;grind
  have c2 : zAw o q p = 0:=by rw [zFV,c];rfl
  simp only [c2,Bool.and_eq_true,decide_eq_true_eq,beq_self_eq_true,true_and];omega
end Go.Proofs.YtbbblemfodpmaaaGreat
end
section
namespace Go.Proofs.YtbbblemfodpmaaaGreat
def ltAt (js : List Joint) (ls : List Lead) (j : Int) (s t : Side) : Bool:=ltD (ptA js j) (ptA js (zAl ls s).2) (ptA js (zAl ls t).2)
def outA (js : List Joint) (ls : List Lead) (j : Int) : List Side:=sortB (ltAt js ls j) (zAp j ls)
def zAM (ls : List Lead) (s : Side) : Prop:=∃ l ∈ ls,l.id = s.lead
theorem zCH {j : Int} {s : Side} : ∀ {ls : List Lead},s ∈ zAp j ls ↔ ∃ l ∈ ls,(l.a = j∧s = ⟨l.id,false⟩) ∨ (l.b = j∧s = ⟨l.id,true⟩)
 | []=>by simp [zAp]
 | l :: r=>by
  simp only [zAp,List.mem_append,zCH (ls:=r),List.mem_cons,exists_eq_or_imp];refine or_congr (or_congr ?_ ?_) Iff.rfl
  ·split <;> simp_all
  ·split <;> simp_all
theorem onP_symm (a b p : Point) : onP a b p = onP b a p:=by
 unfold onP;have h1 : zAw b a p = - zAw a b p:=by unfold zAw;grind
 have h2 : dotP p b a = dotP p a b:=by unfold dotP;grind
 rw [h1,h2]
 congr 1
 rw [Bool.eq_iff_iff];simp only [beq_iff_eq];omega
theorem zDm {js : List Joint} {ls : List Lead} {j : Int} {s : Side} : s ∈ outA js ls j ↔ s ∈ zAp j ls:=(zB2 _ _).mem_iff
section
variable {js : List Joint} {ls : List Lead} (V : ValidW js ls)
include V
theorem ValidW.sideEnds {l : Lead} (hl : l ∈ ls) (b : Bool) : zAl ls ⟨l.id,b⟩ = if b then (l.b,l.a) else (l.a,l.b):=by
 unfold zAl;rw [V.lead hl]
 cases b <;> rfl
theorem ValidW.leave {j : Int} {s : Side} (h : s ∈ zAp j ls) : ∃ l ∈ ls,s.lead = l.id∧(zAl ls s).1 = j∧∃ i ∈ js,∃ k ∈ js,i.id = j∧k.id = (zAl ls s).2∧j ≠ k.id∧ptA js j = i.at_∧ptA js (zAl ls s).2 = k.at_∧
  ((l.a = j∧l.b = k.id∧s = ⟨l.id,false⟩) ∨ (l.b = j∧l.a = k.id∧s = ⟨l.id,true⟩)):=by
 obtain ⟨l,hl,h⟩:=zCH.1 h;obtain ⟨i,hi,k,hk,e1,e2,e3,e4,e5⟩:=V.ends hl
 rcases h with ⟨rfl,rfl⟩ | ⟨rfl,rfl⟩
 ·refine ⟨l,hl,rfl, ?_,i,hi,k,hk,e1, ?_, ?_,e4, ?_, .inl ⟨rfl,e2.symm,rfl⟩⟩ <;> (try simp only [V.sideEnds hl,Bool.false_eq_true,if_false])
  ·exact e2
  ·rw [e2];exact e3
  ·exact e5
 ·refine ⟨l,hl,rfl, ?_,k,hk,i,hi,e2, ?_, ?_,e5, ?_, .inr ⟨rfl,e1.symm,rfl⟩⟩ <;> (try simp only [V.sideEnds hl,if_true])
  ·exact e1
  ·rw [e1];exact e3.symm
  ·exact e4
theorem ValidW.ord (j : Int) : OrdOn (ltAt js ls j) (· ∈ zAp j ls):=by
 have far : ∀ s,s ∈ zAp j ls→ptA js j ≠ ptA js (zAl ls s).2:=fun s hs=>by
  obtain ⟨l,hl,_,_,i,hi,k,hk,e1,e2,e3,e4,e5,_⟩:=V.leave hs;rw [e4,e5];exact V.atne hi hk (by rw [e1];exact e3)
 refine ⟨fun s _=>dir_irr _ _,fun s t u hs ht hu h k=>dir_tr (far s hs) (far t ht) (far u hu) h k,fun s t hs ht h k=>?_⟩;have hlev:=dir_level (far s hs) (far t ht) h k;obtain ⟨l,hl,el,_,i,hi,p,hp,e1,e2,e3,e4,e5,e6⟩:=V.leave hs;obtain ⟨m,hm,em,_,i',hi',q,hq,f1,f2,f3,f4,f5,f6⟩:=V.leave ht;rw [e4,e5,f5] at hlev
 rcases pw_or V.lend hl hm with rfl | hne
 ·have hab:=V.ends hl;obtain ⟨_,_,_,_,_,_,hab,_,_⟩:=hab
  rcases e6 with ⟨a1,a2,rfl⟩ | ⟨a1,a2,rfl⟩ <;> rcases f6 with ⟨b1,b2,rfl⟩ | ⟨b1,b2,rfl⟩
  ·rfl
  ·exact absurd (a1.trans b1.symm) hab
  ·exact absurd (b1.trans a1.symm) hab
  ·rfl
 ·exfalso;have hpq : p.id ≠ q.id:=fun e=>by
   have he : zAX l = zAX m:=by
    unfold zAX
    rcases e6 with ⟨a1,a2,_⟩ | ⟨a1,a2,_⟩ <;> rcases f6 with ⟨b1,b2,_⟩ | ⟨b1,b2,_⟩ <;> rw [a1,a2,b1,b2,e]
    ·rw [Int.min_comm,Int.max_comm]
    ·rw [Int.min_comm,Int.max_comm]
   rcases hne with h1 | h1
   ·exact h1 he
   ·exact h1 he.symm
  have no : ∀ (x : Lead) (y z : Joint),x ∈ ls→y ∈ js→z ∈ js→((x.a = j∧x.b = z.id) ∨ (x.b = j∧x.a = z.id))→ptA js z.id = z.at_→y.id ≠ j→y.id ≠ z.id→onP i.at_ z.at_ y.at_ = false:=fun x y z hx hy hz hxe hzp hyj hyz=>by
   have ht:=V.touch x hx;unfold zDb at ht;rw [List.any_eq_false] at ht;have hty:=ht y hy;simp only [Bool.and_eq_true,bne_iff_ne,ne_eq,not_and,Bool.not_eq_true] at hty
   rcases hxe with ⟨a1,a2⟩ | ⟨a1,a2⟩
   ·rw [a1,a2,e4,hzp] at hty;exact hty ⟨hyj,hyz⟩
   ·rw [a1,a2,e4,hzp] at hty;rw [onP_symm];exact hty ⟨hyz,hyj⟩
  rcases hlev with h1 | h1
  ·rw [no l q p hl hq hp (by rcases e6 with ⟨a1,a2,_⟩ | ⟨a1,a2,_⟩;exact .inl ⟨a1,a2⟩;exact .inr ⟨a1,a2⟩) (by rw [e2];exact e5) (fun e=>f3 e.symm) (fun e=>hpq e.symm)] at h1
   cases h1
  ·rw [no m p q hm hp hq (by rcases f6 with ⟨a1,a2,_⟩ | ⟨a1,a2,_⟩;exact .inl ⟨a1,a2⟩;exact .inr ⟨a1,a2⟩) (by rw [f2];exact f5) (fun e=>e3 e.symm) hpq] at h1
   cases h1
theorem leave_nodup (j : Int) : (zAp j ls).Nodup:=by
 have h:=V.lid;have hab : ∀ l ∈ ls,l.a ≠ l.b:=fun l hl=>by obtain ⟨_,_,_,_,_,_,h,_,_⟩:=V.ends hl;exact h
 clear V
 induction ls with
 | nil=>exact .nil
 | cons l r ih=>
  rw [List.pairwise_cons] at h;have ih:=ih h.2 fun x hx=>hab x (List.mem_cons_of_mem _ hx);have hl:=hab l (by simp);unfold zAp;refine List.nodup_append.2 ⟨?_,ih,fun s hs t ht e=>?_⟩
  ·split <;> split <;> simp_all
  ·subst e;obtain ⟨m,hm,he⟩:=zCH.1 ht;have hlt:=h.1 m hm;have : s.lead = l.id:=by
    simp only [List.mem_append] at hs
    rcases hs with hs | hs <;> split at hs <;> simp_all
   rcases he with ⟨_,rfl⟩ | ⟨_,rfl⟩ <;> simp only at this <;> omega
theorem ValidW.out_nodup (j : Int) : (outA js ls j).Nodup:=(zB2 _ _).nodup_iff.2 (leave_nodup V j)
theorem ValidW.out_up (j : Int) : UpB (ltAt js ls j) (outA js ls j):=sortB_up (V.ord j) _ fun a h=>h
theorem ValidW.side_leave {s : Side} (h : zAM ls s) : s ∈ zAp (zAl ls s).1 ls:=by
 obtain ⟨l,hl,e⟩:=h;obtain ⟨sl,sb⟩:=s;simp only at e;subst e;rw [V.sideEnds hl];refine zCH.2 ⟨l,hl, ?_⟩
 cases sb
 ·exact .inl ⟨rfl,rfl⟩
 ·exact .inr ⟨rfl,rfl⟩
theorem ValidW.rev_ends {s : Side} (h : zAM ls s) : zAl ls (revA s) = ((zAl ls s).2,(zAl ls s).1):=by
 obtain ⟨l,hl,e⟩:=h;obtain ⟨sl,sb⟩:=s;simp only at e;subst e;unfold revA;rw [V.sideEnds hl,V.sideEnds hl]
 cases sb <;> rfl
end
theorem rev_side {ls : List Lead} {s : Side} (h : zAM ls s) : zAM ls (revA s):=h
theorem rev_rev (s : Side) : revA (revA s) = s:=by cases s;simp [revA]
end Go.Proofs.YtbbblemfodpmaaaGreat
end
section
namespace Go.Proofs.YtbbblemfodpmaaaGreat
def zDg : Side:=⟨0,false⟩
def zDp (l : List Side) (r : Side) : Side:=(l[(l.idxOf r + l.length - 1) % l.length]?).getD zDg
def zAV (js : List Joint) (ls : List Lead) (s : Side) : Side:=zDp (outA js ls (zAl ls s).2) (revA s)
def afterIn (l : List Side) (s : Side) : Side:=(l[(l.idxOf s + 1) % l.length]?).getD zDg
def priorA (js : List Joint) (ls : List Lead) (s : Side) : Side:=revA (afterIn (outA js ls (zAl ls s).1) s)
def itA {α : Type} (f : α→α) : Nat→α→α
 | 0,s=>s
 | n + 1,s=>f (itA f n s)
def backTo (f : Side→Side) (s : Side) : Nat→Side→List Side
 | 0,_=>[]
 | n + 1,t=>if t = s then [] else t :: backTo f s n (f t)
def zAH (js : List Joint) (ls : List Lead) (s : Side) : List Side:=s :: backTo (zAV js ls) s (2 * ls.length) (zAV js ls s)
theorem mod_pred {i n : Nat} (h : i < n) : ((i + n - 1) % n + 1) % n = i∧(i + n - 1) % n < n:=by
 refine ⟨?_,Nat.mod_lt _ (by omega)⟩
 rcases Nat.eq_zero_or_pos i with rfl | hi
 ·rw [Nat.zero_add,Nat.mod_eq_of_lt (by omega : n - 1 < n),show n - 1 + 1 = n by omega,Nat.mod_self]
 ·rw [show i + n - 1 = (i - 1) + n by omega,Nat.add_mod_right,Nat.mod_eq_of_lt (by omega : i - 1 < n),show i - 1 + 1 = i by omega,Nat.mod_eq_of_lt h]
theorem mod_succ {i n : Nat} (h : i < n) : ((i + 1) % n + n - 1) % n = i∧(i + 1) % n < n:=by
 refine ⟨?_,Nat.mod_lt _ (by omega)⟩
 rcases Nat.lt_or_ge (i + 1) n with hi | hi
 ·rw [Nat.mod_eq_of_lt hi,show i + 1 + n - 1 = i + n by omega,Nat.add_mod_right,Nat.mod_eq_of_lt h]
 ·have : i + 1 = n:=by omega
  rw [this,Nat.mod_self,Nat.zero_add,Nat.mod_eq_of_lt (by omega : n - 1 < n)];omega
theorem idx_at {l : List Side} (hn : l.Nodup) {i : Nat} (h : i < l.length) : l.idxOf l[i] = i:=by
 have h1 : l.idxOf l[i] < l.length:=List.idxOf_lt_length_of_mem (List.getElem_mem h);have h2 : l[l.idxOf l[i]] = l[i]:=List.getElem_idxOf h1;exact (List.getElem_inj hn).1 h2
theorem nextIn_at {l : List Side} {r : Side} (h : r ∈ l) : ∃ k,∃ hk : k < l.length,k = (l.idxOf r + l.length - 1) % l.length∧zDp l r = l[k]:=by
 have hi:=List.idxOf_lt_length_of_mem h;have hk:=(mod_pred hi).2;exact ⟨_,hk,rfl,by unfold zDp;rw [List.getElem?_eq_getElem hk];rfl⟩
theorem afterIn_at {l : List Side} {r : Side} (h : r ∈ l) : ∃ k,∃ hk : k < l.length,k = (l.idxOf r + 1) % l.length∧afterIn l r = l[k]:=by
 have hi:=List.idxOf_lt_length_of_mem h;have hk:=(mod_succ hi).2;exact ⟨_,hk,rfl,by unfold afterIn;rw [List.getElem?_eq_getElem hk];rfl⟩
theorem after_next {l : List Side} {r : Side} (hn : l.Nodup) (h : r ∈ l) : zDp l r ∈ l∧afterIn l (zDp l r) = r:=by
 obtain ⟨k,hk,e,h1⟩:=nextIn_at h;have hi:=List.idxOf_lt_length_of_mem h;rw [h1];refine ⟨List.getElem_mem hk, ?_⟩;obtain ⟨m,hm,e2,h2⟩:=afterIn_at (List.getElem_mem hk);rw [h2];have : m = l.idxOf r:=by rw [e2,idx_at hn hk,e];exact (mod_pred hi).1
 subst this;exact List.getElem_idxOf hm
section
variable {js : List Joint} {ls : List Lead} (V : ValidW js ls)
include V
theorem ValidW.of_leave {j : Int} {s : Side} (h : s ∈ zAp j ls) : zAM ls s∧(zAl ls s).1 = j:=by
 obtain ⟨l,hl,e,e2,_⟩:=V.leave h;exact ⟨⟨l,hl,e.symm⟩,e2⟩
theorem ValidW.rev_out {s : Side} (h : zAM ls s) : revA s ∈ outA js ls (zAl ls s).2:=by
 have h1:=V.side_leave (rev_side h);rw [V.rev_ends h] at h1;exact zDm.2 h1
theorem ValidW.next {s : Side} (h : zAM ls s) : zAM ls (zAV js ls s)∧(zAl ls (zAV js ls s)).1 = (zAl ls s).2∧priorA js ls (zAV js ls s) = s:=by
 obtain ⟨h1,h2⟩:=after_next (V.out_nodup (zAl ls s).2) (V.rev_out h);obtain ⟨h3,h4⟩:=V.of_leave (zDm.1 h1);refine ⟨h3,h4, ?_⟩;have h5 : (zAl ls (zAV js ls s)).1 = (zAl ls s).2:=h4;unfold priorA;rw [h5];unfold zAV;rw [h2,rev_rev]
theorem ValidW.next_inj {s t : Side} (hs : zAM ls s) (ht : zAM ls t) (h : zAV js ls s = zAV js ls t) : s = t:=by
 rw [← (V.next hs).2.2,← (V.next ht).2.2,h]
theorem ValidW.it_side {s : Side} (h : zAM ls s) : ∀ n,zAM ls (itA (zAV js ls) n s)
 | 0=>h
 | n + 1=>(V.next (ValidW.it_side h n)).1
end
theorem it_add {α : Type} (f : α→α) (m n : Nat) (s : α) : itA f (m + n) s = itA f m (itA f n s):=by
 induction m with
 | zero=>rw [Nat.zero_add];rfl
 | succ m ih=>rw [Nat.succ_add];simp only [itA];rw [ih]
theorem zDj {α : Type} [DecidableEq α] : ∀ {l m : List α},l.Nodup→(∀ x ∈ l,x ∈ m)→l.length ≤ m.length
 | [],_,_,_=>Nat.zero_le _
 | x :: l,m,hn,h=>by
  obtain ⟨h1,h2⟩:=List.nodup_cons.1 hn;have hx:=h x (by simp);have h3:=zDj (l:=l) (m:=m.erase x) h2 fun y hy=>(List.mem_erase_of_ne (fun e=>h1 (by rw [← e];exact hy))).2 (h y (List.mem_cons_of_mem _ hy));have h4:=List.length_erase_of_mem hx;have h5:=List.length_pos_of_mem hx;simp only [List.length_cons];omega
def zBz : List Lead→List Side
 | []=>[]
 | l :: r=>⟨l.id,false⟩ :: ⟨l.id,true⟩ :: zBz r
theorem zB7 : ∀ ls : List Lead,(zBz ls).length = 2 * ls.length
 | []=>rfl
 | l :: r=>by simp only [zBz,List.length_cons,zB7 r];omega
theorem zCI {s : Side} : ∀ {ls : List Lead},s ∈ zBz ls ↔ zAM ls s
 | []=>by simp [zBz,zAM]
 | l :: r=>by
  have ih:=zCI (s:=s) (ls:=r);unfold zAM at ih ⊢;obtain ⟨sl,sb⟩:=s;simp only [zBz,List.mem_cons,Side.mk.injEq,exists_eq_or_imp] at ih ⊢;rw [ih]
  cases sb <;> simp [eq_comm]
theorem least {P : Nat→Prop} : ∀ n,P n→∃ m,m ≤ n∧P m∧∀ k,k < m→¬ P k:=fun n=>by
 induction n using Nat.strongRecOn with
 | ind n ih=>
  intro h
  by_cases hk : ∃ k,k < n∧P k
  ·obtain ⟨k,h1,h2⟩:=hk;obtain ⟨m,h3,h4⟩:=ih k h1 h2;exact ⟨m,by omega,h4⟩
  ·exact ⟨n,Nat.le_refl _,h,fun k h1 h2=>hk ⟨k,h1,h2⟩⟩
theorem back_list {f : Side→Side} {s : Side} {n : Nat} (hs : itA f n s = s) (hk : ∀ k,0 < k→k < n→itA f k s ≠ s) : ∀ m k fuel,m + k = n→0 < k→m ≤ fuel→backTo f s (fuel + 1) (itA f k s) = (List.range m).map fun i=>itA f (k + i) s
 | 0,k,fuel,h1,_,_=>by
  rw [Nat.zero_add] at h1;subst h1;unfold backTo;rw [if_pos hs]
  rfl
 | m + 1,k,fuel,h1,h2,h3=>by
  obtain ⟨fuel,rfl⟩ : ∃ q,fuel = q + 1:=⟨fuel - 1,by omega⟩
  unfold backTo;rw [if_neg (hk k h2 (by omega))];have ih:=back_list hs hk m (k + 1) fuel (by omega) (by omega) (by omega);rw [show f (itA f k s) = itA f (k + 1) s from rfl,ih,List.range_succ_eq_map];simp only [List.map_cons,Nat.add_zero,List.map_map,Function.comp_def]
  congr 1
  refine List.map_congr_left fun i _=>?_;rw [show k + 1 + i = k + (i + 1) by omega]
section
variable {js : List Joint} {ls : List Lead} (V : ValidW js ls)
include V
theorem ValidW.back {s : Side} (h : zAM ls s) : ∃ n,0 < n∧n ≤ 2 * ls.length∧itA (zAV js ls) n s = s∧∀ k,0 < k→k < n→itA (zAV js ls) k s ≠ s:=by
 have inj : ∀ k i,itA (zAV js ls) k s = itA (zAV js ls) (k + i) s→itA (zAV js ls) i s = s:=fun k=>by
  induction k with
  | zero=>intro i hi;rw [Nat.zero_add] at hi;exact hi.symm
  | succ k ih=>
   intro i hi;refine ih i (V.next_inj (V.it_side h k) (V.it_side h (k + i)) ?_);rw [show k + 1 + i = k + i + 1 by omega] at hi;exact hi
 have ex : ∃ n,(0 < n∧n ≤ 2 * ls.length)∧itA (zAV js ls) n s = s:=by
  by_cases hn : ((List.range (2 * ls.length + 1)).map fun k=>itA (zAV js ls) k s).Nodup
  ·have:=zDj hn (m:=zBz ls) fun x hx=>by
    obtain ⟨k,_,rfl⟩:=List.mem_map.1 hx;exact zCI.2 (V.it_side h k)
   rw [zB7,List.length_map,List.length_range] at this;omega
  ·unfold List.Nodup at hn;rw [List.pairwise_map,List.pairwise_iff_getElem] at hn;simp only [List.length_range,List.getElem_range,ne_eq] at hn;have hn' : ∃ i j,i < j∧j < 2 * ls.length + 1∧itA (zAV js ls) i s = itA (zAV js ls) j s:=by
    refine Classical.byContradiction fun hc=>hn fun i j hi hj hij e=>hc ⟨i,j,hij,hj,e⟩
   obtain ⟨i,j,hij,hj,e⟩:=hn';refine ⟨j - i,by omega,inj i (j - i) ?_⟩;rw [e];congr 1;omega
 obtain ⟨n,⟨h1,h2⟩,h3⟩:=ex;obtain ⟨m,hm,⟨k1,k2⟩,k3⟩:=least (P:=fun n=>0 < n∧itA (zAV js ls) n s = s) n ⟨h1,h3⟩;exact ⟨m,k1,by omega,k2,fun k h0 hk e=>k3 k hk ⟨h0,e⟩⟩
theorem ValidW.walk {s : Side} (h : zAM ls s) : ∃ n,0 < n∧n ≤ 2 * ls.length∧itA (zAV js ls) n s = s∧(∀ k,0 < k→k < n→itA (zAV js ls) k s ≠ s)∧zAH js ls s = (List.range n).map fun k=>itA (zAV js ls) k s:=by
 obtain ⟨n,h1,h2,h3,h4⟩:=V.back h;refine ⟨n,h1,h2,h3,h4, ?_⟩;unfold zAH;obtain ⟨n,rfl⟩ : ∃ q,n = q + 1:=⟨n - 1,by omega⟩
 obtain ⟨q,hq⟩ : ∃ q,2 * ls.length = q + 1:=⟨2 * ls.length - 1,by omega⟩
 rw [hq,show zAV js ls s = itA (zAV js ls) 1 s from rfl,back_list h3 h4 n 1 q rfl (by omega) (by omega),List.range_succ_eq_map];simp only [List.map_cons,List.map_map,Function.comp_def]
 congr 1
 refine List.map_congr_left fun i _=>?_;rw [Nat.add_comm]
end
end Go.Proofs.YtbbblemfodpmaaaGreat
end
section
namespace Go.Proofs.YtbbblemfodpmaaaGreat
def zA3 (js : List Joint) (ls : List Lead) (acc : List (List Side)) (s : Side) : List (List Side):=if acc.flatten.contains s then acc else acc ++ [zAH js ls s]
def zBv (js : List Joint) (ls : List Lead) : List (List Side):=(zBz ls).foldl (zA3 js ls) []
def zC3 (js : List Joint) (ls : List Lead) (acc : List (List Side)) : Prop:=(∀ x ∈ acc,∃ s,zAM ls s∧x = zAH js ls s)∧acc.flatten.Nodup
section
variable {js : List Joint} {ls : List Lead} (V : ValidW js ls)
include V
theorem ValidW.cancel {s : Side} (h : zAM ls s) : ∀ k i,itA (zAV js ls) k s = itA (zAV js ls) (k + i) s→itA (zAV js ls) i s = s:=fun k=>by
 induction k with
 | zero=>intro i hi;rw [Nat.zero_add] at hi;exact hi.symm
 | succ k ih=>
  intro i hi;refine ih i (V.next_inj (V.it_side h k) (V.it_side h (k + i)) ?_);rw [show k + 1 + i = k + i + 1 by omega] at hi;exact hi
omit V in
theorem self_mem {js : List Joint} {ls : List Lead} {s : Side} (h : zAM ls s) : s ∈ zAH js ls s:=by unfold zAH;simp
theorem ValidW.walk_next {s t : Side} (h : zAM ls s) (ht : t ∈ zAH js ls s) : zAM ls t∧zAV js ls t ∈ zAH js ls s:=by
 obtain ⟨n,h1,h2,h3,h4,h5⟩:=V.walk h;rw [h5] at ht ⊢;obtain ⟨k,hk,rfl⟩:=List.mem_map.1 ht;refine ⟨V.it_side h k,List.mem_map.2 ?_⟩;have hk:=List.mem_range.1 hk
 rcases Nat.lt_or_ge (k + 1) n with q | q
 ·exact ⟨k + 1,List.mem_range.2 q,rfl⟩
 ·have e : k + 1 = n:=by omega
  exact ⟨0,List.mem_range.2 h1,by show s = itA (zAV js ls) (k + 1) s;rw [e,h3]⟩
theorem ValidW.walk_it {s t : Side} (h : zAM ls s) (ht : t ∈ zAH js ls s) : ∀ i,itA (zAV js ls) i t ∈ zAH js ls s
 | 0=>ht
 | i + 1=>(V.walk_next h (ValidW.walk_it h ht i)).2
theorem ValidW.walk_nodup {s : Side} (h : zAM ls s) : (zAH js ls s).Nodup:=by
 obtain ⟨n,h1,h2,h3,h4,h5⟩:=V.walk h;rw [h5];unfold List.Nodup;rw [List.pairwise_map];refine List.Pairwise.imp_of_mem ?_ List.pairwise_lt_range;intro a b ha hb hab e;have hb:=List.mem_range.1 hb;exact h4 (b - a) (by omega) (by omega) (V.cancel h a (b - a) (by rw [e];congr 1;omega))
theorem ValidW.walk_step {s : Side} (h : zAM ls s) {k : Nat} {t : Side} (hk : (zAH js ls s)[k]? = some t) : (zAH js ls s)[(k + 1) % (zAH js ls s).length]? = some (zAV js ls t):=by
 obtain ⟨n,h1,h2,h3,h4,h5⟩:=V.walk h;have hlen : (zAH js ls s).length = n:=by rw [h5];simp
 have hkn : k < n:=by rw [← hlen];exact (List.getElem?_eq_some_iff.1 hk).1
 rw [hlen];rw [h5,List.getElem?_map,List.getElem?_range hkn] at hk;obtain rfl : itA (zAV js ls) k s = t:=by simpa using hk
 rw [h5,List.getElem?_map,List.getElem?_range (Nat.mod_lt _ h1)];simp only [Option.map_some,Option.some.injEq]
 rcases Nat.lt_or_ge (k + 1) n with q | q
 ·rw [Nat.mod_eq_of_lt q];rfl
 ·have e : k + 1 = n:=by omega
  rw [e,Nat.mod_self]
  show s = itA (zAV js ls) (k + 1) s
  rw [e,h3]
theorem ValidW.walksStep_inv {acc : List (List Side)} (hI : zC3 js ls acc) {s : Side} (h : zAM ls s) : zC3 js ls (zA3 js ls acc s)∧s ∈ (zA3 js ls acc s).flatten∧∀ t ∈ acc.flatten,t ∈ (zA3 js ls acc s).flatten:=by
 unfold zA3
 by_cases hc : s ∈ acc.flatten
 ·rw [if_pos (by simpa using hc)];exact ⟨hI,hc,fun t ht=>ht⟩
 ·rw [if_neg (by simpa using hc)];refine ⟨⟨fun x hx=>?_, ?_⟩, ?_,fun t ht=>?_⟩
  ·rcases List.mem_append.1 hx with hx | hx
   ·exact hI.1 x hx
   ·exact ⟨s,h,by simpa using hx⟩
  ·rw [List.flatten_append,List.flatten_cons,List.flatten_nil,List.append_nil,List.nodup_append];refine ⟨hI.2,V.walk_nodup h,fun a ha b hb e=>hc ?_⟩;subst e;obtain ⟨x,hx,hax⟩:=List.mem_flatten.1 ha;obtain ⟨s0,h0,rfl⟩:=hI.1 x hx;refine List.mem_flatten.2 ⟨_,hx, ?_⟩;obtain ⟨n,h1,h2,h3,h4,h5⟩:=V.walk h;rw [h5] at hb;obtain ⟨k,hk,e⟩:=List.mem_map.1 hb;have hk:=List.mem_range.1 hk;have:=V.walk_it h0 hax (n - k)
   rwa [← e,← it_add,show n - k + k = n by omega,h3] at this
  ·rw [List.flatten_append];simp [self_mem h]
  ·rw [List.flatten_append];exact List.mem_append_left _ ht
theorem ValidW.walks_fold : ∀ (l : List Side) (acc : List (List Side)),(∀ s ∈ l,zAM ls s)→zC3 js ls acc→zC3 js ls (l.foldl (zA3 js ls) acc)∧(∀ s ∈ l,s ∈ (l.foldl (zA3 js ls) acc).flatten)∧∀ t ∈ acc.flatten,t ∈ (l.foldl (zA3 js ls) acc).flatten
 | [],acc,_,hI=>⟨hI,by simp,fun t ht=>ht⟩
 | s :: l,acc,hl,hI=>by
  obtain ⟨h1,h2,h3⟩:=V.walksStep_inv hI (hl s (by simp));obtain ⟨k1,k2,k3⟩:=ValidW.walks_fold l _ (fun t ht=>hl t (by simp [ht])) h1;refine ⟨k1,fun t ht=>?_,fun t ht=>k3 t (h3 t ht)⟩
  rcases List.mem_cons.1 ht with rfl | ht
  ·exact k3 _ h2
  ·exact k2 t ht
theorem ValidW.walks_inv : zC3 js ls (zBv js ls):=(V.walks_fold (zBz ls) [] (fun s hs=>zCI.1 hs) ⟨by simp,by simp⟩).1
end
end Go.Proofs.YtbbblemfodpmaaaGreat
end
