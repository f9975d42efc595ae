/-The reference's Check, around, next, walk in plain Lean.-/
import Derived.Test.YtbbblemfodpmaaaGreatWebGu
import Derived.Test.YtbbblemfodpmaaaGreatWebGa
import Derived.Test.YtbbblemfodpmaaaGreatWebGv
set_option linter.unusedVariables false
set_option linter.unusedSimpArgs false
set_option maxHeartbeats 16000000
set_option maxRecDepth 100000
section
namespace Go.Proofs.YtbbblemfodpmaaaGreat
open Go.RowKit
def zDu (o l : Lead) : Bool:=(o.a == l.a && o.b == l.b) || (o.a == l.b && o.b == l.a)
theorem pair_iff (o l : Lead) : zDu o l = true ↔ zAX o = zAX l:=by
 unfold zDu zAX;simp only [Bool.or_eq_true,Bool.and_eq_true,beq_iff_eq,Prod.mk.injEq];omega
theorem pair_contains (l : List Lead) (x : Lead) : (l.map zAX).contains (min x.a x.b,max x.a x.b) = l.any fun y=>zDu y x:=by
 rw [Bool.eq_iff_iff,List.any_eq_true,List.contains_iff_mem,List.mem_map];exact exists_congr fun y=>and_congr_right fun _=>(pair_iff y x).symm
def zCV (ls : List Lead) (k : Nat) : Option Int:=if k = 0 then none else ls[k - 1]?.map (·.id)
theorem rl_step {js : List Joint} {ls : List Lead} {k : Nat} {x : Lead} (hx : ls[k]? = some x) :
  clA js ((ls.take k).map zAX) (zCV ls k) (ls.drop k) = if (!zBI js x || zBE (zCV ls k) x.id || (ls.take k).any (fun y=>zDu y x)) = true then (x.id,false) else clA js ((ls.take (k + 1)).map zAX) (zCV ls (k + 1)) (ls.drop (k + 1)):=by
 have hk:=(List.getElem?_eq_some_iff.1 hx).1;have he : ls.drop k = x :: ls.drop (k + 1):=by
  rw [List.drop_eq_getElem_cons hk]
  congr 1
  exact Option.some.inj (by rw [← hx,List.getElem?_eq_getElem hk])
 have hp : zCV ls (k + 1) = some x.id:=by unfold zCV;simp [hx]
 have ht : (ls.take (k + 1)).map zAX = (ls.take k).map zAX ++ [(min x.a x.b,max x.a x.b)]:=by rw [List.take_add_one,hx];simp [zAX]
 rw [he,clA,pair_contains,hp,ht]
structure ValidJL (js : List Joint) (ls : List Lead) : Prop where
 jid : js.Pairwise fun a b=>a.id < b.id
 jok : ∀ j ∈ js,zBg j.id = true∧inP j.at_ = true
 jat : js.Pairwise fun a b=>a.at_ ≠ b.at_
 lok : ∀ l ∈ ls,zBI js l = true
 lend : ls.Pairwise fun a b=>zAX a ≠ zAX b
theorem validJL {js : List Joint} {ls : List Lead} (h1 : (cjA [] none js).2 = true) (h2 : (clA js [] none ls).2 = true) : ValidJL js ls:=by
 obtain ⟨a1,a2,a3⟩:=cj_ok js [] none h1;obtain ⟨b1,b2,b3⟩:=cl_ok js ls [] none h2;exact ⟨a2,fun j hj=>⟨(a1 j hj).1,(a1 j hj).2.1⟩,a3,fun l hl=>(b1 l hl).1,b3⟩
theorem at_joint {js : List Joint} {id : Int} (h : (atA js id).isSome = true) : ∃ j ∈ js,j.id = id∧ptA js id = j.at_:=by
 unfold atA at h;rw [Option.isSome_map] at h;obtain ⟨j,hj⟩:=Option.isSome_iff_exists.1 h;refine ⟨j,List.mem_of_find?_eq_some hj,by simpa using List.find?_some hj, ?_⟩;unfold ptA atA;rw [hj];rfl
theorem zDa {js : List Joint} {l : Lead} (h : zBI js l = true) : (atA js l.a).isSome = true∧(atA js l.b).isSome = true∧l.a ≠ l.b:=by
 unfold zBI at h;simp only [Bool.and_eq_true,bne_iff_ne,ne_eq] at h;exact ⟨h.1.1.1.1.1.1.1.2,h.1.1.1.1.1.1.2,h.1.1.1.1.1.2⟩
theorem ValidJL.ptinj {js : List Joint} {ls : List Lead} (V : ValidJL js ls) {i k : Int} (hi : (atA js i).isSome = true) (hk : (atA js k).isSome = true) (h : ptA js i = ptA js k) : i = k:=by
 obtain ⟨x,hx,e1,e2⟩:=at_joint hi;obtain ⟨y,hy,f1,f2⟩:=at_joint hk
 rcases pw_or V.jat hx hy with e | e | e
 ·rw [← e1,← f1,e]
 ·exact absurd (e2.symm.trans (h.trans f2)) e
 ·exact absurd (f2.symm.trans (h.symm.trans e2)) e
theorem ValidJL.meets {js : List Joint} {ls : List Lead} (V : ValidJL js ls) {k q : Nat} {l o : Lead} (hl : ls[k]? = some l) (ho : ls[q]? = some o) (hq : q < k) : zDf js l o = (zBO js l o || zBH js l o):=by
 have hlm:=List.mem_of_getElem? hl;have hom:=List.mem_of_getElem? ho;obtain ⟨a1,a2,a3⟩:=zDa (V.lok l hlm);obtain ⟨b1,b2,b3⟩:=zDa (V.lok o hom);have hne : zAX o ≠ zAX l:=by
  have:=List.pairwise_iff_getElem.1 V.lend q k (List.getElem?_eq_some_iff.1 ho).1 (List.getElem?_eq_some_iff.1 hl).1 hq
  rwa [(List.getElem?_eq_some_iff.1 ho).2,(List.getElem?_eq_some_iff.1 hl).2] at this
 refine meets_eq (fun i k hi hk h=>V.ptinj (by rcases hi with rfl | rfl <;> assumption) (by rcases hk with rfl | rfl <;> assumption) h) a3 b3 (fun h=>hne ?_) (fun h=>hne ?_)
 ·unfold zAX;rw [h.1,h.2]
 ·unfold zAX;rw [h.1,h.2,Int.min_comm,Int.max_comm]
def zCx (d : Point) : Int:=if 0 < d.y then 0 else if d.y = 0∧0 < d.x then 0 else 1
def zDn (a b : Point) : Bool:=if zCx a ≠ zCx b then decide (zCx a < zCx b) else decide (0 < a.x * b.y - a.y * b.x)
def dirR (js : List Joint) (ls : List Lead) (s : Side) : Point:=⟨(ptA js (zAl ls s).2).x - (ptA js (zAl ls s).1).x,(ptA js (zAl ls s).2).y - (ptA js (zAl ls s).1).y⟩
def befR (js : List Joint) (ls : List Lead) (s t : Side) : Bool:=zDn (dirR js ls s) (dirR js ls t)
def zBc (js : List Joint) (ls : List Lead) (j : Int) (out : List Side) (l : Lead) : List Side:=if l.a ≠ j∧l.b ≠ j then out else insB (befR js ls) ⟨l.id,decide (l.b = j)⟩ out
def aroundR (js : List Joint) (ls : List Lead) (j : Int) : List Side:=ls.foldl (zBc js ls j) []
theorem before_lt {o p q : Point} (hp : o ≠ p) (hq : o ≠ q) : zDn ⟨p.x - o.x,p.y - o.y⟩ ⟨q.x - o.x,q.y - o.y⟩ = ltD o p q:=by
 have hh : ∀ p,o ≠ p→(zCx ⟨p.x - o.x,p.y - o.y⟩ = 0∧zBi o p = false) ∨ (zCx ⟨p.x - o.x,p.y - o.y⟩ = 1∧zBi o p = true):=fun p hp=>by
  have : ¬ (p.x = o.x∧p.y = o.y):=fun e=>hp (by cases o;cases p;simp_all)
  cases hl : zBi o p with
  | false=>
   left;refine ⟨?_,rfl⟩
   have h:=zEI hp hl;unfold upV at h;unfold zCx;simp only
   split
   ·rfl
   ·rw [if_pos (by omega)]
  | true=>
   right;refine ⟨?_,rfl⟩
   have h:=zDw hl;unfold upV at h;unfold zCx;simp only;rw [if_neg (by omega),if_neg (by omega)]
 rw [Bool.eq_iff_iff,ltD_iff];unfold zDn zAw
 rcases hh p hp with ⟨a,b⟩ | ⟨a,b⟩ <;> rcases hh q hq with ⟨c,d⟩ | ⟨c,d⟩ <;> rw [a,b,c,d] <;> simp
theorem zGe {α : Type} {f g : α→α→Bool} (x : α) : ∀ l : List α,(∀ y ∈ l,f y x = g y x)→insB f x l = insB g x l
 | [],_=>rfl
 | y :: r,h=>by
  unfold insB;rw [h y (by simp),zGe x r fun z hz=>h z (List.mem_cons_of_mem _ hz)]
theorem zFu {l : Lead} {j : Int} (h : l.a ≠ l.b) : zAp j [l] = if l.a ≠ j∧l.b ≠ j then [] else [⟨l.id,decide (l.b = j)⟩]:=by
 unfold zAp zAp
 by_cases h1 : l.a = j <;> by_cases h2 : l.b = j
 ·exact absurd (h1.trans h2.symm) h
 ·simp [h1,h2]
 ·simp [h1,h2]
 ·simp [h1,h2]
theorem zCu (j : Int) : ∀ l m : List Lead,zAp j (l ++ m) = zAp j l ++ zAp j m
 | [],m=>rfl
 | x :: l,m=>by simp only [List.cons_append,zAp,zCu j l m,List.append_assoc]
section
variable {js : List Joint} {ls : List Lead} (V : ValidW js ls)
include V
theorem ValidW.bef {j : Int} {s t : Side} (hs : s ∈ zAp j ls) (ht : t ∈ zAp j ls) : befR js ls s t = ltAt js ls j s t:=by
 have key : ∀ s,s ∈ zAp j ls→ptA js j ≠ ptA js (zAl ls s).2∧(zAl ls s).1 = j:=fun s hs=>by
  obtain ⟨l,hl,_,e,i,hi,k,hk,e1,e2,e3,e4,e5,_⟩:=V.leave hs;refine ⟨?_,e⟩;rw [e4,e5];exact V.atne hi hk (by rw [e1];exact e3)
 unfold befR dirR ltAt;rw [(key s hs).2,(key t ht).2];exact before_lt (key s hs).1 (key t ht).1
theorem ValidW.around_inv (j : Int) : ∀ (m l : List Lead),l ++ m = ls→(l.foldl (zBc js ls j) []).Perm (zAp j l)→UpB (ltAt js ls j) (l.foldl (zBc js ls j) [])→
  ((l ++ m).foldl (zBc js ls j) []).Perm (zAp j (l ++ m))∧UpB (ltAt js ls j) ((l ++ m).foldl (zBc js ls j) [])
 | [],l,_,h1,h2=>by rw [List.append_nil];exact ⟨h1,h2⟩
 | x :: m,l,e,h1,h2=>by
  have e' : (l ++ [x]) ++ m = ls:=by rw [List.append_assoc];exact e
  have hx : x ∈ ls:=by rw [← e];simp
  have hab : x.a ≠ x.b:=by obtain ⟨_,_,_,_,_,_,h,_,_⟩:=V.ends hx;exact h
  have hin : ∀ s ∈ zAp j (l ++ [x]),s ∈ zAp j ls:=fun s hs=>by rw [← e',zCu];exact List.mem_append_left _ hs
  have hstep : ((l ++ [x]).foldl (zBc js ls j) []).Perm (zAp j (l ++ [x]))∧UpB (ltAt js ls j) ((l ++ [x]).foldl (zBc js ls j) []):=by
   rw [List.foldl_append,zCu,zFu hab]
   show (zBc js ls j _ x).Perm _∧UpB _ (zBc js ls j _ x)
   generalize l.foldl (zBc js ls j) [] = out at h1 h2 ⊢;unfold zBc
   by_cases hc : x.a ≠ j∧x.b ≠ j
   ·rw [if_pos hc,if_pos hc,List.append_nil];exact ⟨h1,h2⟩
   ·rw [if_neg hc,if_neg hc];have hm : (⟨x.id,decide (x.b = j)⟩ : Side) ∈ zAp j ls:=hin _ (by rw [zCu,zFu hab,if_neg hc];simp);have hmem : ∀ y ∈ out,y ∈ zAp j ls:=fun y hy=>hin y (by rw [zCu];exact List.mem_append_left _ (h1.mem_iff.1 hy));rw [zGe (f:=befR js ls) (g:=ltAt js ls j) _ _ fun y hy=>V.bef (hmem y hy) hm];exact ⟨(zDl _ _ _).trans ((List.perm_append_singleton _ _).symm.trans (h1.append_right _) |> fun h=>h),insB_up (V.ord j) hm _ hmem h2⟩
  have:=ValidW.around_inv j m (l ++ [x]) e' hstep.1 hstep.2
  rwa [List.append_assoc] at this
theorem ValidW.around_eq (j : Int) : aroundR js ls j = outA js ls j:=by
 obtain ⟨h1,h2⟩:=V.around_inv j ls [] rfl (.refl _) .nil;exact upB_eq (V.ord j) (fun a ha=>h1.mem_iff.1 ha) (h1.trans (zB2 _ _).symm) h2 (V.out_up j)
end
end Go.Proofs.YtbbblemfodpmaaaGreat
end
section
namespace Go.Proofs.YtbbblemfodpmaaaGreat
open Go.RowKit
theorem idx_some {js : List Joint} {id : Int} (h : (atA js id).isSome = true) : ∃ (k : Nat) (x : Joint),idxI (fun x=>decide (x.id = id)) js = (k : Int)∧k < js.length∧js[k]? = some x∧x.id = id∧ptA js id = x.at_:=by
 unfold ptA;unfold atA at h ⊢;rw [Option.isSome_map] at h;obtain ⟨x,hx⟩:=Option.isSome_iff_exists.1 h;have h2:=List.find?_some hx;have h3:=List.find?_eq_some_iff_getElem.1 hx;obtain ⟨_,k,hk,e,hno⟩:=h3;refine ⟨k,x, ?_,hk,by rw [List.getElem?_eq_getElem hk,e],by simpa using h2,by rw [hx];rfl⟩;exact zCg (x:=x) (by rw [List.getElem?_eq_getElem hk,e]) (fun j y hj hy=>by
  have hjl:=Nat.lt_trans hj hk;rw [List.getElem?_eq_getElem hjl] at hy
  cases hy;simpa using hno j hj) h2
theorem rat_any (sj : Sl Joint) (sl : Sl Lead) (id : Int) (w : World) (h : sj.OK 3 zAh zAs (fun _=>False) w) (hs : (atA sj.val id).isSome = true) :
  Calls Tryz.prog 135 #[.agg #[.slice sj.a sj.val.length sj.cap, .slice sl.a sl.val.length sl.cap], .int .i64 id] w fun e w'=>e = .returned (.agg (zAb (ptA sj.val id)))∧Below w.heap.size w w':=by
 obtain ⟨k,x,e1,hk,hx,_,e2⟩:=idx_some hs;have HI : Hid (Det 121 #[.agg #[.slice sj.a sj.val.length sj.cap, .slice sl.a sl.val.length sl.cap], .int .i64 id] (.int .i64 (k : Int)) w):=zz fun W hW=>by have h1:=zE9 sj sl id W (h.jmoved hW);rw [e1] at h1;exact h1
 have HB0 : Hid (Below w.heap.size w ((w.alloc (.cells #[.slice sj.a sj.val.length sj.cap, .slice sl.a sl.val.length sl.cap] 25)).alloc (.cells #[.int .i64 0, .int .i64 0] 27))):=zz ((((Lays.refl w).alloc _).alloc _).below (Nat.le_refl _));have HX0 : Hid (zAe ((w.alloc (.cells #[.slice sj.a sj.val.length sj.cap, .slice sl.a sl.val.length sl.cap] 25)).alloc (.cells #[.int .i64 0, .int .i64 0] 27)) w.heap.size 25 #[.slice sj.a sj.val.length sj.cap, .slice sl.a sl.val.length sl.cap]):=zz ((zAe.new _ _ _).alloc _);have HP0 : Hid (zAe ((w.alloc (.cells #[.slice sj.a sj.val.length sj.cap, .slice sl.a sl.val.length sl.cap] 25)).alloc (.cells #[.int .i64 0, .int .i64 0] 27)) (w.heap.size + 1) 27 #[.int .i64 0, .int .i64 0]):=zz (by have:=zAe.new (w.alloc (.cells #[.slice sj.a sj.val.length sj.cap, .slice sl.a sl.val.length sl.cap] 25)) 27 #[.int .i64 0, .int .i64 0];rwa [World.size_alloc] at this);obtain ⟨bb,o,ha,hbb,_,_,hc⟩:=h.at hx;have HCY : Hid (∀ W,Below w.heap.size w W→∀ j,j < (zAb x.at_).size→W.cell? ⟨bb,o + k * 3 + 1 + j,none⟩ = (zAb x.at_)[j]?):=zz fun W hW j hj=>by
  rw [hW.cell (p:=⟨bb,o + k * 3 + 1 + j,none⟩) hbb,← jpt x j hj,← hc (1 + j) (by have : (zAb x.at_).size = 2:=rfl;rw [this] at hj;show 1 + j < 3;omega),Nat.add_assoc]
 have hroom:=h.room;rw [e2];obtain ⟨ov,hov⟩ : ∃ z,Value.slice sl.a sl.val.length sl.cap = z:=⟨_,rfl⟩
 obtain ⟨a,cap,val⟩:=sj;simp only at ha;subst ha;obtain ⟨n,hn⟩ : ∃ n,val.length = n:=⟨_,rfl⟩
 simp only [hov,hn] at hroom hk HI HB0 HX0 HP0 ⊢;clear hov hn h hs e1 hx e2 hc;go_enter Tryz.func135,Tryz.ntmps135;go_wp2;refine rgD [0,1,2,3,4,5,6,7] [] (fun _=>(0,#[])) [(8,false)] ?_
 (refine wD rfl ?_;simp only [pT])
 refine zAi (v:=.slice (some ⟨bb,o,none⟩) n cap) rfl rfl (fun W hW=>by have e : W.cell? ⟨w.heap.size,0,none⟩ = some (.slice (some ⟨bb,o,none⟩) n cap):=((HX0.out.drew.belowAll hW).cell 0).trans rfl;go_simp) ?_;simp only [pT];refine zAi (v:=.agg #[.slice (some ⟨bb,o,none⟩) n cap,ov]) rfl rfl (fun W hW=>zAc #[.slice (some ⟨bb,o,none⟩) n cap,ov] (HX0.out.drew.belowAll hW) rfl (zAg _) zuC) ?_;simp only [pT]
 (refine wD rfl ?_;simp only [pT])
 refine zAO _ _ (.int .i64 (k : Int)) rfl rfl (fun W=>by go_simp;try with_reducible rfl) (HI.out.moved HB0.out.drew) ?_;simp only [pT];iterate 2 (refine wD rfl ?_;simp only [pT])
 refine zAi (v:=.agg (zAb x.at_)) rfl rfl (fun W hW=>zAE (zAb x.at_) (HCY.out W (HB0.out.drew.trans (hW.mono HB0.out.drew.size))) rfl zuB) ?_;simp only [pT];intro f W1 HW1 h1 h2;simp only [zAP];clear h1 h2 f;refine zAt [5,6,7,8,9,10,11] fun u=>?_;simp only [zAu,pT];refine zBG ((HP0.out.drew).belowAll HW1) rfl rfl (.agg (zAb x.at_)) rfl (by kernel_rfl) (by rfl) (zAD _) fun w2 hb2 ht2=>?_;simp only [wpS];go_wp2;exact bodyPost_ret (zBs (cs:=zAb x.at_) (hb2.eqv (by simp [zAx,zAb,Value.cells])) rfl rfl zuB) rfl ⟨rfl,(HB0.out.drew.trans (HW1.mono HB0.out.drew.size)).trans (ht2.below (by omega))⟩
end Go.Proofs.YtbbblemfodpmaaaGreat
end
section
namespace Go.Proofs.YtbbblemfodpmaaaGreat
open Go.RowKit
theorem badLead_any (sj : Sl Joint) (sl : Sl Lead) (w : World) (hj : sj.OK 3 zAh zAs (fun _=>False) w) (h : sl.OK 8 zAd zAA (fun _=>False) w) :
  Calls Tryz.prog 84 #[.agg #[.slice sj.a sj.val.length sj.cap, .slice sl.a sl.val.length sl.cap]] w fun e w'=>e = .returned (.tuple #[.int .i64 (clA sj.val [] none sl.val).1, .bool (!(clA sj.val [] none sl.val).2)])∧Below w.heap.size w w':=by
 have hroom:=h.room;have HS:=zz h;have HV : Hid (∀ x,Det 150 #[.agg #[.slice sj.a sj.val.length sj.cap, .slice sl.a sl.val.length sl.cap], .agg (zAd x)] (.bool (zBI sj.val x)) w):=zz fun x W hW=>rvalid_any sj sl x W (hj.jmoved hW);clear h hj;have HB0 : Hid (Below w.heap.size w (w.alloc (.cells #[.slice sj.a sj.val.length sj.cap, .slice sl.a sl.val.length sl.cap] 25))):=zz ((Below.refl _ _).alloc (Nat.le_refl _) _);have HX0:=zz (zAe.new w 25 #[.slice sj.a sj.val.length sj.cap, .slice sl.a sl.val.length sl.cap]);obtain ⟨ov,hov⟩ : ∃ z,Value.slice sj.a sj.val.length sj.cap = z:=⟨_,rfl⟩
 obtain ⟨js,hjs⟩ : ∃ z,sj.val = z:=⟨_,rfl⟩
 obtain ⟨a,cap,val⟩:=sl;simp only [hov] at hroom HS HB0 HX0 HV ⊢;simp only [hjs] at HV ⊢;clear hov hjs;obtain ⟨n,hn⟩ : ∃ n,val.length = n:=⟨_,rfl⟩
 have HN:=zz hn;simp only [hn] at hroom HB0 HX0 HV ⊢;clear hn;obtain ⟨R,hR⟩ : ∃ R,clA js [] none val = R:=⟨_,rfl⟩
 have HR0 : Hid (R = clA js ((val.take 0).map zAX) (zCV val 0) (val.drop 0)):=zz hR.symm;simp only [hR];clear hR;go_enter Tryz.func84,Tryz.ntmps84;go_wp2
 go_loopw [4] (fun i wr=>∃ k : Nat,k ≤ n∧i = .int .i64 k∧Hid (R = clA js ((val.take k).map zAX) (zCV val k) (val.drop k))∧Hid (Below w.heap.size w wr∧zAe wr w.heap.size 25 #[ov, .slice a n cap])) (fun i _=>n - (intOf i).toNat)
 case atStart=>exact ⟨0,Nat.zero_le _,rfl,HR0,zz ⟨HB0.out,HX0.out⟩⟩
 case round=>
  obtain ⟨k,hk,rfl,HRK,HW⟩:=hrel;have q0:=(HW.out.2.cell 1).trans (show _ = some (.slice a n cap) from rfl)
  by_cases hlt : k < n
  ·obtain ⟨x,hx⟩ : ∃ x,val[k]? = some x:=⟨_,List.getElem?_eq_getElem (by rw [HN.out];exact hlt)⟩
   obtain ⟨bb,o,rfl,hbb,_,_,hc⟩:=HS.out.at hx;have HCX : Hid (∀ j,j < (zAd x).size→wr.cell? ⟨bb,o + k * 8 + j,none⟩ = (zAd x)[j]?):=zz fun j hj=>(HW.out.1.cell (p:=⟨bb,o + k * 8 + j,none⟩) hbb).trans (hc j hj);have HRS:=zz (rl_step (js:=js) hx);clear hx hc hbb
   go_upto_region 5 with (first
    | ((with_reducible refine zAm 20 ?_);refine zLe 20 bb (o + k * 8) (zAd x) HCX.out zuD ?_)
    | ((with_reducible refine zAv 31 ?_);refine zAk (cs:=zAd x) rfl 31 _ _ rfl rfl rfl rfl (by kernel_rfl) rfl (zA9 _) ?_;simp only [pTn]))
   have HJB : Hid (zAe (wr.alloc (.cells (zAd x) 31)) wr.heap.size 31 (zAd x)):=zz (zAe.new _ _ _);have HWB : Hid (zAe (wr.alloc (.cells (zAd x) 31)) w.heap.size 25 #[ov, .slice (some ⟨bb,o,none⟩) n cap]):=zz (HW.out.2.alloc _);have HWL : Hid (Below w.heap.size w (wr.alloc (.cells (zAd x) 31))):=zz (HW.out.1.alloc HW.out.1.size _);have HC5 : Hid (∀ W,Below (wr.alloc (.cells (zAd x) 31)).drew.heap.size (wr.alloc (.cells (zAd x) 31)).drew W→W.cell? ⟨wr.heap.size,0,none⟩ = some (.int .i64 x.id)∧W.cell? ⟨w.heap.size,1,none⟩ = some (.slice (some ⟨bb,o,none⟩) n cap)):=zz fun W hW=>⟨((HJB.out.drew.belowAll hW).cell 0).trans rfl,((HWB.out.drew.belowAll hW).cell 1).trans rfl⟩
   obtain ⟨y,hy⟩ : ∃ y,(val[k - 1]?).getD default = y:=⟨_,rfl⟩
   have HYC : Hid (0 < k→∀ W,Below w.heap.size w W→W.cell? ⟨bb,o + (k - 1) * 8,none⟩ = some (.int .i64 y.id)):=zz fun h0 W hW=>by
    have hk1 : val[k - 1]? = some y:=by rw [← hy,List.getElem?_eq_getElem (by rw [HN.out];omega)];rfl
    obtain ⟨b2,o2,e,hb2,_,_,hcy⟩:=HS.out.at hk1;simp only [Option.some.injEq,Addr.mk.injEq,and_true] at e;obtain ⟨rfl,rfl⟩:=e;exact (hW.cell (p:=⟨bb,o + (k - 1) * 8,none⟩) hb2).trans ((hcy 0 (by decide : 0 < 8)).trans rfl)
   have HPV : Hid (zBE (zCV val k) x.id = (decide (0 < k) && decide (x.id ≤ y.id))):=zz (by
    unfold zCV
    rcases k with _ | k
    ·rfl
    ·have hk1 : val[k]? = some y:=by rw [← hy];simp only [Nat.add_sub_cancel];rw [List.getElem?_eq_getElem (by rw [HN.out];omega)];rfl
     simp [hk1,zBE])
   have W3 : Hid (0 < k→IntKind.i64.wrap ((k : Int) - 1) = ((k - 1 : Nat) : Int)):=zz fun h0=>by rw [IntWalk.i64_in _ (by omega)];omega
   clear hy HCX q0;refine rgD [0,1,2,3,4,5,6,7,8,9,10,11,12,13,14,15,16,17,18,19,20] [] (fun _=>(0,#[])) [] ?_;refine zAi (v:=.agg #[ov, .slice (some ⟨bb,o,none⟩) n cap]) rfl rfl (fun W hW=>zAc #[ov, .slice (some ⟨bb,o,none⟩) n cap] (HWB.out.drew.belowAll hW) rfl (zAg _) zuC) ?_;simp only [pT];refine zAi (v:=.agg (zAd x)) rfl rfl (fun W hW=>zAc (zAd x) (HJB.out.drew.belowAll hW) rfl (zAg _) zuD) ?_;simp only [pT];refine zAO _ _ _ rfl rfl (fun W=>by go_simp;try with_reducible rfl) ((HV.out x).moved HWL.out.drew) ?_;simp only [pT];iterate 2 (first | (refine wD rfl ?_;simp only [pT]) | (refine zAi rfl rfl (fun W hW=>by have c:=HC5.out W hW;go_simp;with_reducible rfl) ?_;simp only [pT]))
   iterate 3 (refine zAB rfl rfl (fun hg W hW=>by (try simp only [Bool.and_eq_true] at hg);(try simp only [hg,Bool.and_self,zAz]);have c:=HC5.out W hW;go_simp;with_reducible rfl) ?_;simp only [pT])
   iterate 5 (refine zCe rfl rfl (fun hg W hW=>by (try simp only [Bool.and_eq_true] at hg);(try simp only [hg,Bool.and_self,zAz]);have c:=HC5.out W hW;go_simp;with_reducible rfl) ?_;simp only [pT])
   refine zCe (v:=.int .i64 ((k - 1 : Nat) : Int)) rfl rfl (fun hg W hW=>by (try simp only [Bool.and_eq_true] at hg);(try simp only [hg,Bool.and_self,zAz]);go_simp;exact W3.out (by simp at hg;exact hg.2)) ?_;simp only [pT];refine zCe (v:=.pointer (some ⟨bb,o + (k - 1) * 8,none⟩)) rfl rfl (fun hg W hW=>by (try simp only [Bool.and_eq_true] at hg);(try simp only [hg,Bool.and_self,zAz]);have h0 : 0 < k:=(by simp at hg;exact hg.2);have h1 : k - 1 < n:=(by omega);go_simp) ?_;simp only [pT]
   (refine zCe rfl rfl (fun hg W hW=>by (try simp only [Bool.and_eq_true] at hg);(try simp only [hg,Bool.and_self,zAz]);have c:=HC5.out W hW;go_simp;with_reducible rfl) ?_;simp only [pT])
   refine zCe (v:=.int .i64 y.id) rfl rfl (fun hg W hW=>by (try simp only [Bool.and_eq_true] at hg);(try simp only [hg,Bool.and_self,zAz]);have c:=HYC.out (by simp at hg;exact hg.2) W (HWL.out.drew.trans (hW.mono HWL.out.drew.size));go_simp) ?_;simp only [pT]
   (refine zCe rfl rfl (fun hg W hW=>by (try simp only [Bool.and_eq_true] at hg);(try simp only [hg,Bool.and_self,zAz]);have c:=HC5.out W hW;go_simp;with_reducible rfl) ?_;simp only [pT])
   refine zEk rfl (zC2 rfl) rfl rfl ?_;simp only [pT];refine zBX rfl rfl rfl ?_;simp only [pT]
   (first | (refine wD rfl ?_;simp only [pT]) | (refine zAi rfl rfl (fun W hW=>by have c:=HC5.out W hW;go_simp;with_reducible rfl) ?_;simp only [pT]))
   intro f W1 HW1 h1 h2;simp only [zAP];clear h1 h2 f;refine zAt [21,22,23,24,25,26,27,28,29,30,31,32,33,34,35,36,37,38,39,40] fun u=>?_;simp only [zAu,pT];simp only [wpS];have HW2 : Hid (Below w.heap.size w W1∧zAe W1 w.heap.size 25 #[ov, .slice (some ⟨bb,o,none⟩) n cap]∧zAe W1 wr.heap.size 31 (zAd x)):=zz ⟨HWL.out.drew.trans (HW1.mono HWL.out.drew.size),HWB.out.drew.belowAll HW1,HJB.out.drew.belowAll HW1⟩;rw [← HPV.out];obtain ⟨b0,hb0⟩ : ∃ b0,(!zBI js x || zBE (zCV val k) x.id) = b0:=⟨_,rfl⟩
   simp only [hb0] at HRS ⊢;obtain ⟨jb,hjb⟩ : ∃ jb,wr.heap.size = jb:=⟨_,rfl⟩
   simp only [hjb] at HW2 ⊢;clear hjb HW HWL HWB HJB HPV HYC W3 HC5 HW1 hb0;go_wp2
   go_loopw [6,7] (fun v i wr=>∃ q : Nat,q ≤ k∧i = .int .i64 q∧v = .bool (b0 || (val.take q).any (fun y=>zDu y x))∧Hid (Below w.heap.size w wr∧zAe wr w.heap.size 25 #[ov, .slice (some ⟨bb,o,none⟩) n cap]∧zAe wr jb 31 (zAd x))) (fun _ i _=>k - (intOf i).toNat)
   case atStart=>exact ⟨0,Nat.zero_le _,rfl,by simp,HW2⟩
   case round=>
    obtain ⟨q,hq,rfl,rfl,HW3⟩:=hrel;have q1:=(HW3.out.2.1.cell 1).trans (show _ = some (.slice (some ⟨bb,o,none⟩) n cap) from rfl)
    by_cases hqk : q < k
    ·obtain ⟨z,hz⟩ : ∃ z,val[q]? = some z:=⟨_,List.getElem?_eq_getElem (by rw [HN.out];omega)⟩
     obtain ⟨b2,o2,e,hb2,_,_,hcz⟩:=HS.out.at hz;simp only [Option.some.injEq,Addr.mk.injEq,and_true] at e;obtain ⟨rfl,rfl⟩:=e;have HCZ : Hid (∀ j,j < (zAd z).size→wr.cell? ⟨bb,o + q * 8 + j,none⟩ = (zAd z)[j]?):=zz fun j hj=>(HW3.out.1.cell (p:=⟨bb,o + q * 8 + j,none⟩) hb2).trans (hcz j hj);have HTK : Hid ((b0 || (val.take (q + 1)).any (fun y=>zDu y x)) = ((b0 || (val.take q).any (fun y=>zDu y x)) || zDu z x)):=zz (by rw [List.take_add_one,hz,List.any_append,Bool.or_assoc];simp);have hqn : q < n:=by omega
     have HPB : Hid (zDu z x = ((z.a == x.a) && (z.b == x.b) || (z.a == x.b) && (z.b == x.a))):=zz rfl;obtain ⟨b1,h1⟩ : ∃ b,(z.a == x.a) = b:=⟨_,rfl⟩
     obtain ⟨b2,h2⟩ : ∃ b,(z.b == x.b) = b:=⟨_,rfl⟩
     obtain ⟨b3,h3⟩ : ∃ b,(z.a == x.b) = b:=⟨_,rfl⟩
     obtain ⟨b4,h4⟩ : ∃ b,(z.b == x.a) = b:=⟨_,rfl⟩
     simp only [h1,h2,h3,h4] at HPB;have E1:=zz h1;have E2:=zz h2;have E3:=zz h3;have E4:=zz h4;clear h1 h2 h3 h4;obtain ⟨bv,hbv⟩ : ∃ bv,(b0 || (val.take q).any (fun y=>zDu y x)) = bv:=⟨_,rfl⟩
     simp only [hbv] at HTK ⊢;clear hz hcz hb2 hbv
     go_upto_region 10 with (first
      | ((with_reducible refine zAm 50 ?_);refine zLe 50 bb (o + q * 8) (zAd z) HCZ.out zuD ?_)
      | ((with_reducible refine zAv 31 ?_);refine zAk (cs:=zAd z) rfl 31 _ _ rfl rfl rfl rfl (by kernel_rfl) rfl (zA9 _) ?_;simp only [pTn]))
     have HZ:=zz (zAe.new wr 31 (zAd z));have HC10 : Hid (∀ W,Below (wr.alloc (.cells (zAd z) 31)).heap.size (wr.alloc (.cells (zAd z) 31)) W→W.cell? ⟨wr.heap.size,1,none⟩ = some (.int .i64 z.a)∧W.cell? ⟨wr.heap.size,2,none⟩ = some (.int .i64 z.b)∧W.cell? ⟨jb,1,none⟩ = some (.int .i64 x.a)∧W.cell? ⟨jb,2,none⟩ = some (.int .i64 x.b)):=zz fun W hW=>⟨((HZ.out.belowAll hW).cell 1).trans rfl,((HZ.out.belowAll hW).cell 2).trans rfl,(((HW3.out.2.2.alloc _).belowAll hW).cell 1).trans rfl,(((HW3.out.2.2.alloc _).belowAll hW).cell 2).trans rfl⟩
     refine rgR [0,1,2,3,4,5,6,7,8,9,10,11,12,13,14,15,16,17,18,19,20,21,22,23,24,25,26,27,28,29] [] (fun _=>(0,#[])) [] ?_;iterate 2 (first | (refine wD rfl ?_;simp only [pT]) | (refine zAi rfl rfl (fun W hW=>by have c:=HC10.out W hW;go_simp;with_reducible rfl) ?_;simp only [pT]))
     iterate 4 (refine zAB rfl rfl (fun hg W hW=>by (try simp only [Bool.and_eq_true] at hg);(try simp only [hg,Bool.and_self,zAz]);have c:=HC10.out W hW;go_simp;with_reducible rfl) ?_;simp only [pT])
     refine zAB (v:=.bool b1) rfl rfl (fun hg W hW=>by (try simp only [Bool.and_eq_true] at hg);(try simp only [hg,Bool.and_self,zAz]);have c:=HC10.out W hW;go_simp;exact E1.out) ?_;simp only [pT]
     (refine zAB rfl rfl (fun hg W hW=>by (try simp only [Bool.and_eq_true] at hg);(try simp only [hg,Bool.and_self,zAz]);have c:=HC10.out W hW;go_simp;with_reducible rfl) ?_;simp only [pT])
     iterate 4 (refine zCe rfl rfl (fun hg W hW=>by (try simp only [Bool.and_eq_true] at hg);(try simp only [hg,Bool.and_self,zAz]);have c:=HC10.out W hW;go_simp;with_reducible rfl) ?_;simp only [pT])
     refine zCe (v:=.bool b2) rfl rfl (fun hg W hW=>by (try simp only [Bool.and_eq_true] at hg);(try simp only [hg,Bool.and_self,zAz]);have c:=HC10.out W hW;go_simp;exact E2.out) ?_;simp only [pT];refine zEk rfl (zC2 rfl) rfl rfl ?_;simp only [pT];refine zBX rfl rfl rfl ?_;simp only [pT]
     (first | (refine wD rfl ?_;simp only [pT]) | (refine zAi rfl rfl (fun W hW=>by have c:=HC10.out W hW;go_simp;with_reducible rfl) ?_;simp only [pT]))
     iterate 4 (refine zAB rfl rfl (fun hg W hW=>by (try simp only [Bool.and_eq_true] at hg);(try simp only [hg,Bool.and_self,zAz]);have c:=HC10.out W hW;go_simp;with_reducible rfl) ?_;simp only [pT])
     refine zAB (v:=.bool b3) rfl rfl (fun hg W hW=>by (try simp only [Bool.and_eq_true] at hg);(try simp only [hg,Bool.and_self,zAz]);have c:=HC10.out W hW;go_simp;exact E3.out) ?_;simp only [pT]
     (refine zAB rfl rfl (fun hg W hW=>by (try simp only [Bool.and_eq_true] at hg);(try simp only [hg,Bool.and_self,zAz]);have c:=HC10.out W hW;go_simp;with_reducible rfl) ?_;simp only [pT])
     iterate 4 (refine zCe rfl rfl (fun hg W hW=>by (try simp only [Bool.and_eq_true] at hg);(try simp only [hg,Bool.and_self,zAz]);have c:=HC10.out W hW;go_simp;with_reducible rfl) ?_;simp only [pT])
     refine zCe (v:=.bool b4) rfl rfl (fun hg W hW=>by (try simp only [Bool.and_eq_true] at hg);(try simp only [hg,Bool.and_self,zAz]);have c:=HC10.out W hW;go_simp;exact E4.out) ?_;simp only [pT];refine zEk rfl (zC2 rfl) rfl rfl ?_;simp only [pT];refine zBX rfl rfl rfl ?_;simp only [pT]
     (first | (refine wD rfl ?_;simp only [pT]) | (refine zAi rfl rfl (fun W hW=>by have c:=HC10.out W hW;go_simp;with_reducible rfl) ?_;simp only [pT]))
     intro f W1 HW1 h1 h2;simp only [zAP];clear h1 h2 f;refine zAt [51,52,53,54,55,56,57,58,59,60,61,62,63,64,65,66,67,68,69,70,71,72,73,74,75,76,77,78,79] fun u=>?_;simp only [zAu,pT];simp only [wpS];go_wp2;go_roundw
     case rel=>exact ⟨q + 1,by omega,by go_num,by rw [HTK.out,HPB.out];simp [Bool.or_assoc],zz ⟨HW3.out.1.trans (((Lays.refl _).alloc _ |>.below HW3.out.1.size).trans (HW1.mono (Nat.le_trans HW3.out.1.size (by simp)))),(HW3.out.2.1.alloc _).belowAll HW1,(HW3.out.2.2.alloc _).belowAll HW1⟩⟩
     case measure=>simp [intOf];omega
    ·have hqe : q = k:=by omega
     subst hqe;have HRK2:=zz (HRK.out.trans HRS.out);have qx:=(HW3.out.2.2.cell 0).trans (show _ = some (.int .i64 x.id) from rfl);obtain ⟨bv,hbv⟩ : ∃ bv,(b0 || (val.take q).any (fun y=>zDu y x)) = bv:=⟨_,rfl⟩
     simp only [hbv] at HRK2 ⊢;clear hbv
     cases bv
     case true=>
      go_wp2;go_ret2;have h:=HRK2.out;rw [if_pos (by trivial)] at h;rw [h];exact ⟨rfl,HW3.out.1⟩
     case false=>
      go_wp2;go_roundw
      case rel=>
       have h:=HRK2.out;rw [if_neg (by decide)] at h;exact ⟨q + 1,by omega,by go_num,zz h,zz ⟨HW3.out.1,HW3.out.2.1⟩⟩
      case measure=>simp [intOf];omega
  ·go_wp2;go_ret2;have hkn : k = n:=by omega
   subst hkn;have h:=HRK.out;rw [List.drop_of_length_le (by rw [HN.out];exact Nat.le_refl _)] at h;rw [h];exact ⟨rfl,HW.out.1⟩
end Go.Proofs.YtbbblemfodpmaaaGreat
end
section
namespace Go.Proofs.YtbbblemfodpmaaaGreat
open Go.RowKit
theorem zDv (a b c : Point) (ha : zAy a) (hb : zAy b) (hc : zAy c) (w : World) : Det 179 #[.agg (zAb a), .agg (zAb b), .agg (zAb c)] (.int .i64 (zAw a b c)) w:=
 fun W _=>(zD7 a b c ha hb hc W).mono fun _ _ ⟨h1,h2⟩=>⟨h1,h2.below (Nat.le_refl _)⟩
theorem zCs (a b c : Point) (ha : zAy a) (hb : zAy b) (hc : zAy c) (w : World) : Det 134 #[.agg (zAb a), .agg (zAb b), .agg (zAb c)] (.bool (onR a b c)) w:=
 fun W _=>ron_any a b c ha hb hc W
theorem zEx (n : Int) (w : World) : Det 211 #[.int .i64 n] (.int .i64 (zBK n)) w:=
 fun W _=>(rsign_any n W).mono fun _ _ ⟨h1,h2⟩=>⟨h1,h2 ▸ Below.refl _ _⟩
theorem sign_mul (m n : Int) : IntKind.i64.wrap (zBK m * zBK n) = zBK m * zBK n:=by
 have h : ∀ n,zBK n = 1 ∨ zBK n = -1 ∨ zBK n = 0:=fun n=>by unfold zBK;split <;> (try split) <;> simp
 rcases h m with h1 | h1 | h1 <;> rcases h n with h2 | h2 | h2 <;> rw [h1,h2] <;> rfl
theorem rcommon_any (a b c d : Point) (ha : zAy a) (hb : zAy b) (hc : zAy c) (hd : zAy d) (w : World) :
  Calls Tryz.prog 185 #[.agg (zAb a), .agg (zAb b), .agg (zAb c), .agg (zAb d)] w fun e w'=>e = .returned (.bool (zCS a b c d))∧Below w.heap.size w w':=by
 have HB0 : Hid (Below w.heap.size w ((((w.alloc (.cells (zAb a) 27)).alloc (.cells (zAb b) 27)).alloc (.cells (zAb c) 27)).alloc (.cells (zAb d) 27))):=zz ((((((Lays.refl w).alloc _).alloc _).alloc _).alloc _).below (Nat.le_refl _));have HA : Hid (zAe ((((w.alloc (.cells (zAb a) 27)).alloc (.cells (zAb b) 27)).alloc (.cells (zAb c) 27)).alloc (.cells (zAb d) 27)) w.heap.size 27 (zAb a)):=zz ((((zAe.new _ _ _).alloc _).alloc _).alloc _);have HB : Hid (zAe ((((w.alloc (.cells (zAb a) 27)).alloc (.cells (zAb b) 27)).alloc (.cells (zAb c) 27)).alloc (.cells (zAb d) 27)) (w.heap.size + 1) 27 (zAb b)):=zz (((by have:=zAe.new (w.alloc (.cells (zAb a) 27)) 27 (zAb b);simpa only [World.size_alloc] using this : zAe _ _ _ _).alloc _).alloc _);have HC : Hid (zAe ((((w.alloc (.cells (zAb a) 27)).alloc (.cells (zAb b) 27)).alloc (.cells (zAb c) 27)).alloc (.cells (zAb d) 27)) (w.heap.size + 1 + 1) 27 (zAb c)):=zz ((by have:=zAe.new ((w.alloc (.cells (zAb a) 27)).alloc (.cells (zAb b) 27)) 27 (zAb c);simpa only [World.size_alloc] using this : zAe _ _ _ _).alloc _);have HD : Hid (zAe ((((w.alloc (.cells (zAb a) 27)).alloc (.cells (zAb b) 27)).alloc (.cells (zAb c) 27)).alloc (.cells (zAb d) 27)) (w.heap.size + 1 + 1 + 1) 27 (zAb d)):=zz (by have:=zAe.new (((w.alloc (.cells (zAb a) 27)).alloc (.cells (zAb b) 27)).alloc (.cells (zAb c) 27)) 27 (zAb d);simpa only [World.size_alloc] using this);have HO : Hid (zCS a b c d = if (onR a b c || onR a b d || onR c d a || onR c d b) = true then true else decide (zBK (zAw a b c) * zBK (zAw a b d) < 0) && decide (zBK (zAw c d a) * zBK (zAw c d b) < 0)):=zz rfl;obtain ⟨R,hR⟩ : ∃ R,zCS a b c d = R:=⟨_,rfl⟩
 simp only [hR] at HO ⊢;clear hR;go_enter Tryz.func185,Tryz.ntmps185
 go_upto_region 1 with (fail)
 refine rgR [0,1,2,3,4,5,6,7,8,9,10,11,12,13,14,15,16,17,18,19,20,21] [] (fun _=>(0,#[])) [] ?_;refine zAi (v:=_) rfl rfl (fun W hW=>zAc _ (HA.out.belowAll hW) rfl (zAg _) zuB) ?_;simp only [pT];refine zAi (v:=_) rfl rfl (fun W hW=>zAc _ (HB.out.belowAll hW) rfl (zAg _) zuB) ?_;simp only [pT];refine zAi (v:=_) rfl rfl (fun W hW=>zAc _ (HC.out.belowAll hW) rfl (zAg _) zuB) ?_;simp only [pT];refine zAO _ _ _ rfl rfl (fun W=>by go_simp;try with_reducible rfl) (zCs a b c ha hb hc _) ?_;simp only [pT]
 (refine wD rfl ?_;simp only [pT])
 refine zAB (v:=_) rfl rfl (fun hg W hW=>zAc _ (HA.out.belowAll hW) rfl (zAg _) zuB) ?_;simp only [pT];refine zAB (v:=_) rfl rfl (fun hg W hW=>zAc _ (HB.out.belowAll hW) rfl (zAg _) zuB) ?_;simp only [pT];refine zAB (v:=_) rfl rfl (fun hg W hW=>zAc _ (HD.out.belowAll hW) rfl (zAg _) zuB) ?_;simp only [pT];refine zBl _ _ _ rfl rfl (fun hg W=>by go_simp;try with_reducible rfl) (fun hg=>zCs a b d ha hb hd _) ?_;simp only [pT];refine zBX rfl rfl rfl ?_;simp only [pT]
 (refine wD rfl ?_;simp only [pT])
 refine zAB (v:=_) rfl rfl (fun hg W hW=>zAc _ (HC.out.belowAll hW) rfl (zAg _) zuB) ?_;simp only [pT];refine zAB (v:=_) rfl rfl (fun hg W hW=>zAc _ (HD.out.belowAll hW) rfl (zAg _) zuB) ?_;simp only [pT];refine zAB (v:=_) rfl rfl (fun hg W hW=>zAc _ (HA.out.belowAll hW) rfl (zAg _) zuB) ?_;simp only [pT];refine zBl _ _ _ rfl rfl (fun hg W=>by go_simp;try with_reducible rfl) (fun hg=>zCs c d a hc hd ha _) ?_;simp only [pT];refine zBX rfl rfl rfl ?_;simp only [pT]
 (refine wD rfl ?_;simp only [pT])
 refine zAB (v:=_) rfl rfl (fun hg W hW=>zAc _ (HC.out.belowAll hW) rfl (zAg _) zuB) ?_;simp only [pT];refine zAB (v:=_) rfl rfl (fun hg W hW=>zAc _ (HD.out.belowAll hW) rfl (zAg _) zuB) ?_;simp only [pT];refine zAB (v:=_) rfl rfl (fun hg W hW=>zAc _ (HB.out.belowAll hW) rfl (zAg _) zuB) ?_;simp only [pT];refine zBl _ _ _ rfl rfl (fun hg W=>by go_simp;try with_reducible rfl) (fun hg=>zCs c d b hc hd hb _) ?_;simp only [pT];refine zBX rfl rfl rfl ?_;simp only [pT];intro f W1 HW1 h1 h2;simp only [zAP];clear h1 h2 f;refine zAt [9,10,11,12,13,14,15,16,17,18,19,20,21,22,23,24,25,26,27,28,29] fun u=>?_;simp only [zAu,pT];simp only [wpS];have HB1 : Hid (Below w.heap.size w W1):=zz (HB0.out.trans (HW1.mono HB0.out.size));have HA:=zz (HA.out.belowAll HW1);have HB:=zz (HB.out.belowAll HW1);have HC:=zz (HC.out.belowAll HW1);have HD:=zz (HD.out.belowAll HW1);clear HW1 HB0;obtain ⟨q,hq⟩ : ∃ q,(onR a b c || onR a b d || onR c d a || onR c d b) = q:=⟨_,rfl⟩
 simp only [hq] at HO ⊢;clear hq
 cases q
 ·rw [if_neg (by decide)] at HO
  go_upto_region 3 with (fail)
  refine rgD [0,1,2,3,4,5,6,7,8,9,10,11,12,13,14,15,16,17,18,19,20,21,22,23,24,25,26] [] (fun _=>(0,#[])) [] ?_;refine zAi (v:=_) rfl rfl (fun W hW=>zAc _ (HA.out.drew.belowAll hW) rfl (zAg _) zuB) ?_;simp only [pT];refine zAi (v:=_) rfl rfl (fun W hW=>zAc _ (HB.out.drew.belowAll hW) rfl (zAg _) zuB) ?_;simp only [pT];refine zAi (v:=_) rfl rfl (fun W hW=>zAc _ (HC.out.drew.belowAll hW) rfl (zAg _) zuB) ?_;simp only [pT];refine zAO _ _ _ rfl rfl (fun W=>by go_simp;try with_reducible rfl) (zDv a b c ha hb hc _) ?_;simp only [pT];refine zAO _ _ _ rfl rfl (fun W=>by go_simp;try with_reducible rfl) (zEx _ _) ?_;simp only [pT];refine zAi (v:=_) rfl rfl (fun W hW=>zAc _ (HA.out.drew.belowAll hW) rfl (zAg _) zuB) ?_;simp only [pT];refine zAi (v:=_) rfl rfl (fun W hW=>zAc _ (HB.out.drew.belowAll hW) rfl (zAg _) zuB) ?_;simp only [pT];refine zAi (v:=_) rfl rfl (fun W hW=>zAc _ (HD.out.drew.belowAll hW) rfl (zAg _) zuB) ?_;simp only [pT];refine zAO _ _ _ rfl rfl (fun W=>by go_simp;try with_reducible rfl) (zDv a b d ha hb hd _) ?_;simp only [pT];refine zAO _ _ _ rfl rfl (fun W=>by go_simp;try with_reducible rfl) (zEx _ _) ?_;simp only [pT];refine zAi (v:=_) rfl rfl (fun W hW=>by go_simp;rw [sign_mul]) ?_;simp only [pT];iterate 2 (refine wD rfl ?_;simp only [pT])
  refine zAB (v:=_) rfl rfl (fun hg W hW=>zAc _ (HC.out.drew.belowAll hW) rfl (zAg _) zuB) ?_;simp only [pT];refine zAB (v:=_) rfl rfl (fun hg W hW=>zAc _ (HD.out.drew.belowAll hW) rfl (zAg _) zuB) ?_;simp only [pT];refine zAB (v:=_) rfl rfl (fun hg W hW=>zAc _ (HA.out.drew.belowAll hW) rfl (zAg _) zuB) ?_;simp only [pT];refine zBl _ _ _ rfl rfl (fun hg W=>by go_simp;try with_reducible rfl) (fun hg=>zDv c d a hc hd ha _) ?_;simp only [pT];refine zBl _ _ _ rfl rfl (fun hg W=>by go_simp;try with_reducible rfl) (fun hg=>zEx _ _) ?_;simp only [pT];refine zAB (v:=_) rfl rfl (fun hg W hW=>zAc _ (HC.out.drew.belowAll hW) rfl (zAg _) zuB) ?_;simp only [pT];refine zAB (v:=_) rfl rfl (fun hg W hW=>zAc _ (HD.out.drew.belowAll hW) rfl (zAg _) zuB) ?_;simp only [pT];refine zAB (v:=_) rfl rfl (fun hg W hW=>zAc _ (HB.out.drew.belowAll hW) rfl (zAg _) zuB) ?_;simp only [pT];refine zBl _ _ _ rfl rfl (fun hg W=>by go_simp;try with_reducible rfl) (fun hg=>zDv c d b hc hd hb _) ?_;simp only [pT];refine zBl _ _ _ rfl rfl (fun hg W=>by go_simp;try with_reducible rfl) (fun hg=>zEx _ _) ?_;simp only [pT];refine zAB (v:=_) rfl rfl (fun hg W hW=>by (try simp only [Bool.and_eq_true] at hg);(try simp only [hg,Bool.and_self,zAz]);go_simp;rw [sign_mul]) ?_;simp only [pT]
  (refine wI rfl ?_;simp only [pT])
  refine zB1 rfl rfl rfl ?_;simp only [pT]
  (refine wD rfl ?_;simp only [pT])
  intro f W1 HW1 h1 h2;simp only [zAP];clear h1 h2 f;refine zAt [31,32,33,34,35,36,37,38,39,40,41,42,43,44,45,46,47,48,49,50,51,52,53,54,55,56] fun u=>?_;simp only [zAu,pT];simp only [wpS];go_wp2;go_ret;exact ⟨by rw [HO.out];rfl,HB1.out.drew.trans (HW1.mono HB1.out.size)⟩
 ·rw [if_pos rfl] at HO;go_wp2;go_ret;exact ⟨by rw [HO.out];rfl,HB1.out⟩
theorem zDo (sj : Sl Joint) (sl : Sl Lead) (id : Int) (w : World) (h : sj.OK 3 zAh zAs (fun _=>False) w) (hs : (atA sj.val id).isSome = true) : Det 135 #[.agg #[.slice sj.a sj.val.length sj.cap, .slice sl.a sl.val.length sl.cap], .int .i64 id] (.agg (zAb (ptA sj.val id))) w:=
 fun W hW=>rat_any sj sl id W (h.jmoved hW) hs
theorem rcommon_det (a b c d : Point) (ha : zAy a) (hb : zAy b) (hc : zAy c) (hd : zAy d) (w : World) : Det 185 #[.agg (zAb a), .agg (zAb b), .agg (zAb c), .agg (zAb d)] (.bool (zCS a b c d)) w:=
 fun W _=>rcommon_any a b c d ha hb hc hd W
theorem meets_bool (js : List Joint) (l o : Lead) : zDf js l o = if (!zCS (ptA js l.a) (ptA js l.b) (ptA js o.a) (ptA js o.b)) = true then false else if (l.a != o.a && l.a != o.b && l.b != o.a && l.b != o.b) = true then true
  else if zCr (ptA js l.a) (ptA js o.b) = true then onR (ptA js l.a) (ptA js l.b) (ptA js o.a) || onR (ptA js o.a) (ptA js o.b) (ptA js l.b)
  else if zCr (ptA js l.b) (ptA js o.a) = true then onR (ptA js l.a) (ptA js l.b) (ptA js o.b) || onR (ptA js o.a) (ptA js o.b) (ptA js l.a)
  else if zCr (ptA js l.a) (ptA js o.a) = true then onR (ptA js l.a) (ptA js l.b) (ptA js o.b) || onR (ptA js o.a) (ptA js o.b) (ptA js l.b)
  else onR (ptA js l.a) (ptA js l.b) (ptA js o.a) || onR (ptA js o.a) (ptA js o.b) (ptA js l.a):=by
 unfold zDf;simp only [zCr,Bool.not_eq_true',decide_eq_true_eq,Bool.and_eq_true,bne_iff_ne,ne_eq,and_assoc]
theorem rmeets_any (sj : Sl Joint) (sl : Sl Lead) (l o : Lead) (w : World) (hj : sj.OK 3 zAh zAs (fun _=>False) w) (hsp : ∀ id,zAy (ptA sj.val id)) (h1 : (atA sj.val l.a).isSome = true) (h2 : (atA sj.val l.b).isSome = true) (h3 : (atA sj.val o.a).isSome = true) (h4 : (atA sj.val o.b).isSome = true) :
  Calls Tryz.prog 151 #[.agg #[.slice sj.a sj.val.length sj.cap, .slice sl.a sl.val.length sl.cap], .agg (zAd l), .agg (zAd o)] w fun e w'=>e = .returned (.bool (zDf sj.val l o))∧Below w.heap.size w w':=by
 have HAa:=zz (zDo sj sl l.a w hj h1);have HAb:=zz (zDo sj sl l.b w hj h2);have HAc:=zz (zDo sj sl o.a w hj h3);have HAd:=zz (zDo sj sl o.b w hj h4);have hpa:=hsp l.a;have hpb:=hsp l.b;have hpc:=hsp o.a;have hpd:=hsp o.b;have HO:=zz (meets_bool sj.val l o);have HB0 : Hid (Below w.heap.size w (((w.alloc (.cells #[.slice sj.a sj.val.length sj.cap, .slice sl.a sl.val.length sl.cap] 25)).alloc (.cells (zAd l) 31)).alloc (.cells (zAd o) 31))):=zz (((((Lays.refl w).alloc _).alloc _).alloc _).below (Nat.le_refl _));have HW0 : Hid (zAe (((w.alloc (.cells #[.slice sj.a sj.val.length sj.cap, .slice sl.a sl.val.length sl.cap] 25)).alloc (.cells (zAd l) 31)).alloc (.cells (zAd o) 31)) w.heap.size 25 #[.slice sj.a sj.val.length sj.cap, .slice sl.a sl.val.length sl.cap]):=zz (((zAe.new _ _ _).alloc _).alloc _);have HL0 : Hid (zAe (((w.alloc (.cells #[.slice sj.a sj.val.length sj.cap, .slice sl.a sl.val.length sl.cap] 25)).alloc (.cells (zAd l) 31)).alloc (.cells (zAd o) 31)) (w.heap.size + 1) 31 (zAd l)):=zz ((by have:=zAe.new (w.alloc (.cells #[.slice sj.a sj.val.length sj.cap, .slice sl.a sl.val.length sl.cap] 25)) 31 (zAd l);simpa only [World.size_alloc] using this : zAe _ _ _ _).alloc _);have HO0 : Hid (zAe (((w.alloc (.cells #[.slice sj.a sj.val.length sj.cap, .slice sl.a sl.val.length sl.cap] 25)).alloc (.cells (zAd l) 31)).alloc (.cells (zAd o) 31)) (w.heap.size + 1 + 1) 31 (zAd o)):=zz (by have:=zAe.new ((w.alloc (.cells #[.slice sj.a sj.val.length sj.cap, .slice sl.a sl.val.length sl.cap] 25)).alloc (.cells (zAd l) 31)) 31 (zAd o);simpa only [World.size_alloc] using this);obtain ⟨R,hR⟩ : ∃ R,zDf sj.val l o = R:=⟨_,rfl⟩
 obtain ⟨pa,ea⟩ : ∃ p,ptA sj.val l.a = p:=⟨_,rfl⟩
 obtain ⟨pb,eb⟩ : ∃ p,ptA sj.val l.b = p:=⟨_,rfl⟩
 obtain ⟨pc,ec⟩ : ∃ p,ptA sj.val o.a = p:=⟨_,rfl⟩
 obtain ⟨pd,ed⟩ : ∃ p,ptA sj.val o.b = p:=⟨_,rfl⟩
 obtain ⟨b1,k1⟩ : ∃ b,(l.a != o.a) = b:=⟨_,rfl⟩
 obtain ⟨b2,k2⟩ : ∃ b,(l.a != o.b) = b:=⟨_,rfl⟩
 obtain ⟨b3,k3⟩ : ∃ b,(l.b != o.a) = b:=⟨_,rfl⟩
 obtain ⟨b4,k4⟩ : ∃ b,(l.b != o.b) = b:=⟨_,rfl⟩
 simp only [hR,ea,eb,ec,ed,k1,k2,k3,k4] at HAa HAb HAc HAd hpa hpb hpc hpd HO ⊢;have E1:=zz k1;have E2:=zz k2;have E3:=zz k3;have E4:=zz k4;clear hR ea eb ec ed k1 k2 k3 k4 h1 h2 h3 h4 hj hsp;go_enter Tryz.func151,Tryz.ntmps151
 go_upto_region 1 with (fail)
 refine zBo [0,1,2,3] [(4,7)] (fun _=>(27,#[.int .i64 0, .int .i64 0])) [(5,false)] (by kernel_rfl) (fun d _ _ _ _ h=>by cases d <;> exact h) (by intro k hk K a w h;simp only [List.mem_cons,List.not_mem_nil,or_false] at hk;rcases hk with rfl <;> exact zBR _ rfl (by kernel_rfl) h) ?_;refine zAi (v:=_) rfl rfl (fun W hW=>zAc _ (HW0.out.belowAll hW) rfl (zAg _) zuC) ?_;simp only [pT]
 (refine wD rfl ?_;simp only [pT])
 refine zAi (v:=_) rfl rfl (fun W hW=>by have e:=(HL0.out.belowAll hW).cell;go_simp;with_reducible rfl) ?_;simp only [pT];refine zAO _ _ _ rfl rfl (fun W=>by go_simp;try with_reducible rfl) (HAa.out.moved HB0.out) ?_;simp only [pT];intro f W1 HW1 hf hi;simp only [zAP,zBh,pT];have hf0:=hf (4,7) (by simp);simp only at hf0;obtain ⟨ja,hj⟩ : ∃ j,f 4 = j:=⟨_,rfl⟩
 simp only [hj] at hf0 ⊢;obtain ⟨hfl,hfb⟩:=hf0;clear hf hi hj f;refine zAt [11,12,13] fun u=>?_;simp only [zAu,pT];refine zBG hfb rfl rfl (.agg (zAb pa)) rfl (by kernel_rfl) (by rfl) (zAD _) fun W2 hb2 ht2=>?_;have HBa:=zz (hb2.eqv (cs':=zAb pa) (by simp [zAx,zAb,Value.cells]));have HW2:=HW1.trans (ht2.below hfl);simp only [wpS];clear hb2 ht2 hfl hfb HW1 W1;replace HB0:=hTr HB0 HW2;replace HW0:=zz (HW0.out.belowAll HW2);replace HL0:=zz (HL0.out.belowAll HW2);replace HO0:=zz (HO0.out.belowAll HW2);clear HW2
 go_upto_region 2 with (fail)
 refine zBo [0,1,2,3] [(4,8)] (fun _=>(27,#[.int .i64 0, .int .i64 0])) [(5,false)] (by kernel_rfl) (fun d _ _ _ _ h=>by cases d <;> exact h) (by intro k hk K a w h;simp only [List.mem_cons,List.not_mem_nil,or_false] at hk;rcases hk with rfl <;> exact zBR _ rfl (by kernel_rfl) h) ?_;refine zAi (v:=_) rfl rfl (fun W hW=>zAc _ (HW0.out.belowAll hW) rfl (zAg _) zuC) ?_;simp only [pT]
 (refine wD rfl ?_;simp only [pT])
 refine zAi (v:=_) rfl rfl (fun W hW=>by have e:=(HL0.out.belowAll hW).cell;go_simp;with_reducible rfl) ?_;simp only [pT];refine zAO _ _ _ rfl rfl (fun W=>by go_simp;try with_reducible rfl) (HAb.out.moved HB0.out) ?_;simp only [pT];intro f W1 HW1 hf hi;simp only [zAP,zBh,pT];have hf0:=hf (4,8) (by simp);simp only at hf0;obtain ⟨jb,hj⟩ : ∃ j,f 4 = j:=⟨_,rfl⟩
 simp only [hj] at hf0 ⊢;obtain ⟨hfl,hfb⟩:=hf0;clear hf hi hj f;refine zAt [15,16,17] fun u=>?_;simp only [zAu,pT];refine zBG hfb rfl rfl (.agg (zAb pb)) rfl (by kernel_rfl) (by rfl) (zAD _) fun W2 hb2 ht2=>?_;have HBb:=zz (hb2.eqv (cs':=zAb pb) (by simp [zAx,zAb,Value.cells]));have HW2:=HW1.trans (ht2.below hfl);simp only [wpS];clear hb2 ht2 hfl hfb HW1 W1;replace HB0:=hTr HB0 HW2;replace HW0:=zz (HW0.out.belowAll HW2);replace HL0:=zz (HL0.out.belowAll HW2);replace HO0:=zz (HO0.out.belowAll HW2);replace HBa:=zz (HBa.out.belowAll HW2);clear HW2
 go_upto_region 3 with (fail)
 refine zBo [0,1,2,3] [(4,9)] (fun _=>(27,#[.int .i64 0, .int .i64 0])) [(5,false)] (by kernel_rfl) (fun d _ _ _ _ h=>by cases d <;> exact h) (by intro k hk K a w h;simp only [List.mem_cons,List.not_mem_nil,or_false] at hk;rcases hk with rfl <;> exact zBR _ rfl (by kernel_rfl) h) ?_;refine zAi (v:=_) rfl rfl (fun W hW=>zAc _ (HW0.out.belowAll hW) rfl (zAg _) zuC) ?_;simp only [pT]
 (refine wD rfl ?_;simp only [pT])
 refine zAi (v:=_) rfl rfl (fun W hW=>by have e:=(HO0.out.belowAll hW).cell;go_simp;with_reducible rfl) ?_;simp only [pT];refine zAO _ _ _ rfl rfl (fun W=>by go_simp;try with_reducible rfl) (HAc.out.moved HB0.out) ?_;simp only [pT];intro f W1 HW1 hf hi;simp only [zAP,zBh,pT];have hf0:=hf (4,9) (by simp);simp only at hf0;obtain ⟨jc,hj⟩ : ∃ j,f 4 = j:=⟨_,rfl⟩
 simp only [hj] at hf0 ⊢;obtain ⟨hfl,hfb⟩:=hf0;clear hf hi hj f;refine zAt [19,20,21] fun u=>?_;simp only [zAu,pT];refine zBG hfb rfl rfl (.agg (zAb pc)) rfl (by kernel_rfl) (by rfl) (zAD _) fun W2 hb2 ht2=>?_;have HBc:=zz (hb2.eqv (cs':=zAb pc) (by simp [zAx,zAb,Value.cells]));have HW2:=HW1.trans (ht2.below hfl);simp only [wpS];clear hb2 ht2 hfl hfb HW1 W1;replace HB0:=hTr HB0 HW2;replace HW0:=zz (HW0.out.belowAll HW2);replace HL0:=zz (HL0.out.belowAll HW2);replace HO0:=zz (HO0.out.belowAll HW2);replace HBa:=zz (HBa.out.belowAll HW2);replace HBb:=zz (HBb.out.belowAll HW2);clear HW2
 go_upto_region 4 with (fail)
 refine zBo [0,1,2,3] [(4,10)] (fun _=>(27,#[.int .i64 0, .int .i64 0])) [(5,false)] (by kernel_rfl) (fun d _ _ _ _ h=>by cases d <;> exact h) (by intro k hk K a w h;simp only [List.mem_cons,List.not_mem_nil,or_false] at hk;rcases hk with rfl <;> exact zBR _ rfl (by kernel_rfl) h) ?_;refine zAi (v:=_) rfl rfl (fun W hW=>zAc _ (HW0.out.belowAll hW) rfl (zAg _) zuC) ?_;simp only [pT]
 (refine wD rfl ?_;simp only [pT])
 refine zAi (v:=_) rfl rfl (fun W hW=>by have e:=(HO0.out.belowAll hW).cell;go_simp;with_reducible rfl) ?_;simp only [pT];refine zAO _ _ _ rfl rfl (fun W=>by go_simp;try with_reducible rfl) (HAd.out.moved HB0.out) ?_;simp only [pT];intro f W1 HW1 hf hi;simp only [zAP,zBh,pT];have hf0:=hf (4,10) (by simp);simp only at hf0;obtain ⟨jd,hj⟩ : ∃ j,f 4 = j:=⟨_,rfl⟩
 simp only [hj] at hf0 ⊢;obtain ⟨hfl,hfb⟩:=hf0;clear hf hi hj f;refine zAt [23,24,25] fun u=>?_;simp only [zAu,pT];refine zBG hfb rfl rfl (.agg (zAb pd)) rfl (by kernel_rfl) (by rfl) (zAD _) fun W2 hb2 ht2=>?_;have HBd:=zz (hb2.eqv (cs':=zAb pd) (by simp [zAx,zAb,Value.cells]));have HW2:=HW1.trans (ht2.below hfl);simp only [wpS];clear hb2 ht2 hfl hfb HW1 W1;replace HB0:=hTr HB0 HW2;replace HW0:=zz (HW0.out.belowAll HW2);replace HL0:=zz (HL0.out.belowAll HW2);replace HO0:=zz (HO0.out.belowAll HW2);replace HBa:=zz (HBa.out.belowAll HW2);replace HBb:=zz (HBb.out.belowAll HW2);replace HBc:=zz (HBc.out.belowAll HW2);clear HW2
 go_upto_region 5 with (fail)
 refine rgR [0,1,2,3,4,5] [] (fun _=>(0,#[])) [] ?_;refine zAi (v:=_) rfl rfl (fun W hW=>zAc _ (HBa.out.belowAll hW) rfl (zAg _) zuB) ?_;simp only [pT];refine zAi (v:=_) rfl rfl (fun W hW=>zAc _ (HBb.out.belowAll hW) rfl (zAg _) zuB) ?_;simp only [pT];refine zAi (v:=_) rfl rfl (fun W hW=>zAc _ (HBc.out.belowAll hW) rfl (zAg _) zuB) ?_;simp only [pT];refine zAi (v:=_) rfl rfl (fun W hW=>zAc _ (HBd.out.belowAll hW) rfl (zAg _) zuB) ?_;simp only [pT];refine zAO _ _ _ rfl rfl (fun W=>by go_simp;try with_reducible rfl) (rcommon_det pa pb pc pd hpa hpb hpc hpd _) ?_;simp only [pT]
 (refine wD rfl ?_;simp only [pT])
 intro f W1 HW1 h1 h2;simp only [zAP];clear h1 h2 f;refine zAt [27,28,29,30,31] fun u=>?_;simp only [zAu,pT];simp only [wpS];replace HB0:=hTr HB0 HW1;replace HW0:=zz (HW0.out.belowAll HW1);replace HL0:=zz (HL0.out.belowAll HW1);replace HO0:=zz (HO0.out.belowAll HW1);replace HBa:=zz (HBa.out.belowAll HW1);replace HBb:=zz (HBb.out.belowAll HW1);replace HBc:=zz (HBc.out.belowAll HW1);replace HBd:=zz (HBd.out.belowAll HW1);clear HW1;clear HAa HAb HAc HAd;obtain ⟨q,hq⟩ : ∃ q,(!zCS pa pb pc pd) = q:=⟨_,rfl⟩
 simp only [hq] at HO ⊢;clear hq
 cases q
 case true=>
  rw [if_pos rfl] at HO;go_wp2;go_ret;exact ⟨by rw [HO.out];rfl,HB0.out⟩
 rw [if_neg (by decide)] at HO
 go_upto_region 7 with (fail)
 refine rgR [0,1,2,3,4,5,6,7,8,9,10,11,12,13,14,15,16,17,18,19,20,21,22,23,24,25] [] (fun _=>(0,#[])) [] ?_
 (refine wD rfl ?_;simp only [pT])
 refine zAi (v:=_) rfl rfl (fun W hW=>by have e:=(HL0.out.belowAll hW).cell;go_simp;with_reducible rfl) ?_;simp only [pT]
 (refine wD rfl ?_;simp only [pT])
 refine zAi (v:=_) rfl rfl (fun W hW=>by have e:=(HO0.out.belowAll hW).cell;go_simp;with_reducible rfl) ?_;simp only [pT];refine zAi (v:=.bool b1) rfl rfl (fun W hW=>by go_simp;exact E1.out) ?_;simp only [pT]
 (refine wD rfl ?_;simp only [pT])
 (refine wI rfl ?_;simp only [pT])
 refine zAB (v:=_) rfl rfl (fun hg W hW=>by (try simp only [Bool.and_eq_true] at hg);(try simp only [hg,Bool.and_self,zAz]);have e:=(HL0.out.belowAll hW).cell;go_simp;with_reducible rfl) ?_;simp only [pT]
 (refine wI rfl ?_;simp only [pT])
 refine zAB (v:=_) rfl rfl (fun hg W hW=>by (try simp only [Bool.and_eq_true] at hg);(try simp only [hg,Bool.and_self,zAz]);have e:=(HO0.out.belowAll hW).cell;go_simp;with_reducible rfl) ?_;simp only [pT];refine zAB (v:=.bool b2) rfl rfl (fun hg W hW=>by (try simp only [Bool.and_eq_true] at hg);(try simp only [hg,Bool.and_self,zAz]);go_simp;exact E2.out) ?_;simp only [pT];refine zB1 rfl rfl rfl ?_;simp only [pT]
 (refine wD rfl ?_;simp only [pT])
 (refine wI rfl ?_;simp only [pT])
 refine zAB (v:=_) rfl rfl (fun hg W hW=>by (try simp only [Bool.and_eq_true] at hg);(try simp only [hg,Bool.and_self,zAz]);have e:=(HL0.out.belowAll hW).cell;go_simp;with_reducible rfl) ?_;simp only [pT]
 (refine wI rfl ?_;simp only [pT])
 refine zAB (v:=_) rfl rfl (fun hg W hW=>by (try simp only [Bool.and_eq_true] at hg);(try simp only [hg,Bool.and_self,zAz]);have e:=(HO0.out.belowAll hW).cell;go_simp;with_reducible rfl) ?_;simp only [pT];refine zAB (v:=.bool b3) rfl rfl (fun hg W hW=>by (try simp only [Bool.and_eq_true] at hg);(try simp only [hg,Bool.and_self,zAz]);go_simp;exact E3.out) ?_;simp only [pT];refine zB1 rfl rfl rfl ?_;simp only [pT]
 (refine wD rfl ?_;simp only [pT])
 (refine wI rfl ?_;simp only [pT])
 refine zAB (v:=_) rfl rfl (fun hg W hW=>by (try simp only [Bool.and_eq_true] at hg);(try simp only [hg,Bool.and_self,zAz]);have e:=(HL0.out.belowAll hW).cell;go_simp;with_reducible rfl) ?_;simp only [pT]
 (refine wI rfl ?_;simp only [pT])
 refine zAB (v:=_) rfl rfl (fun hg W hW=>by (try simp only [Bool.and_eq_true] at hg);(try simp only [hg,Bool.and_self,zAz]);have e:=(HO0.out.belowAll hW).cell;go_simp;with_reducible rfl) ?_;simp only [pT];refine zAB (v:=.bool b4) rfl rfl (fun hg W hW=>by (try simp only [Bool.and_eq_true] at hg);(try simp only [hg,Bool.and_self,zAz]);go_simp;exact E4.out) ?_;simp only [pT];refine zB1 rfl rfl rfl ?_;simp only [pT];intro f W1 HW1 h1 h2;simp only [zAP];clear h1 h2 f;refine zAt [33,34,35,36,37,38,39,40,41,42,43,44,45,46,47,48,49,50,51,52,53,54,55,56,57] fun u=>?_;simp only [zAu,pT];simp only [wpS];replace HB0:=hTr HB0 HW1;replace HW0:=zz (HW0.out.belowAll HW1);replace HL0:=zz (HL0.out.belowAll HW1);replace HO0:=zz (HO0.out.belowAll HW1);replace HBa:=zz (HBa.out.belowAll HW1);replace HBb:=zz (HBb.out.belowAll HW1);replace HBc:=zz (HBc.out.belowAll HW1);replace HBd:=zz (HBd.out.belowAll HW1);clear HW1;obtain ⟨q,hq⟩ : ∃ q,(b1 && b2 && b3 && b4) = q:=⟨_,rfl⟩
 simp only [hq] at HO ⊢;clear hq E1 E2 E3 E4
 cases q
 case true=>
  rw [if_pos rfl] at HO;go_wp2;go_ret;exact ⟨by rw [HO.out];rfl,HB0.out⟩
 rw [if_neg (by decide)] at HO
 go_upto_region 9 with (fail)
 refine rgR [0,1,2] [] (fun _=>(0,#[])) [] ?_;refine zAi (v:=_) rfl rfl (fun W hW=>zAc _ (HBa.out.belowAll hW) rfl (zAg _) zuB) ?_;simp only [pT];refine zAi (v:=_) rfl rfl (fun W hW=>zAc _ (HBd.out.belowAll hW) rfl (zAg _) zuB) ?_;simp only [pT]
 (refine wD rfl ?_;simp only [pT])
 intro f W1 HW1 h1 h2;simp only [zAP];clear h1 h2 f;refine zAt [59,60] fun u=>?_;simp only [zAu,pT];simp only [wpS];replace HB0:=hTr HB0 HW1;replace HW0:=zz (HW0.out.belowAll HW1);replace HL0:=zz (HL0.out.belowAll HW1);replace HO0:=zz (HO0.out.belowAll HW1);replace HBa:=zz (HBa.out.belowAll HW1);replace HBb:=zz (HBb.out.belowAll HW1);replace HBc:=zz (HBc.out.belowAll HW1);replace HBd:=zz (HBd.out.belowAll HW1);clear HW1;obtain ⟨q,hq⟩ : ∃ q,zCr pa pd = q:=⟨_,rfl⟩
 simp only [hq] at HO ⊢;clear hq
 cases q
 case true=>
  rw [if_pos rfl] at HO
  go_upto_region 10 with (fail)
  refine rgR [0,1,2,3,4,5,6,7,8,9,10] [] (fun _=>(0,#[])) [] ?_;refine zAi (v:=_) rfl rfl (fun W hW=>zAc _ (HBa.out.belowAll hW) rfl (zAg _) zuB) ?_;simp only [pT];refine zAi (v:=_) rfl rfl (fun W hW=>zAc _ (HBb.out.belowAll hW) rfl (zAg _) zuB) ?_;simp only [pT];refine zAi (v:=_) rfl rfl (fun W hW=>zAc _ (HBc.out.belowAll hW) rfl (zAg _) zuB) ?_;simp only [pT];refine zAO _ _ _ rfl rfl (fun W=>by go_simp;try with_reducible rfl) (zCs pa pb pc hpa hpb hpc _) ?_;simp only [pT]
  (refine wD rfl ?_;simp only [pT])
  refine zAB (v:=_) rfl rfl (fun hg W hW=>zAc _ (HBc.out.belowAll hW) rfl (zAg _) zuB) ?_;simp only [pT];refine zAB (v:=_) rfl rfl (fun hg W hW=>zAc _ (HBd.out.belowAll hW) rfl (zAg _) zuB) ?_;simp only [pT];refine zAB (v:=_) rfl rfl (fun hg W hW=>zAc _ (HBb.out.belowAll hW) rfl (zAg _) zuB) ?_;simp only [pT];refine zBl _ _ _ rfl rfl (fun hg W=>by go_simp;try with_reducible rfl) (fun hg=>zCs pc pd pb hpc hpd hpb _) ?_;simp only [pT];refine zBX rfl rfl rfl ?_;simp only [pT]
  (refine wD rfl ?_;simp only [pT])
  intro f W1 HW1 h1 h2;simp only [zAP];clear h1 h2 f;refine zAt [62,63,64,65,66,67,68,69,70,71] fun u=>?_;simp only [zAu,pT];simp only [wpS];replace HB0:=hTr HB0 HW1;replace HW0:=zz (HW0.out.belowAll HW1);replace HL0:=zz (HL0.out.belowAll HW1);replace HO0:=zz (HO0.out.belowAll HW1);replace HBa:=zz (HBa.out.belowAll HW1);replace HBb:=zz (HBb.out.belowAll HW1);replace HBc:=zz (HBc.out.belowAll HW1);replace HBd:=zz (HBd.out.belowAll HW1);clear HW1;go_wp2;go_ret;exact ⟨by rw [HO.out];rfl,HB0.out⟩
 rw [if_neg (by decide)] at HO
 go_upto_region 11 with (fail)
 refine rgR [0,1,2] [] (fun _=>(0,#[])) [] ?_;refine zAi (v:=_) rfl rfl (fun W hW=>zAc _ (HBb.out.belowAll hW) rfl (zAg _) zuB) ?_;simp only [pT];refine zAi (v:=_) rfl rfl (fun W hW=>zAc _ (HBc.out.belowAll hW) rfl (zAg _) zuB) ?_;simp only [pT]
 (refine wD rfl ?_;simp only [pT])
 intro f W1 HW1 h1 h2;simp only [zAP];clear h1 h2 f;refine zAt [72,73] fun u=>?_;simp only [zAu,pT];simp only [wpS];replace HB0:=hTr HB0 HW1;replace HW0:=zz (HW0.out.belowAll HW1);replace HL0:=zz (HL0.out.belowAll HW1);replace HO0:=zz (HO0.out.belowAll HW1);replace HBa:=zz (HBa.out.belowAll HW1);replace HBb:=zz (HBb.out.belowAll HW1);replace HBc:=zz (HBc.out.belowAll HW1);replace HBd:=zz (HBd.out.belowAll HW1);clear HW1;obtain ⟨q,hq⟩ : ∃ q,zCr pb pc = q:=⟨_,rfl⟩
 simp only [hq] at HO ⊢;clear hq
 cases q
 case true=>
  rw [if_pos rfl] at HO
  go_upto_region 12 with (fail)
  refine rgR [0,1,2,3,4,5,6,7,8,9,10] [] (fun _=>(0,#[])) [] ?_;refine zAi (v:=_) rfl rfl (fun W hW=>zAc _ (HBa.out.belowAll hW) rfl (zAg _) zuB) ?_;simp only [pT];refine zAi (v:=_) rfl rfl (fun W hW=>zAc _ (HBb.out.belowAll hW) rfl (zAg _) zuB) ?_;simp only [pT];refine zAi (v:=_) rfl rfl (fun W hW=>zAc _ (HBd.out.belowAll hW) rfl (zAg _) zuB) ?_;simp only [pT];refine zAO _ _ _ rfl rfl (fun W=>by go_simp;try with_reducible rfl) (zCs pa pb pd hpa hpb hpd _) ?_;simp only [pT]
  (refine wD rfl ?_;simp only [pT])
  refine zAB (v:=_) rfl rfl (fun hg W hW=>zAc _ (HBc.out.belowAll hW) rfl (zAg _) zuB) ?_;simp only [pT];refine zAB (v:=_) rfl rfl (fun hg W hW=>zAc _ (HBd.out.belowAll hW) rfl (zAg _) zuB) ?_;simp only [pT];refine zAB (v:=_) rfl rfl (fun hg W hW=>zAc _ (HBa.out.belowAll hW) rfl (zAg _) zuB) ?_;simp only [pT];refine zBl _ _ _ rfl rfl (fun hg W=>by go_simp;try with_reducible rfl) (fun hg=>zCs pc pd pa hpc hpd hpa _) ?_;simp only [pT];refine zBX rfl rfl rfl ?_;simp only [pT]
  (refine wD rfl ?_;simp only [pT])
  intro f W1 HW1 h1 h2;simp only [zAP];clear h1 h2 f;refine zAt [75,76,77,78,79,80,81,82,83,84] fun u=>?_;simp only [zAu,pT];simp only [wpS];replace HB0:=hTr HB0 HW1;replace HW0:=zz (HW0.out.belowAll HW1);replace HL0:=zz (HL0.out.belowAll HW1);replace HO0:=zz (HO0.out.belowAll HW1);replace HBa:=zz (HBa.out.belowAll HW1);replace HBb:=zz (HBb.out.belowAll HW1);replace HBc:=zz (HBc.out.belowAll HW1);replace HBd:=zz (HBd.out.belowAll HW1);clear HW1;go_wp2;go_ret;exact ⟨by rw [HO.out];rfl,HB0.out⟩
 rw [if_neg (by decide)] at HO
 go_upto_region 13 with (fail)
 refine rgR [0,1,2] [] (fun _=>(0,#[])) [] ?_;refine zAi (v:=_) rfl rfl (fun W hW=>zAc _ (HBa.out.belowAll hW) rfl (zAg _) zuB) ?_;simp only [pT];refine zAi (v:=_) rfl rfl (fun W hW=>zAc _ (HBc.out.belowAll hW) rfl (zAg _) zuB) ?_;simp only [pT]
 (refine wD rfl ?_;simp only [pT])
 intro f W1 HW1 h1 h2;simp only [zAP];clear h1 h2 f;refine zAt [85,86] fun u=>?_;simp only [zAu,pT];simp only [wpS];replace HB0:=hTr HB0 HW1;replace HW0:=zz (HW0.out.belowAll HW1);replace HL0:=zz (HL0.out.belowAll HW1);replace HO0:=zz (HO0.out.belowAll HW1);replace HBa:=zz (HBa.out.belowAll HW1);replace HBb:=zz (HBb.out.belowAll HW1);replace HBc:=zz (HBc.out.belowAll HW1);replace HBd:=zz (HBd.out.belowAll HW1);clear HW1;obtain ⟨q,hq⟩ : ∃ q,zCr pa pc = q:=⟨_,rfl⟩
 simp only [hq] at HO ⊢;clear hq
 cases q
 case true=>
  rw [if_pos rfl] at HO
  go_upto_region 14 with (fail)
  refine rgR [0,1,2,3,4,5,6,7,8,9,10] [] (fun _=>(0,#[])) [] ?_;refine zAi (v:=_) rfl rfl (fun W hW=>zAc _ (HBa.out.belowAll hW) rfl (zAg _) zuB) ?_;simp only [pT];refine zAi (v:=_) rfl rfl (fun W hW=>zAc _ (HBb.out.belowAll hW) rfl (zAg _) zuB) ?_;simp only [pT];refine zAi (v:=_) rfl rfl (fun W hW=>zAc _ (HBd.out.belowAll hW) rfl (zAg _) zuB) ?_;simp only [pT];refine zAO _ _ _ rfl rfl (fun W=>by go_simp;try with_reducible rfl) (zCs pa pb pd hpa hpb hpd _) ?_;simp only [pT]
  (refine wD rfl ?_;simp only [pT])
  refine zAB (v:=_) rfl rfl (fun hg W hW=>zAc _ (HBc.out.belowAll hW) rfl (zAg _) zuB) ?_;simp only [pT];refine zAB (v:=_) rfl rfl (fun hg W hW=>zAc _ (HBd.out.belowAll hW) rfl (zAg _) zuB) ?_;simp only [pT];refine zAB (v:=_) rfl rfl (fun hg W hW=>zAc _ (HBb.out.belowAll hW) rfl (zAg _) zuB) ?_;simp only [pT];refine zBl _ _ _ rfl rfl (fun hg W=>by go_simp;try with_reducible rfl) (fun hg=>zCs pc pd pb hpc hpd hpb _) ?_;simp only [pT];refine zBX rfl rfl rfl ?_;simp only [pT]
  (refine wD rfl ?_;simp only [pT])
  intro f W1 HW1 h1 h2;simp only [zAP];clear h1 h2 f;refine zAt [88,89,90,91,92,93,94,95,96,97] fun u=>?_;simp only [zAu,pT];simp only [wpS];replace HB0:=hTr HB0 HW1;replace HW0:=zz (HW0.out.belowAll HW1);replace HL0:=zz (HL0.out.belowAll HW1);replace HO0:=zz (HO0.out.belowAll HW1);replace HBa:=zz (HBa.out.belowAll HW1);replace HBb:=zz (HBb.out.belowAll HW1);replace HBc:=zz (HBc.out.belowAll HW1);replace HBd:=zz (HBd.out.belowAll HW1);clear HW1;go_wp2;go_ret;exact ⟨by rw [HO.out];rfl,HB0.out⟩
 rw [if_neg (by decide)] at HO
 go_upto_region 15 with (fail)
 refine rgR [0,1,2,3,4,5,6,7,8,9,10] [] (fun _=>(0,#[])) [] ?_;refine zAi (v:=_) rfl rfl (fun W hW=>zAc _ (HBa.out.belowAll hW) rfl (zAg _) zuB) ?_;simp only [pT];refine zAi (v:=_) rfl rfl (fun W hW=>zAc _ (HBb.out.belowAll hW) rfl (zAg _) zuB) ?_;simp only [pT];refine zAi (v:=_) rfl rfl (fun W hW=>zAc _ (HBc.out.belowAll hW) rfl (zAg _) zuB) ?_;simp only [pT];refine zAO _ _ _ rfl rfl (fun W=>by go_simp;try with_reducible rfl) (zCs pa pb pc hpa hpb hpc _) ?_;simp only [pT]
 (refine wD rfl ?_;simp only [pT])
 refine zAB (v:=_) rfl rfl (fun hg W hW=>zAc _ (HBc.out.belowAll hW) rfl (zAg _) zuB) ?_;simp only [pT];refine zAB (v:=_) rfl rfl (fun hg W hW=>zAc _ (HBd.out.belowAll hW) rfl (zAg _) zuB) ?_;simp only [pT];refine zAB (v:=_) rfl rfl (fun hg W hW=>zAc _ (HBa.out.belowAll hW) rfl (zAg _) zuB) ?_;simp only [pT];refine zBl _ _ _ rfl rfl (fun hg W=>by go_simp;try with_reducible rfl) (fun hg=>zCs pc pd pa hpc hpd hpa _) ?_;simp only [pT];refine zBX rfl rfl rfl ?_;simp only [pT]
 (refine wD rfl ?_;simp only [pT])
 intro f W1 HW1 h1 h2;simp only [zAP];clear h1 h2 f;refine zAt [98,99,100,101,102,103,104,105,106,107] fun u=>?_;simp only [zAu,pT];simp only [wpS];replace HB0:=hTr HB0 HW1;replace HW0:=zz (HW0.out.belowAll HW1);replace HL0:=zz (HL0.out.belowAll HW1);replace HO0:=zz (HO0.out.belowAll HW1);replace HBa:=zz (HBa.out.belowAll HW1);replace HBb:=zz (HBb.out.belowAll HW1);replace HBc:=zz (HBc.out.belowAll HW1);replace HBd:=zz (HBd.out.belowAll HW1);clear HW1;go_wp2;go_ret;exact ⟨by rw [HO.out];rfl,HB0.out⟩
end Go.Proofs.YtbbblemfodpmaaaGreat
end
