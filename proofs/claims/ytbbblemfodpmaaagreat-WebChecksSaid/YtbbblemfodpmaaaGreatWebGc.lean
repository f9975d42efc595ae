/-The head and the tail of a slice, at any element; look-ups and slicings behind a guard.-/
import Derived.Test.YtbbblemfodpmaaaGreatWebGb
import Derived.Test.YtbbblemfodpmaaaGreatWebMeet
import Derived.Test.YtbbblemfodpmaaaGreatWebAlong
import Derived.Test.YtbbblemfodpmaaaGreatWebCheck2
import Derived.Test.YtbbblemfodpmaaaGreatWebGa
set_option linter.unusedVariables false
set_option linter.unusedSimpArgs false
set_option maxHeartbeats 16000000
set_option maxRecDepth 100000
section
namespace Go.Proofs.YtbbblemfodpmaaaGreat
open Go.RowKit
def idxI {α : Type} (p : α→Bool) (l : List α) : Int:=match l.findIdx? p with | some i=>i | none=>-1
theorem zCg {α : Type} {p : α→Bool} {l : List α} {k : Nat} {x : α} (hk : l[k]? = some x) (hn : ∀ j y,j < k→l[j]? = some y→p y = false) (hp : p x = true) : idxI p l = k:=by
 have : l.findIdx? p = some k:=by
  rw [List.findIdx?_eq_some_iff_getElem];obtain ⟨hlt,e⟩:=List.getElem?_eq_some_iff.1 hk;refine ⟨hlt,by rw [e];exact hp,fun j hj=>?_⟩;have:=hn j _ hj (List.getElem?_eq_getElem (by omega));simp [this]
 simp [idxI,this]
theorem zCy {α : Type} {p : α→Bool} {l : List α} (hn : ∀ (j : Nat) y,l[j]? = some y→p y = false) : idxI p l = -1:=by
 have : l.findIdx? p = none:=by
  rw [List.findIdx?_eq_none_iff];intro x hx;obtain ⟨j,hj⟩:=List.mem_iff_getElem?.1 hx;exact hn j x hj
 simp [idxI,this]
theorem idxI_ge {α : Type} (p : α→Bool) (l : List α) : decide (0 ≤ idxI p l) = l.any p:=by
 unfold idxI
 cases h : l.findIdx? p with
 | none=>
  rw [List.findIdx?_eq_none_iff] at h;simp only []
  symm
  rw [show decide ((0 : Int) ≤ -1) = false from rfl,List.any_eq_false];intro x hx;simp [h x hx]
 | some i=>
  rw [List.findIdx?_eq_some_iff_getElem] at h;obtain ⟨hi,hp,_⟩:=h;have : l.any p = true:=List.any_eq_true.2 ⟨_,List.getElem_mem hi,hp⟩;simp [this]
def Sl.tk {α : Type} (s : Sl α) (k : Nat) : Sl α:=⟨s.a,s.cap,s.val.take k⟩
theorem zEo {α : Type} (s : Sl α) (k : Nat) (h : k ≤ s.val.length) : (s.tk k).val.length = k:=by simp only [Sl.tk,List.length_take];omega
theorem Sl.OK.tk {α : Type} {sz : Nat} {e : α→Array Value} {ok : (Nat→Prop)→World→α→Prop} {D : Nat→Prop} {w : World} {s : Sl α} (h : s.OK sz e ok D w) (k : Nat) : (s.tk k).OK sz e ok D w:=by
 have hl : (s.tk k).val.length ≤ s.val.length:=by simp only [Sl.tk,List.length_take];omega
 have h1:=h.le;have h2:=h.room;refine ⟨Nat.le_trans hl h1,Nat.le_trans hl h2,fun hn=>⟨by simp [Sl.tk,(h.isNil hn).1],(h.isNil hn).2⟩,fun p hp h0=>h.place p hp (by omega),fun x hx=>h.elem x (List.mem_of_mem_take hx),fun b o ha i x hi j hj=>?_⟩;refine h.cell b o ha i x ?_ j hj;simp only [Sl.tk,List.getElem?_take] at hi
 split at hi
 ·exact hi
 ·cases hi
def Sl.dr {α : Type} (sz : Nat) (s : Sl α) (k : Nat) : Sl α:=⟨if s.cap = k then s.a else s.a.map (·.add (k * sz)),s.cap - k,s.val.drop k⟩
theorem dr_length {α : Type} (sz : Nat) (s : Sl α) (k : Nat) : (s.dr sz k).val.length = s.val.length - k:=by simp [Sl.dr]
theorem Sl.OK.dr {α : Type} {sz : Nat} {e : α→Array Value} {ok : (Nat→Prop)→World→α→Prop} {D : Nat→Prop} {w : World} {s : Sl α} (hs : s.OK sz e ok D w) {k : Nat} (hk : k ≤ s.val.length) : (s.dr sz k).OK sz e ok D w:=by
 have hle:=hs.le;have hlen:=dr_length sz s k;have hat : ∀ p,(s.dr sz k).a = some p→0 < (s.dr sz k).val.length→∃ b o,s.a = some ⟨b,o,none⟩∧p = ⟨b,o + k * sz,none⟩∧¬ D b∧b < w.heap.size:=by
  intro p hp hpos;rw [hlen] at hpos;have hne : ¬ s.cap = k:=by omega
  simp only [Sl.dr,if_neg hne] at hp;obtain ⟨q,hq,rfl⟩:=Option.map_eq_some_iff.1 hp;obtain ⟨h1,h2,h3⟩:=hs.place q hq (by omega);obtain ⟨b,o,sp⟩:=q;simp only at h1 h2 h3;subst h1;refine ⟨b,o,hq, ?_,h2,h3⟩;unfold Addr.add
  split <;> simp_all
 refine ⟨?_, ?_,fun hn=>?_,fun p hp hpos=>?_,fun x hx=>hs.elem x (List.mem_of_mem_drop hx),fun b o ha i x hi j hj=>?_⟩
 ·rw [hlen];simp only [Sl.dr];omega
 ·rw [hlen];have:=hs.room;omega
 ·have ha : s.a = none:=by
   simp only [Sl.dr] at hn
   split at hn
   ·exact hn
   ·simpa using hn
  obtain ⟨h1,h2⟩:=hs.isNil ha;exact ⟨by simp [Sl.dr,h1],by simp [Sl.dr,h2]⟩
 ·obtain ⟨b,o,_,rfl,h2,h3⟩:=hat p hp hpos;exact ⟨rfl,h2,h3⟩
 ·obtain ⟨b',o',hq,he,_,_⟩:=hat _ ha (pos_of hi);simp only [Addr.mk.injEq,and_true] at he;obtain ⟨rfl,rfl⟩:=he;have hi2 : s.val[k + i]? = some x:=by
   simp only [Sl.dr] at hi;rw [List.getElem?_drop] at hi;exact hi
  have:=hs.cell b o' hq (k + i) x hi2 j hj;rw [show o' + k * sz + i * sz + j = o' + (k + i) * sz + j by rw [Nat.add_mul];omega];exact this
theorem add_zero_addr (a : Option Addr) (s : Nat) : a.map (·.add (0 * s)) = a:=by
 cases a with
 | none=>rfl
 | some p=>simp [Addr.add]
structure CutT (t : TypeId) (sz : Nat) : Prop where
 und : Tryz.prog.underlying t = some (.slice (Tryz.prog.elem t))
 size : ∀ w : World,(sizeOf (Tryz.prog.elem t)).run Tryz.prog w = .ok sz w
theorem cutT {t e : TypeId} {sz : Nat} (und : Tryz.prog.underlying t = some (.slice (Tryz.prog.elem t))) (he : Tryz.prog.elem t = e) (i : (Tryz.prog.info? e).map (·.size) = some sz) : CutT t sz:=
 ⟨und,fun w=>by
  rw [he]
  cases h : Tryz.prog.info? e with
  | none=>rw [h] at i;cases i
  | some j=>
   rw [h] at i;have i' : j.size = sz:=by simpa using i
   simp [sizeOf,typeInfo,h,i']⟩
section
variable {α : Type} {t : TypeId} {sz : Nat}
theorem run_tkG (hT : CutT t sz) (w : World) (s : Sl α) (k : Nat) (hk : k ≤ s.val.length) (hc : s.val.length ≤ s.cap) : (Instr.sliceAt t (.slice s.a s.val.length s.cap) none (some (.int .i64 k)) none).run Tryz.prog w = .ok (.slice (s.tk k).a (s.tk k).val.length (s.tk k).cap) w:=by
 rw [run_sliceAt_slice _ _ _ _ _ _ hT.und,run_slice_h _ _ _ _ _ hT.und .i64 (k : Int) (by omega) (by omega),hT.size,zEo s k hk];simp only [Result.andThen,sliced,Int.toNat_natCast,Nat.sub_zero,add_zero_addr,ite_self,Sl.tk]
theorem run_drG (hT : CutT t sz) (w : World) (s : Sl α) (k : Nat) (hk : k ≤ s.val.length) : (Instr.sliceAt t (.slice s.a s.val.length s.cap) (some (.int .i64 k)) none none).run Tryz.prog w = .ok (.slice (s.dr sz k).a (s.dr sz k).val.length (s.dr sz k).cap) w:=by
 rw [run_sliceAt_slice _ _ _ _ _ _ hT.und,run_slice_l _ _ _ _ _ hT.und .i64 (k : Int) (by omega) (by omega),hT.size,dr_length]
 rfl
end
theorem zCP {P : Program} {w : World} {ops : Array Oper} {rest : List Oper} {o : Oper} {a : Act} {Q : Exit→Act→World→Prop} (hw : Region.wanted o (yielded ops a.tmps) = true) (t : TypeId) (x : Operand) (lo hi mx : Option Operand) (ho : o.op = .slice t x lo hi mx) (v r : Value)
  (hx : a.eval x = v) (hr : (Instr.sliceAt t v (lo.map a.eval) (hi.map a.eval) (mx.map a.eval)).run P w = .ok r w) (h : wpList P ops Q rest (a.put o.dst r) w) : wpList P ops Q (o :: rest) a w:=
 Go.BigFrame.wpList_want hw fun K hK=>by
  unfold Oper.wp execOp;simp only [ho,hx,Sem.run_bind,hr,Result.andThen_ok,Sem.run_pure];exact hK _ _ h
theorem zAY {κ ν : Type} [DecidableEq κ] {P : Program} {K : κ→Value} {V : ν→Value} {good : κ→Prop} {w : World} {b : Nat} {m : List (κ × ν)} {kt et : TypeId} {ops : Array Oper} {rest : List Oper} {o : Oper} {a : Act} {Q : Exit→Act→World→Prop}
  (hw : Region.wanted o (yielded ops a.tmps) = true) (mm x : Operand) (t : TypeId) (hop : o.op = Op.lookup t mm x false) (KO : KeyOK P kt K good) (ht : P.underlying t = some (.map kt et)) (d : ν) (hz : (zeroValue et).run P w = .ok (V d) w)
  (hm : a.eval mm = .map (some b)) (h : MapAt K V good w b m) (k : κ) (hk : good k) (hx : a.eval x = K k) (hK : wpList P ops Q rest (a.put o.dst (V ((aget m k).getD d))) w) : wpList P ops Q (o :: rest) a w:=
 Go.BigFrame.wpList_want hw fun K' hK'=>by
  have hrun:=h.look KO ht false d hz hk;unfold Oper.wp;simp [execOp,hop,hm,hx,hrun,Result.andThen];exact hK' _ _ hK
end Go.Proofs.YtbbblemfodpmaaaGreat
end
section
namespace Go.Proofs.YtbbblemfodpmaaaGreat
open Go.RowKit
theorem check1_any {lb mb ba : Nat} {js : List Joint} (l : Lead) (j : Joint) (w : World) (hlb : zAe w lb 31 (zAd l)) (hmb : zAe w mb 120 #[.map (some ba)])
  (hma : MapAt vi zAL I64 w ba (zA7 js)) (hla : I64 l.a) (hlb2 : I64 l.b) (hsj : zAy j.at_) (hsm : ∀ id,zAy (ptA js id)) :
  Calls Tryz.prog 77 #[.agg (zAh j), .pointer (some ⟨lb,0,none⟩), .pointer (some ⟨mb,0,none⟩)] w fun e w'=>e = .returned (.bool (j.id != l.a && j.id != l.b && onP (ptA js l.a) (ptA js l.b) j.at_))∧Lays w w':=by
 have hL : Lays w (w.alloc (.cells (zAh j) 29)):=(Lays.refl w).alloc _;have hmd : MapAt vi zAL I64 (w.alloc (.cells (zAh j) 29)) ba (zA7 js):=hma.alloc _;have h0 : zAe (w.alloc (.cells (zAh j) 29)) w.heap.size 29 (zAh j):=zAe.new _ _ _;have q0 : ((w.alloc (.cells (zAh j) 29))).cell? ⟨w.heap.size,0,none⟩ = some (.int .i64 j.id):=(h0.cell 0).trans rfl;have q1 : ((w.alloc (.cells (zAh j) 29))).cell? ⟨lb,1,none⟩ = some (.int .i64 l.a):=((hlb.alloc _).cell 1).trans rfl;have q2 : ((w.alloc (.cells (zAh j) 29))).cell? ⟨lb,2,none⟩ = some (.int .i64 l.b):=((hlb.alloc _).cell 2).trans rfl;have q3 : ((w.alloc (.cells (zAh j) 29))).cell? ⟨mb,0,none⟩ = some (.map (some ba)):=((hmb.alloc _).cell 0).trans rfl;obtain ⟨pa,hpa⟩ : ∃ p,(atA js l.a).getD zAF = p:=⟨_,rfl⟩
 obtain ⟨pb,hpb⟩ : ∃ p,(atA js l.b).getD zAF = p:=⟨_,rfl⟩
 obtain ⟨e1,he1⟩ : ∃ x,(j.id != l.a) = x:=⟨_,rfl⟩
 obtain ⟨e2,he2⟩ : ∃ x,(j.id != l.b) = x:=⟨_,rfl⟩
 have HR : Hid ((j.id != l.a && j.id != l.b && onP (ptA js l.a) (ptA js l.b) j.at_) = (e1 && e2 && onP pa pb j.at_)):=zz (by unfold ptA;rw [hpa,hpb,he1,he2]);have HPA:=zz hpa;have HPB:=zz hpb;have SA : Hid (zAy pa):=zz (hpa ▸ hsm l.a);have SB : Hid (zAy pb):=zz (hpb ▸ hsm l.b);have SJ:=zz hsj;have IA:=zz hla;have IB:=zz hlb2;clear hsm hpa hpb hla hlb2 hsj hma hlb hmb
 cases e1
 case false=>
  go_enter Tryz.func77,Tryz.ntmps77;go_wp2;go_ret;exact ⟨by rw [HR.out];simp,hL⟩
 case true=>
  cases e2
  case false=>
   go_enter Tryz.func77,Tryz.ntmps77;go_wp2;go_ret;exact ⟨by rw [HR.out];simp,hL⟩
  case true=>
   go_enter Tryz.func77,Tryz.ntmps77
   go_wp2_with (first
    | ((with_reducible refine zAm 21 ?_);refine zAY rfl _ _ 120 rfl zAQ zuF zAF (zBq _) rfl hmd l.a IA.out rfl ?_;rw [zBf,HPA.out];simp only [zAL])
    | ((with_reducible refine zAm 25 ?_);refine zAY rfl _ _ 120 rfl zAQ zuF zAF (zBq _) rfl hmd l.b IB.out rfl ?_;rw [zBf,HPB.out];simp only [zAL])
    | ((with_reducible refine zAm 27 ?_);refine zA4 h0 rfl 27 _ rfl rfl (zAb j.at_) (zCf j) zuB ?_)
    | (go_at_call 78;(with_reducible refine (on_any pa pb j.at_ SA.out SB.out SJ.out _).mono ?_);rintro e w2 ⟨rfl,l2⟩))
   go_ret;exact ⟨by rw [HR.out];simp,hL.trans l2⟩
theorem check2_any {pb lb nb ba : Nat} {js : List Joint} (l m : Lead) (w : World) (hpb : zAe w pb 109 #[.pointer (some ⟨nb,0,none⟩)]) (hlb : zAe w lb 31 (zAd l)) (hnb : nb < w.heap.size) (hc2 : w.cell? ⟨nb,2,none⟩ = some (.map (some ba)))
  (hma : MapAt vi zAL I64 w ba (zA7 js)) (hl : I64 l.a∧I64 l.b) (hm : I64 m.a∧I64 m.b) (hsm : ∀ id,zAy (ptA js id)) :
  Calls Tryz.prog 80 #[.agg (zAd m), .pointer (some ⟨pb,0,none⟩), .pointer (some ⟨lb,0,none⟩)] w fun e w'=>e = .returned (.bool (zBO js l m || zBH js l m))∧Below w.heap.size w w':=by
 have hB : Below w.heap.size w (w.alloc (.cells (zAd m) 31)):=(Below.refl _ _).alloc (Nat.le_refl _) _;have h0 : zAe (w.alloc (.cells (zAd m) 31)) w.heap.size 31 (zAd m):=zAe.new _ _ _;have h1 : zAe (w.alloc (.cells (zAd m) 31)) lb 31 (zAd l):=hlb.alloc _;have h2 : zAe (w.alloc (.cells (zAd m) 31)) pb 109 #[.pointer (some ⟨nb,0,none⟩)]:=hpb.alloc _;have q0 : ((w.alloc (.cells (zAd m) 31))).cell? ⟨pb,0,none⟩ = some (.pointer (some ⟨nb,0,none⟩)):=(h2.cell 0).trans rfl;obtain ⟨x1,hx1⟩ : ∃ x,zBO js l m = x:=⟨_,rfl⟩
 obtain ⟨x2,hx2⟩ : ∃ x,zBH js l m = x:=⟨_,rfl⟩
 have HR : Hid ((zBO js l m || zBH js l m) = (x1 || x2)):=zz (by rw [hx1,hx2]);have HM : Hid (∀ W,Below w.heap.size w W→Calls Tryz.prog 81 #[.pointer (some ⟨nb,0,none⟩), .agg (zAd l), .agg (zAd m)] W fun e w'=>e = .returned (.bool x1)∧Below W.heap.size W w'):=zz fun W hW=>hx1 ▸ meet_any l m W (Nat.lt_of_lt_of_le hnb hW.size) ((hW.cell (p:=⟨nb,2,none⟩) hnb).trans hc2) (hma.below hW hma.lt) hl hm hsm;have HA : Hid (∀ W,Below w.heap.size w W→Calls Tryz.prog 82 #[.pointer (some ⟨nb,0,none⟩), .agg (zAd l), .agg (zAd m)] W fun e w'=>e = .returned (.bool x2)∧Below W.heap.size W w'):=zz fun W hW=>hx2 ▸ (along_any l m W (Nat.lt_of_lt_of_le hnb hW.size) ((hW.cell (p:=⟨nb,2,none⟩) hnb).trans hc2) (hma.below hW hma.lt) hl hm hsm).mono fun e w' h=>⟨h.1,h.2.below (Nat.le_refl _)⟩
 clear hx1 hx2 hsm hl hm hma hc2 hnb hpb hlb
 cases x1
 all_goals
  go_enter Tryz.func80,Tryz.ntmps80
  go_wp2_with (first
   | (refine zLd 6 h1 (zAd l) zuD ?_)
   | (refine zLd 7 h0 (zAd m) zuD ?_)
   | (go_at_call 81;(with_reducible refine (HM.out _ hB).mono ?_);rintro e w2 ⟨rfl,hb2⟩;have hB:=hB.trans (hb2.mono hB.size);have h0:=h0.belowAll hb2;have h1:=h1.belowAll hb2;have h2:=h2.belowAll hb2;have q0 : w2.cell? ⟨pb,0,none⟩ = some (.pointer (some ⟨nb,0,none⟩)):=(h2.cell 0).trans rfl)
   | (refine zLd 11 h1 (zAd l) zuD ?_)
   | (refine zLd 12 h0 (zAd m) zuD ?_)
   | (go_at_call 82;(with_reducible refine (HA.out _ hB).mono ?_);rintro e w3 ⟨rfl,hb3⟩;have hB:=hB.trans (hb3.mono hB.size)))
  go_ret;exact ⟨by rw [HR.out];simp,hB⟩
theorem index_touch (c0 c1 : Value) (D : Nat→Prop) (s : Sl Joint) (w : World) (hs : s.OK 3 zAh zAs D w) (p : Joint→Bool)
  (hp : ∀ x ∈ s.val,zAs D w x→∀ W,Below w.heap.size w W→Calls Tryz.prog 77 #[.agg (zAh x),c0,c1] W fun e W'=>e = .returned (.bool (p x))∧Below W.heap.size W W') :
  Calls Tryz.prog 145 #[.slice s.a s.val.length s.cap, .func (.func 77) #[] #[c0,c1]] w fun e w'=>e = .returned (.int .i64 (idxI p s.val))∧Below w.heap.size w w':=by
 have hroom:=hs.room;have HP:=zz hp;have HS:=zz hs;clear hp hs;obtain ⟨a,cap,val⟩:=s;simp only at hroom;go_enter Tryz.func145,Tryz.ntmps145;go_wp2
 go_loopw [5,8] (fun _ i wr=>∃ k : Nat,k ≤ val.length∧i = .int .i64 k∧Hid (∀ j y,j < k→val[j]? = some y→p y = false)∧Below w.heap.size w wr) (fun _ i _=>val.length - (intOf i).toNat)
 case atStart=>exact ⟨0,Nat.zero_le _,rfl,zz (by omega),Below.refl _ _⟩
 case round=>
  obtain ⟨k,hk,rfl,hn,hB⟩:=hrel
  by_cases hlt : k < val.length
  ·obtain ⟨x,hx⟩ : ∃ x,val[k]? = some x:=⟨_,List.getElem?_eq_getElem hlt⟩
   have HX:=zz hx;obtain ⟨b,o,rfl,hb,_,hok,hcell⟩:=HS.out.at hx;have HC : Hid (∀ j,j < (zAh x).size→wr.cell? ⟨b,o + k * 3 + j,none⟩ = (zAh x)[j]?):=zz fun j hj=>by
    rw [(Ext.of_below (D:=fun _=>False) hB).cell hb id];exact hcell j hj
   clear hx hcell;have hcall:=HP.out x (List.mem_of_getElem? HX.out) hok wr hB;have HCL:=zz hcall;clear hcall
   by_cases hpx : p x = true
   ·have HPX:=zz hpx;clear hpx
    go_wp2_with (first
     | (refine zBY rfl 29 _ rfl b (o + k * 3) rfl (zAh x) _ HC.out zuG ?_)
     | (go_at_call 77;refine HCL.out.mono ?_;rintro e w1 ⟨rfl,hb1⟩;rw [HPX.out]))
    go_ret;exact ⟨by simp [zCg HX.out hn.out HPX.out],hB.trans (hb1.mono hB.size)⟩
   ·have HPX : Hid (p x = false):=zz (by simpa using hpx);clear hpx
    go_wp2_with (first
     | (refine zBY rfl 29 _ rfl b (o + k * 3) rfl (zAh x) _ HC.out zuG ?_)
     | (go_at_call 77;refine HCL.out.mono ?_;rintro e w1 ⟨rfl,hb1⟩;rw [HPX.out]))
    go_roundw
    case rel=>
     refine ⟨k + 1,by omega,by go_num,zz fun j y hj hy=>?_,hB.trans (hb1.mono hB.size)⟩
     rcases Nat.lt_succ_iff_lt_or_eq.1 hj with h | rfl
     ·exact hn.out j y h hy
     ·rw [HX.out] at hy;cases hy;exact HPX.out
    case measure=>simp [intOf];omega
  ·go_wp2;go_ret;refine ⟨?_,hB⟩;rw [zCy fun j y hy=>hn.out j y (by have:=(List.getElem?_eq_some_iff.1 hy).1;omega) hy]
   rfl
theorem zGn (c0 c1 : Value) (D : Nat→Prop) (s : Sl Joint) (w : World) (hs : s.OK 3 zAh zAs D w) (p : Joint→Bool)
  (hp : ∀ x ∈ s.val,zAs D w x→∀ W,Below w.heap.size w W→Calls Tryz.prog 77 #[.agg (zAh x),c0,c1] W fun e W'=>e = .returned (.bool (p x))∧Below W.heap.size W W') :
  Calls Tryz.prog 76 #[.slice s.a s.val.length s.cap, .func (.func 77) #[] #[c0,c1]] w fun e w'=>e = .returned (.bool (s.val.any p))∧Below w.heap.size w w':=by
 have H:=zz (index_touch c0 c1 D s w hs p hp);have hg:=zz (idxI_ge p s.val);clear hp hs;go_enter Tryz.func76,Tryz.ntmps76
 go_wp2_with (go_at_call 145;refine H.out.mono ?_;rintro e w1 ⟨rfl,hb1⟩)
 go_ret;exact ⟨by simp [← hg.out],hb1⟩
theorem index_meets (c0 c1 : Value) (D : Nat→Prop) (s : Sl Lead) (w : World) (hs : s.OK 8 zAd zAA D w) (p : Lead→Bool)
  (hp : ∀ x ∈ s.val,zAA D w x→∀ W,Below w.heap.size w W→Calls Tryz.prog 80 #[.agg (zAd x),c0,c1] W fun e W'=>e = .returned (.bool (p x))∧Below W.heap.size W W') :
  Calls Tryz.prog 148 #[.slice s.a s.val.length s.cap, .func (.func 80) #[] #[c0,c1]] w fun e w'=>e = .returned (.int .i64 (idxI p s.val))∧Below w.heap.size w w':=by
 have hroom:=hs.room;have HP:=zz hp;have HS:=zz hs;clear hp hs;obtain ⟨a,cap,val⟩:=s;simp only at hroom;go_enter Tryz.func148,Tryz.ntmps148;go_wp2
 go_loopw [5,8] (fun _ i wr=>∃ k : Nat,k ≤ val.length∧i = .int .i64 k∧Hid (∀ j y,j < k→val[j]? = some y→p y = false)∧Below w.heap.size w wr) (fun _ i _=>val.length - (intOf i).toNat)
 case atStart=>exact ⟨0,Nat.zero_le _,rfl,zz (by omega),Below.refl _ _⟩
 case round=>
  obtain ⟨k,hk,rfl,hn,hB⟩:=hrel
  by_cases hlt : k < val.length
  ·obtain ⟨x,hx⟩ : ∃ x,val[k]? = some x:=⟨_,List.getElem?_eq_getElem hlt⟩
   have HX:=zz hx;obtain ⟨b,o,rfl,hb,_,hok,hcell⟩:=HS.out.at hx;have HC : Hid (∀ j,j < (zAd x).size→wr.cell? ⟨b,o + k * 8 + j,none⟩ = (zAd x)[j]?):=zz fun j hj=>by
    rw [(Ext.of_below (D:=fun _=>False) hB).cell hb id];exact hcell j hj
   clear hx hcell;have hcall:=HP.out x (List.mem_of_getElem? HX.out) hok wr hB;have HCL:=zz hcall;clear hcall
   by_cases hpx : p x = true
   ·have HPX:=zz hpx;clear hpx
    go_wp2_with (first
     | (refine zBY rfl 31 _ rfl b (o + k * 8) rfl (zAd x) _ HC.out zuD ?_)
     | (go_at_call 80;refine HCL.out.mono ?_;rintro e w1 ⟨rfl,hb1⟩;rw [HPX.out]))
    go_ret;exact ⟨by simp [zCg HX.out hn.out HPX.out],hB.trans (hb1.mono hB.size)⟩
   ·have HPX : Hid (p x = false):=zz (by simpa using hpx);clear hpx
    go_wp2_with (first
     | (refine zBY rfl 31 _ rfl b (o + k * 8) rfl (zAd x) _ HC.out zuD ?_)
     | (go_at_call 80;refine HCL.out.mono ?_;rintro e w1 ⟨rfl,hb1⟩;rw [HPX.out]))
    go_roundw
    case rel=>
     refine ⟨k + 1,by omega,by go_num,zz fun j y hj hy=>?_,hB.trans (hb1.mono hB.size)⟩
     rcases Nat.lt_succ_iff_lt_or_eq.1 hj with h | rfl
     ·exact hn.out j y h hy
     ·rw [HX.out] at hy;cases hy;exact HPX.out
    case measure=>simp [intOf];omega
  ·go_wp2;go_ret;refine ⟨?_,hB⟩;rw [zCy fun j y hy=>hn.out j y (by have:=(List.getElem?_eq_some_iff.1 hy).1;omega) hy]
   rfl
theorem zGo (c0 c1 : Value) (D : Nat→Prop) (s : Sl Lead) (w : World) (hs : s.OK 8 zAd zAA D w) (p : Lead→Bool)
  (hp : ∀ x ∈ s.val,zAA D w x→∀ W,Below w.heap.size w W→Calls Tryz.prog 80 #[.agg (zAd x),c0,c1] W fun e W'=>e = .returned (.bool (p x))∧Below W.heap.size W W') :
  Calls Tryz.prog 79 #[.slice s.a s.val.length s.cap, .func (.func 80) #[] #[c0,c1]] w fun e w'=>e = .returned (.bool (s.val.any p))∧Below w.heap.size w w':=by
 have H:=zz (index_meets c0 c1 D s w hs p hp);have hg:=zz (idxI_ge p s.val);clear hp hs;go_enter Tryz.func79,Tryz.ntmps79
 go_wp2_with (go_at_call 148;refine H.out.mono ?_;rintro e w1 ⟨rfl,hb1⟩)
 go_ret;exact ⟨by simp [← hg.out],hb1⟩
end Go.Proofs.YtbbblemfodpmaaaGreat
end
section
namespace Go.Proofs.YtbbblemfodpmaaaGreat
open Go.RowKit
theorem zFZ {js : List Joint} (hp : js.Pairwise fun a b=>a.id < b.id) {k : Nat} {x : Joint} (hx : js[k]? = some x) : aput (zA7 (js.take k)) x.id x.at_ = zA7 (js.take (k + 1)):=by
 have hn : ahas (zA7 (js.take k)) x.id = false:=by
  rw [zBP];intro q hq e;obtain ⟨y,hy,rfl⟩:=List.mem_map.1 hq;obtain ⟨i,hi⟩:=List.mem_iff_getElem?.1 hy;rw [List.getElem?_take] at hi
  split at hi
  ·rename_i hik;obtain ⟨h1,h2⟩:=List.getElem?_eq_some_iff.1 hi;obtain ⟨h3,h4⟩:=List.getElem?_eq_some_iff.1 hx;have:=List.pairwise_iff_getElem.1 hp i k h1 h3 hik;rw [h2,h4] at this;simp only at e;omega
  ·cases hi
 unfold aput;rw [hn,zBJ hx];simp [zA7]
theorem zEp {js : List Joint} (h : ∀ j ∈ js,inP j.at_ = true) (id : Int) : zAy (ptA js id):=by
 unfold ptA atA
 cases hf : js.find? fun j=>decide (j.id = id) with
 | none=>exact ⟨by simp [zAF],by simp [zAF],by simp [zAF],by simp [zAF]⟩
 | some j=>
  have:=h j (List.mem_of_find?_eq_some hf);simp only [inP,winI,Bool.and_eq_true,decide_eq_true_eq] at this;exact ⟨this.1.1,this.1.2,this.2.1,this.2.2⟩
theorem small_of {p : Point} (h : inP p = true) : zAy p:=by
 simp only [inP,winI,Bool.and_eq_true,decide_eq_true_eq] at h;exact ⟨h.1.1,h.1.2,h.2.1,h.2.2⟩
theorem cm_step {js : List Joint} {l : List Lead} {k : Nat} {x : Lead} (hx : l[k]? = some x) (h : cmA js [] l = cmA js (l.take k) (l.drop k)) :
  cmA js [] l = if zDb js x || (l.take k).any (fun m=>zBO js x m || zBH js x m) then (22,x.id) else cmA js (l.take (k + 1)) (l.drop (k + 1)):=by
 rw [h,zEX hx,zBJ hx];simp only [cmA]
theorem zFC {B : Nat} {a w : World} (h : Below B a w) (n : Nat) : Below B a (w.drewN n):=⟨h.os,h.tape,h.output,h.size,h.block⟩
theorem cutLead : CutT 23 8:=cutT (e := 31) (by kernel_rfl) (by kernel_rfl) (by kernel_rfl)
theorem sj_below {s : Sl Joint} {w W : World} (h : s.OK 3 zAh zAs (fun _=>False) w) (hW : Below w.heap.size w W) : s.OK 3 zAh zAs (fun _=>False) W:=h.ext (fun _ hk=>zAs.ext hk (.of_below hW)) (.of_below hW)
theorem sl_below {s : Sl Lead} {w W : World} (h : s.OK 8 zAd zAA (fun _=>False) w) (hW : Below w.heap.size w W) : s.OK 8 zAd zAA (fun _=>False) W:=h.ext (fun _ hk=>zAA.ext hk (.of_below hW)) (.of_below hW)
theorem zEq (sj : Sl Joint) (sl : Sl Lead) (w : World) (hj : sj.OK 3 zAh zAs (fun _=>False) w) (hl : sl.OK 8 zAd zAA (fun _=>False) w) :
  Calls Tryz.prog 18 #[.agg #[.slice sj.a sj.val.length sj.cap, .slice sl.a sl.val.length sl.cap]] w fun e w'=>e = .returned (.tuple #[.int .i64 (zAK sj.val sl.val).1, .int .i64 (zAK sj.val sl.val).2])∧Below w.heap.size w w':=by
 have HJ:=zz hj;have HL:=zz hl;clear hj hl;obtain ⟨aj,cj,js⟩:=sj;obtain ⟨al,cl,ls⟩:=sl;simp only;have hB : Below w.heap.size w (w.alloc (.cells #[.slice aj js.length cj, .slice al ls.length cl] 25)):=(Below.refl _ _).alloc (Nat.le_refl _) _;have h0 : zAe (w.alloc (.cells #[.slice aj js.length cj, .slice al ls.length cl] 25)) w.heap.size 25 #[.slice aj js.length cj, .slice al ls.length cl]:=zAe.new _ _ _;have q0 : ((w.alloc (.cells #[.slice aj js.length cj, .slice al ls.length cl] 25))).cell? ⟨w.heap.size,0,none⟩ = some (.slice aj js.length cj):=(h0.cell 0).trans rfl;have q1 : ((w.alloc (.cells #[.slice aj js.length cj, .slice al ls.length cl] 25))).cell? ⟨w.heap.size,1,none⟩ = some (.slice al ls.length cl):=(h0.cell 1).trans rfl
 by_cases n1 : 200 < js.length
 ·have HR : Hid (zAK js ls = (2,0)):=zz (by unfold zAK;rw [if_pos (.inl n1)]);have n1' : (200 : Int) < (js.length : Int):=by omega
  go_enter Tryz.func18,Tryz.ntmps18;go_wp2;go_ret2;exact ⟨by rw [HR.out];rfl,hB⟩
 have n1' : ¬ (200 : Int) < (js.length : Int):=by omega
 by_cases n2 : 400 < ls.length
 ·have HR : Hid (zAK js ls = (2,0)):=zz (by unfold zAK;rw [if_pos (.inr n2)]);have n2' : (400 : Int) < (ls.length : Int):=by omega
  go_enter Tryz.func18,Tryz.ntmps18;go_wp2;go_ret2;exact ⟨by rw [HR.out];rfl,hB⟩
 have n2' : ¬ (400 : Int) < (ls.length : Int):=by omega
 obtain ⟨c1,hc1⟩ : ∃ c,(cjA [] none js).1 = c:=⟨_,rfl⟩
 obtain ⟨c2,hc2⟩ : ∃ c,(cjA [] none js).2 = c:=⟨_,rfl⟩
 have HCJ : Hid (∀ W,Below w.heap.size w W→Calls Tryz.prog 74 #[.slice aj js.length cj] W fun e w'=>e = .returned (.tuple #[.int .i64 c1, .bool c2])∧Below W.heap.size W w'):=zz fun W hW=>by
  have h:=zFX ⟨aj,cj,js⟩ W (sj_below HJ.out hW) (by simp only;omega);simp only [hc1,hc2] at h;exact h
 have HC1:=zz hc1;have HC2:=zz hc2;clear hc1 hc2
 cases c2
 case false=>
  have HR : Hid (zAK js ls = (20,c1)):=zz (by unfold zAK;rw [if_neg (by omega),if_pos HC2.out,HC1.out]);go_enter Tryz.func18,Tryz.ntmps18
  go_wp2_with (go_at_call 74;(with_reducible refine (HCJ.out _ hB).mono ?_);rintro e w1 ⟨rfl,hb1⟩)
  go_ret2;exact ⟨by rw [HR.out];rfl,hB.trans (hb1.mono hB.size)⟩
 have hcj:=cj_ok js [] none HC2.out;have HPW:=zz hcj.2.1;have HIN : Hid (∀ j ∈ js,inP j.at_ = true):=zz fun j hj=>(hcj.1 j hj).2.1;obtain ⟨c3,hc3⟩ : ∃ c,(clA js [] none ls).1 = c:=⟨_,rfl⟩
 obtain ⟨c4,hc4⟩ : ∃ c,(clA js [] none ls).2 = c:=⟨_,rfl⟩
 have HCL : Hid (∀ W mb,Below w.heap.size w W→MapAt vi zAL I64 W mb (zA7 js)→Calls Tryz.prog 75 #[.slice al ls.length cl, .map (some mb)] W fun e w'=>e = .returned (.tuple #[.int .i64 c3, .bool c4])∧Below W.heap.size W w'):=zz fun W mb hW hm=>by
  have h:=zGm ⟨al,cl,ls⟩ W (sl_below HL.out hW) (by simp only;omega) hm;simp only [hc3,hc4] at h;exact h
 have HC3:=zz hc3;have HC4:=zz hc4;have HRA : Hid (zAK js ls = if c4 = false then (21,c3) else cmA js [] ls):=zz (by unfold zAK;rw [if_neg (by omega),if_neg (by rw [HC2.out];decide),hc3,hc4]);have hmm:=@run_makeMap Tryz.prog;clear hc3 hc4 hcj;go_enter Tryz.func18,Tryz.ntmps18
 go_wp2_with (first
  | (go_at_call 74;(with_reducible refine (HCJ.out _ hB).mono ?_);rintro e w1 ⟨rfl,hb1⟩;have hB1:=hB.trans (hb1.mono hB.size);have hw1:=h0.belowAll hb1;have hbv : zAe ((w1.alloc (.map #[] 0)).alloc (.cells #[.map none] 120)) (w1.heap.size + 1) 120 #[.map none]:=(by have h:=zAe.new (w1.alloc (.map #[] 0)) 120 #[.map none];rw [World.size_alloc] at h;exact h);clear hb1)
  | ((with_reducible refine zAv 120 ?_);refine zAS hbv rfl _ _ _ rfl rfl (.map (some w1.heap.size)) rfl (by kernel_rfl) rfl (by kernel_rfl) ?_;intro w2 hv2 hT2;(have hB2 : Below w.heap.size w w2:=((hB1.alloc hB1.size _).alloc (by have:=hB1.size;simp;omega) _).trans ((hT2.below (Nat.le_succ _)).mono hB1.size));(have hm2 : MapAt vi zAL I64 w2 w1.heap.size []:=((MapAt.made vi zAL I64 w1).alloc _).turn hT2 (by omega));(replace hv2 : zAe w2 (w1.heap.size + 1) 120 #[.map (some w1.heap.size)]:=hv2.eqv (by simp [zAx,Value.cells]));have hlt1:=hw1.lt;(have hw2:=((hw1.alloc (.map #[] 0)).alloc (.cells #[.map none] 120)).turn hT2 (by omega));have q0 : w2.cell? ⟨w.heap.size,0,none⟩ = some (.slice aj js.length cj):=(hw2.cell 0).trans rfl;clear hT2 hbv hw1 hB1))
 go_loopw [38] (fun i wr=>∃ k : Nat,k ≤ js.length∧i = .int .i64 k∧Hid (MapAt vi zAL I64 wr w1.heap.size (zA7 (js.take k)))∧Hid (zAe wr (w1.heap.size + 1) 120 #[.map (some w1.heap.size)])∧Below w1.heap.size w2 wr) (fun i _=>js.length - (intOf i).toNat)
 case atStart=>exact ⟨0,Nat.zero_le _,rfl,zz hm2,zz hv2,Below.refl _ _⟩
 case round=>
  obtain ⟨k,hk,rfl,HM,HV,hBr⟩:=hrel
  by_cases hlt : k < js.length
  ·obtain ⟨x,hx⟩ : ∃ x,js[k]? = some x:=⟨_,List.getElem?_eq_getElem hlt⟩
   have hi1 : (k : Int) < (js.length : Int):=by omega
   obtain ⟨bj,oj,rfl,hbj,_,hok,hcell⟩:=HJ.out.at hx;have hB9:=hB2.trans (hBr.mono (Nat.le_of_lt hlt1));have HC : Hid (∀ j,j < (zAh x).size→wr.cell? ⟨bj,oj + k * 3 + j,none⟩ = (zAh x)[j]?):=zz fun j hj=>(hB9.cell (p:=⟨bj,oj + k * 3 + j,none⟩) hbj).trans (hcell j hj);have hjb : zAe (wr.alloc (.cells (zAh x) 29)) wr.heap.size 29 (zAh x):=zAe.new _ _ _;have hmd : MapAt vi zAL I64 (wr.alloc (.cells (zAh x) 29)) w1.heap.size (zA7 (js.take k)):=HM.out.alloc _;have HX:=zz hx;have HXI:=zz hok.1;have z0 : ((wr.alloc (.cells (zAh x) 29))).cell? ⟨wr.heap.size,0,none⟩ = some (.int .i64 x.id):=(hjb.cell 0).trans rfl;have z1 : ((wr.alloc (.cells (zAh x) 29))).cell? ⟨w1.heap.size + 1,0,none⟩ = some (.map (some w1.heap.size)):=((HV.out.alloc _).cell 0).trans rfl;have hszr : w1.heap.size + 1 < wr.heap.size:=HV.out.lt;have hvX:=HV.out.alloc (.cells (zAh x) 29);have hBX : Below w1.heap.size w2 (wr.alloc (.cells (zAh x) 29)):=hBr.alloc (by omega) _;clear hx hok hcell hbj HM
   go_wp2_with (first
    | ((with_reducible refine zAm 41 ?_);refine zLe 41 bj (oj + k * 3) (zAh x) HC.out zuG ?_)
    | ((with_reducible refine zDy ?_);refine zAk (cs:=zAh x) rfl 29 _ _ rfl rfl rfl rfl (by kernel_rfl) rfl (zBj _) ?_)
    | ((with_reducible refine zAm 46 ?_);refine zA4 hjb rfl 27 _ rfl rfl (zAb x.at_) (zCf x) zuB ?_)
    | (at_mapUpdate;refine zBx rfl _ _ _ 120 rfl zAQ zuF rfl hmd x.id HXI.out rfl x.at_ rfl ?_;intro w5 hm5 hT5))
   rw [zFZ HPW.out HX.out] at hm5;go_roundw
   case rel=>exact ⟨k + 1,by omega,by go_num,zz hm5,zz (hvX.turn hT5 (by omega)),hBX.trans (hT5.below (Nat.le_refl _))⟩
   case measure=>simp [intOf];omega
  ·have hk' : k = js.length:=by omega
   have hi0 : ¬ (k : Int) < (js.length : Int):=by omega
   have hm3 : MapAt vi zAL I64 wr w1.heap.size (zA7 js):=by have h:=HM.out;rw [hk',List.take_length] at h;exact h
   have hwr:=hw2.below hBr hlt1;have hvr:=HV.out;have hB9:=hB2.trans (hBr.mono (Nat.le_of_lt hlt1));have q1 : wr.cell? ⟨w.heap.size,1,none⟩ = some (.slice al ls.length cl):=(hwr.cell 1).trans rfl;have q2 : wr.cell? ⟨w1.heap.size + 1,0,none⟩ = some (.map (some w1.heap.size)):=(hvr.cell 0).trans rfl;have HM3:=zz hm3;clear hB2 hm2 hv2 hw2 HM HV hBr hk' q0 hm3 hlt
   cases c4
   case false=>
    go_wp2_with (go_at_call 75;(with_reducible refine (HCL.out _ _ hB9 HM3.out).mono ?_);rintro e w3 ⟨rfl,hb3⟩)
    go_ret2;exact ⟨by rw [HRA.out];rfl,hB9.trans (hb3.mono hB9.size)⟩
   have hnb0 : Hid (∀ w3 : World,zAe ((w3.alloc (.cells #[.slice aj js.length cj, .slice al ls.length cl, .map (some w1.heap.size), .map none, .map none] 125)).alloc (.cells #[.pointer none] 109)) (w3.heap.size + 1) 109 #[.pointer none]):=zz fun w3=>by
    have h:=zAe.new (w3.alloc (.cells #[.slice aj js.length cj, .slice al ls.length cl, .map (some w1.heap.size), .map none, .map none] 125)) 109 #[.pointer none];rw [World.size_alloc] at h;exact h
   go_wp2_with (first
    | (go_at_call 75;(with_reducible refine (HCL.out _ _ hB9 HM3.out).mono ?_);rintro e w3 ⟨rfl,hb3⟩;have hB3:=hB9.trans (hb3.mono hB9.size);have hw3:=hwr.belowAll hb3;have hv3:=hvr.belowAll hb3;have hm4:=HM3.out.below hb3 HM3.out.lt;have q1 : w3.cell? ⟨w.heap.size,1,none⟩ = some (.slice al ls.length cl):=(hw3.cell 1).trans rfl;have q2 : w3.cell? ⟨w1.heap.size + 1,0,none⟩ = some (.map (some w1.heap.size)):=(hv3.cell 0).trans rfl;have hlw:=hw3.lt;have hlv:=hv3.lt;have hlm:=hm4.lt;have hnb:=hnb0.out w3)
    | (refine zLd 58 hw3 #[.slice aj js.length cj, .slice al ls.length cl] zuC ?_)
    | ((with_reducible refine zAv 109 ?_);refine zAS hnb rfl _ _ _ rfl rfl (.pointer (some ⟨w3.heap.size,0,none⟩)) rfl (by kernel_rfl) rfl (by kernel_rfl) ?_;intro w4 hp4 hT4;(replace hp4 : zAe w4 (w3.heap.size + 1) 109 #[.pointer (some ⟨w3.heap.size,0,none⟩)]:=hp4.eqv (by simp [zAx,Value.cells]));(have hn4 : zAe w4 w3.heap.size 125 #[.slice aj js.length cj, .slice al ls.length cl, .map (some w1.heap.size), .map none, .map none]:=((zAe.new w3 125 #[.slice aj js.length cj, .slice al ls.length cl, .map (some w1.heap.size), .map none, .map none]).alloc _).turn hT4 (by omega));(have hw4:=((hw3.alloc (.cells #[.slice aj js.length cj, .slice al ls.length cl, .map (some w1.heap.size), .map none, .map none] 125)).alloc (.cells #[.pointer none] 109)).turn hT4 (by omega));(have hv4:=((hv3.alloc (.cells #[.slice aj js.length cj, .slice al ls.length cl, .map (some w1.heap.size), .map none, .map none] 125)).alloc (.cells #[.pointer none] 109)).turn hT4 (by omega));(have hm5:=((hm4.alloc (.cells #[.slice aj js.length cj, .slice al ls.length cl, .map (some w1.heap.size), .map none, .map none] 125)).alloc (.cells #[.pointer none] 109)).turn hT4 (by omega));(have hB4 : Below w.heap.size w w4:=((hB3.alloc hB3.size _).alloc (by have:=hB3.size;simp;omega) _).trans ((hT4.below (Nat.le_succ _)).mono hB3.size));(have q1 : w4.cell? ⟨w.heap.size,1,none⟩ = some (.slice al ls.length cl):=(hw4.cell 1).trans rfl);clear hT4 hnb hw3 hv3 hm4 hB3))
   clear HCL hnb0
   go_loopw [65] (fun i wr=>∃ k : Nat,k ≤ ls.length∧i = .int .i64 k∧Hid (cmA js [] ls = cmA js (ls.take k) (ls.drop k))∧Below w4.heap.size w4 wr) (fun i _=>ls.length - (intOf i).toNat)
   case atStart=>exact ⟨0,Nat.zero_le _,rfl,zz rfl,Below.refl _ _⟩
   case round=>
    obtain ⟨k2,hk2,rfl,HCM,hB5⟩:=hrel
    by_cases hlt2 : k2 < ls.length
    ·obtain ⟨x,hx⟩ : ∃ x,ls[k2]? = some x:=⟨_,List.getElem?_eq_getElem hlt2⟩
     have hi1 : (k2 : Int) < (ls.length : Int):=by omega
     obtain ⟨bl,ol,rfl,hbl,_,hok,hcell⟩:=HL.out.at hx;have hB6:=hB4.trans (hB5.mono hB4.size);have HC : Hid (∀ j,j < (zAd x).size→wr.cell? ⟨bl,ol + k2 * 8 + j,none⟩ = (zAd x)[j]?):=zz fun j hj=>(hB6.cell (p:=⟨bl,ol + k2 * 8 + j,none⟩) hbl).trans (hcell j hj);have hlx : zAe (wr.alloc (.cells (zAd x) 31)) wr.heap.size 31 (zAd x):=zAe.new _ _ _;have hBY : Below w.heap.size w (wr.alloc (.cells (zAd x) 31)):=hB6.alloc hB6.size _;have hBY4 : Below w4.heap.size w4 (wr.alloc (.cells (zAd x) 31)):=hB5.alloc hB5.size _;have q0 : ((wr.alloc (.cells (zAd x) 31))).cell? ⟨w.heap.size,0,none⟩ = some (.slice aj js.length cj):=(((hw4.belowAll hB5).alloc _).cell 0).trans rfl;obtain ⟨t1,ht1⟩ : ∃ t,zDb js x = t:=⟨_,rfl⟩
     obtain ⟨m1,hm1⟩ : ∃ t,((ls.take k2).any fun m=>zBO js x m || zBH js x m) = t:=⟨_,rfl⟩
     have HST : Hid (cmA js [] ls = if t1 || m1 then (22,x.id) else cmA js (ls.take (k2 + 1)) (ls.drop (k2 + 1))):=zz (by rw [cm_step hx HCM.out,ht1,hm1]);have HSM : Hid (∀ id,zAy (ptA js id)):=zz (zEp HIN.out);have HT : Hid (∀ W,Below ((wr.alloc (.cells (zAd x) 31))).heap.size (wr.alloc (.cells (zAd x) 31)) W→Calls Tryz.prog 76 #[.slice aj js.length cj, .func (.func 77) #[] #[.pointer (some ⟨wr.heap.size,0,none⟩), .pointer (some ⟨w1.heap.size + 1,0,none⟩)]] W fun e w'=>e = .returned (.bool t1)∧Below W.heap.size W w'):=zz fun W hW=>by
      have h:=zGn (.pointer (some ⟨wr.heap.size,0,none⟩)) (.pointer (some ⟨w1.heap.size + 1,0,none⟩)) (fun _=>False) ⟨aj,cj,js⟩ W (sj_below HJ.out (hBY.trans (hW.mono hBY.size))) (fun j=>j.id != x.a && j.id != x.b && onP (ptA js x.a) (ptA js x.b) j.at_) fun j hj hokj W' hW'=>by
       have hWW:=hW.trans (hW'.mono hW.size);have h4:=hBY4.trans (hWW.mono hBY4.size);exact (check1_any x j W' (hlx.belowAll hWW) (hv4.belowAll h4) (hm5.below h4 hm5.lt) hok.2.1 hok.2.2.1 (small_of (HIN.out j hj)) HSM.out).mono fun e w' h=>⟨h.1,h.2.below (Nat.le_refl _)⟩
      rw [show (Sl.mk aj cj js).val.any (fun j=>j.id != x.a && j.id != x.b && onP (ptA js x.a) (ptA js x.b) j.at_) = t1 from ht1] at h;exact h
     have HE : Hid (∀ W,Below ((wr.alloc (.cells (zAd x) 31))).heap.size (wr.alloc (.cells (zAd x) 31)) W→Calls Tryz.prog 79 #[.slice (some ⟨bl,ol,none⟩) k2 cl, .func (.func 80) #[] #[.pointer (some ⟨w3.heap.size + 1,0,none⟩), .pointer (some ⟨wr.heap.size,0,none⟩)]] W fun e w'=>e = .returned (.bool m1)∧Below W.heap.size W w'):=zz fun W hW=>by
      have h:=zGo (.pointer (some ⟨w3.heap.size + 1,0,none⟩)) (.pointer (some ⟨wr.heap.size,0,none⟩)) (fun _=>False) (Sl.tk ⟨some ⟨bl,ol,none⟩,cl,ls⟩ k2) W ((sl_below HL.out (hBY.trans (hW.mono hBY.size))).tk k2) (fun m=>zBO js x m || zBH js x m) fun m hm hokm W' hW'=>by
       have hWW:=hW.trans (hW'.mono hW.size);have h4:=hBY4.trans (hWW.mono hBY4.size);exact check2_any x m W' (hp4.belowAll h4) (hlx.belowAll hWW) (Nat.lt_of_lt_of_le hn4.lt h4.size) (((hn4.belowAll h4).cell 2).trans rfl) (hm5.below h4 hm5.lt) ⟨hok.2.1,hok.2.2.1⟩ ⟨hokm.2.1,hokm.2.2.1⟩ HSM.out
      rw [zEo _ _ hk2,show (Sl.tk ⟨some ⟨bl,ol,none⟩,cl,ls⟩ k2).val.any (fun m=>zBO js x m || zBH js x m) = m1 from hm1] at h;exact h
     have HCAP : Hid (ls.length ≤ cl):=zz HL.out.le;have z0 : ((wr.alloc (.cells (zAd x) 31))).cell? ⟨wr.heap.size,0,none⟩ = some (.int .i64 x.id):=(hlx.cell 0).trans rfl;have hwY:=(hw4.belowAll hB5).alloc (.cells (zAd x) 31);have hBZ:=Below.refl ((wr.alloc (.cells (zAd x) 31))).heap.size ((wr.alloc (.cells (zAd x) 31)));have hk3 : k2 ≤ ls.length:=hk2;clear hx hok hcell hbl ht1 hm1 HCM HSM hm5 hv4 hp4 hn4 hlt2
     cases t1
     case true=>
      go_wp2_with (first
       | ((with_reducible refine zAm 69 ?_);refine zLe 69 bl (ol + k2 * 8) (zAd x) HC.out zuD ?_)
       | ((with_reducible refine zAv 31 ?_);refine zAk (cs:=zAd x) rfl 31 _ _ rfl rfl rfl rfl (by kernel_rfl) rfl (zA9 _) ?_)
       | (go_at_call 76;(with_reducible refine (HT.out _ hBZ).mono ?_);rintro e w5 ⟨rfl,hb5⟩;have hBZ:=hBZ.trans (hb5.mono hBZ.size);have z0 : w5.cell? ⟨wr.heap.size,0,none⟩ = some (.int .i64 x.id):=((hlx.belowAll hb5).cell 0).trans rfl;have q1 : w5.cell? ⟨w.heap.size,1,none⟩ = some (.slice (some ⟨bl,ol,none⟩) ls.length cl):=((hwY.belowAll hb5).cell 1).trans rfl;have hlx:=hlx.belowAll hb5))
      go_quiet (fail)
      go_wp2;go_ret2;exact ⟨by rw [HRA.out,HST.out];simp,zFC (hBY.trans (hBZ.mono hBY.size)) _⟩
     case false=>
      cases m1
      case true=>
       go_wp2_with (first
        | ((with_reducible refine zAm 69 ?_);refine zLe 69 bl (ol + k2 * 8) (zAd x) HC.out zuD ?_)
        | ((with_reducible refine zAv 31 ?_);refine zAk (cs:=zAd x) rfl 31 _ _ rfl rfl rfl rfl (by kernel_rfl) rfl (zA9 _) ?_)
        | (go_at_call 76;(with_reducible refine (HT.out _ hBZ).mono ?_);rintro e w5 ⟨rfl,hb5⟩;have hBZ:=hBZ.trans (hb5.mono hBZ.size);have z0 : w5.cell? ⟨wr.heap.size,0,none⟩ = some (.int .i64 x.id):=((hlx.belowAll hb5).cell 0).trans rfl;have q1 : w5.cell? ⟨w.heap.size,1,none⟩ = some (.slice (some ⟨bl,ol,none⟩) ls.length cl):=((hwY.belowAll hb5).cell 1).trans rfl;have hlx:=hlx.belowAll hb5)
        | ((with_reducible refine zAm 79 ?_);refine zCP rfl _ _ _ _ _ rfl (.slice (some ⟨bl,ol,none⟩) ls.length cl) (.slice (some ⟨bl,ol,none⟩) k2 cl) rfl (Eq.trans (run_tkG cutLead _ ⟨some ⟨bl,ol,none⟩,cl,ls⟩ k2 hk3 HCAP.out) (by rw [zEo _ _ hk3];rfl)) ?_)
        | (go_at_call 79;(with_reducible refine (HE.out _ hBZ).mono ?_);rintro e w6 ⟨rfl,hb6⟩;have hBZ:=hBZ.trans (hb6.mono hBZ.size);have z0 : w6.cell? ⟨wr.heap.size,0,none⟩ = some (.int .i64 x.id):=((hlx.belowAll hb6).cell 0).trans rfl))
       go_quiet (fail)
       go_wp2;go_ret2;exact ⟨by rw [HRA.out,HST.out];simp,zFC (hBY.trans (hBZ.mono hBY.size)) _⟩
      case false=>
       go_wp2_with (first
        | ((with_reducible refine zAm 69 ?_);refine zLe 69 bl (ol + k2 * 8) (zAd x) HC.out zuD ?_)
        | ((with_reducible refine zAv 31 ?_);refine zAk (cs:=zAd x) rfl 31 _ _ rfl rfl rfl rfl (by kernel_rfl) rfl (zA9 _) ?_)
        | (go_at_call 76;(with_reducible refine (HT.out _ hBZ).mono ?_);rintro e w5 ⟨rfl,hb5⟩;have hBZ:=hBZ.trans (hb5.mono hBZ.size);have z0 : w5.cell? ⟨wr.heap.size,0,none⟩ = some (.int .i64 x.id):=((hlx.belowAll hb5).cell 0).trans rfl;have q1 : w5.cell? ⟨w.heap.size,1,none⟩ = some (.slice (some ⟨bl,ol,none⟩) ls.length cl):=((hwY.belowAll hb5).cell 1).trans rfl;have hlx:=hlx.belowAll hb5)
        | ((with_reducible refine zAm 79 ?_);refine zCP rfl _ _ _ _ _ rfl (.slice (some ⟨bl,ol,none⟩) ls.length cl) (.slice (some ⟨bl,ol,none⟩) k2 cl) rfl (Eq.trans (run_tkG cutLead _ ⟨some ⟨bl,ol,none⟩,cl,ls⟩ k2 hk3 HCAP.out) (by rw [zEo _ _ hk3];rfl)) ?_)
        | (go_at_call 79;(with_reducible refine (HE.out _ hBZ).mono ?_);rintro e w6 ⟨rfl,hb6⟩;have hBZ:=hBZ.trans (hb6.mono hBZ.size);have z0 : w6.cell? ⟨wr.heap.size,0,none⟩ = some (.int .i64 x.id):=((hlx.belowAll hb6).cell 0).trans rfl))
       go_roundw
       case rel=>exact ⟨k2 + 1,by omega,by go_num,zz (by rw [HST.out];simp),hBY4.trans (hBZ.mono hBY4.size)⟩
       case measure=>simp [intOf];omega
    ·have hk' : k2 = ls.length:=by omega
     have hi0 : ¬ (k2 : Int) < (ls.length : Int):=by omega
     have HR : Hid (cmA js [] ls = (0,0)):=zz (by have h:=HCM.out;rw [hk',List.drop_length] at h;exact h);clear HCM hk';go_wp2;go_ret2;exact ⟨by rw [HRA.out,HR.out];simp,hB4.trans (hB5.mono hB4.size)⟩
end Go.Proofs.YtbbblemfodpmaaaGreat
end
