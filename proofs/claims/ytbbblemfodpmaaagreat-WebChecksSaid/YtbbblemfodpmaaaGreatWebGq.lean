/-slices.Clone at joints and leads.-/
import Derived.Test.YtbbblemfodpmaaaGreatWebGp
import Derived.Lib.LazyBuf
import Derived.Deep.CutBlock
import Derived.Handy
set_option linter.unusedVariables false
set_option linter.unusedSimpArgs false
set_option maxHeartbeats 16000000
set_option maxRecDepth 100000
section
namespace Go.Proofs.YtbbblemfodpmaaaGreat
open Go.RowKit
@[go_sem] theorem eqGuardS_Joint : Tryz.prog.eqGuardType Tryz.prog.depth 22 = false:=by kernel_rfl
@[go_sem high] theorem eqlS_Joint (w : World) (a : Option Addr) (l c : Nat) : (binOp .eql 22 (.slice a l c) (.slice none 0 0)).run Tryz.prog w = .ok (.bool a.isNone) w:=run_eql_slice_nil w _ _ a l c Tryz.underlying22
theorem zFJ : zBU Tryz.prog 22 29 3 24:=⟨Tryz.underlying22,by kernel_rfl⟩
@[go_sem] theorem eqGuardS_Lead : Tryz.prog.eqGuardType Tryz.prog.depth 23 = false:=by kernel_rfl
@[go_sem high] theorem eqlS_Lead (w : World) (a : Option Addr) (l c : Nat) : (binOp .eql 23 (.slice a l c) (.slice none 0 0)).run Tryz.prog w = .ok (.bool a.isNone) w:=run_eql_slice_nil w _ _ a l c Tryz.underlying23
theorem zE7 : zBU Tryz.prog 23 31 8 64:=⟨Tryz.underlying23,by kernel_rfl⟩
theorem OwnL.empty {α : Type} (enc : α→Array Value) (sz : Nat) (w : World) (e : TypeId) : OwnL enc sz (w.alloc (.cells #[] e)) w.heap.size e (.slice (some ⟨w.heap.size,0,none⟩) 0 0) []:=
 ⟨by simp [flat], .inr ⟨w.heap.size,0,#[],rfl,Nat.le_refl _,(MapKept.heap_alloc w _).1,Nat.le_refl _,Nat.zero_le _,by simp,by simp [flat]⟩⟩
theorem clone_Joint (D : Nat→Prop) (s : Sl Joint) (w : World) (hs : s.OK 3 zAh zAs D w) :
  Calls Tryz.prog 258 #[.slice s.a s.val.length s.cap] w fun e w'=>∃ v,e = .returned v∧OwnL zAh 3 w' w.heap.size 29 v s.val∧(v = .slice none 0 0 ↔ s.a = none)∧Below w.heap.size w w':=by
 have hroom:=hs.room;have HS:=zz hs;clear hs;obtain ⟨a,cap,val⟩:=s;simp only at hroom
 cases a with
 | none=>
  obtain ⟨h1,h2⟩:=HS.out.isNil rfl;simp only at h1 h2;subst h1;subst h2;go_enter Tryz.func258,Tryz.ntmps258;go_wp2;go_ret;exact ⟨_,rfl,OwnL.nil _ _ _ _ _,by simp,Below.refl _ _⟩
 | some p=>
  by_cases hz : val = []
  ·subst hz;go_enter Tryz.func258,Tryz.ntmps258
   go_wp2_with (with_reducible refine zAm 7 ?_;refine zDM rfl _ _ 22 rfl w.heap.size zFJ (by decide) (by decide) _ [] rfl (OwnL.empty zAh 3 w _) p cap rfl (by simp) (by simp) ?_;intro v w1 hown hg hnil;replace hnil : v ≠ .slice none 0 0:=fun e=>absurd (hnil.1 e) (by simp [Act.eval,Act.put]))
   go_ret;exact ⟨v,rfl,hown,⟨fun e=>absurd e hnil,fun e=>by simp at e⟩,Below.appended (OwnL.empty zAh 3 w _) hg (Nat.le_refl _) (by simp) |> ((Below.refl _ _).alloc (Nat.le_refl _) _).trans⟩
  have hpos:=List.length_pos_iff.2 hz;obtain ⟨b,o,sp⟩:=p;obtain ⟨h1,h2,h3⟩:=HS.out.place _ rfl hpos;clear hpos hz;simp only at h1 h2 h3;subst h1;have hE:=HS.out.cell b o rfl;have HC : Hid (∀ i y,val[i]? = some y→∀ j,j < 3→(w.alloc (.cells #[] 29)).cell? ⟨b,o + i * 3 + j,none⟩ = (zAh y)[j]?):=zz fun i y hi j hj=>by
   rw [World.cell?_of_block (w:=w) ((MapKept.heap_alloc w _).2 b h3)];exact hE i y hi j hj
  clear hE;go_enter Tryz.func258,Tryz.ntmps258
  go_wp2_with (with_reducible refine zAm 7 ?_;refine zDL rfl _ _ 22 rfl w.heap.size zFJ (fun _=>rfl) (by decide) zBj (by decide) _ [] rfl (OwnL.empty _ _ w _) b o cap val rfl HC.out (by simp only [List.length_nil];omega) (by simp) ?_;intro v w1 hown hg hnil;replace hnil : v ≠ .slice none 0 0:=fun e=>absurd (hnil.1 e).1 (by simp [Act.eval,Act.put]))
  go_ret;exact ⟨v,rfl,hown,⟨fun e=>absurd e hnil,fun e=>by simp at e⟩,Below.appended (OwnL.empty zAh 3 w _) hg (Nat.le_refl _) (by simp) |> ((Below.refl _ _).alloc (Nat.le_refl _) _).trans⟩
theorem clone_Lead (D : Nat→Prop) (s : Sl Lead) (w : World) (hs : s.OK 8 zAd zAA D w) :
  Calls Tryz.prog 259 #[.slice s.a s.val.length s.cap] w fun e w'=>∃ v,e = .returned v∧OwnL zAd 8 w' w.heap.size 31 v s.val∧(v = .slice none 0 0 ↔ s.a = none)∧Below w.heap.size w w':=by
 have hroom:=hs.room;have HS:=zz hs;clear hs;obtain ⟨a,cap,val⟩:=s;simp only at hroom
 cases a with
 | none=>
  obtain ⟨h1,h2⟩:=HS.out.isNil rfl;simp only at h1 h2;subst h1;subst h2;go_enter Tryz.func259,Tryz.ntmps259;go_wp2;go_ret;exact ⟨_,rfl,OwnL.nil _ _ _ _ _,by simp,Below.refl _ _⟩
 | some p=>
  by_cases hz : val = []
  ·subst hz;go_enter Tryz.func259,Tryz.ntmps259
   go_wp2_with (with_reducible refine zAm 7 ?_;refine zDM rfl _ _ 23 rfl w.heap.size zE7 (by decide) (by decide) _ [] rfl (OwnL.empty zAd 8 w _) p cap rfl (by simp) (by simp) ?_;intro v w1 hown hg hnil;replace hnil : v ≠ .slice none 0 0:=fun e=>absurd (hnil.1 e) (by simp [Act.eval,Act.put]))
   go_ret;exact ⟨v,rfl,hown,⟨fun e=>absurd e hnil,fun e=>by simp at e⟩,Below.appended (OwnL.empty zAd 8 w _) hg (Nat.le_refl _) (by simp) |> ((Below.refl _ _).alloc (Nat.le_refl _) _).trans⟩
  have hpos:=List.length_pos_iff.2 hz;obtain ⟨b,o,sp⟩:=p;obtain ⟨h1,h2,h3⟩:=HS.out.place _ rfl hpos;clear hpos hz;simp only at h1 h2 h3;subst h1;have hE:=HS.out.cell b o rfl;have HC : Hid (∀ i y,val[i]? = some y→∀ j,j < 8→(w.alloc (.cells #[] 31)).cell? ⟨b,o + i * 8 + j,none⟩ = (zAd y)[j]?):=zz fun i y hi j hj=>by
   rw [World.cell?_of_block (w:=w) ((MapKept.heap_alloc w _).2 b h3)];exact hE i y hi j hj
  clear hE;go_enter Tryz.func259,Tryz.ntmps259
  go_wp2_with (with_reducible refine zAm 7 ?_;refine zDL rfl _ _ 23 rfl w.heap.size zE7 (fun _=>rfl) (by decide) zA9 (by decide) _ [] rfl (OwnL.empty _ _ w _) b o cap val rfl HC.out (by simp only [List.length_nil];omega) (by simp) ?_;intro v w1 hown hg hnil;replace hnil : v ≠ .slice none 0 0:=fun e=>absurd (hnil.1 e).1 (by simp [Act.eval,Act.put]))
  go_ret;exact ⟨v,rfl,hown,⟨fun e=>absurd e hnil,fun e=>by simp at e⟩,Below.appended (OwnL.empty zAd 8 w _) hg (Nat.le_refl _) (by simp) |> ((Below.refl _ _).alloc (Nat.le_refl _) _).trans⟩
end Go.Proofs.YtbbblemfodpmaaaGreat
end
section
namespace Go.Proofs.YtbbblemfodpmaaaGreat
open Go.RowKit
theorem index_wl (c0 : Value) (D : Nat→Prop) (s : Sl Lead) (w : World) (hs : s.OK 8 zAd zAA D w) (p : Lead→Bool)
  (hp : ∀ x,zAA D w x→∀ W,Below w.heap.size w W→Calls Tryz.prog 267 #[.agg (zAd x),c0] W fun e W'=>e = .returned (.bool (p x))∧Below W.heap.size W W') :
  Calls Tryz.prog 148 #[.slice s.a s.val.length s.cap, .func (.func 267) #[] #[c0]] w fun e w'=>e = .returned (.int .i64 (idxI p s.val))∧Below w.heap.size w w':=by
 have hroom:=hs.room;have HP:=zz hp;have HS:=zz hs;clear hp hs;obtain ⟨a,cap,val⟩:=s;simp only at hroom;go_enter Tryz.func148,Tryz.ntmps148;go_wp2
 go_loopw [5,8] (fun _ i wr=>∃ k : Nat,k ≤ val.length∧i = .int .i64 k∧Hid (∀ j y,j < k→val[j]? = some y→p y = false)∧Below w.heap.size w wr) (fun _ i _=>val.length - (intOf i).toNat)
 case atStart=>exact ⟨0,Nat.zero_le _,rfl,zz (by omega),Below.refl _ _⟩
 case round=>
  obtain ⟨k,hk,rfl,hn,hB⟩:=hrel
  by_cases hlt : k < val.length
  ·obtain ⟨x,hx⟩ : ∃ x,val[k]? = some x:=⟨_,List.getElem?_eq_getElem hlt⟩
   have HX:=zz hx;obtain ⟨b,o,rfl,hb,_,hok,hcell⟩:=HS.out.at hx;have HC : Hid (∀ j,j < (zAd x).size→wr.cell? ⟨b,o + k * 8 + j,none⟩ = (zAd x)[j]?):=zz fun j hj=>by
    rw [(Ext.of_below (D:=fun _=>False) hB).cell hb id];exact hcell j hj
   clear hx hcell;have hcall:=HP.out x hok wr hB;have HCL:=zz hcall;clear hcall
   by_cases hpx : p x = true
   ·have HPX:=zz hpx;clear hpx
    go_wp2_with (first
     | (refine zBY rfl 31 _ rfl b (o + k * 8) rfl (zAd x) _ HC.out zuD ?_)
     | (go_at_call 267;refine HCL.out.mono ?_;rintro e w1 ⟨rfl,hb1⟩;rw [HPX.out]))
    go_ret;exact ⟨by simp [zCg HX.out hn.out HPX.out],hB.trans (hb1.mono hB.size)⟩
   ·have HPX : Hid (p x = false):=zz (by simpa using hpx);clear hpx
    go_wp2_with (first
     | (refine zBY rfl 31 _ rfl b (o + k * 8) rfl (zAd x) _ HC.out zuD ?_)
     | (go_at_call 267;refine HCL.out.mono ?_;rintro e w1 ⟨rfl,hb1⟩;rw [HPX.out]))
    go_roundw
    case rel=>
     refine ⟨k + 1,by omega,by go_num,zz fun j y hj hy=>?_,hB.trans (hb1.mono hB.size)⟩
     rcases Nat.lt_succ_iff_lt_or_eq.1 hj with h | rfl
     ·exact hn.out j y h hy
     ·rw [HX.out] at hy;cases hy;exact HPX.out
    case measure=>simp [intOf];omega
  ·go_wp2;go_ret;refine ⟨?_,hB⟩;rw [zCy fun j y hy=>hn.out j y (by have:=(List.getElem?_eq_some_iff.1 hy).1;omega) hy]
   rfl
theorem withLead1_any (x l : Lead) (lb : Nat) (w : World) (hb : zAe w lb 31 (zAd l)) :
  Calls Tryz.prog 267 #[.agg (zAd x), .pointer (some ⟨lb,0,none⟩)] w fun e w'=>e = .returned (.bool (decide (l.id < x.id)))∧Lays w w':=by
 have h0 : zAe (w.alloc (.cells (zAd x) 31)) w.heap.size 31 (zAd x):=zAe.new _ _ _;have q0:=(h0.cell 0).trans (show _ = some (.int .i64 x.id) from rfl);have q1:=((hb.alloc (.cells (zAd x) 31)).cell 0).trans (show _ = some (.int .i64 l.id) from rfl);go_enter Tryz.func267,Tryz.ntmps267;go_wp2;go_ret;exact ⟨by simp,(Lays.refl _).alloc _⟩
theorem insertEnd_any (v : Value) (ls : List Lead) (x : Lead) (g N : Nat) (w : World) (hv : OwnL zAd 8 w N 31 v ls) (hl : ls.length ≤ 800) (hN : N ≤ w.heap.size) (hb : zAe w g 31 (zAd x)) :
  Calls Tryz.prog 268 #[v, .int .i64 ls.length, .slice (some ⟨g,0,none⟩) 1 1] w fun e w'=>∃ v',e = .returned v'∧OwnL zAd 8 w' N 31 v' (ls ++ [x])∧w.grownBy w' v.ownBlock:=by
 obtain ⟨a,c,rfl⟩:=hv.shape;obtain ⟨t,ht,hts,htok,_⟩:=OwnL.sl (enc:=zAd) (sz:=8) hv (fun _=>rfl) (fun _ _ _=>True) (fun _=>False) (fun _ _=>trivial) (fun _ _ h=>h) (by omega);have HV:=zz hv;obtain ⟨da,dn,dc,hdr⟩ : ∃ da dn dc,(Instr.sliceAt 23 (.slice a ls.length c) (some (.int .i64 (ls.length : Int))) none none).run Tryz.prog w = .ok (.slice da dn dc) w:=by
  have e : Value.slice a ls.length c = .slice t.a t.val.length t.cap:=ht;have h:=run_drG (α:=Lead) cutLead w t ls.length (by rw [hts];exact Nat.le_refl _);rw [← e] at h;exact ⟨_,_,_,h⟩
 have HDR:=zz hdr;have HBX:=zz hb;clear hv hdr hb ht hts htok;go_enter Tryz.func268,Tryz.ntmps268
 go_wp2_with (first
  | ((with_reducible refine zAm 12 ?_);refine zCP rfl _ _ _ _ _ rfl _ (.slice da dn dc) rfl HDR.out ?_)
  | ((with_reducible refine zAm 25 ?_);refine zAU rfl _ _ 23 rfl N zE7 (fun _=>rfl) (by decide) zA9 (by decide) (.slice a ls.length c) ls rfl HV.out g 0 1 x rfl (fun j hj=>by rw [Nat.zero_add];exact HBX.out.cell j) (by omega) hN ?_;intro v5 w5 ho5 hg5 hv5))
 go_ret;exact ⟨_,rfl,ho5,hg5⟩
theorem copied_any (sj : Sl Joint) (sl : Sl Lead) (w : World) (hj : sj.OK 3 zAh zAs (fun _=>False) w) (hl : sl.OK 8 zAd zAA (fun _=>False) w) :
  Calls Tryz.prog 255 #[.agg #[.slice sj.a sj.val.length sj.cap, .slice sl.a sl.val.length sl.cap]] w fun e w'=>∃ ja jc la lc,e = .returned (.agg #[.slice ja sj.val.length jc, .slice la sl.val.length lc])∧OwnL zAh 3 w' w.heap.size 29 (.slice ja sj.val.length jc) sj.val∧OwnL zAd 8 w' w.heap.size 31 (.slice la sl.val.length lc) sl.val∧Below w.heap.size w w':=by
 have hL : Lays w ((w.alloc (.cells #[.slice sj.a sj.val.length sj.cap, .slice sl.a sl.val.length sl.cap] 25)).alloc (.cells #[.slice none 0 0, .slice none 0 0] 25)).drew:=(((Lays.refl w).alloc _).alloc _).drew;have hB : Below w.heap.size w ((w.alloc (.cells #[.slice sj.a sj.val.length sj.cap, .slice sl.a sl.val.length sl.cap] 25)).alloc (.cells #[.slice none 0 0, .slice none 0 0] 25)).drew:=hL.below (Nat.le_refl _);have HB:=zz hB;have HS1 : Hid (zAe ((w.alloc (.cells #[.slice sj.a sj.val.length sj.cap, .slice sl.a sl.val.length sl.cap] 25)).alloc (.cells #[.slice none 0 0, .slice none 0 0] 25)).drew w.heap.size 25 #[.slice sj.a sj.val.length sj.cap, .slice sl.a sl.val.length sl.cap]):=zz ((zAe.new _ _ _).alloc _).drew;have HR1 : Hid (zAe ((w.alloc (.cells #[.slice sj.a sj.val.length sj.cap, .slice sl.a sl.val.length sl.cap] 25)).alloc (.cells #[.slice none 0 0, .slice none 0 0] 25)).drew (w.heap.size + 1) 25 #[.slice none 0 0, .slice none 0 0]):=zz (by
  have h:=zAe.new (w.alloc (.cells #[.slice sj.a sj.val.length sj.cap, .slice sl.a sl.val.length sl.cap] 25)) 25 #[.slice none 0 0, .slice none 0 0];rw [World.size_alloc] at h;exact h.drew)
 have HCJ : Hid (∀ W,Below ((w.alloc (.cells #[.slice sj.a sj.val.length sj.cap, .slice sl.a sl.val.length sl.cap] 25)).alloc (.cells #[.slice none 0 0, .slice none 0 0] 25)).drew.heap.size ((w.alloc (.cells #[.slice sj.a sj.val.length sj.cap, .slice sl.a sl.val.length sl.cap] 25)).alloc (.cells #[.slice none 0 0, .slice none 0 0] 25)).drew W→Calls Tryz.prog 258 #[.slice sj.a sj.val.length sj.cap] W fun e w'=>∃ v,e = .returned v∧OwnL zAh 3 w' W.heap.size 29 v sj.val∧Below W.heap.size W w'):=zz fun W hW=>
  (clone_Joint (fun _=>False) sj W ((hj.jmoved hB).jmoved hW)).mono fun e w' ⟨v,a,b,_,d⟩=>⟨v,a,b,d⟩
 have HCL : Hid (∀ W,Below ((w.alloc (.cells #[.slice sj.a sj.val.length sj.cap, .slice sl.a sl.val.length sl.cap] 25)).alloc (.cells #[.slice none 0 0, .slice none 0 0] 25)).drew.heap.size ((w.alloc (.cells #[.slice sj.a sj.val.length sj.cap, .slice sl.a sl.val.length sl.cap] 25)).alloc (.cells #[.slice none 0 0, .slice none 0 0] 25)).drew W→Calls Tryz.prog 259 #[.slice sl.a sl.val.length sl.cap] W fun e w'=>∃ v,e = .returned v∧OwnL zAd 8 w' W.heap.size 31 v sl.val∧Below W.heap.size W w'):=zz fun W hW=>
  (clone_Lead (fun _=>False) sl W ((hl.lmoved hB).lmoved hW)).mono fun e w' ⟨v,a,b,_,d⟩=>⟨v,a,b,d⟩
 clear hj hl hL hB;go_enter Tryz.func255,Tryz.ntmps255;go_wp2;refine zCb (fun W=>zAe W w.heap.size 25 #[.slice sj.a sj.val.length sj.cap, .slice sl.a sl.val.length sl.cap]) 7 [(0,none),(3,none),(1,some true),(4,some true),(2,some false),(5,some false),(6,none),(7,some false)] rfl (by kernel_rfl) (by kernel_rfl) (fun d _ _ _ _ h=>by cases d <;> exact h) HS1.out ?_;iterate 2 (refine zBQ rfl rfl (fun W=>by go_simp;with_reducible rfl) ?_;simp only [pT])
 refine zBA (v:=.slice sj.a sj.val.length sj.cap) rfl rfl (fun W hW=>by have e : W.cell? ⟨w.heap.size,0,none⟩ = some (.slice sj.a sj.val.length sj.cap):=((hW).cell 0).trans rfl;go_simp) ?_;simp only [pT];refine zBA (v:=.slice sl.a sl.val.length sl.cap) rfl rfl (fun W hW=>by have e : W.cell? ⟨w.heap.size,1,none⟩ = some (.slice sl.a sl.val.length sl.cap):=((hW).cell 1).trans rfl;go_simp) ?_;simp only [pT];refine zCp rfl rfl rfl (fun K hK=>?_)
 go_simp
 refine (HCJ.out _ (Below.refl _ _)).mono ?_;rintro e w3 ⟨v3,rfl,ho3,hb3⟩;obtain ⟨ja,jc,rfl⟩:=ho3.shape;refine hK _ _ (HS1.out.belowAll hb3) ?_;clear hK K
 try simp only [pT]
 refine zCp rfl rfl rfl (fun K hK=>?_)
 go_simp
 refine (HCL.out _ hb3).mono ?_;rintro e w4 ⟨v4,rfl,ho4,hb4⟩;obtain ⟨la,lc,rfl⟩:=ho4.shape;have hr4:=(HR1.out.belowAll hb3).belowAll hb4;refine hK _ _ ((HS1.out.belowAll hb3).belowAll hb4) ?_;clear hK K
 try simp only [pT]
 refine zBQ rfl rfl (fun W=>by go_simp;with_reducible rfl) ?_;simp only [pT];refine zDz rfl rfl (fun K hK=>?_);refine zAr hr4 _ _ _ rfl rfl (.agg #[.slice ja sj.val.length jc, .slice la sl.val.length lc]) rfl (by kernel_rfl) rfl (by simp [Value.cells,Value.oneCell']) ?_;intro w5 hb5 hT5;refine hK _ _ ?_;clear hK K
 try simp only [pT]
 simp only [wpE];go_wp2;have hle : w.heap.size ≤ ((w.alloc (.cells #[.slice sj.a sj.val.length sj.cap, .slice sl.a sl.val.length sl.cap] 25)).alloc (.cells #[.slice none 0 0, .slice none 0 0] 25)).drew.heap.size:=HB.out.size;have hg3 : ∀ g,(Value.slice ja sj.val.length jc).ownBlock = some g→g ≠ w.heap.size + 1:=fun g hg=>by
  have h1:=(ho3.block g hg).1;have h2:=HR1.out.lt;omega
 have hg4 : ∀ g,(Value.slice la sl.val.length lc).ownBlock = some g→g ≠ w.heap.size + 1:=fun g hg=>by
  have h1:=(ho4.block g hg).1;have h2:=(HR1.out.belowAll hb3).lt;omega
 refine bodyPost_ret (zBs (cs:=#[.slice ja sj.val.length jc, .slice la sl.val.length lc]) (hb5.eqv (by simp [zAx,Value.cells])) rfl rfl zuC) rfl ⟨ja,jc,la,lc,rfl, ?_, ?_, ?_⟩
 ·exact ((ho3.belowAll hb4).turn hT5 fun e=>hg3 _ e rfl).base_le hle
 ·exact (ho4.turn hT5 fun e=>hg4 _ e rfl).base_le (Nat.le_trans hle hb3.size)
 ·exact (HB.out.trans ((hb3.trans (hb4.mono hb3.size)).mono hle)).trans (hT5.below (by omega))
end Go.Proofs.YtbbblemfodpmaaaGreat
end
section
namespace Go.Proofs.YtbbblemfodpmaaaGreat
open Go.RowKit
theorem fold_lead (l : Lead) : Array.foldl (fun (cs : Array Value) (x : Value × Nat)=>cs.setIfInBounds x.snd x.fst) #[Value.int .i64 0,Value.int .i64 0,Value.int .i64 0,Value.int .i64 0,Value.int .i64 0,Value.int .i64 0,Value.int .i64 0,Value.int .i64 0] (zAd l).zipIdx 0 8 = zAd l:=by
 simp [zAd]
theorem OwnL.okSl {α : Type} {enc : α→Array Value} {sz : Nat} {W : World} {N : Nat} {T : TypeId} {a : Option Addr} {c : Nat} {l : List α} (h : OwnL enc sz W N T (.slice a l.length c) l) (hsz : ∀ x,(enc x).size = sz) (ok : (Nat→Prop)→World→α→Prop) (hok : ∀ x ∈ l,ok (fun _=>False) W x) (hl : l.length ≤ 4294967296) : Sl.OK sz enc ok (fun _=>False) W ⟨a,c,l⟩:=by
 obtain ⟨t,ht,hts,htok,_⟩:=h.sl hsz ok (fun _=>False) hok (fun _ _ h=>h) hl;obtain ⟨ta,tc,tv⟩:=t;simp only at hts;subst hts;simp only [Sl.v,Value.slice.injEq] at ht;obtain ⟨rfl,_,rfl⟩:=ht;exact htok
theorem withLead_any (sj : Sl Joint) (sl : Sl Lead) (l : Lead) (w : World) (hj : sj.OK 3 zAh zAs (fun _=>False) w) (hl : sl.OK 8 zAd zAA (fun _=>False) w) (h8 : sl.val.length ≤ 799) (hall : ∀ y ∈ sl.val,y.id ≤ l.id) :
  Calls Tryz.prog 266 #[.agg #[.slice sj.a sj.val.length sj.cap, .slice sl.a sl.val.length sl.cap], .agg (zAd l)] w fun e w'=>∃ ja jc la lc,e = .returned (.agg #[.slice ja sj.val.length jc, .slice la (sl.val.length + 1) lc])∧OwnL zAh 3 w' w.heap.size 29 (.slice ja sj.val.length jc) sj.val∧OwnL zAd 8 w' w.heap.size 31 (.slice la (sl.val.length + 1) lc) (sl.val ++ [l])∧Below w.heap.size w w':=by
 have hB : Below w.heap.size w (((w.alloc (.cells #[.slice sj.a sj.val.length sj.cap, .slice sl.a sl.val.length sl.cap] 25)).alloc (.cells (zAd l) 31)).alloc (.cells #[.slice none 0 0, .slice none 0 0] 25)):=((((Lays.refl w).alloc _).alloc _).alloc _).below (Nat.le_refl _);have h0 : zAe (((w.alloc (.cells #[.slice sj.a sj.val.length sj.cap, .slice sl.a sl.val.length sl.cap] 25)).alloc (.cells (zAd l) 31)).alloc (.cells #[.slice none 0 0, .slice none 0 0] 25)) w.heap.size 25 #[.slice sj.a sj.val.length sj.cap, .slice sl.a sl.val.length sl.cap]:=((zAe.new _ _ _).alloc _).alloc _;have h1 : zAe (((w.alloc (.cells #[.slice sj.a sj.val.length sj.cap, .slice sl.a sl.val.length sl.cap] 25)).alloc (.cells (zAd l) 31)).alloc (.cells #[.slice none 0 0, .slice none 0 0] 25)) (w.heap.size + 1) 31 (zAd l):=by have h:=zAe.new (w.alloc (.cells #[.slice sj.a sj.val.length sj.cap, .slice sl.a sl.val.length sl.cap] 25)) 31 (zAd l);rw [World.size_alloc] at h;exact h.alloc _
 have h2 : zAe (((w.alloc (.cells #[.slice sj.a sj.val.length sj.cap, .slice sl.a sl.val.length sl.cap] 25)).alloc (.cells (zAd l) 31)).alloc (.cells #[.slice none 0 0, .slice none 0 0] 25)) (w.heap.size + 1 + 1) 25 #[.slice none 0 0, .slice none 0 0]:=by
  have h:=zAe.new ((w.alloc (.cells #[.slice sj.a sj.val.length sj.cap, .slice sl.a sl.val.length sl.cap] 25)).alloc (.cells (zAd l) 31)) 25 #[.slice none 0 0, .slice none 0 0];rw [World.size_alloc,World.size_alloc] at h;exact h
 have HC:=zz (copied_any sj sl _ (hj.jmoved hB) (hl.lmoved hB));have HOK : Hid (∀ (W : World),∀ x ∈ sl.val,zAA (fun _=>False) W x):=zz fun W x hx=>by
  obtain ⟨a1,a2,a3,a4,a5,a6,a7,a8⟩:=hl.elem x hx;exact ⟨a1,a2,a3,a4,a5,a6,a7,a8⟩
 have HIX : Hid (idxI (fun x=>decide (l.id < x.id)) sl.val = -1):=zz (zCy fun j y hy=>by have:=hall y (List.mem_of_getElem? hy);simp;omega);have HB:=zz hB;have HSZ : Hid (w.heap.size + 3 ≤ (((w.alloc (.cells #[.slice sj.a sj.val.length sj.cap, .slice sl.a sl.val.length sl.cap] 25)).alloc (.cells (zAd l) 31)).alloc (.cells #[.slice none 0 0, .slice none 0 0] 25)).heap.size):=zz (by simp);have HC2 : Hid (∃ N3,w.heap.size + 3 ≤ N3∧Calls Tryz.prog 255 #[.agg #[.slice sj.a sj.val.length sj.cap, .slice sl.a sl.val.length sl.cap]] (((w.alloc (.cells #[.slice sj.a sj.val.length sj.cap, .slice sl.a sl.val.length sl.cap] 25)).alloc (.cells (zAd l) 31)).alloc (.cells #[.slice none 0 0, .slice none 0 0] 25)) fun e w'=>∃ ja jc la lc,e = .returned (.agg #[.slice ja sj.val.length jc, .slice la sl.val.length lc])∧OwnL zAh 3 w' N3 29 (.slice ja sj.val.length jc) sj.val∧OwnL zAd 8 w' N3 31 (.slice la sl.val.length lc) sl.val∧Below (((w.alloc (.cells #[.slice sj.a sj.val.length sj.cap, .slice sl.a sl.val.length sl.cap] 25)).alloc (.cells (zAd l) 31)).alloc (.cells #[.slice none 0 0, .slice none 0 0] 25)).heap.size (((w.alloc (.cells #[.slice sj.a sj.val.length sj.cap, .slice sl.a sl.val.length sl.cap] 25)).alloc (.cells (zAd l) 31)).alloc (.cells #[.slice none 0 0, .slice none 0 0] 25)) w'∧N3 ≤ w'.heap.size):=zz ⟨(((w.alloc (.cells #[.slice sj.a sj.val.length sj.cap, .slice sl.a sl.val.length sl.cap] 25)).alloc (.cells (zAd l) 31)).alloc (.cells #[.slice none 0 0, .slice none 0 0] 25)).heap.size,HSZ.out,HC.out.mono fun e w' ⟨a,b,c,d,e1,e2,e3,e4⟩=>⟨a,b,c,d,e1,e2,e3,e4,e4.size⟩⟩;obtain ⟨N3,hN3,hC2⟩:=HC2.out;have HCC:=zz hC2;clear hC2 HC HC2 HSZ;have HIXF : Hid (∀ (W : World) (la : Option Addr) (lc N : Nat),OwnL zAd 8 W N 31 (.slice la sl.val.length lc) sl.val→zAe W (w.heap.size + 1) 31 (zAd l)→Calls Tryz.prog 148 #[.slice la sl.val.length lc, .func (.func 267) #[] #[.pointer (some ⟨w.heap.size + 1,0,none⟩)]] W fun e w'=>e = .returned (.int .i64 (-1))∧Below W.heap.size W w'):=zz fun W la lc N ho hb=>by
  have h:=index_wl (.pointer (some ⟨w.heap.size + 1,0,none⟩)) (fun _=>False) ⟨la,lc,sl.val⟩ W (ho.okSl (fun _=>rfl) zAA (HOK.out W) (by omega)) (fun x=>decide (l.id < x.id)) (fun x _ W2 hW=>(withLead1_any x l _ W2 (hb.belowAll hW)).mono fun e w' ⟨a,b⟩=>⟨a,b.below (Nat.le_refl _)⟩);simp only [HIX.out] at h;exact h
 clear hj hl hall hB;go_enter Tryz.func266,Tryz.ntmps266
 go_wp2_with (first
  | (refine zLd 6 h0 #[.slice sj.a sj.val.length sj.cap, .slice sl.a sl.val.length sl.cap] zuC ?_)
  | (go_at_call 255;refine HCC.out.mono ?_;rintro e w4 ⟨ja,jc,la,lc,rfl,hj4,hl4,hb4,hs4⟩;have g0:=h0.belowAll hb4;have g1:=h1.belowAll hb4;have g2:=h2.belowAll hb4;have HB4:=zz hb4;clear hb4)
  | ((with_reducible refine zAv 25 ?_);refine zAS g29 rfl _ _ _ rfl rfl (.agg #[.slice ja sj.val.length jc, .slice a8 (sl.val.length + 1) c8]) rfl (by kernel_rfl) rfl (by simp [Value.cells,Value.oneCell']) ?_;intro w10 hb10 hT10)
  | ((with_reducible refine zAv 25 ?_);refine zAS g0 rfl _ _ _ rfl rfl (.agg #[.slice ja sj.val.length jc, .slice la sl.val.length lc]) rfl (by kernel_rfl) rfl (by simp [Value.cells,Value.oneCell']) ?_;intro w5 hb5 hT5;replace hb5 : zAe w5 w.heap.size 25 #[.slice ja sj.val.length jc, .slice la sl.val.length lc]:=hb5.eqv (by simp [zAx,Value.cells]);have g15:=g1.turn hT5 (by omega);have g25:=g2.turn hT5 (by omega);have hj5:=hj4.turn hT5 (fun e=>by have:=(hj4.block _ e).1;omega);have hl5:=hl4.turn hT5 (fun e=>by have:=(hl4.block _ e).1;omega);have q5:=(hb5.cell 1).trans (show _ = some (.slice la sl.val.length lc) from rfl);have hs5:=hT5.size)
  | (go_at_call 148;refine (HIXF.out w5 la lc _ hl5 g15).mono ?_;rintro e w6 ⟨rfl,hb6⟩;have hw6:=hb5.belowAll hb6;have g16:=g15.belowAll hb6;have g26:=g25.belowAll hb6;have hj6:=hj5.belowAll hb6;have hl6:=hl5.belowAll hb6;have q6:=(hw6.cell 1).trans (show _ = some (.slice la sl.val.length lc) from rfl))
  | (refine zLd 20 g16 (zAd l) zuD ?_)
  | (go_at_call 268;rw [fold_lead l];refine (insertEnd_any (.slice la sl.val.length lc) sl.val l w6.heap.size _ _ (hl6.belowAll ((Below.refl w6.heap.size w6).alloc (Nat.le_refl _) _)) (by omega) (Nat.le_trans (Nat.le_trans (hs5 ▸ hs4) hb6.size) (by simp)) (zAe.new w6 31 (zAd l))).mono ?_;rintro e w8 ⟨v8,rfl,ho8,hg8⟩;obtain ⟨a8,c8,rfl⟩:=ho8.shape;have hnb : ∀ g,(Value.slice la sl.val.length lc).ownBlock = some g→w.heap.size + 3 ≤ g:=(fun g hg=>by have:=(hl6.block g hg).1;omega);have hw8:=(hw6.alloc (.cells (zAd l) 31)).of_block (hg8.block _ (hw6.alloc (.cells (zAd l) 31)).lt (fun e=>by have:=hnb _ e.symm;omega));have g28:=(g26.alloc (.cells (zAd l) 31)).of_block (hg8.block _ (g26.alloc (.cells (zAd l) 31)).lt (fun e=>by have:=hnb _ e.symm;omega)))
  | ((with_reducible refine zAv 23 ?_);refine zAS hw8 rfl _ _ _ rfl rfl (.slice a8 (sl.val.length + 1) c8) rfl (by kernel_rfl) rfl (by simp [Value.cells,Value.oneCell']) ?_;intro w9 hb9 hT9;replace hb9 : zAe w9 w.heap.size 25 #[.slice ja sj.val.length jc, .slice a8 (sl.val.length + 1) c8]:=hb9.eqv (by simp [zAx,Value.cells]);have g29:=g28.turn hT9 (by omega))
  | (refine zLd 24 hb9 #[.slice ja sj.val.length jc, .slice a8 (sl.val.length + 1) c8] zuC ?_))
 have hj7:=hj6.belowAll ((Below.refl w6.heap.size w6).alloc (Nat.le_refl _) (.cells (zAd l) 31));have hl7:=hl6.belowAll ((Below.refl w6.heap.size w6).alloc (Nat.le_refl _) (.cells (zAd l) 31));have hj8:=hj7.kept (w':=w8) fun g hg=>by
  obtain ⟨_,cc,hc⟩:=hj7.cellsAt hg;exact hg8.block g (Array.getElem?_eq_some_iff.1 hc).1 fun e=>hl7.other hj7 (by decide) e.symm hg
 have hJ:=(hj8.turn hT9 fun e=>by have:=(hj8.block _ e).1;omega)
 have hJ2:=hJ.turn hT10 fun e=>by have:=(hJ.block _ e).1;omega
 have hLa:=ho8.turn hT9 fun e=>by have:=(ho8.block _ e).1;omega
 have hLb:=hLa.turn hT10 fun e=>by have:=(hLa.block _ e).1;omega
 refine bodyPost_ret (zBs (cs:=#[.slice ja sj.val.length jc, .slice a8 (sl.val.length + 1) c8]) (hb10.eqv (by simp [zAx,Value.cells])) rfl rfl zuC) rfl ⟨ja,jc,a8,c8,rfl,hJ2.base_le (by omega), ?_, ?_⟩
 ·have h:=hLb.base_le (base':=w.heap.size) (by omega);rw [List.length_append] at h;exact h
 ·have z1 : Below w.heap.size w w6:=(HB.out.trans (HB4.out.mono HB.out.size)).trans ((hT5.below (Nat.le_refl _)).trans (hb6.mono (by omega)));have z2 : Below w.heap.size w w8:=(z1.alloc z1.size _).grown hg8 (Nat.le_trans z1.size (by simp)) fun g e=>by have:=hnb g e;omega
  exact (z2.trans (hT9.below (Nat.le_refl _))).trans (hT10.below (by omega))
def addE (l : Lead) : Edit:=⟨2,⟨0,⟨0,0⟩⟩,l,0⟩
theorem edit_lead (l : Lead) : ∀ j,j < (zAd l).size→(zAR (addE l))[4 + j]? = (zAd l)[j]?:=by
 intro j hj;have : (zAd l).size = 8:=rfl;rw [this] at hj
 rcases j with _ | _ | _ | _ | _ | _ | _ | _ | j <;> first | rfl | omega
theorem stoodIn_Edit : Tryz.prog.stoodInHeld 33 = false:=by kernel_rfl
theorem zFT : Tryz.prog.eqGuardType Tryz.prog.depth 33 = false:=by kernel_rfl
theorem equalIn_Edit (d : Nat) (x : Edit) (w : World) : (Op.equalIn (d + 5) 33 (.agg (zAR x)) (.agg (zAR x))).run Tryz.prog w = .ok true w:=by
 have h0:=stoodIn_Edit;have h1:=zFT;obtain ⟨x1,⟨x2,⟨x3,x4⟩⟩,⟨x5,x6,x7,x8,x9,x10,x11,x12⟩,x13⟩:=x;simp [zAR,go_sem,h0,stoodIn_Joint,zFa,stoodIn_Lead]
@[go_sem high] theorem eqlr_Edit (x : Edit) (w : World) : (binOp .eql 33 (.agg (zAR x)) (.agg (zAR x))).run Tryz.prog w = .ok (.bool true) w:=by
 rw [run_eql_struct,show (10000 : Nat) = 9995 + 5 from rfl,equalIn_Edit];rfl
theorem addLead_any {b : Nat} (sj : Sl Joint) (sl : Sl Lead) (l : Lead) (w : World) (hN : zA5 w b sj sl) (hj : sj.OK 3 zAh zAs (fun _=>False) w) (hl : sl.OK 8 zAd zAA (fun _=>False) w) (h8 : sl.val.length ≤ 799) (hall : ∀ y ∈ sl.val,y.id ≤ l.id) :
  Calls Tryz.prog 264 #[.agg #[], .pointer (some ⟨b,0,none⟩), .agg (zAR (addE l))] w fun e w'=>∃ ja jc la lc,e = .returned (.tuple #[.agg #[.slice ja sj.val.length jc, .slice la (sl.val.length + 1) lc], .bool true])∧OwnL zAh 3 w' w.heap.size 29 (.slice ja sj.val.length jc) sj.val∧OwnL zAd 8 w' w.heap.size 31 (.slice la (sl.val.length + 1) lc) (sl.val ++ [l])∧Below w.heap.size w w':=by
 have hB : Below w.heap.size w (((w.alloc (.cells #[] 238)).alloc (.cells (zAR (addE l)) 33)).alloc (.cells #[.slice none 0 0, .slice none 0 0] 25)).drew:=(((((Lays.refl w).alloc _).alloc _).alloc _).drew).below (Nat.le_refl _);obtain ⟨ba,bl,bo,N,mo,hbN,haN,hlN,hoN,hb,_⟩:=hN;obtain ⟨ncs,hncs⟩ : ∃ z,#[Value.slice sj.a sj.val.length sj.cap, .slice sl.a sl.val.length sl.cap, .map (some ba), .map (some bl), .map (some bo)] = z:=⟨_,rfl⟩
 rw [hncs] at hb;have HNC : Hid (∀ j,j < (#[.slice sj.a sj.val.length sj.cap, .slice sl.a sl.val.length sl.cap] : Array Value).size→ncs[0 + j]? = (#[.slice sj.a sj.val.length sj.cap, .slice sl.a sl.val.length sl.cap] : Array Value)[j]?):=zz fun j hj=>by
  rw [← hncs];have : (#[.slice sj.a sj.val.length sj.cap, .slice sl.a sl.val.length sl.cap] : Array Value).size = 2:=rfl;rw [this] at hj
  rcases j with _ | _ | j <;> first | rfl | omega
 have HS1 : Hid ((fun W=>zAe W (w.heap.size + 1) 33 (zAR (addE l))∧zAe W b 125 ncs) (((w.alloc (.cells #[] 238)).alloc (.cells (zAR (addE l)) 33)).alloc (.cells #[.slice none 0 0, .slice none 0 0] 25)).drew):=zz ⟨by
  have h:=zAe.new (w.alloc (.cells #[] 238)) 33 (zAR (addE l));rw [World.size_alloc] at h;exact (h.alloc _).drew,hb.belowAll hB⟩
 have HR1 : Hid (zAe (((w.alloc (.cells #[] 238)).alloc (.cells (zAR (addE l)) 33)).alloc (.cells #[.slice none 0 0, .slice none 0 0] 25)).drew (w.heap.size + 1 + 1) 25 #[.slice none 0 0, .slice none 0 0]):=zz (by
  have h:=zAe.new ((w.alloc (.cells #[] 238)).alloc (.cells (zAR (addE l)) 33)) 25 #[.slice none 0 0, .slice none 0 0];rw [World.size_alloc,World.size_alloc] at h;exact h.drew)
 have HCW:=zz (withLead_any sj sl l (((w.alloc (.cells #[] 238)).alloc (.cells (zAR (addE l)) 33)).alloc (.cells #[.slice none 0 0, .slice none 0 0] 25)).drew (hj.jmoved hB) (hl.lmoved hB) h8 hall);have HBN : Hid (b ≠ w.heap.size + 1 + 1):=zz (by have:=hb.lt;omega);have HB:=zz hB;clear hj hl hall hB hncs hb hbN haN hlN hoN;go_enter Tryz.func264,Tryz.ntmps264;go_wp2;refine zCQ (fun W=>zAe W (w.heap.size + 1) 33 (zAR (addE l))∧zAe W b 125 ncs) [(0,true),(1,true),(2,true),(3,true),(4,true),(5,true),(7,true),(8,true),(9,true),(10,true),(11,true),(12,true),(13,true),(6,false),(14,false),(15,true)] rfl (by kernel_rfl) (by kernel_rfl) (fun d _ _ _ _ h=>by cases d <;> exact h) HS1.out ?_;iterate 3 (refine wS rfl ?_;simp only [pT])
 refine zBw (v:=.agg #[.slice sj.a sj.val.length sj.cap, .slice sl.a sl.val.length sl.cap]) rfl rfl (fun W hW=>zAc #[.slice sj.a sj.val.length sj.cap, .slice sl.a sl.val.length sl.cap] hW.2 rfl HNC.out zuC) ?_;simp only [pT];refine wS rfl ?_;simp only [pT];refine zBw (v:=.agg (zAd l)) rfl rfl (fun W hW=>zAc (zAd l) hW.1 rfl (edit_lead l) zuD) ?_;simp only [pT];refine zBw (v:=.agg (zAR (addE l))) rfl rfl (fun W hW=>zAc (zAR (addE l)) hW.1 rfl (zAg _) Tryz.underlying33) ?_;simp only [pT];refine wS rfl ?_;simp only [pT];refine zBw (v:=.int .i64 2) rfl rfl (fun W hW=>by have e : W.cell? ⟨w.heap.size + 1,0,none⟩ = some (.int .i64 2):=(hW.1.cell 0).trans rfl;go_simp) ?_;simp only [pT];refine wS rfl ?_;simp only [pT];refine zBw (v:=.agg (zAd l)) rfl rfl (fun W hW=>zAc (zAd l) hW.1 rfl (edit_lead l) zuD) ?_;simp only [pT];refine zBw (v:=.agg (zAR (addE l))) rfl rfl (fun W hW=>by go_simp;simp [zAd,zAR,addE]) ?_;simp only [pT];refine zBw (v:=.bool true) rfl rfl (fun W hW=>by go_simp) ?_;simp only [pT];refine zCo rfl rfl (fun K hK=>?_)
 go_simp
 refine HCW.out.mono ?_;rintro e w4 ⟨ja,jc,la,lc,rfl,hj4,hl4,hb4⟩;have hr4:=HR1.out.belowAll hb4;refine hK _ _ ⟨HS1.out.1.belowAll hb4,HS1.out.2.belowAll hb4⟩ ?_;clear hK K
 try simp only [pT]
 refine zCo rfl rfl (fun K hK=>?_);refine zAr hr4 _ _ _ rfl rfl (.agg #[.slice ja sj.val.length jc, .slice la (sl.val.length + 1) lc]) rfl (by kernel_rfl) rfl (by simp [Value.cells,Value.oneCell']) ?_;intro w5 hb5 hT5;refine hK _ _ ⟨(HS1.out.1.belowAll hb4).turn hT5 (Nat.ne_of_lt (Nat.lt_succ_self _)),(HS1.out.2.belowAll hb4).turn hT5 (HBN.out)⟩ ?_;clear hK K
 try simp only [pT]
 refine wS rfl ?_;simp only [pT];simp only [wpS];go_wp2;have hle : w.heap.size ≤ (((w.alloc (.cells #[] 238)).alloc (.cells (zAR (addE l)) 33)).alloc (.cells #[.slice none 0 0, .slice none 0 0] 25)).drew.heap.size:=HB.out.size;have hs3 : (((w.alloc (.cells #[] 238)).alloc (.cells (zAR (addE l)) 33)).alloc (.cells #[.slice none 0 0, .slice none 0 0] 25)).drew.heap.size = w.heap.size + 3:=by simp [World.drew]
 rw [hs3] at hj4 hl4;have hj5:=hj4.turn hT5 fun e=>by have:=(hj4.block _ e).1;omega
 have hl5:=hl4.turn hT5 fun e=>by have:=(hl4.block _ e).1;omega
 refine bodyPost_ret (zDk (cs:=#[.slice ja sj.val.length jc, .slice la (sl.val.length + 1) lc]) (.bool true) (hb5.eqv (by simp [zAx,Value.cells])) rfl rfl rfl zuC) rfl ⟨ja,jc,la,lc,rfl,hj5.base_le (by omega),hl5.base_le (by omega), ?_⟩;exact (HB.out.trans (hb4.mono hle)).trans (hT5.below (by omega))
theorem changeOf_lead (w : World) : Calls Tryz.prog 142 #[.int .i64 2] w fun e w'=>e = .returned (.tuple #[.iface 238 (.agg #[]), .bool true])∧w' = w:=by
 go_enter Tryz.func142,Tryz.ntmps142;go_wp2;go_ret2;exact ⟨rfl,rfl⟩
end Go.Proofs.YtbbblemfodpmaaaGreat
end
section
namespace Go.Proofs.YtbbblemfodpmaaaGreat
open Go.RowKit
theorem results4 {P : Program} {fn : Func} {a : Act} {w : World} {t1 t2 t3 t4 : Tmp} {ty : TypeId} {b : Nat} {T : TypeId} {cs : Array Value} {d : TypeDesc} (v1 v2 v4 : Value) (hb : zAe w b T cs) (hr : fn.results = #[.tmp t1, .tmp t2, .cell t3 ty, .tmp t4])
  (h1 : a.tmps.getD t1 undef = v1) (h2 : a.tmps.getD t2 undef = v2) (hp : a.tmps.getD t3 undef = .pointer (some ⟨b,0,none⟩)) (h4 : a.tmps.getD t4 undef = v4) (hu : P.underlying ty = some d) (hd : (match d with | .struct _ | .array _ _=>true | _=>false) = true:=by rfl) (hi : (P.info? ty).map (·.size) = some cs.size:=by kernel_rfl) :
  (results fn a.tmps).run P w = .ok (.tuple #[v1,v2, .agg cs,v4]) w:=by
 have hl:=zCn (P:=P) w b 0 ty cs d hb.cells hu hd hi;have k1 : a.tmps[t1]?.getD undef = v1:=by rw [← h1];simp
 have k2 : a.tmps[t2]?.getD undef = v2:=by rw [← h2];simp
 have k3 : a.tmps[t3]?.getD undef = .pointer (some ⟨b,0,none⟩):=by rw [← hp];simp
 have k4 : a.tmps[t4]?.getD undef = v4:=by rw [← h4];simp
 simp [results,hr,k1,k2,k3,k4,asAddr,hl]
theorem edit3 (sj : Sl Joint) (sl : Sl Lead) (l : Lead) (w : World) : Below w.heap.size w (((w.alloc (.cells #[.slice sj.a sj.val.length sj.cap, .slice sl.a sl.val.length sl.cap] 25)).alloc (.cells (zAR (addE l)) 33)).alloc (.cells #[.slice none 0 0, .slice none 0 0] 25))∧zAe (((w.alloc (.cells #[.slice sj.a sj.val.length sj.cap, .slice sl.a sl.val.length sl.cap] 25)).alloc (.cells (zAR (addE l)) 33)).alloc (.cells #[.slice none 0 0, .slice none 0 0] 25)) w.heap.size 25 #[.slice sj.a sj.val.length sj.cap, .slice sl.a sl.val.length sl.cap]∧zAe (((w.alloc (.cells #[.slice sj.a sj.val.length sj.cap, .slice sl.a sl.val.length sl.cap] 25)).alloc (.cells (zAR (addE l)) 33)).alloc (.cells #[.slice none 0 0, .slice none 0 0] 25)) (w.heap.size + 1) 33 (zAR (addE l))∧zAe (((w.alloc (.cells #[.slice sj.a sj.val.length sj.cap, .slice sl.a sl.val.length sl.cap] 25)).alloc (.cells (zAR (addE l)) 33)).alloc (.cells #[.slice none 0 0, .slice none 0 0] 25)) (w.heap.size + 1 + 1) 25 #[.slice none 0 0, .slice none 0 0]:=by
 refine ⟨((((Lays.refl w).alloc _).alloc _).alloc _).below (Nat.le_refl _),((zAe.new _ _ _).alloc _).alloc _, ?_, ?_⟩
 ·have h:=zAe.new (w.alloc (.cells #[.slice sj.a sj.val.length sj.cap, .slice sl.a sl.val.length sl.cap] 25)) 33 (zAR (addE l));rw [World.size_alloc] at h;exact h.alloc _
 ·have h:=zAe.new ((w.alloc (.cells #[.slice sj.a sj.val.length sj.cap, .slice sl.a sl.val.length sl.cap] 25)).alloc (.cells (zAR (addE l)) 33)) 25 #[.slice none 0 0, .slice none 0 0];rw [World.size_alloc,World.size_alloc] at h;exact h
theorem applied_bad (sj : Sl Joint) (sl : Sl Lead) (l : Lead) (hlo : ∀ W,zAA (fun _=>False) W l) (w : World) (hj : sj.OK 3 zAh zAs (fun _=>False) w) (hl : sl.OK 8 zAd zAA (fun _=>False) w) (h8 : sl.val.length ≤ 799) (hall : ∀ y ∈ sl.val,y.id ≤ l.id) (h0 : (zAK sj.val sl.val).1 = 0) (h1 : (zAK sj.val (sl.val ++ [l])).1 ≠ 0) :
  Calls Tryz.prog 72 #[.agg #[.slice sj.a sj.val.length sj.cap, .slice sl.a sl.val.length sl.cap], .agg (zAR (addE l))] w fun e w'=>e = .returned (.tuple #[.pointer none, .nilIface, .agg #[.slice none 0 0, .slice none 0 0], .int .i64 (zAK sj.val (sl.val ++ [l])).1])∧Below w.heap.size w w':=by
 obtain ⟨hB,b0,b1,b2⟩:=edit3 sj sl l w;have HVA:=zz (zEd sj sl _ (hj.jmoved hB) (hl.lmoved hB) h0);have HB:=zz hB;have HAD : Hid (∀ W b,Below w.heap.size w W→zA5 W b sj sl→Calls Tryz.prog 264 #[.agg #[], .pointer (some ⟨b,0,none⟩), .agg (zAR (addE l))] W fun e w'=>∃ ja jc la lc,e = .returned (.tuple #[.agg #[.slice ja sj.val.length jc, .slice la (sl.val.length + 1) lc], .bool true])∧OwnL zAh 3 w' W.heap.size 29 (.slice ja sj.val.length jc) sj.val∧OwnL zAd 8 w' W.heap.size 31 (.slice la (sl.val.length + 1) lc) (sl.val ++ [l])∧Below W.heap.size W w'):=zz fun W b hW hN=>addLead_any sj sl l W hN (hj.jmoved hW) (hl.lmoved hW) h8 hall;have HJO : Hid (∀ (W : World),∀ x ∈ sj.val,zAs (fun _=>False) W x):=zz fun W x hx=>by
  obtain ⟨a1,a2,a3⟩:=hj.elem x hx;exact ⟨a1,a2,a3⟩
 have HLO : Hid (∀ (W : World),∀ x ∈ sl.val ++ [l],zAA (fun _=>False) W x):=zz fun W x hx=>by
  rcases List.mem_append.1 hx with hx | hx
  ·obtain ⟨a1,a2,a3,a4,a5,a6,a7,a8⟩:=hl.elem x hx;exact ⟨a1,a2,a3,a4,a5,a6,a7,a8⟩
  ·obtain rfl : x = l:=by simpa using hx
   exact hlo W
 have hroom:=hj.room;obtain ⟨n,hn⟩ : ∃ n,(zAK sj.val (sl.val ++ [l])).1 = n:=⟨_,rfl⟩
 obtain ⟨n2,hn2⟩ : ∃ n,(zAK sj.val (sl.val ++ [l])).2 = n:=⟨_,rfl⟩
 have HCK : Hid (∀ (W : World) (ja la : Option Addr) (jc lc N M : Nat),OwnL zAh 3 W N 29 (.slice ja sj.val.length jc) sj.val→OwnL zAd 8 W M 31 (.slice la (sl.val.length + 1) lc) (sl.val ++ [l])→Calls Tryz.prog 18 #[.agg #[.slice ja sj.val.length jc, .slice la (sl.val.length + 1) lc]] W fun e w'=>e = .returned (.tuple #[.int .i64 n, .int .i64 n2])∧Below W.heap.size W w'):=zz fun W ja la jc lc N M ho1 ho2=>by
  have ho2' : OwnL zAd 8 W M 31 (.slice la (sl.val ++ [l]).length lc) (sl.val ++ [l]):=by rw [List.length_append];exact ho2
  have h:=zEq ⟨ja,jc,sj.val⟩ ⟨la,lc,sl.val ++ [l]⟩ W (ho1.okSl (fun _=>rfl) zAs (HJO.out W) hroom) (ho2'.okSl (fun _=>rfl) zAA (HLO.out W) (by rw [List.length_append];simp;omega));simp only [hn,hn2,List.length_append,List.length_singleton] at h;exact h
 rw [hn] at h1 ⊢;clear hj hl hall h0 hB hn hn2 hlo;go_enter Tryz.func72,Tryz.ntmps72
 go_wp2_with (first
  | (refine zLd 17 b0 #[.slice sj.a sj.val.length sj.cap, .slice sl.a sl.val.length sl.cap] zuC ?_)
  | (go_at_call 86;refine HVA.out.mono ?_;rintro e w1 ⟨b,rfl,hbb,hn1,hb1⟩;have hB1:=HB.out.trans (hb1.mono HB.out.size);have c1:=b1.belowAll hb1;have c2:=b2.belowAll hb1;have q1:=(c1.cell 0).trans (show _ = some (.int .i64 2) from rfl))
  | (go_at_call 142;(with_reducible refine (changeOf_lead _).mono ?_);rintro e w1' ⟨rfl,e5⟩;obtain rfl:=e5.symm)
  | (refine zLd 37 c1 (zAR (addE l)) Tryz.underlying33 ?_)
  | (go_at_call 264;refine (HAD.out _ _ hB1 hn1).mono ?_;rintro e w4 ⟨ja,jc,la,lc,rfl,hj4,hl4,hb4⟩;have d2:=c2.belowAll hb4;have hB4:=hB1.trans (hb4.mono hB1.size))
  | (go_at_call 18;refine (HCK.out _ ja la jc lc _ _ (hj4.belowAll ((Below.refl w4.heap.size w4).alloc (Nat.le_refl _) _)) (hl4.belowAll ((Below.refl w4.heap.size w4).alloc (Nat.le_refl _) _))).mono ?_;rintro e w7 ⟨rfl,hb7⟩;have d7:=(d2.alloc (.cells #[.slice ja sj.val.length jc, .slice la (sl.val.length + 1) lc] 25)).belowAll hb7;have hB7:=(hB4.alloc hB4.size (.cells #[.slice ja sj.val.length jc, .slice la (sl.val.length + 1) lc] 25)).trans (hb7.mono (Nat.le_trans hB4.size (by simp))))
  | ((with_reducible refine zAv 25 ?_);refine zAS d7 rfl _ _ _ rfl rfl (.agg #[.slice none 0 0, .slice none 0 0]) rfl (by kernel_rfl) rfl (by simp [Value.cells,Value.oneCell']) ?_;intro w8 hb8 hT8))
 exact bodyPost_ret (results4 (cs:=#[.slice none 0 0, .slice none 0 0]) (.pointer none) .nilIface (.int .i64 n) (hb8.eqv (by simp [zAx,Value.cells])) rfl rfl rfl rfl rfl zuC) rfl ⟨rfl,hB7.trans (hT8.below (by omega))⟩
theorem Apply_bad (sj : Sl Joint) (sl : Sl Lead) (l : Lead) (hlo : ∀ W,zAA (fun _=>False) W l) (w : World) (hj : sj.OK 3 zAh zAs (fun _=>False) w) (hl : sl.OK 8 zAd zAA (fun _=>False) w) (h8 : sl.val.length ≤ 799) (hall : ∀ y ∈ sl.val,y.id ≤ l.id) (h0 : (zAK sj.val sl.val).1 = 0) (h1 : (zAK sj.val (sl.val ++ [l])).1 ≠ 0) :
  Calls Tryz.prog 15 #[.agg #[.slice sj.a sj.val.length sj.cap, .slice sl.a sl.val.length sl.cap], .agg (zAR (addE l))] w fun e w'=>e = .returned (.tuple #[.agg #[.slice none 0 0, .slice none 0 0], .int .i64 (zAK sj.val (sl.val ++ [l])).1])∧Below w.heap.size w w':=by
 obtain ⟨hB,b0,b1,b2⟩:=edit3 sj sl l w;have HAP:=zz (applied_bad sj sl l hlo _ (hj.jmoved hB) (hl.lmoved hB) h8 hall h0 h1);have HB:=zz hB;obtain ⟨n,hn⟩ : ∃ n,(zAK sj.val (sl.val ++ [l])).1 = n:=⟨_,rfl⟩
 rw [hn] at HAP ⊢;clear hj hl hall h0 h1 hB hn hlo;go_enter Tryz.func15,Tryz.ntmps15
 go_wp2_with (first
  | (refine zLd 11 b0 #[.slice sj.a sj.val.length sj.cap, .slice sl.a sl.val.length sl.cap] zuC ?_)
  | (refine zLd 12 b1 (zAR (addE l)) Tryz.underlying33 ?_)
  | (go_at_call 72;refine HAP.out.mono ?_;rintro e w4 ⟨rfl,hb4⟩;have d2:=(b2.belowAll hb4).alloc (.cells #[.slice none 0 0, .slice none 0 0] 25);have hB4:=HB.out.trans (hb4.mono HB.out.size))
  | ((with_reducible refine zAv 25 ?_);refine zAS d2 rfl _ _ _ rfl rfl (.agg #[.slice none 0 0, .slice none 0 0]) rfl (by kernel_rfl) rfl (by simp [Value.cells,Value.oneCell']) ?_;intro w8 hb8 hT8))
 exact bodyPost_ret (zDk (cs:=#[.slice none 0 0, .slice none 0 0]) (.int .i64 n) (hb8.eqv (by simp [zAx,Value.cells])) rfl rfl rfl zuC) rfl ⟨rfl,(hB4.alloc hB4.size _).trans (hT8.below (by omega))⟩
end Go.Proofs.YtbbblemfodpmaaaGreat
end
