/-reverseRange of sides; the pivot.-/
import Derived.Test.YtbbblemfodpmaaaGreatWebGe
import Derived.Test.YtbbblemfodpmaaaGreatWebS2
set_option linter.unusedVariables false
set_option linter.unusedSimpArgs false
set_option maxHeartbeats 16000000
set_option maxRecDepth 100000
section
namespace Go.Proofs.YtbbblemfodpmaaaGreat
open Go.RowKit
open Go.Sort
section
variable {α : Type} [Inhabited α] {en : α→Side} {w0 : World} {blk : Nat} {tail : List Value} {recv : Value} {cf : α→α→Int}
theorem reverse_s (d : Array α) (a b cap : Nat) (w : World) (hS : SW en w0 blk tail d w) (hab : a < b) (hb : b ≤ d.size) (hsz : d.size ≤ 4294967296) :
  Calls Tryz.prog 226 #[.slice (some ⟨blk,0,none⟩) d.size cap, .int .i64 a, .int .i64 b,(.func (.func 187) #[recv] #[])] w fun e w'=>e = .returned (.tuple #[])∧SW en w0 blk tail (reverseRange d a b) w':=by
 obtain ⟨n,hn⟩ : ∃ n,d.size = n:=⟨_,rfl⟩
 rw [hn] at hb hsz ⊢;have HN:=zz hn;have HD : Hid (reverseRange d a b = reverseLoop a (b - 1) d):=zz rfl;obtain ⟨b,rfl⟩ : ∃ q,b = q + 1:=⟨b - 1,by omega⟩
 have k0 : IntKind.i64.wrap (b : Int) = (b : Int):=i64w (by omega);clear hn;go_enter Tryz.func226,Tryz.ntmps226;go_wp2
 go_loopw [8,9] (fun i j wr=>∃ (k l : Nat) (d1 : Array α),k ≤ n∧l < n∧i = .int .i64 k∧j = .int .i64 l∧Hid (d1.size = n)∧Hid (reverseLoop a b d = reverseLoop k l d1)∧Hid (SW en w0 blk tail d1 wr)) (fun i j _=>(intOf j).toNat - (intOf i).toNat)
 case atStart=>exact ⟨a,b,d,by omega,by omega,rfl,by first | rfl | go_num,HN,zz rfl,zz hS⟩
 case round=>
  obtain ⟨k,l,d1,hkn,hln,rfl,rfl,HN1,HI,HS⟩:=hrel;have hge : n ≤ d1.size:=by have:=HN1.out;omega
  by_cases hlt : k < l
  ·have hi1 : (k : Int) < (l : Int):=by omega
   obtain ⟨l,rfl⟩ : ∃ q,l = q + 1:=⟨l - 1,by omega⟩
   have k1 : IntKind.i64.wrap (l : Int) = (l : Int):=i64w (by omega);have hlk : k < n:=by omega
   go_wp2;have hSd:=HS.out.drew;refine rgM 13 [(0,none),(1,none),(2,none),(3,none),(4,none),(5,none),(6,none),(8,none),(9,none),(10,none),(7,some true),(11,some true),(12,none),(13,some false),(14,none),(15,some false)] ?_;iterate 6 (refine wC rfl ?_;simp only [pT])
   refine zAq (v:=.pointer (some ⟨blk,(l + 1) * 2,none⟩)) rfl rfl (fun W=>zAj (n:=n) (i:=l + 1) rfl rfl (by first | omega | (simp only [*];try omega)) (by omega)) ?_;simp only [pT];iterate 2 (refine wC rfl ?_;simp only [pT])
   refine zAq (v:=.pointer (some ⟨blk,(k) * 2,none⟩)) rfl rfl (fun W=>zAj (n:=n) (i:=k) rfl rfl (by first | omega | (simp only [*];try omega)) (by omega)) ?_;simp only [pT];refine zAN (v:=.agg (zAa (en (d1[l + 1]!)))) rfl rfl (fun W hW=>zAc (zAa (en (d1[l + 1]!))) (hSd.row.belowAll hW) rfl (zAo (bang (by omega))) zuA) ?_;simp only [pT];refine zAN (v:=.agg (zAa (en (d1[k]!)))) rfl rfl (fun W hW=>zAc (zAa (en (d1[k]!))) (hSd.row.belowAll hW) rfl (zAo (bang (by omega))) zuA) ?_;simp only [pT];refine zAq (v:=.pointer (some ⟨blk,(k) * 2,none⟩)) rfl rfl (fun W=>zAj (n:=n) (i:=k) rfl rfl (by first | omega | (simp only [*];try omega)) (by omega)) ?_;simp only [pT];refine zBk rfl rfl (fun K hK=>?_);refine zAr hSd.row 59 _ _ rfl rfl (.agg (zAa (en (d1[l + 1]!)))) rfl (by kernel_rfl) (zA2 (by omega)) (zAn _) ?_;intro w2 b2 t2;have hSm:=hSd.set (i:=k) (x:=d1[l + 1]!) (by omega) b2 t2;clear b2 t2;refine hK _ _ ?_;clear hK K
   try simp only [pT]
   refine zAq (v:=.pointer (some ⟨blk,(l + 1) * 2,none⟩)) rfl rfl (fun W=>zAj (n:=n) (i:=l + 1) rfl rfl (by first | omega | (simp only [*];try omega)) (by omega)) ?_;simp only [pT];refine zBy rfl rfl (fun K hK=>?_);refine zAr hSm.row 59 _ _ rfl rfl (.agg (zAa (en (d1[k]!)))) rfl (by kernel_rfl) (zA2 (by simp only [Array.size_setIfInBounds];omega)) (zAn _) ?_;intro w2 b2 t2;have hS3:=hSm.set (i:=l + 1) (x:=d1[k]!) (by simp only [Array.size_setIfInBounds];omega) b2 t2;clear b2 t2;refine hK _ _ ?_;clear hK K
   try simp only [pT]
   simp only [wpC];go_wp2;go_roundw
   case rel=>exact ⟨k + 1,l,swp d1 k (l + 1),by omega,by omega,by go_num,by first | rfl | go_num,zz (by rw [zBr];exact HN1.out),zz (by rw [HI.out,reverseLoop,if_pos hlt];rfl),zz hS3⟩
   case measure=>(simp [intOf];try omega)
  ·have hi0 : ¬ (k : Int) < (l : Int):=by omega
   have HR : Hid (reverseRange d a (b + 1) = d1):=zz (by rw [HD.out,Nat.add_sub_cancel,HI.out,reverseLoop,if_neg hlt]);clear HI;go_wp2
   first | go_end0 | refine bodyPost_ret (results_none rfl _ _ _) rfl ?_
   exact ⟨rfl,by rw [HR.out];exact HS.out⟩
theorem SW.turn {α : Type} {en : α→Side} {w0 : World} {blk : Nat} {tail : List Value} {d : Array α} {W w' : World} {sb : Nat} (h : SW en w0 blk tail d W) (ht : Turn sb W w') (hsb : w0.heap.size ≤ sb) (hne : blk ≠ sb) : SW en w0 blk tail d w':=by
 have hg:=h.out;exact ⟨h.row.turn ht hne,⟨ht.os.trans hg.os,ht.tape.trans hg.tape,ht.output.trans hg.output,by rw [ht.size];exact hg.size,fun k hk hn=>(ht.block k (by omega)).trans (hg.block k hk hn)⟩⟩
theorem order2_s (HCM : zCX en w0 blk recv cf) (d : Array α) (x y s sb cap : Nat) (w : World) (hS : SW en w0 blk tail d w) (hbox : zAe w sb 3 #[.int .i64 s]) (hsb : w0.heap.size ≤ sb) (hne : blk ≠ sb) (hx : x < d.size) (hy : y < d.size) (hs : s ≤ 1000) (hsz : d.size ≤ 4294967296) :
  Calls Tryz.prog 236 #[.slice (some ⟨blk,0,none⟩) d.size cap, .int .i64 x, .int .i64 y, .pointer (some ⟨sb,0,none⟩),(.func (.func 187) #[recv] #[])] w fun e w'=>e = .returned (.tuple #[.int .i64 (order2 (ltC cf) d x y s).1, .int .i64 (order2 (ltC cf) d x y s).2.1])∧SW en w0 blk tail d w'∧zAe w' sb 3 #[.int .i64 (order2 (ltC cf) d x y s).2.2]:=by
 have HC:=zz HCM;obtain ⟨n,hn⟩ : ∃ n,d.size = n:=⟨_,rfl⟩
 have hge : n ≤ d.size:=by omega
 rw [hn] at hx hy hsz ⊢;have hSd:=hS.drew;obtain ⟨c,hc⟩ : ∃ c,decide (cf d[y]! d[x]! < 0) = c:=⟨_,rfl⟩
 have HCc:=zz hc;have HST : Hid (order2 (ltC cf) d x y s = if c then (y,x,s + 1) else (x,y,s)):=zz (by unfold order2 ltC;rw [hc]);have k1 : IntKind.i64.wrap ((s : Int) + 1) = (s : Int) + 1:=i64w (by omega);have hbd : zAe w.drew sb 3 #[.int .i64 s]:=hbox.drew;clear HCM hn hc hS hbox
 cases c
 case true=>
  go_enter Tryz.func236,Tryz.ntmps236;go_wp2;refine rgO [(0,true),(1,true),(2,true),(3,true),(4,true),(5,true),(6,true),(7,true),(8,true),(9,false),(10,true)] ?_;iterate 3 ((first | refine wK rfl ?_ | refine wL rfl ?_ | refine wB rfl ?_);simp only [pT])
  refine zAf (v:=.pointer (some ⟨blk,(y) * 2,none⟩)) rfl rfl (fun W hW=>zAj (n:=n) (i:=y) rfl rfl (by first | omega | (simp only [*];try omega)) (by omega)) ?_;simp only [pT];refine zAf (v:=.agg (zAa (en (d[y]!)))) rfl rfl (fun W hW=>zAc (zAa (en (d[y]!))) (hSd.row.belowAll hW) rfl (zAo (bang (by omega))) zuA) ?_;simp only [pT];iterate 2 ((first | refine wK rfl ?_ | refine wL rfl ?_ | refine wB rfl ?_);simp only [pT])
  refine zAf (v:=.pointer (some ⟨blk,(x) * 2,none⟩)) rfl rfl (fun W hW=>zAj (n:=n) (i:=x) rfl rfl (by first | omega | (simp only [*];try omega)) (by omega)) ?_;simp only [pT];refine zAf (v:=.agg (zAa (en (d[x]!)))) rfl rfl (fun W hW=>zAc (zAa (en (d[x]!))) (hSd.row.belowAll hW) rfl (zAo (bang (by omega))) zuA) ?_;simp only [pT];refine zAG rfl rfl (fun K hK=>?_)
  go_simp
  refine (HC.out _ hSd.out _ _).mono ?_;rintro e w2 ⟨rfl,l2⟩;have hb2:=l2.below (Nat.le_refl _);have hS2:=hSd.lays l2;clear l2;refine hK _ _ hb2 ?_;clear hK K
  try simp only [pT]
  refine zAf (v:=.bool true) rfl rfl (fun W hW=>by go_simp;simpa using HCc.out) ?_;simp only [pT];simp only [wpB];have hbx2:=hbd.belowAll hb2;have q0 : w2.cell? ⟨sb,0,none⟩ = some (.int .i64 s):=(hbx2.cell 0).trans rfl
  go_wp2_with (first
   | ((with_reducible refine zAv 3 ?_);refine zAS hbx2 rfl _ _ _ rfl rfl (.int .i64 ((s : Int) + 1)) rfl (by kernel_rfl) rfl (by kernel_rfl) ?_;intro w3 b3 t3))
  go_ret2;exact ⟨by rw [HST.out];rfl,hS2.turn t3 hsb hne,by rw [HST.out];exact b3.eqv (by simp [zAx,Value.cells])⟩
 case false=>
  go_enter Tryz.func236,Tryz.ntmps236;go_wp2;refine rgO [(0,true),(1,true),(2,true),(3,true),(4,true),(5,true),(6,true),(7,true),(8,true),(9,false),(10,true)] ?_;iterate 3 ((first | refine wK rfl ?_ | refine wL rfl ?_ | refine wB rfl ?_);simp only [pT])
  refine zAf (v:=.pointer (some ⟨blk,(y) * 2,none⟩)) rfl rfl (fun W hW=>zAj (n:=n) (i:=y) rfl rfl (by first | omega | (simp only [*];try omega)) (by omega)) ?_;simp only [pT];refine zAf (v:=.agg (zAa (en (d[y]!)))) rfl rfl (fun W hW=>zAc (zAa (en (d[y]!))) (hSd.row.belowAll hW) rfl (zAo (bang (by omega))) zuA) ?_;simp only [pT];iterate 2 ((first | refine wK rfl ?_ | refine wL rfl ?_ | refine wB rfl ?_);simp only [pT])
  refine zAf (v:=.pointer (some ⟨blk,(x) * 2,none⟩)) rfl rfl (fun W hW=>zAj (n:=n) (i:=x) rfl rfl (by first | omega | (simp only [*];try omega)) (by omega)) ?_;simp only [pT];refine zAf (v:=.agg (zAa (en (d[x]!)))) rfl rfl (fun W hW=>zAc (zAa (en (d[x]!))) (hSd.row.belowAll hW) rfl (zAo (bang (by omega))) zuA) ?_;simp only [pT];refine zAG rfl rfl (fun K hK=>?_)
  go_simp
  refine (HC.out _ hSd.out _ _).mono ?_;rintro e w2 ⟨rfl,l2⟩;have hb2:=l2.below (Nat.le_refl _);have hS2:=hSd.lays l2;clear l2;refine hK _ _ hb2 ?_;clear hK K
  try simp only [pT]
  refine zAf (v:=.bool false) rfl rfl (fun W hW=>by go_simp;simpa using HCc.out) ?_;simp only [pT];simp only [wpB];have hbx2:=hbd.belowAll hb2;go_wp2;go_ret2;exact ⟨by rw [HST.out];rfl,hS2,by rw [HST.out];exact hbx2⟩
theorem zDS {α : Type} [Inhabited α] (lt : α→α→Bool) (d : Array α) (x y s n : Nat) (hx : x < n) (hy : y < n) : (order2 lt d x y s).1 < n∧(order2 lt d x y s).2.1 < n∧(order2 lt d x y s).2.2 ≤ s + 1:=by
 unfold order2;split <;> simp_all
theorem zFn {α : Type} [Inhabited α] (lt : α→α→Bool) (d : Array α) (x y z s n : Nat) (hx : x < n) (hy : y < n) (hz : z < n) : (median lt d x y z s).1 < n∧(median lt d x y z s).2 ≤ s + 3:=by
 unfold median;have h1:=zDS lt d x y s n hx hy;have h2:=zDS lt d _ z (order2 lt d x y s).2.2 n h1.2.1 hz;have h3:=zDS lt d _ _ (order2 lt d (order2 lt d x y s).2.1 z (order2 lt d x y s).2.2).2.2 n h1.1 h2.1;exact ⟨h3.2.1,by simp only;omega⟩
theorem median_s (HCM : zCX en w0 blk recv cf) (d : Array α) (x y z s sb cap : Nat) (w : World) (hS : SW en w0 blk tail d w) (hbox : zAe w sb 3 #[.int .i64 s]) (hsb : w0.heap.size ≤ sb) (hne : blk ≠ sb) (hx : x < d.size) (hy : y < d.size) (hz : z < d.size) (hs : s ≤ 900) (hsz : d.size ≤ 4294967296) :
  Calls Tryz.prog 235 #[.slice (some ⟨blk,0,none⟩) d.size cap, .int .i64 x, .int .i64 y, .int .i64 z, .pointer (some ⟨sb,0,none⟩),(.func (.func 187) #[recv] #[])] w fun e w'=>e = .returned (.int .i64 (median (ltC cf) d x y z s).1)∧SW en w0 blk tail d w'∧zAe w' sb 3 #[.int .i64 (median (ltC cf) d x y z s).2]:=by
 have HO : Hid (∀ (x y s : Nat) (W : World),SW en w0 blk tail d W→zAe W sb 3 #[.int .i64 s]→x < d.size→y < d.size→s ≤ 1000→∀ x' y' s' : Nat,order2 (ltC cf) d x y s = (x',y',s')→Calls Tryz.prog 236 #[.slice (some ⟨blk,0,none⟩) d.size cap, .int .i64 x, .int .i64 y, .pointer (some ⟨sb,0,none⟩),(.func (.func 187) #[recv] #[])] W fun e w'=>e = .returned (.tuple #[.int .i64 x', .int .i64 y'])∧SW en w0 blk tail d w'∧zAe w' sb 3 #[.int .i64 s']):=zz fun x y s W h1 h2 h3 h4 h5 x' y' s' he=>by
  have h:=order2_s HCM d x y s sb cap W h1 h2 hsb hne h3 h4 h5 hsz;rw [he] at h;exact h
 obtain ⟨x1,y1,s1,e1⟩ : ∃ a b c,order2 (ltC cf) d x y s = (a,b,c):=⟨_,_,_,rfl⟩
 obtain ⟨y2,z2,s2,e2⟩ : ∃ a b c,order2 (ltC cf) d y1 z s1 = (a,b,c):=⟨_,_,_,rfl⟩
 obtain ⟨x3,y3,s3,e3⟩ : ∃ a b c,order2 (ltC cf) d x1 y2 s2 = (a,b,c):=⟨_,_,_,rfl⟩
 have r1:=zDS (ltC cf) d x y s d.size hx hy;rw [e1] at r1;have r2:=zDS (ltC cf) d y1 z s1 d.size r1.2.1 hz;rw [e2] at r2;have HM : Hid (median (ltC cf) d x y z s = (y3,s3)):=zz (by unfold median;simp only [e1,e2,e3]);simp only at r1 r2;have c1:=HO.out x y s;have c2:=HO.out y1 z s1;have c3:=HO.out x1 y2 s2;have HA:=zz (c1 · · · hx hy (by omega) _ _ _ e1);have HB:=zz (c2 · · · r1.2.1 hz (by omega) _ _ _ e2);have HE:=zz (c3 · · · r1.1 r2.1 (by omega) _ _ _ e3);clear c1 c2 c3 e1 e2 e3 HO HCM;obtain ⟨n,hn⟩ : ∃ n,d.size = n:=⟨_,rfl⟩
 rw [hn] at HA HB HE ⊢;clear hn hx hy hz r1 r2 hsz hs;go_enter Tryz.func235,Tryz.ntmps235
 go_wp2_with (first
  | (go_at_call 236;(with_reducible refine (HA.out _ hS hbox).mono ?_);rintro e v1 ⟨rfl,S1,B1⟩)
  | (go_at_call 236;(with_reducible refine (HB.out _ S1 B1).mono ?_);rintro e v2 ⟨rfl,S2,B2⟩)
  | (go_at_call 236;(with_reducible refine (HE.out _ S2 B2).mono ?_);rintro e v3 ⟨rfl,S3,B3⟩))
 go_ret;exact ⟨by rw [HM.out];rfl,S3,by rw [HM.out];exact B3⟩
theorem medianAdj_s (HCM : zCX en w0 blk recv cf) (d : Array α) (x s sb cap : Nat) (w : World) (hS : SW en w0 blk tail d w) (hbox : zAe w sb 3 #[.int .i64 s]) (hsb : w0.heap.size ≤ sb) (hne : blk ≠ sb) (hx0 : 0 < x) (hx : x + 1 < d.size) (hs : s ≤ 900) (hsz : d.size ≤ 4294967296) :
  Calls Tryz.prog 234 #[.slice (some ⟨blk,0,none⟩) d.size cap, .int .i64 x, .pointer (some ⟨sb,0,none⟩),(.func (.func 187) #[recv] #[])] w fun e w'=>e = .returned (.int .i64 (medianAdjacent (ltC cf) d x s).1)∧SW en w0 blk tail d w'∧zAe w' sb 3 #[.int .i64 (medianAdjacent (ltC cf) d x s).2]:=by
 obtain ⟨x,rfl⟩ : ∃ q,x = q + 1:=⟨x - 1,by omega⟩
 have h:=median_s HCM d x (x + 1) (x + 1 + 1) s sb cap w hS hbox hsb hne (by omega) (by omega) (by omega) hs hsz;have HM:=zz h;have k1 : IntKind.i64.wrap (x : Int) = (x : Int):=i64w (by omega);have k2 : IntKind.i64.wrap ((x : Int) + 1 + 1) = (x : Int) + 1 + 1:=i64w (by omega);unfold medianAdjacent;clear h;simp only [Nat.add_sub_cancel]
 push_cast at HM ⊢
 go_enter Tryz.func234,Tryz.ntmps234
 go_wp2_with (first
  | (go_at_call 235;(with_reducible refine HM.out.mono ?_);rintro e v1 ⟨rfl,S1,B1⟩))
 go_ret;exact ⟨rfl,S1,B1⟩
end
end Go.Proofs.YtbbblemfodpmaaaGreat
end
section
namespace Go.Proofs.YtbbblemfodpmaaaGreat
open Go.RowKit
open Go.Sort
section
variable {α : Type} [Inhabited α] {en : α→Side} {w0 : World} {blk : Nat} {tail : List Value} {recv : Value} {cf : α→α→Int}
theorem zFc {lt : α→α→Bool} (hi f r : Nat) (d : Array α) : (siftDown lt hi f r d).size = d.size:=by
 induction r,d using siftDown.induct (lt:=lt) (hi:=hi) (first:=f) <;> (unfold siftDown;simp_all [zBr]) <;> (repeat' split) <;> simp_all <;> omega
theorem heapSort_s (HCM : zCX en w0 blk recv cf) (d : Array α) (a b cap : Nat) (w : World) (hS : SW en w0 blk tail d w) (hab : a < b) (hb : b ≤ d.size) (hsz : d.size ≤ 4294967296) :
  Calls Tryz.prog 223 #[.slice (some ⟨blk,0,none⟩) d.size cap, .int .i64 a, .int .i64 b,(.func (.func 187) #[recv] #[])] w fun e w'=>e = .returned (.tuple #[])∧SW en w0 blk tail (heapSort (ltC cf) d a b) w':=by
 obtain ⟨n,hn⟩ : ∃ n,d.size = n:=⟨_,rfl⟩
 obtain ⟨M,hM⟩ : ∃ M,b - a = M + 1:=⟨b - a - 1,by omega⟩
 have HSD : Hid (∀ (d1 : Array α) (lo hi : Nat) (W : World),d1.size = n→SW en w0 blk tail d1 W→lo ≤ n→a + hi ≤ n→∀ z y : Int,z = lo→y = hi→Calls Tryz.prog 233 #[.slice (some ⟨blk,0,none⟩) n cap, .int .i64 z, .int .i64 y, .int .i64 a,(.func (.func 187) #[recv] #[])] W fun e w'=>e = .returned (.tuple #[])∧SW en w0 blk tail (siftDown (ltC cf) hi a lo d1) w'):=zz fun d1 lo hi W h1 h2 h3 h4 z y hz hy=>by
  have h:=siftDown_s HCM d1 lo hi a cap W h2 (by omega) (by omega) (by omega);rw [h1,← hz,← hy] at h;exact h
 rw [hn] at hb hsz ⊢;have HN:=zz hn;have HD : Hid (heapSort (ltC cf) d a b = heapPop (ltC cf) a (M + 1) (heapBuild (ltC cf) (M + 1) a (M / 2 + 1) d)):=zz (by unfold heapSort;rw [hM];rfl);have kL : IntKind.i64.wrap ((b : Int) - (a : Int)) = (M : Int) + 1:=by rw [i64w (by omega)];omega
 have kM : IntKind.i64.wrap (M : Int) = (M : Int):=i64w (by omega);have hMn : a + (M + 1) ≤ n:=by omega
 clear hn hM hab HCM;go_enter Tryz.func223,Tryz.ntmps223;go_wp2
 go_loopw [11] (fun i wr=>∃ (k : Nat) (z : Int) (d1 : Array α),k ≤ M + 1∧z + 1 = k∧i = .int .i64 z∧Hid (d1.size = n)∧Hid (heapBuild (ltC cf) (M + 1) a (M / 2 + 1) d = heapBuild (ltC cf) (M + 1) a k d1)∧Hid (SW en w0 blk tail d1 wr)) (fun i _=>(intOf i + 1).toNat)
 case atStart=>exact ⟨M / 2 + 1,(M : Int) / 2,d,by omega,by omega,by first | rfl | go_num,HN,zz rfl,zz hS⟩
 case round=>
  obtain ⟨k,z,d1,hkM,hzk,rfl,HN1,HI,HS⟩:=hrel
  rcases k with _ | q
  ·obtain rfl : z = -1:=by omega
   have HR : Hid (heapSort (ltC cf) d a b = heapPop (ltC cf) a (M + 1) d1):=zz (by rw [HD.out,HI.out];rfl);clear HI hzk;go_wp2
   go_loopw [12] (fun i wr=>∃ (k : Nat) (z : Int) (d2 : Array α),k ≤ M + 1∧z + 1 = k∧i = .int .i64 z∧Hid (d2.size = n)∧Hid (heapPop (ltC cf) a (M + 1) d1 = heapPop (ltC cf) a k d2)∧Hid (SW en w0 blk tail d2 wr)) (fun i _=>(intOf i + 1).toNat)
   case atStart=>exact ⟨M + 1,(M : Int),d1,by omega,by omega,by first | rfl | go_num,HN1,zz rfl,HS⟩
   case round=>
    obtain ⟨k,z,d2,hkM2,hzk2,rfl,HN2,HI2,HS2⟩:=hrel
    rcases k with _ | q
    ·obtain rfl : z = -1:=by omega
     go_wp2
     first | go_end0 | refine bodyPost_ret (results_none rfl _ _ _) rfl ?_
     exact ⟨rfl,by rw [HR.out,HI2.out];exact HS2.out⟩
    ·obtain rfl : z = (q : Int):=by omega
     have hge : n ≤ d2.size:=by have:=HN2.out;omega
     have hq0 : (0 : Int) ≤ (q : Int):=by omega
     have k1 : IntKind.i64.wrap ((a : Int) + (q : Int)) = (a : Int) + (q : Int):=i64w (by omega);have k2 : IntKind.i64.wrap ((q : Int) - 1) = (q : Int) - 1:=i64w (by omega);have hlt1 : a + q < n:=by omega
     have hlt2 : a < n:=by omega
     have hSd:=HS2.out.drew;go_wp2;refine rgM 17 [(0,none),(1,none),(2,none),(3,none),(4,none),(5,none),(6,none),(7,none),(8,none),(9,none),(10,none),(12,none),(13,none),(14,none),(11,some true),(15,some true),(16,none),(17,some false),(18,none),(19,some false)] ?_;iterate 10 (refine wC rfl ?_;simp only [pT])
     refine zAq (v:=.pointer (some ⟨blk,(a + q) * 2,none⟩)) rfl rfl (fun W=>zAj (n:=n) (i:=a + q) rfl rfl (by first | omega | (simp only [*];try omega)) (by omega)) ?_;simp only [pT];iterate 2 (refine wC rfl ?_;simp only [pT])
     refine zAq (v:=.pointer (some ⟨blk,(a) * 2,none⟩)) rfl rfl (fun W=>zAj (n:=n) (i:=a) rfl rfl (by first | omega | (simp only [*];try omega)) (by omega)) ?_;simp only [pT];refine zAN (v:=.agg (zAa (en (d2[a + q]!)))) rfl rfl (fun W hW=>zAc (zAa (en (d2[a + q]!))) (hSd.row.belowAll hW) rfl (zAo (bang (by omega))) zuA) ?_;simp only [pT];refine zAN (v:=.agg (zAa (en (d2[a]!)))) rfl rfl (fun W hW=>zAc (zAa (en (d2[a]!))) (hSd.row.belowAll hW) rfl (zAo (bang (by omega))) zuA) ?_;simp only [pT];refine zAq (v:=.pointer (some ⟨blk,(a) * 2,none⟩)) rfl rfl (fun W=>zAj (n:=n) (i:=a) rfl rfl (by first | omega | (simp only [*];try omega)) (by omega)) ?_;simp only [pT];refine zBk rfl rfl (fun K hK=>?_);refine zAr hSd.row 59 _ _ rfl rfl (.agg (zAa (en (d2[a + q]!)))) rfl (by kernel_rfl) (zA2 (by omega)) (zAn _) ?_;intro w2 b2 t2;have hSm:=hSd.set (i:=a) (x:=d2[a + q]!) (by omega) b2 t2;clear b2 t2;refine hK _ _ ?_;clear hK K
     try simp only [pT]
     refine zAq (v:=.pointer (some ⟨blk,(a + q) * 2,none⟩)) rfl rfl (fun W=>zAj (n:=n) (i:=a + q) rfl rfl (by first | omega | (simp only [*];try omega)) (by omega)) ?_;simp only [pT];refine zBy rfl rfl (fun K hK=>?_);refine zAr hSm.row 59 _ _ rfl rfl (.agg (zAa (en (d2[a]!)))) rfl (by kernel_rfl) (zA2 (by simp only [Array.size_setIfInBounds];omega)) (zAn _) ?_;intro w2 b2 t2;have hS3:=hSm.set (i:=a + q) (x:=d2[a]!) (by simp only [Array.size_setIfInBounds];omega) b2 t2;clear b2 t2;refine hK _ _ ?_;clear hK K
     try simp only [pT]
     simp only [wpC];have HCA:=zz (HSD.out (swp d2 a (a + q)) 0 q w2 (by rw [zBr];exact HN2.out) hS3 (by omega) (by omega) 0 q rfl rfl)
     go_wp2_with (go_at_call 233;(with_reducible refine HCA.out.mono ?_);rintro e w5 ⟨rfl,hS5⟩)
     go_roundw
     case rel=>exact ⟨q,(q : Int) - 1,_,by omega,by omega,by first | rfl | go_num,zz (by rw [zFc,zBr];exact HN2.out),zz (by rw [HI2.out];rfl),zz hS5⟩
     case measure=>(simp [intOf];try omega)
  ·obtain rfl : z = (q : Int):=by omega
   have hq0 : (0 : Int) ≤ (q : Int):=by omega
   have k2 : IntKind.i64.wrap ((q : Int) - 1) = (q : Int) - 1:=i64w (by omega);have HCA:=zz (HSD.out d1 q (M + 1) _ HN1.out HS.out (by omega) (by omega) q ((M : Int) + 1) rfl (by omega))
   go_wp2_with (go_at_call 233;(with_reducible refine HCA.out.mono ?_);rintro e w5 ⟨rfl,hS5⟩)
   go_roundw
   case rel=>exact ⟨q,(q : Int) - 1,_,by omega,by omega,by first | rfl | go_num,zz (by rw [zFc];exact HN1.out),zz (by rw [HI.out];rfl),zz hS5⟩
   case measure=>(simp [intOf];try omega)
def hintI : Hint→Int
 | .unknown=>0
 | .increasing=>1
 | .decreasing=>2
theorem choosePivot_s (HCM : zCX en w0 blk recv cf) (d : Array α) (a b cap : Nat) (w : World) (hS : SW en w0 blk tail d w) (hblk : blk < w0.heap.size) (hab : a < b) (hb : b ≤ d.size) (hsz : d.size ≤ 4294967296) :
  Calls Tryz.prog 225 #[.slice (some ⟨blk,0,none⟩) d.size cap, .int .i64 a, .int .i64 b,(.func (.func 187) #[recv] #[])] w fun e w'=>e = .returned (.tuple #[.int .i64 (choosePivot (ltC cf) d a b).1, .int .i64 (hintI (choosePivot (ltC cf) d a b).2)])∧SW en w0 blk tail d w':=by
 obtain ⟨L,hL⟩ : ∃ M,b - a = M:=⟨b - a,rfl⟩
 have hwo:=hS.out.size;have hS1 : SW en w0 blk tail d (w.alloc (.cells #[.int .i64 0] 3)):=hS.lays ((Lays.refl w).alloc _);have hB1 : zAe (w.alloc (.cells #[.int .i64 0] 3)) w.heap.size 3 #[.int .i64 ((0 : Nat) : Int)]:=zAe.new _ _ _;have kL : IntKind.i64.wrap ((b : Int) - (a : Int)) = (L : Int):=by rw [i64w (by omega)];omega
 have hLb : a + L ≤ b:=by omega
 have hLc : (a : Int) + (L : Int) ≤ (b : Int):=by omega
 by_cases h8 : 8 ≤ L
 case neg=>
  have h8' : ¬ (8 : Int) ≤ (L : Int):=by omega
  have HR : Hid (choosePivot (ltC cf) d a b = (a + L / 4 * 2, .increasing)):=zz (by unfold choosePivot;simp [hL,h8]);clear hL hab hS HCM;go_enter Tryz.func225,Tryz.ntmps225;go_wp2;go_ret2;exact ⟨by rw [HR.out];simp [hintI],hS1⟩
 have h8' : (8 : Int) ≤ (L : Int):=by omega
 have HMD : Hid (∀ (x y z s : Nat) (W : World),SW en w0 blk tail d W→zAe W w.heap.size 3 #[.int .i64 s]→x < d.size→y < d.size→z < d.size→s ≤ 900→∀ X Y Z : Int,X = x→Y = y→Z = z→∀ r t : Nat,median (ltC cf) d x y z s = (r,t)→Calls Tryz.prog 235 #[.slice (some ⟨blk,0,none⟩) d.size cap, .int .i64 X, .int .i64 Y, .int .i64 Z, .pointer (some ⟨w.heap.size,0,none⟩),(.func (.func 187) #[recv] #[])] W fun e w'=>e = .returned (.int .i64 r)∧SW en w0 blk tail d w'∧zAe w' w.heap.size 3 #[.int .i64 t]):=zz fun x y z s W h1 h2 h3 h4 h5 h6 X Y Z e1 e2 e3 r t he=>by
  have h:=median_s HCM d x y z s w.heap.size cap W h1 h2 hwo (by omega) h3 h4 h5 h6 hsz;rw [he,← e1,← e2,← e3] at h;exact h
 have HMA : Hid (∀ (x s : Nat) (W : World),SW en w0 blk tail d W→zAe W w.heap.size 3 #[.int .i64 s]→0 < x→x + 1 < d.size→s ≤ 900→∀ X : Int,X = x→∀ r t : Nat,medianAdjacent (ltC cf) d x s = (r,t)→Calls Tryz.prog 234 #[.slice (some ⟨blk,0,none⟩) d.size cap, .int .i64 X, .pointer (some ⟨w.heap.size,0,none⟩),(.func (.func 187) #[recv] #[])] W fun e w'=>e = .returned (.int .i64 r)∧SW en w0 blk tail d w'∧zAe w' w.heap.size 3 #[.int .i64 t]):=zz fun x s W h1 h2 h3 h4 h6 X e1 r t he=>by
  have h:=medianAdj_s HCM d x s w.heap.size cap W h1 h2 hwo (by omega) h3 h4 h6 hsz;rw [he,← e1] at h;exact h
 by_cases h50 : 50 ≤ L
 case neg=>
  have h50' : ¬ (50 : Int) ≤ (L : Int):=by omega
  obtain ⟨r,t,hr⟩ : ∃ r t,median (ltC cf) d (a + L / 4 * 1) (a + L / 4 * 2) (a + L / 4 * 3) 0 = (r,t):=⟨_,_,rfl⟩
  have HR : Hid (choosePivot (ltC cf) d a b = (r,if t = 0 then .increasing else if t = 12 then .decreasing else .unknown)):=zz (by unfold choosePivot;simp only [hL,ge_iff_le,h8,h50,if_true,if_false,hr]);have HCA:=zz (HMD.out _ _ _ 0 _ hS1 hB1 (by omega) (by omega) (by omega) (by omega) ((a : Int) + (L : Int) / 4) ((a : Int) + (L : Int) / 4 * 2) ((a : Int) + (L : Int) / 4 * 3) (by omega) (by omega) (by omega) r t hr);obtain ⟨n,hn⟩ : ∃ n,d.size = n:=⟨_,rfl⟩
  rw [hn] at HCA hb hsz ⊢;clear hL hab hS HCM HMD HMA hr hS1 hB1 hn
  by_cases t0 : t = 0
  ·subst t0;go_enter Tryz.func225,Tryz.ntmps225
   go_wp2_with (first
    | (go_at_call 235;(with_reducible refine HCA.out.mono ?_);rintro e v4 ⟨rfl,S4,B4⟩;have q4:=(B4.cell 0).trans rfl))
   go_ret2;exact ⟨by rw [HR.out];simp [hintI, *],S4⟩
  ·have t0' : ¬ (t : Int) = 0:=by omega
   by_cases t12 : t = 12
   ·subst t12;go_enter Tryz.func225,Tryz.ntmps225
    go_wp2_with (first
     | (go_at_call 235;(with_reducible refine HCA.out.mono ?_);rintro e v4 ⟨rfl,S4,B4⟩;have q4:=(B4.cell 0).trans rfl))
    go_ret2;exact ⟨by rw [HR.out];simp [hintI, *],S4⟩
   ·have t12' : ¬ (t : Int) = 12:=by omega
    go_enter Tryz.func225,Tryz.ntmps225
    go_wp2_with (first
     | (go_at_call 235;(with_reducible refine HCA.out.mono ?_);rintro e v4 ⟨rfl,S4,B4⟩;have q4:=(B4.cell 0).trans rfl))
    go_ret2;exact ⟨by rw [HR.out];simp [hintI, *],S4⟩
 have h50' : (50 : Int) ≤ (L : Int):=by omega
 obtain ⟨p1,s1,m1⟩ : ∃ r t,medianAdjacent (ltC cf) d (a + L / 4 * 1) 0 = (r,t):=⟨_,_,rfl⟩
 obtain ⟨p2,s2,m2⟩ : ∃ r t,medianAdjacent (ltC cf) d (a + L / 4 * 2) s1 = (r,t):=⟨_,_,rfl⟩
 obtain ⟨p3,s3,m3⟩ : ∃ r t,medianAdjacent (ltC cf) d (a + L / 4 * 3) s2 = (r,t):=⟨_,_,rfl⟩
 obtain ⟨r,t,hr⟩ : ∃ r t,median (ltC cf) d p1 p2 p3 s3 = (r,t):=⟨_,_,rfl⟩
 have b1:=zFn (ltC cf) d (a + L / 4 * 1 - 1) (a + L / 4 * 1) (a + L / 4 * 1 + 1) 0 d.size (by omega) (by omega) (by omega);rw [show median (ltC cf) d (a + L / 4 * 1 - 1) (a + L / 4 * 1) (a + L / 4 * 1 + 1) 0 = (p1,s1) from m1] at b1;have b2:=zFn (ltC cf) d (a + L / 4 * 2 - 1) (a + L / 4 * 2) (a + L / 4 * 2 + 1) s1 d.size (by omega) (by omega) (by omega);rw [show median (ltC cf) d (a + L / 4 * 2 - 1) (a + L / 4 * 2) (a + L / 4 * 2 + 1) s1 = (p2,s2) from m2] at b2;have b3:=zFn (ltC cf) d (a + L / 4 * 3 - 1) (a + L / 4 * 3) (a + L / 4 * 3 + 1) s2 d.size (by omega) (by omega) (by omega);rw [show median (ltC cf) d (a + L / 4 * 3 - 1) (a + L / 4 * 3) (a + L / 4 * 3 + 1) s2 = (p3,s3) from m3] at b3;simp only at b1 b2 b3;have HR : Hid (choosePivot (ltC cf) d a b = (r,if t = 0 then .increasing else if t = 12 then .decreasing else .unknown)):=zz (by unfold choosePivot;simp only [hL,ge_iff_le,h8,h50,if_true,m1,m2,m3,hr]);have HC1:=zz (HMA.out _ 0 _ hS1 hB1 (by omega) (by omega) (by omega) ((a : Int) + (L : Int) / 4) (by omega) p1 s1 m1);have HC2:=zz (fun W h1 h2=>HMA.out _ s1 W h1 h2 (by omega) (by omega) (by omega) ((a : Int) + (L : Int) / 4 * 2) (by omega) p2 s2 m2);have HC3:=zz (fun W h1 h2=>HMA.out _ s2 W h1 h2 (by omega) (by omega) (by omega) ((a : Int) + (L : Int) / 4 * 3) (by omega) p3 s3 m3);have HC4:=zz (fun W h1 h2=>HMD.out p1 p2 p3 s3 W h1 h2 (by omega) (by omega) (by omega) (by omega) p1 p2 p3 rfl rfl rfl r t hr);obtain ⟨n,hn⟩ : ∃ n,d.size = n:=⟨_,rfl⟩
 rw [hn] at HC1 HC2 HC3 HC4 hb hsz ⊢;clear hL hab hS HCM HMD HMA hr hS1 hB1 hn m1 m2 m3 b1 b2 b3
 by_cases t0 : t = 0
 ·subst t0;go_enter Tryz.func225,Tryz.ntmps225
  go_wp2_with (first
   | (go_at_call 234;(with_reducible refine HC1.out.mono ?_);rintro e v1 ⟨rfl,S1,B1⟩)
   | (go_at_call 234;(with_reducible refine (HC2.out _ S1 B1).mono ?_);rintro e v2 ⟨rfl,S2,B2⟩)
   | (go_at_call 234;(with_reducible refine (HC3.out _ S2 B2).mono ?_);rintro e v3 ⟨rfl,S3,B3⟩)
   | (go_at_call 235;(with_reducible refine (HC4.out _ S3 B3).mono ?_);rintro e v4 ⟨rfl,S4,B4⟩;have q4:=(B4.cell 0).trans rfl))
  go_ret2;exact ⟨by rw [HR.out];simp [hintI, *],S4⟩
 ·have t0' : ¬ (t : Int) = 0:=by omega
  by_cases t12 : t = 12
  ·subst t12;go_enter Tryz.func225,Tryz.ntmps225
   go_wp2_with (first
    | (go_at_call 234;(with_reducible refine HC1.out.mono ?_);rintro e v1 ⟨rfl,S1,B1⟩)
    | (go_at_call 234;(with_reducible refine (HC2.out _ S1 B1).mono ?_);rintro e v2 ⟨rfl,S2,B2⟩)
    | (go_at_call 234;(with_reducible refine (HC3.out _ S2 B2).mono ?_);rintro e v3 ⟨rfl,S3,B3⟩)
    | (go_at_call 235;(with_reducible refine (HC4.out _ S3 B3).mono ?_);rintro e v4 ⟨rfl,S4,B4⟩;have q4:=(B4.cell 0).trans rfl))
   go_ret2;exact ⟨by rw [HR.out];simp [hintI, *],S4⟩
  ·have t12' : ¬ (t : Int) = 12:=by omega
   go_enter Tryz.func225,Tryz.ntmps225
   go_wp2_with (first
    | (go_at_call 234;(with_reducible refine HC1.out.mono ?_);rintro e v1 ⟨rfl,S1,B1⟩)
    | (go_at_call 234;(with_reducible refine (HC2.out _ S1 B1).mono ?_);rintro e v2 ⟨rfl,S2,B2⟩)
    | (go_at_call 234;(with_reducible refine (HC3.out _ S2 B2).mono ?_);rintro e v3 ⟨rfl,S3,B3⟩)
    | (go_at_call 235;(with_reducible refine (HC4.out _ S3 B3).mono ?_);rintro e v4 ⟨rfl,S4,B4⟩;have q4:=(B4.cell 0).trans rfl))
   go_ret2;exact ⟨by rw [HR.out];simp [hintI, *],S4⟩
end
end Go.Proofs.YtbbblemfodpmaaaGreat
end
