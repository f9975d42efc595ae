/-pdqsort of sides.-/
import Derived.Test.YtbbblemfodpmaaaGreatWebGf
import Derived.Test.YtbbblemfodpmaaaGreatWebS5
import Derived.Test.YtbbblemfodpmaaaGreatWebS6
import Derived.Test.YtbbblemfodpmaaaGreatWebGg
import Derived.Deep.CutBlock
import Derived.Sort.AssemblyPlain
set_option linter.unusedVariables false
set_option linter.unusedSimpArgs false
set_option maxHeartbeats 16000000
set_option maxRecDepth 100000
namespace Go.Proofs.YtbbblemfodpmaaaGreat
open Go.RowKit
open Go.Sort
section
variable {α : Type} [Inhabited α] {en : α→Side} {w0 : World} {blk : Nat} {tail : List Value} {recv : Value} {cf : α→α→Int}
structure Does_ (en : α→Side) (w0 : World) (blk : Nat) (tail : List Value) (recv : Value) (lt : α→α→Bool) (n cap : Nat) : Prop where
 ins : ∀ (d : Array α) (x y : Nat) (W : World),d.size = n→SW en w0 blk tail d W→x ≤ y→y ≤ n→Calls Tryz.prog 222 #[.slice (some ⟨blk,0,none⟩) n cap, .int .i64 x, .int .i64 y,(.func (.func 187) #[recv] #[])] W fun e w'=>e = .returned (.tuple #[])∧∃ d2,PermIn x y d d2∧SortedIn lt x y d2∧SW en w0 blk tail d2 w'
 heap : ∀ (d : Array α) (x y : Nat) (W : World),d.size = n→SW en w0 blk tail d W→x < y→y ≤ n→Calls Tryz.prog 223 #[.slice (some ⟨blk,0,none⟩) n cap, .int .i64 x, .int .i64 y,(.func (.func 187) #[recv] #[])] W fun e w'=>e = .returned (.tuple #[])∧∃ d2,PermIn x y d d2∧SortedIn lt x y d2∧SW en w0 blk tail d2 w'
 brk : ∀ (d : Array α) (x y : Nat) (W : World),d.size = n→SW en w0 blk tail d W→x < y→y ≤ n→Calls Tryz.prog 224 #[.slice (some ⟨blk,0,none⟩) n cap, .int .i64 x, .int .i64 y,(.func (.func 187) #[recv] #[])] W fun e w'=>e = .returned (.tuple #[])∧∃ d2,PermIn x y d d2∧SW en w0 blk tail d2 w'
 rev : ∀ (d : Array α) (x y : Nat) (W : World),d.size = n→SW en w0 blk tail d W→x < y→y ≤ n→Calls Tryz.prog 226 #[.slice (some ⟨blk,0,none⟩) n cap, .int .i64 x, .int .i64 y,(.func (.func 187) #[recv] #[])] W fun e w'=>e = .returned (.tuple #[])∧∃ d2,PermIn x y d d2∧SW en w0 blk tail d2 w'
 piv : ∀ (d : Array α) (x y : Nat) (W : World),d.size = n→SW en w0 blk tail d W→x < y→y ≤ n→Calls Tryz.prog 225 #[.slice (some ⟨blk,0,none⟩) n cap, .int .i64 x, .int .i64 y,(.func (.func 187) #[recv] #[])] W fun e w'=>(∃ (p : Nat) (h : Int),x ≤ p∧p < y∧e = .returned (.tuple #[.int .i64 p, .int .i64 h]))∧SW en w0 blk tail d w'
 par : ∀ (d : Array α) (x y : Nat) (W : World),d.size = n→SW en w0 blk tail d W→x < y→y ≤ n→Below lt x y d→Calls Tryz.prog 227 #[.slice (some ⟨blk,0,none⟩) n cap, .int .i64 x, .int .i64 y,(.func (.func 187) #[recv] #[])] W fun e w'=>∃ r d2,e = .returned (.bool r)∧PermIn x y d d2∧(r = true→SortedIn lt x y d2)∧SW en w0 blk tail d2 w'
 eq : ∀ (d : Array α) (x y p : Nat) (W : World),d.size = n→SW en w0 blk tail d W→0 < x→x ≤ p→p < y→y ≤ n→Below lt x y d→lt d[x - 1]! d[p]! = false→Calls Tryz.prog 228 #[.slice (some ⟨blk,0,none⟩) n cap, .int .i64 x, .int .i64 y, .int .i64 p,(.func (.func 187) #[recv] #[])] W fun e w'=>∃ (mid : Nat) (d2 : Array α),e = .returned (.int .i64 mid)∧x < mid∧mid ≤ y∧d2.size = n∧Below lt mid y d2∧
   Hid (∀ R,PermIn mid y d2 R→SortedIn lt mid y R→PermIn x y d R∧SortedIn lt x y R)∧SW en w0 blk tail d2 w'
 part : ∀ (d : Array α) (x y p : Nat) (W : World),d.size = n→SW en w0 blk tail d W→x ≤ p→p < y→y ≤ n→Below lt x y d→Calls Tryz.prog 229 #[.slice (some ⟨blk,0,none⟩) n cap, .int .i64 x, .int .i64 y, .int .i64 p,(.func (.func 187) #[recv] #[])] W fun e w'=>∃ (mid : Nat) (ap : Bool) (d2 : Array α),e = .returned (.tuple #[.int .i64 mid, .bool ap])∧x ≤ mid∧mid < y∧d2.size = n∧Below lt x mid d2∧Below lt (mid + 1) y d2∧
   Hid (∀ L,PermIn x mid d2 L→SortedIn lt x mid L→Below lt (mid + 1) y L∧∀ R,PermIn (mid + 1) y L R→SortedIn lt (mid + 1) y R→PermIn x y d R∧SortedIn lt x y R)∧
   Hid (∀ L,PermIn (mid + 1) y d2 L→SortedIn lt (mid + 1) y L→Below lt x mid L∧∀ R,PermIn x mid L R→SortedIn lt x mid R→PermIn x y d R∧SortedIn lt x y R)∧SW en w0 blk tail d2 w'
theorem does_ (HCM : zCX en w0 blk recv cf) (hO : SWO (ltC cf)) (hblk : blk < w0.heap.size) (n cap : Nat) (hn : n ≤ 4294967296) : Does_ en w0 blk tail recv (ltC cf) n cap where
 ins:=fun d x y W hs hS hxy hy=>by
  subst hs;refine (insertion_s HCM d x y cap W hS hxy hy hn).mono ?_;rintro e w' ⟨rfl,h⟩;obtain ⟨h1,h2⟩:=insertionSort_holds hO d x y hxy hy;exact ⟨rfl,_,h1,h2,h⟩
 heap:=fun d x y W hs hS hxy hy=>by
  subst hs;refine (heapSort_s HCM d x y cap W hS hxy hy hn).mono ?_;rintro e w' ⟨rfl,h⟩;obtain ⟨h1,h2⟩:=heapSort_holds hO d x y (Nat.le_of_lt hxy) hy;exact ⟨rfl,_,h1,h2,h⟩
 brk:=fun d x y W hs hS hxy hy=>by
  subst hs;refine (break_s d x y cap W hS hblk hxy hy hn).mono ?_;rintro e w' ⟨rfl,h⟩;exact ⟨rfl,_,breakPatterns_holds d x y (Nat.le_of_lt hxy) hy,h⟩
 rev:=fun d x y W hs hS hxy hy=>by
  subst hs;refine (reverse_s d x y cap W hS hxy hy hn).mono ?_;rintro e w' ⟨rfl,h⟩;exact ⟨rfl,_,reverseRange_holds d x y (Nat.le_of_lt hxy) hy,h⟩
 piv:=fun d x y W hs hS hxy hy=>by
  subst hs;refine (choosePivot_s HCM d x y cap W hS hblk hxy hy hn).mono ?_;rintro e w' ⟨rfl,h⟩;obtain ⟨h1,h2⟩:=choosePivot_holds (ltC cf) d x y hxy;exact ⟨⟨_,_,h1,h2,rfl⟩,h⟩
 par:=fun d x y W hs hS hxy hy hB=>by
  subst hs;refine (partialIns_s HCM d x y cap W hS hxy hy hn).mono ?_;rintro e w' ⟨rfl,h⟩;obtain ⟨h1,h2⟩:=partialInsertionSort_holds hO d x y hxy hy hB;exact ⟨_,_,rfl,h1,h2,h⟩
 eq:=fun d x y p W hs hS h0 hxp hpy hy hB hnl=>by
  subst hs;refine (partitionEq_s HCM d x y p cap W hS hxp hpy hy hn).mono ?_;rintro e w' ⟨rfl,h⟩;obtain ⟨h1,h2,h3,h4,h5⟩:=round_eq hO (partitionEqual_holds _) h0 hxp hpy hy hB hnl (mid:=(partitionEqual (ltC cf) d x y p).1) (d4:=(partitionEqual (ltC cf) d x y p).2) rfl;exact ⟨_,_,rfl,h1,h2,h3,h4,zz h5,h⟩
 part:=fun d x y p W hs hS hxp hpy hy hB=>by
  subst hs;refine (partition_s HCM d x y p cap W hS hxp hpy hy hn).mono ?_;rintro e w' ⟨rfl,h⟩;obtain ⟨h1,h2,h3,h4,h5,h6,h7⟩:=round_part hO (partition_holds _) hxp hpy hy hB (mid:=(partition (ltC cf) d x y p).1) (ap:=(partition (ltC cf) d x y p).2.1) (d4:=(partition (ltC cf) d x y p).2.2) rfl;exact ⟨_,_,_,rfl,h1,h2,h3,h4,h5,zz h6,zz h7,h⟩
theorem pdq_s (HCM : zCX en w0 blk recv cf) (hO : SWO (ltC cf)) (hblk : blk < w0.heap.size) (n cap : Nat) (hsz : n ≤ 4294967296) : ∀ (N : Nat) (d : Array α) (a b lim : Nat) (w : World),b - a < N→d.size = n→SW en w0 blk tail d w→a ≤ b→b ≤ n→Below (ltC cf) a b d→lim ≤ 100→
  ∀ X Y : Int,X = a→Y = b→Calls Tryz.prog 212 #[.slice (some ⟨blk,0,none⟩) n cap, .int .i64 X, .int .i64 Y, .int .i64 lim,(.func (.func 187) #[recv] #[])] w fun e w'=>e = .returned (.tuple #[])∧∃ d2,PermIn a b d d2∧SortedIn (ltC cf) a b d2∧SW en w0 blk tail d2 w':=by
 intro N
 induction N with
 | zero=>intro d a b lim w hN;omega
 | succ N ih=>?_
 intro d a b lim w hN hdn hS hab hb hBel hlim X Y hX hY;subst hX hY;have D:=zz (does_ (tail:=tail) (recv:=recv) HCM hO hblk n cap hsz);have HC:=zz HCM;have HO:=zz hO;have HN:=zz hdn;have HS0:=zz hS;have HB0:=zz hBel;have IH:=zz ih;clear ih HCM hdn hS hBel hO;go_enter Tryz.func212,Tryz.ntmps212;go_wp2
 go_loopw [1,2,3,10,11,12,13,14,15,16,17,18,19,20] (fun va vb vl wb wp _ _ _ _ _ _ _ _ _ wr=>∃ (a1 b1 lm : Nat) (x y : Bool) (d1 : Array α),a ≤ a1∧a1 ≤ b1∧b1 ≤ b∧lm ≤ 100∧va = .int .i64 a1∧vb = .int .i64 b1∧vl = .int .i64 lm∧wb = .bool x∧wp = .bool y∧Hid (d1.size = n)∧Hid (Below (ltC cf) a1 b1 d1)∧
   Hid (∀ R,PermIn a1 b1 d1 R→SortedIn (ltC cf) a1 b1 R→PermIn a b d R∧SortedIn (ltC cf) a b R)∧Hid (SW en w0 blk tail d1 wr)) (fun va vb _ _ _ _ _ _ _ _ _ _ _ _ _=>(intOf vb - intOf va).toNat)
 case atStart=>exact ⟨a,b,lim,true,true,d,by omega,by omega,by omega,by omega,rfl,rfl,rfl,rfl,rfl,HN,HB0,zz (fun R h1 h2=>⟨h1,h2⟩),HS0⟩
 case round=>
  obtain ⟨a1,b1,lm,x,y,D1,haa,hab1,hbb,hlm,rfl,rfl,rfl,rfl,rfl,HN1,HB1,HF,HS⟩:=hrel;have kL : IntKind.i64.wrap ((b1 : Int) - (a1 : Int)) = (b1 : Int) - (a1 : Int):=i64w (by omega)
  by_cases h12 : b1 - a1 ≤ 12
  ·have h12' : (b1 : Int) - (a1 : Int) ≤ 12:=by omega
   have HI:=zz (D.out.ins D1 a1 b1 _ HN1.out HS.out hab1 (by omega))
   go_wp2_with (go_at_call 222;(with_reducible refine HI.out.mono ?_);rintro e w2 ⟨rfl,d2,p2,s2,hS2⟩)
   first | go_end0 | refine bodyPost_ret (results_none rfl _ _ _) rfl ?_
   obtain ⟨q1,q2⟩:=HF.out d2 p2 s2;exact ⟨rfl,d2,q1,q2,hS2⟩
  have h12' : ¬ (b1 : Int) - (a1 : Int) ≤ 12:=by omega
  by_cases hl0 : lm = 0
  ·subst hl0;have HI:=zz (D.out.heap D1 a1 b1 _ HN1.out HS.out (by omega) (by omega))
   go_wp2_with (go_at_call 223;(with_reducible refine HI.out.mono ?_);rintro e w2 ⟨rfl,d2,p2,s2,hS2⟩)
   first | go_end0 | refine bodyPost_ret (results_none rfl _ _ _) rfl ?_
   obtain ⟨q1,q2⟩:=HF.out d2 p2 s2;exact ⟨rfl,d2,q1,q2,hS2⟩
  obtain ⟨lm,rfl⟩ : ∃ q,lm = q + 1:=⟨lm - 1,by omega⟩
  have hl1 : ((lm : Int) + 1 == 0) = false:=by simp;omega
  have hl2 : ¬ (lm : Int) + 1 = 0:=by omega
  have kl : IntKind.i64.wrap (lm : Int) = (lm : Int):=i64w (by omega)
  go_upto_if 39 with fail
  go_cut [3] from 21 to 147 (fun vl wc=>∃ (l2 : Nat) (d2 : Array α),vl = .int .i64 l2∧l2 ≤ 100∧Hid (PermIn a1 b1 D1 d2)∧Hid (SW en w0 blk tail d2 wc))
  case first=>
   have HI:=zz (D.out.brk D1 a1 b1 _ HN1.out HS.out (by omega) (by omega))
   cases x
   case false=>
    go_wp2_with (go_at_call 224;(with_reducible refine HI.out.mono ?_);rintro e w2 ⟨rfl,d2,p2,hS2⟩)
    go_meet
    case rel=>exact ⟨lm,d2,by first | rfl | go_num,by omega,zz p2,zz hS2⟩
   case true=>
    go_wp2_with fail
    go_meet
    case rel=>exact ⟨lm + 1,D1,by first | rfl | go_num,by omega,zz (permIn_refl _ _ _),HS⟩
  obtain ⟨l2,D2,rfl,hl2',HP2,HS2⟩:=hcut;have HN2 : Hid (D2.size = n):=zz (HP2.out.1.trans HN1.out);have HI2:=zz (D.out.piv D2 a1 b1 _ HN2.out HS2.out (by omega) (by omega));clear HS
  go_upto_if 56 with (go_at_call 225;(with_reducible refine HI2.out.mono ?_);rintro e w2 ⟨⟨p,h,hp1,hp2,rfl⟩,hS2⟩)
  have HS3:=zz hS2;clear hS2 HI2;have kb : IntKind.i64.wrap ((b1 : Int) - 1) = (b1 : Int) - 1:=i64w (by omega);have kp : IntKind.i64.wrap ((p : Int) - (a1 : Int)) = (p : Int) - (a1 : Int):=i64w (by omega);have kq : IntKind.i64.wrap ((b1 : Int) - 1 - ((p : Int) - (a1 : Int))) = (b1 : Int) - 1 - ((p : Int) - (a1 : Int)):=i64w (by omega)
  go_cut [13,14] from 21 to 147 (fun vp vh wc=>∃ (q : Nat) (g : Int) (d3 : Array α),vp = .int .i64 q∧vh = .int .i64 g∧a1 ≤ q∧q < b1∧Hid (PermIn a1 b1 D2 d3)∧Hid (SW en w0 blk tail d3 wc))
  case first=>
   have HI:=zz (D.out.rev D2 a1 b1 _ HN2.out HS3.out (by omega) (by omega))
   by_cases hh : h = 2
   ·have hh1 : (h == 2) = true:=by simp [hh]
    subst hh
    go_wp2_with (go_at_call 226;(with_reducible refine HI.out.mono ?_);rintro e w3 ⟨rfl,d3,p3,hS3⟩)
    go_meet
    case rel=>exact ⟨b1 - 1 - (p - a1),1,d3,by first | rfl | (congr 1;omega),rfl,by omega,by omega,zz p3,zz hS3⟩
   ·have hh1 : (h == 2) = false:=by simp [hh]
    go_wp2_with fail
    go_meet
    case rel=>exact ⟨p,h,D2,rfl,rfl,by omega,by omega,zz (permIn_refl _ _ _),HS3⟩
  obtain ⟨q,g,D3,rfl,rfl,hq1,hq2,HP3,HS4⟩:=hcut;have HPA : Hid (PermIn a1 b1 D1 D3):=zz (permIn_trans _ _ _ _ _ HP2.out HP3.out);have HN3 : Hid (D3.size = n):=zz (HPA.out.1.trans HN1.out);have HB3 : Hid (Sort.Below (ltC cf) a1 b1 D3):=zz (HB1.out.perm (by have:=HN1.out;omega) HPA.out);have HF3 : Hid (∀ R,PermIn a1 b1 D3 R→SortedIn (ltC cf) a1 b1 R→PermIn a b d R∧SortedIn (ltC cf) a b R):=zz fun R h1 h2=>HF.out R (permIn_trans _ _ _ _ _ HPA.out h1) h2;clear HP2 HP3 HS2 HS3 HN2 HPA HF HN1 HB1
  go_upto_region 15 with fail
  go_cut [75] from 21 to 147 (fun v wc=>∃ t : Bool,v = .bool t∧Hid (SW en w0 blk tail D3 wc))
  case first=>
   cases x <;> cases y <;> (go_wp2_with fail;go_meet;exact ⟨_,by first | rfl | simp,HS4⟩)
  obtain ⟨t,rfl,HS4⟩:=hcut
  go_upto_if 75 with fail
  go_cut [14] from 21 to 147 (fun _ wc=>∃ (d4 : Array α),Hid (PermIn a1 b1 D3 d4)∧Hid (SW en w0 blk tail d4 wc))
  case first=>
   have HI:=zz (D.out.par D3 a1 b1 _ HN3.out HS4.out (by omega) (by omega) HB3.out)
   cases t
   case false=>
    go_wp2_with fail
    go_meet
    case rel=>exact ⟨D3,zz (permIn_refl _ _ _),HS4⟩
   go_upto_if 80 with (go_at_call 227;(with_reducible refine HI.out.mono ?_);rintro e w3 ⟨r,d3,rfl,p3,s3,hS3⟩)
   cases r
   case false=>
    go_wp2_with fail
    go_meet
    case rel=>exact ⟨d3,zz p3,zz hS3⟩
   case true=>
    go_wp2_with fail
    first | go_end0 | refine bodyPost_ret (results_none rfl _ _ _) rfl ?_
    obtain ⟨q1,q2⟩:=HF3.out d3 p3 (s3 (by first | rfl | trivial));exact ⟨rfl,d3,q1,q2,hS3⟩
  obtain ⟨D4,HP4,HS5⟩:=hcut;have HN4 : Hid (D4.size = n):=zz (HP4.out.1.trans HN3.out);have HB4 : Hid (Sort.Below (ltC cf) a1 b1 D4):=zz (HB3.out.perm (by have:=HN3.out;omega) HP4.out);have HF4 : Hid (∀ R,PermIn a1 b1 D4 R→SortedIn (ltC cf) a1 b1 R→PermIn a b d R∧SortedIn (ltC cf) a b R):=zz fun R h1 h2=>HF3.out R (permIn_trans _ _ _ _ _ HP4.out h1) h2;clear HP4 HF3 HB3 HN3 HS4;have hge : n ≤ D4.size:=by have:=HN4.out;omega
  have hSd:=HS5.out.drew
  go_upto_region 17 with fail
  go_cut [97] from 21 to 147 (fun v wc=>∃ t : Bool,v = .bool t∧Hid (t = true→0 < a1∧ltC cf D4[a1 - 1]! D4[q]! = false)∧Hid (SW en w0 blk tail D4 wc))
  case first=>
   rcases a1 with _ | a2
   ·have hz : ¬ (0 : Int) < 0:=by omega
    refine rgO [(0,true),(1,true),(2,true),(3,true),(4,true),(5,true),(6,true),(7,true),(8,true),(9,true),(10,true),(11,true),(12,true),(13,false),(14,true),(15,true),(16,true)] ?_;iterate 1 ((first | refine wK rfl ?_ | refine wL rfl ?_ | refine wB rfl ?_);simp only [pT])
    refine zAf (v:=.bool false) rfl rfl (fun W hW=>by first | (go_simp;done) | (go_simp;omega) | (go_simp;simp;omega)) ?_;simp only [pT];iterate 15 ((first | refine wK rfl ?_ | refine wL rfl ?_ | refine wB rfl ?_);simp only [pT])
    simp only [wpB]
    go_wp2_with fail
    go_meet
    case rel=>exact ⟨false,rfl,zz (fun h=>by cases h),zz hSd⟩
   ·have hz : (0 : Int) < (a2 : Int) + 1:=by omega
    have ka : IntKind.i64.wrap (a2 : Int) = (a2 : Int):=i64w (by omega);have hqn : q < n:=by omega
    have han : a2 < n:=by omega
    obtain ⟨c,hc⟩ : ∃ c,decide (cf D4[a2]! D4[q]! < 0) = c:=⟨_,rfl⟩
    have HCc:=zz hc;clear hc
    cases c
    case true=>
     refine rgO [(0,true),(1,true),(2,true),(3,true),(4,true),(5,true),(6,true),(7,true),(8,true),(9,true),(10,true),(11,true),(12,true),(13,false),(14,true),(15,true),(16,true)] ?_;iterate 1 ((first | refine wK rfl ?_ | refine wL rfl ?_ | refine wB rfl ?_);simp only [pT])
     refine zAf (v:=.bool true) rfl rfl (fun W hW=>by first | (go_simp;done) | (go_simp;omega) | (go_simp;simp;omega)) ?_;simp only [pT];iterate 5 ((first | refine wK rfl ?_ | refine wL rfl ?_ | refine wB rfl ?_);simp only [pT])
     refine zAf (v:=.pointer (some ⟨blk,(a2) * 2,none⟩)) rfl rfl (fun W hW=>zAj (n:=n) (i:=a2) rfl rfl (by first | omega | (simp only [*];try omega)) (by omega)) ?_;simp only [pT];refine zAf (v:=.agg (zAa (en (D4[a2]!)))) rfl rfl (fun W hW=>zAc (zAa (en (D4[a2]!))) (hSd.row.belowAll hW) rfl (zAo (bang (by omega))) zuA) ?_;simp only [pT];iterate 2 ((first | refine wK rfl ?_ | refine wL rfl ?_ | refine wB rfl ?_);simp only [pT])
     refine zAf (v:=.pointer (some ⟨blk,(q) * 2,none⟩)) rfl rfl (fun W hW=>zAj (n:=n) (i:=q) rfl rfl (by first | omega | (simp only [*];try omega)) (by omega)) ?_;simp only [pT];refine zAf (v:=.agg (zAa (en (D4[q]!)))) rfl rfl (fun W hW=>zAc (zAa (en (D4[q]!))) (hSd.row.belowAll hW) rfl (zAo (bang (by omega))) zuA) ?_;simp only [pT];refine zAG rfl rfl (fun K hK=>?_)
     go_simp
     refine (HC.out _ hSd.out _ _).mono ?_;rintro e w2 ⟨rfl,l2⟩;have hb2:=l2.below (Nat.le_refl _);have hS2:=hSd.lays l2;clear l2;refine hK _ _ hb2 ?_;clear hK K
     try simp only [pT]
     refine zAf (v:=.bool true) rfl rfl (fun W hW=>by go_simp;simpa using HCc.out) ?_;simp only [pT];iterate 2 ((first | refine wK rfl ?_ | refine wL rfl ?_ | refine wB rfl ?_);simp only [pT])
     simp only [wpB]
     go_wp2_with fail
     go_meet
     case rel=>exact ⟨false,by first | rfl | simp,zz (fun h=>by cases h),zz hS2⟩
    case false=>
     refine rgO [(0,true),(1,true),(2,true),(3,true),(4,true),(5,true),(6,true),(7,true),(8,true),(9,true),(10,true),(11,true),(12,true),(13,false),(14,true),(15,true),(16,true)] ?_;iterate 1 ((first | refine wK rfl ?_ | refine wL rfl ?_ | refine wB rfl ?_);simp only [pT])
     refine zAf (v:=.bool true) rfl rfl (fun W hW=>by first | (go_simp;done) | (go_simp;omega) | (go_simp;simp;omega)) ?_;simp only [pT];iterate 5 ((first | refine wK rfl ?_ | refine wL rfl ?_ | refine wB rfl ?_);simp only [pT])
     refine zAf (v:=.pointer (some ⟨blk,(a2) * 2,none⟩)) rfl rfl (fun W hW=>zAj (n:=n) (i:=a2) rfl rfl (by first | omega | (simp only [*];try omega)) (by omega)) ?_;simp only [pT];refine zAf (v:=.agg (zAa (en (D4[a2]!)))) rfl rfl (fun W hW=>zAc (zAa (en (D4[a2]!))) (hSd.row.belowAll hW) rfl (zAo (bang (by omega))) zuA) ?_;simp only [pT];iterate 2 ((first | refine wK rfl ?_ | refine wL rfl ?_ | refine wB rfl ?_);simp only [pT])
     refine zAf (v:=.pointer (some ⟨blk,(q) * 2,none⟩)) rfl rfl (fun W hW=>zAj (n:=n) (i:=q) rfl rfl (by first | omega | (simp only [*];try omega)) (by omega)) ?_;simp only [pT];refine zAf (v:=.agg (zAa (en (D4[q]!)))) rfl rfl (fun W hW=>zAc (zAa (en (D4[q]!))) (hSd.row.belowAll hW) rfl (zAo (bang (by omega))) zuA) ?_;simp only [pT];refine zAG rfl rfl (fun K hK=>?_)
     go_simp
     refine (HC.out _ hSd.out _ _).mono ?_;rintro e w2 ⟨rfl,l2⟩;have hb2:=l2.below (Nat.le_refl _);have hS2:=hSd.lays l2;clear l2;refine hK _ _ hb2 ?_;clear hK K
     try simp only [pT]
     refine zAf (v:=.bool false) rfl rfl (fun W hW=>by go_simp;simpa using HCc.out) ?_;simp only [pT];iterate 2 ((first | refine wK rfl ?_ | refine wL rfl ?_ | refine wB rfl ?_);simp only [pT])
     simp only [wpB]
     go_wp2_with fail
     go_meet
     case rel=>exact ⟨true,by first | rfl | simp,zz (fun _=>⟨by omega,HCc.out⟩),zz hS2⟩
  obtain ⟨t,rfl,HT,HS6⟩:=hcut;clear hSd HS5
  cases t
  case true=>
   have HI:=zz (D.out.eq D4 a1 b1 q _ HN4.out HS6.out (HT.out rfl).1 hq1 hq2 (by omega) HB4.out (HT.out rfl).2)
   go_wp2_with (go_at_call 228;(with_reducible refine HI.out.mono ?_);rintro e w3 ⟨mid,d5,rfl,hm1,hm2,hn5,hB5,HR5,hS5⟩)
   go_roundw
   case rel=>first | exact ⟨mid,b1,l2,x,y,d5,by omega,by omega,by omega,by omega,by first | rfl | go_num,by first | rfl | go_num,by first | rfl | go_num,by first | rfl | simp,by first | rfl | simp,zz hn5,zz hB5,zz (fun R h1 h2=>by obtain ⟨q1,q2⟩:=HR5.out R h1 h2;exact HF4.out R q1 q2),zz hS5⟩ | exact ⟨_,_,_,_,_,_,_,_,_,_,_,_,_,_,_,_,_,_,_,_,_,_,_,_,_,_,_,_,_,_,_,_,_,_,_,_,_,_,_,_,_,_,_,_,_,_,_,_,_,_,_,_,_,_,_,_,_,_,_,_,_,_,_,_,_,_,_,_,_,_,_,_,_,_,_,_,_,_,_,_,_,_,_,_,_,_,_,_,_,_,_,_,_,_,_,_,_,_,_,_,_,_,_,_,_,_,_,_,_,_,_,_,_,_,_,_,_,_,_,_,_,_,_,_,_,_,_,_,_,_,_,_,_,_,_,_,_,_,_,_,_,⟨mid,b1,l2,x,y,d5,by omega,by omega,by omega,by omega,by first | rfl | go_num,by first | rfl | go_num,by first | rfl | go_num,by first | rfl | simp,by first | rfl | simp,zz hn5,zz hB5,zz (fun R h1 h2=>by obtain ⟨q1,q2⟩:=HR5.out R h1 h2;exact HF4.out R q1 q2),zz hS5⟩,rfl⟩
   case measure=>(simp [intOf];try omega)
  case false=>
   have HI:=zz (D.out.part D4 a1 b1 q _ HN4.out HS6.out hq1 hq2 (by omega) HB4.out)
   go_upto_if 125 with (go_at_call 229;(with_reducible refine HI.out.mono ?_);rintro e w3 ⟨mid,ap,d5,rfl,hm1,hm2,hn5,hB5,hB6,HR5,HR6,hS5⟩)
   have HN5:=zz hn5;have HS7:=zz hS5;have HB5:=zz hB5;have HB6:=zz hB6;clear hn5 hS5 hB5 hB6 HI HS6 HT;have km : IntKind.i64.wrap ((mid : Int) - (a1 : Int)) = (mid : Int) - (a1 : Int):=i64w (by omega);have kr : IntKind.i64.wrap ((b1 : Int) - (mid : Int)) = (b1 : Int) - (mid : Int):=i64w (by omega)
   by_cases hlr : (mid : Int) - (a1 : Int) < (b1 : Int) - (mid : Int)
   ·have HI:=zz (IH.out d5 a1 mid l2 _ (by omega) HN5.out HS7.out hm1 (by omega) HB5.out hl2' a1 mid rfl rfl)
    go_wp2_with (go_at_call 212;(with_reducible refine HI.out.mono ?_);rintro e w4 ⟨rfl,d6,p6,s6,hS6⟩)
    have HL:=zz (HR5.out d6 p6 s6);have HN6 : Hid (d6.size = n):=zz (p6.1.trans HN5.out);go_roundw
    case rel=>first | exact ⟨mid + 1,b1,l2,_,ap,d6,by omega,by omega,by omega,by omega,by first | rfl | go_num,by first | rfl | go_num,by first | rfl | go_num,by first | rfl | simp,by first | rfl | simp,HN6,zz HL.out.1,zz (fun R h1 h2=>by obtain ⟨q1,q2⟩:=HL.out.2 R h1 h2;exact HF4.out R q1 q2),zz hS6⟩ | exact ⟨_,_,_,_,_,_,_,_,_,_,_,_,_,_,_,_,_,_,_,_,_,_,_,_,_,_,_,_,_,_,_,_,_,_,_,_,_,_,_,_,_,_,_,_,_,_,_,_,_,_,_,_,_,_,_,_,_,_,_,_,_,_,_,_,_,_,_,_,_,_,_,_,_,_,_,_,_,_,_,_,_,_,_,_,_,_,_,_,_,_,_,_,_,_,_,_,_,_,_,_,_,_,_,_,_,_,_,_,_,_,_,_,_,_,_,_,_,_,_,_,_,_,_,_,_,_,_,_,_,_,_,_,_,_,_,_,_,_,_,_,_,⟨mid + 1,b1,l2,_,ap,d6,by omega,by omega,by omega,by omega,by first | rfl | go_num,by first | rfl | go_num,by first | rfl | go_num,by first | rfl | simp,by first | rfl | simp,HN6,zz HL.out.1,zz (fun R h1 h2=>by obtain ⟨q1,q2⟩:=HL.out.2 R h1 h2;exact HF4.out R q1 q2),zz hS6⟩,rfl⟩
    case measure=>(simp [intOf];try omega)
   ·have HI:=zz (IH.out d5 (mid + 1) b1 l2 _ (by omega) HN5.out HS7.out (by omega) (by omega) HB6.out hl2' ((mid : Int) + 1) b1 (by omega) rfl)
    go_wp2_with (go_at_call 212;(with_reducible refine HI.out.mono ?_);rintro e w4 ⟨rfl,d6,p6,s6,hS6⟩)
    have HL:=zz (HR6.out d6 p6 s6);have HN6 : Hid (d6.size = n):=zz (p6.1.trans HN5.out);go_roundw
    case rel=>first | exact ⟨a1,mid,l2,_,ap,d6,by omega,by omega,by omega,by omega,by first | rfl | go_num,by first | rfl | go_num,by first | rfl | go_num,by first | rfl | simp,by first | rfl | simp,HN6,zz HL.out.1,zz (fun R h1 h2=>by obtain ⟨q1,q2⟩:=HL.out.2 R h1 h2;exact HF4.out R q1 q2),zz hS6⟩ | exact ⟨_,_,_,_,_,_,_,_,_,_,_,_,_,_,_,_,_,_,_,_,_,_,_,_,_,_,_,_,_,_,_,_,_,_,_,_,_,_,_,_,_,_,_,_,_,_,_,_,_,_,_,_,_,_,_,_,_,_,_,_,_,_,_,_,_,_,_,_,_,_,_,_,_,_,_,_,_,_,_,_,_,_,_,_,_,_,_,_,_,_,_,_,_,_,_,_,_,_,_,_,_,_,_,_,_,_,_,_,_,_,_,_,_,_,_,_,_,_,_,_,_,_,_,_,_,_,_,_,_,_,_,_,_,_,_,_,_,_,_,_,_,⟨a1,mid,l2,_,ap,d6,by omega,by omega,by omega,by omega,by first | rfl | go_num,by first | rfl | go_num,by first | rfl | go_num,by first | rfl | simp,by first | rfl | simp,HN6,zz HL.out.1,zz (fun R h1 h2=>by obtain ⟨q1,q2⟩:=HL.out.2 R h1 h2;exact HF4.out R q1 q2),zz hS6⟩,rfl⟩
    case measure=>(simp [intOf];try omega)
end
end Go.Proofs.YtbbblemfodpmaaaGreat
