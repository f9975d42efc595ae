/-A joint that lies inside a lead.-/
import Derived.Test.YtbbblemfodpmaaaGreatWebGb
set_option linter.unusedVariables false
set_option linter.unusedSimpArgs false
set_option maxHeartbeats 16000000
set_option maxRecDepth 100000
namespace Go.Proofs.YtbbblemfodpmaaaGreat
open Go.RowKit
theorem along1_any {b ba cb : Nat} {js : List Joint} (l : Lead) (j : Int) (w : World) (hcb : cb < w.heap.size) (hcc : w.cell? ⟨cb,0,none⟩ = some (.pointer (some ⟨b,0,none⟩))) (hb : b < w.heap.size) (hc2 : w.cell? ⟨b,2,none⟩ = some (.map (some ba)))
  (hma : MapAt vi zAL I64 w ba (zA7 js)) (hla : I64 l.a) (hlb : I64 l.b) (hj : I64 j) (hsm : ∀ id,zAy (ptA js id)) :
  Calls Tryz.prog 149 #[.agg (zAd l), .int .i64 j, .pointer (some ⟨cb,0,none⟩)] w fun e w'=>e = .returned (.bool (insA js l j))∧Lays w w':=by
 have HSM:=zz hsm;have HI : Hid (insA js l j = (j != l.a && j != l.b && onP (ptA js l.a) (ptA js l.b) (ptA js j))):=zz rfl;have hL : Lays w (w.alloc (.cells (zAd l) 31)).drew:=((Lays.refl w).alloc _).drew;have hB:=hL.below (Nat.le_refl _);have hmd : MapAt vi zAL I64 (w.alloc (.cells (zAd l) 31)).drew ba (zA7 js):=(hma.alloc _).of_block rfl;have hcd : (w.alloc (.cells (zAd l) 31)).drew.cell? ⟨cb,0,none⟩ = some (.pointer (some ⟨b,0,none⟩)):=(hB.cell (p:=⟨cb,0,none⟩) hcb).trans hcc;have hcm : (w.alloc (.cells (zAd l) 31)).drew.cell? ⟨b,2,none⟩ = some (.map (some ba)):=(hB.cell (p:=⟨b,2,none⟩) hb).trans hc2;obtain ⟨pa,hpa⟩ : ∃ p,(atA js l.a).getD zAF = p:=⟨_,rfl⟩
 obtain ⟨pb,hpb⟩ : ∃ p,(atA js l.b).getD zAF = p:=⟨_,rfl⟩
 obtain ⟨pj,hpj⟩ : ∃ p,(atA js j).getD zAF = p:=⟨_,rfl⟩
 have HPA:=zz hpa;have HPB:=zz hpb;have HPJ:=zz hpj;have SA : Hid (zAy pa):=zz (hpa ▸ hsm l.a);have SB : Hid (zAy pb):=zz (hpb ▸ hsm l.b);have SJ : Hid (zAy pj):=zz (hpj ▸ hsm j);have HR : Hid (onP (ptA js l.a) (ptA js l.b) (ptA js j) = onP pa pb pj):=zz (by unfold ptA;rw [hpa,hpb,hpj]);have IA:=zz hla;have IB:=zz hlb;have IJ:=zz hj;have h0 : zAe (w.alloc (.cells (zAd l) 31)).drew w.heap.size 31 (zAd l):=(zAe.new _ _ _).drew;have kcb : cb < (w.alloc (.cells (zAd l) 31)).drew.heap.size:=by show cb < (w.alloc _).heap.size;simp;omega
 have kb : b < (w.alloc (.cells (zAd l) 31)).drew.heap.size:=by show b < (w.alloc _).heap.size;simp;omega
 clear hsm hB hpa hpb hpj hla hlb hj hma hcc hc2 hcb hb
 by_cases h1 : j = l.a
 ·go_enter Tryz.func149,Tryz.ntmps149;go_wp2;refine rgO [(0,true),(1,true),(2,true),(3,true),(4,true),(5,true),(6,true),(7,true),(8,true),(9,true),(10,true),(11,true),(12,true),(13,true),(14,true),(15,true),(16,true),(17,true),(18,true),(19,true),(20,true),(21,true),(22,true),(23,true),(24,true),(25,true),(26,true),(27,true),(28,true),(29,true),(30,true),(31,false),(32,true),(33,true)] ?_;iterate 2 (refine wB rfl ?_;simp only [pT])
  refine zAf (v:=.int .i64 l.a) rfl rfl (fun W hW=>by have e : W.cell? ⟨w.heap.size,1,none⟩ = some (.int .i64 l.a):=((h0.belowAll hW).cell 1).trans rfl;go_simp) ?_;simp only [pT];refine zAf (v:=.bool false) rfl rfl (fun W hW=>by first | (go_simp;done) | (go_simp;simp [h1])) ?_;simp only [pT];refine wB rfl ?_;simp only [pT];iterate 4 (refine wK rfl ?_;simp only [pT])
  iterate 2 (refine wB rfl ?_;simp only [pT])
  iterate 20 (refine wK rfl ?_;simp only [pT])
  refine wL rfl ?_;simp only [pT];iterate 2 (refine wB rfl ?_;simp only [pT])
  simp only [wpB];go_wp2;go_ret;exact ⟨by rw [HI.out];simp [h1],hL⟩
 ·by_cases h2 : j = l.b
  ·have h1' : ¬ l.b = l.a:=h2 ▸ h1;go_enter Tryz.func149,Tryz.ntmps149;go_wp2;refine rgO [(0,true),(1,true),(2,true),(3,true),(4,true),(5,true),(6,true),(7,true),(8,true),(9,true),(10,true),(11,true),(12,true),(13,true),(14,true),(15,true),(16,true),(17,true),(18,true),(19,true),(20,true),(21,true),(22,true),(23,true),(24,true),(25,true),(26,true),(27,true),(28,true),(29,true),(30,true),(31,false),(32,true),(33,true)] ?_;iterate 2 (refine wB rfl ?_;simp only [pT])
   refine zAf (v:=.int .i64 l.a) rfl rfl (fun W hW=>by have e : W.cell? ⟨w.heap.size,1,none⟩ = some (.int .i64 l.a):=((h0.belowAll hW).cell 1).trans rfl;go_simp) ?_;simp only [pT];refine zAf (v:=.bool true) rfl rfl (fun W hW=>by first | (go_simp;done) | (go_simp;simp [h1'])) ?_;simp only [pT];iterate 3 (refine wB rfl ?_;simp only [pT])
   refine zAf (v:=.int .i64 l.b) rfl rfl (fun W hW=>by have e : W.cell? ⟨w.heap.size,2,none⟩ = some (.int .i64 l.b):=((h0.belowAll hW).cell 2).trans rfl;go_simp) ?_;simp only [pT];refine zAf (v:=.bool false) rfl rfl (fun W hW=>by first | (go_simp;done) | (go_simp;simp [h2])) ?_;simp only [pT];iterate 2 (refine wB rfl ?_;simp only [pT])
   iterate 20 (refine wK rfl ?_;simp only [pT])
   refine wL rfl ?_;simp only [pT];iterate 2 (refine wB rfl ?_;simp only [pT])
   simp only [wpB];go_wp2;go_ret;exact ⟨by rw [HI.out,show (j != l.b) = false by simp [h2]];simp,hL⟩
  ·go_enter Tryz.func149,Tryz.ntmps149;go_wp2;refine rgO [(0,true),(1,true),(2,true),(3,true),(4,true),(5,true),(6,true),(7,true),(8,true),(9,true),(10,true),(11,true),(12,true),(13,true),(14,true),(15,true),(16,true),(17,true),(18,true),(19,true),(20,true),(21,true),(22,true),(23,true),(24,true),(25,true),(26,true),(27,true),(28,true),(29,true),(30,true),(31,false),(32,true),(33,true)] ?_;iterate 2 (refine wB rfl ?_;simp only [pT])
   refine zAf (v:=.int .i64 l.a) rfl rfl (fun W hW=>by have e : W.cell? ⟨w.heap.size,1,none⟩ = some (.int .i64 l.a):=((h0.belowAll hW).cell 1).trans rfl;go_simp) ?_;simp only [pT];refine zAf (v:=.bool true) rfl rfl (fun W hW=>by first | (go_simp;done) | (go_simp;simp [h1])) ?_;simp only [pT];iterate 3 (refine wB rfl ?_;simp only [pT])
   refine zAf (v:=.int .i64 l.b) rfl rfl (fun W hW=>by have e : W.cell? ⟨w.heap.size,2,none⟩ = some (.int .i64 l.b):=((h0.belowAll hW).cell 2).trans rfl;go_simp) ?_;simp only [pT];refine zAf (v:=.bool true) rfl rfl (fun W hW=>by first | (go_simp;done) | (go_simp;simp [h2])) ?_;simp only [pT];iterate 2 (refine wB rfl ?_;simp only [pT])
   refine zAf (v:=.pointer (some ⟨b,0,none⟩)) rfl rfl (fun W hW=>by have e : W.cell? ⟨cb,0,none⟩ = some (.pointer (some ⟨b,0,none⟩)):=(hW.cell (p:=⟨cb,0,none⟩) kcb).trans hcd;go_simp) ?_;simp only [pT];iterate 2 (refine wB rfl ?_;simp only [pT])
   refine zAf (v:=.map (some ba)) rfl rfl (fun W hW=>by have e : W.cell? ⟨b,2,none⟩ = some (.map (some ba)):=(hW.cell (p:=⟨b,2,none⟩) kb).trans hcm;go_simp) ?_;simp only [pT];refine wB rfl ?_;simp only [pT];refine zAf (v:=.int .i64 l.a) rfl rfl (fun W hW=>by have e : W.cell? ⟨w.heap.size,1,none⟩ = some (.int .i64 l.a):=((h0.belowAll hW).cell 1).trans rfl;go_simp) ?_;simp only [pT];refine zAf (v:=zAL pa) rfl rfl (fun W hW=>Eq.trans (zA6 zAQ zuF zAF (zBq _) rfl (hmd.below hW hmd.lt) l.a IA.out rfl) (by rw [zBf,HPA.out];rfl)) ?_;simp only [pT];refine zAf (v:=.pointer (some ⟨b,0,none⟩)) rfl rfl (fun W hW=>by have e : W.cell? ⟨cb,0,none⟩ = some (.pointer (some ⟨b,0,none⟩)):=(hW.cell (p:=⟨cb,0,none⟩) kcb).trans hcd;go_simp) ?_;simp only [pT];iterate 2 (refine wB rfl ?_;simp only [pT])
   refine zAf (v:=.map (some ba)) rfl rfl (fun W hW=>by have e : W.cell? ⟨b,2,none⟩ = some (.map (some ba)):=(hW.cell (p:=⟨b,2,none⟩) kb).trans hcm;go_simp) ?_;simp only [pT];refine wB rfl ?_;simp only [pT];refine zAf (v:=.int .i64 l.b) rfl rfl (fun W hW=>by have e : W.cell? ⟨w.heap.size,2,none⟩ = some (.int .i64 l.b):=((h0.belowAll hW).cell 2).trans rfl;go_simp) ?_;simp only [pT];refine zAf (v:=zAL pb) rfl rfl (fun W hW=>Eq.trans (zA6 zAQ zuF zAF (zBq _) rfl (hmd.below hW hmd.lt) l.b IB.out rfl) (by rw [zBf,HPB.out];rfl)) ?_;simp only [pT];refine zAf (v:=.pointer (some ⟨b,0,none⟩)) rfl rfl (fun W hW=>by have e : W.cell? ⟨cb,0,none⟩ = some (.pointer (some ⟨b,0,none⟩)):=(hW.cell (p:=⟨cb,0,none⟩) kcb).trans hcd;go_simp) ?_;simp only [pT];iterate 2 (refine wB rfl ?_;simp only [pT])
   refine zAf (v:=.map (some ba)) rfl rfl (fun W hW=>by have e : W.cell? ⟨b,2,none⟩ = some (.map (some ba)):=(hW.cell (p:=⟨b,2,none⟩) kb).trans hcm;go_simp) ?_;simp only [pT];refine wB rfl ?_;simp only [pT];refine zAf (v:=zAL pj) rfl rfl (fun W hW=>Eq.trans (zA6 zAQ zuF zAF (zBq _) rfl (hmd.below hW hmd.lt) j IJ.out rfl) (by rw [zBf,HPJ.out];rfl)) ?_;simp only [pT];refine zAG rfl rfl (fun K hK=>?_)
   go_simp
   refine (on_any pa pb pj SA.out SB.out SJ.out _).mono ?_;rintro e w2 ⟨rfl,l2⟩;have hb2:=l2.below (Nat.le_refl _);refine hK _ _ hb2 ?_;clear hK K
   try simp only [pT]
   iterate 2 (refine wB rfl ?_;simp only [pT])
   simp only [wpB];go_wp2;go_ret;exact ⟨by rw [HI.out,HR.out];simp [h1,h2],hL.trans l2⟩
theorem along_any {b ba : Nat} {js : List Joint} (l m : Lead) (w : World) (hb : b < w.heap.size) (hc2 : w.cell? ⟨b,2,none⟩ = some (.map (some ba)))
  (hma : MapAt vi zAL I64 w ba (zA7 js)) (hl : I64 l.a∧I64 l.b) (hm : I64 m.a∧I64 m.b) (hsm : ∀ id,zAy (ptA js id)) :
  Calls Tryz.prog 82 #[.pointer (some ⟨b,0,none⟩), .agg (zAd l), .agg (zAd m)] w fun e w'=>e = .returned (.bool (zBH js l m))∧Lays w w':=by
 have hL : Lays w (((w.alloc (.cells #[.pointer (some ⟨b,0,none⟩)] 109)).alloc (.cells (zAd l) 31)).alloc (.cells (zAd m) 31)):=(((Lays.refl w).alloc _).alloc _).alloc _;have g0 : zAe (((w.alloc (.cells #[.pointer (some ⟨b,0,none⟩)] 109)).alloc (.cells (zAd l) 31)).alloc (.cells (zAd m) 31)) w.heap.size 109 #[.pointer (some ⟨b,0,none⟩)]:=((zAe.new _ _ _).alloc _).alloc _;have g1 : zAe (((w.alloc (.cells #[.pointer (some ⟨b,0,none⟩)] 109)).alloc (.cells (zAd l) 31)).alloc (.cells (zAd m) 31)) (w.heap.size + 1) 31 (zAd l):=by have h:=zAe.new (w.alloc (.cells #[.pointer (some ⟨b,0,none⟩)] 109)) 31 (zAd l);rw [World.size_alloc] at h;exact h.alloc _
 have g2 : zAe (((w.alloc (.cells #[.pointer (some ⟨b,0,none⟩)] 109)).alloc (.cells (zAd l) 31)).alloc (.cells (zAd m) 31)) (w.heap.size + 2) 31 (zAd m):=by have h:=zAe.new ((w.alloc (.cells #[.pointer (some ⟨b,0,none⟩)] 109)).alloc (.cells (zAd l) 31)) 31 (zAd m);rw [World.size_alloc,World.size_alloc] at h;exact h
 have k0 : w.heap.size < ((((w.alloc (.cells #[.pointer (some ⟨b,0,none⟩)] 109)).alloc (.cells (zAd l) 31)).alloc (.cells (zAd m) 31))).heap.size:=by simp;omega
 have HC : Hid (∀ (x : Lead) (j : Int) (p : Bool),insA js x j = p→I64 x.a∧I64 x.b→I64 j→∀ W,Lays ((((w.alloc (.cells #[.pointer (some ⟨b,0,none⟩)] 109)).alloc (.cells (zAd l) 31)).alloc (.cells (zAd m) 31))) W→Calls Tryz.prog 149 #[.agg (zAd x), .int .i64 j, .pointer (some ⟨w.heap.size,0,none⟩)] W fun e w'=>e = .returned (.bool p)∧Lays W w'):=zz fun x j p hp hx hj W hW=>by
  have hw:=hW.below (Nat.le_refl _);have hw0 : Below w.heap.size w W:=(hL.trans hW).below (Nat.le_refl _);exact hp ▸ along1_any x j W (Nat.lt_of_lt_of_le k0 hw.size) (((g0.belowAll hw).cell 0).trans rfl) (Nat.lt_of_lt_of_le hb hw0.size) ((hw0.cell (p:=⟨b,2,none⟩) hb).trans hc2) (hma.below hw0 hma.lt) hx.1 hx.2 hj hsm
 obtain ⟨p1,hp1⟩ : ∃ p,insA js l m.a = p:=⟨_,rfl⟩
 obtain ⟨p2,hp2⟩ : ∃ p,insA js l m.b = p:=⟨_,rfl⟩
 obtain ⟨p3,hp3⟩ : ∃ p,insA js m l.a = p:=⟨_,rfl⟩
 obtain ⟨p4,hp4⟩ : ∃ p,insA js m l.b = p:=⟨_,rfl⟩
 have HR : Hid (zBH js l m = (p1 || p2 || p3 || p4)):=zz (by unfold zBH;rw [hp1,hp2,hp3,hp4]);have HP1:=zz hp1;have HP2:=zz hp2;have HP3:=zz hp3;have HP4:=zz hp4;have IL:=zz hl;have IM:=zz hm;have ILA:=zz hl.1;have ILB:=zz hl.2;have IMA:=zz hm.1;have IMB:=zz hm.2;have HL:=Lays.refl ((((w.alloc (.cells #[.pointer (some ⟨b,0,none⟩)] 109)).alloc (.cells (zAd l) 31)).alloc (.cells (zAd m) 31)));clear hp1 hp2 hp3 hp4 hl hm hsm hma hc2 hb k0 g0
 cases p1
 case true=>
  go_enter Tryz.func82,Tryz.ntmps82
  go_wp2_with (first
   | (refine zLd 10 g1 (zAd l) zuD ?_)
   | (refine zLd 16 g1 (zAd l) zuD ?_)
   | (refine zLd 23 g2 (zAd m) zuD ?_)
   | (refine zLd 30 g2 (zAd m) zuD ?_)
   | (go_at_call 149;(with_reducible refine (HC.out l m.a true HP1.out IL.out IMA.out _ HL).mono ?_);rintro e w2 ⟨rfl,l2⟩;have hb2:=l2.below (Nat.le_refl _);have HL:=HL.trans l2;have g1:=g1.belowAll hb2;have g2:=g2.belowAll hb2;have c1 : w2.cell? ⟨w.heap.size + 1,1,none⟩ = some (vi l.a):=(g1.cell 1).trans rfl;have c2 : w2.cell? ⟨w.heap.size + 1,2,none⟩ = some (vi l.b):=(g1.cell 2).trans rfl;have c4 : w2.cell? ⟨w.heap.size + 1 + 1,2,none⟩ = some (vi m.b):=(g2.cell 2).trans rfl;clear hb2 l2)
   | (go_at_call 149;(with_reducible refine (HC.out l m.b p2 HP2.out IL.out IMB.out _ HL).mono ?_);rintro e w2 ⟨rfl,l2⟩;have hb2:=l2.below (Nat.le_refl _);have HL:=HL.trans l2;have g1:=g1.belowAll hb2;have g2:=g2.belowAll hb2;have c1 : w2.cell? ⟨w.heap.size + 1,1,none⟩ = some (vi l.a):=(g1.cell 1).trans rfl;have c2 : w2.cell? ⟨w.heap.size + 1,2,none⟩ = some (vi l.b):=(g1.cell 2).trans rfl;have c4 : w2.cell? ⟨w.heap.size + 1 + 1,2,none⟩ = some (vi m.b):=(g2.cell 2).trans rfl;clear hb2 l2)
   | (go_at_call 149;(with_reducible refine (HC.out m l.a p3 HP3.out IM.out ILA.out _ HL).mono ?_);rintro e w2 ⟨rfl,l2⟩;have hb2:=l2.below (Nat.le_refl _);have HL:=HL.trans l2;have g1:=g1.belowAll hb2;have g2:=g2.belowAll hb2;have c1 : w2.cell? ⟨w.heap.size + 1,1,none⟩ = some (vi l.a):=(g1.cell 1).trans rfl;have c2 : w2.cell? ⟨w.heap.size + 1,2,none⟩ = some (vi l.b):=(g1.cell 2).trans rfl;have c4 : w2.cell? ⟨w.heap.size + 1 + 1,2,none⟩ = some (vi m.b):=(g2.cell 2).trans rfl;clear hb2 l2)
   | (go_at_call 149;(with_reducible refine (HC.out m l.b p4 HP4.out IM.out ILB.out _ HL).mono ?_);rintro e w2 ⟨rfl,l2⟩;have hb2:=l2.below (Nat.le_refl _);have HL:=HL.trans l2;have g1:=g1.belowAll hb2;have g2:=g2.belowAll hb2;have c1 : w2.cell? ⟨w.heap.size + 1,1,none⟩ = some (vi l.a):=(g1.cell 1).trans rfl;have c2 : w2.cell? ⟨w.heap.size + 1,2,none⟩ = some (vi l.b):=(g1.cell 2).trans rfl;have c4 : w2.cell? ⟨w.heap.size + 1 + 1,2,none⟩ = some (vi m.b):=(g2.cell 2).trans rfl;clear hb2 l2))
  go_ret;exact ⟨by rw [HR.out];simp,hL.trans HL⟩
 case false=>
  cases p2
  case true=>
   go_enter Tryz.func82,Tryz.ntmps82
   go_wp2_with (first
    | (refine zLd 10 g1 (zAd l) zuD ?_)
    | (refine zLd 16 g1 (zAd l) zuD ?_)
    | (refine zLd 23 g2 (zAd m) zuD ?_)
    | (refine zLd 30 g2 (zAd m) zuD ?_)
    | (go_at_call 149;(with_reducible refine (HC.out l m.a false HP1.out IL.out IMA.out _ HL).mono ?_);rintro e w2 ⟨rfl,l2⟩;have hb2:=l2.below (Nat.le_refl _);have HL:=HL.trans l2;have g1:=g1.belowAll hb2;have g2:=g2.belowAll hb2;have c1 : w2.cell? ⟨w.heap.size + 1,1,none⟩ = some (vi l.a):=(g1.cell 1).trans rfl;have c2 : w2.cell? ⟨w.heap.size + 1,2,none⟩ = some (vi l.b):=(g1.cell 2).trans rfl;have c4 : w2.cell? ⟨w.heap.size + 1 + 1,2,none⟩ = some (vi m.b):=(g2.cell 2).trans rfl;clear hb2 l2)
    | (go_at_call 149;(with_reducible refine (HC.out l m.b true HP2.out IL.out IMB.out _ HL).mono ?_);rintro e w2 ⟨rfl,l2⟩;have hb2:=l2.below (Nat.le_refl _);have HL:=HL.trans l2;have g1:=g1.belowAll hb2;have g2:=g2.belowAll hb2;have c1 : w2.cell? ⟨w.heap.size + 1,1,none⟩ = some (vi l.a):=(g1.cell 1).trans rfl;have c2 : w2.cell? ⟨w.heap.size + 1,2,none⟩ = some (vi l.b):=(g1.cell 2).trans rfl;have c4 : w2.cell? ⟨w.heap.size + 1 + 1,2,none⟩ = some (vi m.b):=(g2.cell 2).trans rfl;clear hb2 l2)
    | (go_at_call 149;(with_reducible refine (HC.out m l.a p3 HP3.out IM.out ILA.out _ HL).mono ?_);rintro e w2 ⟨rfl,l2⟩;have hb2:=l2.below (Nat.le_refl _);have HL:=HL.trans l2;have g1:=g1.belowAll hb2;have g2:=g2.belowAll hb2;have c1 : w2.cell? ⟨w.heap.size + 1,1,none⟩ = some (vi l.a):=(g1.cell 1).trans rfl;have c2 : w2.cell? ⟨w.heap.size + 1,2,none⟩ = some (vi l.b):=(g1.cell 2).trans rfl;have c4 : w2.cell? ⟨w.heap.size + 1 + 1,2,none⟩ = some (vi m.b):=(g2.cell 2).trans rfl;clear hb2 l2)
    | (go_at_call 149;(with_reducible refine (HC.out m l.b p4 HP4.out IM.out ILB.out _ HL).mono ?_);rintro e w2 ⟨rfl,l2⟩;have hb2:=l2.below (Nat.le_refl _);have HL:=HL.trans l2;have g1:=g1.belowAll hb2;have g2:=g2.belowAll hb2;have c1 : w2.cell? ⟨w.heap.size + 1,1,none⟩ = some (vi l.a):=(g1.cell 1).trans rfl;have c2 : w2.cell? ⟨w.heap.size + 1,2,none⟩ = some (vi l.b):=(g1.cell 2).trans rfl;have c4 : w2.cell? ⟨w.heap.size + 1 + 1,2,none⟩ = some (vi m.b):=(g2.cell 2).trans rfl;clear hb2 l2))
   go_ret;exact ⟨by rw [HR.out];simp,hL.trans HL⟩
  case false=>
   cases p3
   case true=>
    go_enter Tryz.func82,Tryz.ntmps82
    go_wp2_with (first
     | (refine zLd 10 g1 (zAd l) zuD ?_)
     | (refine zLd 16 g1 (zAd l) zuD ?_)
     | (refine zLd 23 g2 (zAd m) zuD ?_)
     | (refine zLd 30 g2 (zAd m) zuD ?_)
     | (go_at_call 149;(with_reducible refine (HC.out l m.a false HP1.out IL.out IMA.out _ HL).mono ?_);rintro e w2 ⟨rfl,l2⟩;have hb2:=l2.below (Nat.le_refl _);have HL:=HL.trans l2;have g1:=g1.belowAll hb2;have g2:=g2.belowAll hb2;have c1 : w2.cell? ⟨w.heap.size + 1,1,none⟩ = some (vi l.a):=(g1.cell 1).trans rfl;have c2 : w2.cell? ⟨w.heap.size + 1,2,none⟩ = some (vi l.b):=(g1.cell 2).trans rfl;have c4 : w2.cell? ⟨w.heap.size + 1 + 1,2,none⟩ = some (vi m.b):=(g2.cell 2).trans rfl;clear hb2 l2)
     | (go_at_call 149;(with_reducible refine (HC.out l m.b false HP2.out IL.out IMB.out _ HL).mono ?_);rintro e w2 ⟨rfl,l2⟩;have hb2:=l2.below (Nat.le_refl _);have HL:=HL.trans l2;have g1:=g1.belowAll hb2;have g2:=g2.belowAll hb2;have c1 : w2.cell? ⟨w.heap.size + 1,1,none⟩ = some (vi l.a):=(g1.cell 1).trans rfl;have c2 : w2.cell? ⟨w.heap.size + 1,2,none⟩ = some (vi l.b):=(g1.cell 2).trans rfl;have c4 : w2.cell? ⟨w.heap.size + 1 + 1,2,none⟩ = some (vi m.b):=(g2.cell 2).trans rfl;clear hb2 l2)
     | (go_at_call 149;(with_reducible refine (HC.out m l.a true HP3.out IM.out ILA.out _ HL).mono ?_);rintro e w2 ⟨rfl,l2⟩;have hb2:=l2.below (Nat.le_refl _);have HL:=HL.trans l2;have g1:=g1.belowAll hb2;have g2:=g2.belowAll hb2;have c1 : w2.cell? ⟨w.heap.size + 1,1,none⟩ = some (vi l.a):=(g1.cell 1).trans rfl;have c2 : w2.cell? ⟨w.heap.size + 1,2,none⟩ = some (vi l.b):=(g1.cell 2).trans rfl;have c4 : w2.cell? ⟨w.heap.size + 1 + 1,2,none⟩ = some (vi m.b):=(g2.cell 2).trans rfl;clear hb2 l2)
     | (go_at_call 149;(with_reducible refine (HC.out m l.b p4 HP4.out IM.out ILB.out _ HL).mono ?_);rintro e w2 ⟨rfl,l2⟩;have hb2:=l2.below (Nat.le_refl _);have HL:=HL.trans l2;have g1:=g1.belowAll hb2;have g2:=g2.belowAll hb2;have c1 : w2.cell? ⟨w.heap.size + 1,1,none⟩ = some (vi l.a):=(g1.cell 1).trans rfl;have c2 : w2.cell? ⟨w.heap.size + 1,2,none⟩ = some (vi l.b):=(g1.cell 2).trans rfl;have c4 : w2.cell? ⟨w.heap.size + 1 + 1,2,none⟩ = some (vi m.b):=(g2.cell 2).trans rfl;clear hb2 l2))
    go_ret;exact ⟨by rw [HR.out];simp,hL.trans HL⟩
   case false=>
    go_enter Tryz.func82,Tryz.ntmps82
    go_wp2_with (first
     | (refine zLd 10 g1 (zAd l) zuD ?_)
     | (refine zLd 16 g1 (zAd l) zuD ?_)
     | (refine zLd 23 g2 (zAd m) zuD ?_)
     | (refine zLd 30 g2 (zAd m) zuD ?_)
     | (go_at_call 149;(with_reducible refine (HC.out l m.a false HP1.out IL.out IMA.out _ HL).mono ?_);rintro e w2 ⟨rfl,l2⟩;have hb2:=l2.below (Nat.le_refl _);have HL:=HL.trans l2;have g1:=g1.belowAll hb2;have g2:=g2.belowAll hb2;have c1 : w2.cell? ⟨w.heap.size + 1,1,none⟩ = some (vi l.a):=(g1.cell 1).trans rfl;have c2 : w2.cell? ⟨w.heap.size + 1,2,none⟩ = some (vi l.b):=(g1.cell 2).trans rfl;have c4 : w2.cell? ⟨w.heap.size + 1 + 1,2,none⟩ = some (vi m.b):=(g2.cell 2).trans rfl;clear hb2 l2)
     | (go_at_call 149;(with_reducible refine (HC.out l m.b false HP2.out IL.out IMB.out _ HL).mono ?_);rintro e w2 ⟨rfl,l2⟩;have hb2:=l2.below (Nat.le_refl _);have HL:=HL.trans l2;have g1:=g1.belowAll hb2;have g2:=g2.belowAll hb2;have c1 : w2.cell? ⟨w.heap.size + 1,1,none⟩ = some (vi l.a):=(g1.cell 1).trans rfl;have c2 : w2.cell? ⟨w.heap.size + 1,2,none⟩ = some (vi l.b):=(g1.cell 2).trans rfl;have c4 : w2.cell? ⟨w.heap.size + 1 + 1,2,none⟩ = some (vi m.b):=(g2.cell 2).trans rfl;clear hb2 l2)
     | (go_at_call 149;(with_reducible refine (HC.out m l.a false HP3.out IM.out ILA.out _ HL).mono ?_);rintro e w2 ⟨rfl,l2⟩;have hb2:=l2.below (Nat.le_refl _);have HL:=HL.trans l2;have g1:=g1.belowAll hb2;have g2:=g2.belowAll hb2;have c1 : w2.cell? ⟨w.heap.size + 1,1,none⟩ = some (vi l.a):=(g1.cell 1).trans rfl;have c2 : w2.cell? ⟨w.heap.size + 1,2,none⟩ = some (vi l.b):=(g1.cell 2).trans rfl;have c4 : w2.cell? ⟨w.heap.size + 1 + 1,2,none⟩ = some (vi m.b):=(g2.cell 2).trans rfl;clear hb2 l2)
     | (go_at_call 149;(with_reducible refine (HC.out m l.b p4 HP4.out IM.out ILB.out _ HL).mono ?_);rintro e w2 ⟨rfl,l2⟩;have hb2:=l2.below (Nat.le_refl _);have HL:=HL.trans l2;have g1:=g1.belowAll hb2;have g2:=g2.belowAll hb2;have c1 : w2.cell? ⟨w.heap.size + 1,1,none⟩ = some (vi l.a):=(g1.cell 1).trans rfl;have c2 : w2.cell? ⟨w.heap.size + 1,2,none⟩ = some (vi l.b):=(g1.cell 2).trans rfl;have c4 : w2.cell? ⟨w.heap.size + 1 + 1,2,none⟩ = some (vi m.b):=(g2.cell 2).trans rfl;clear hb2 l2))
    go_ret;exact ⟨by rw [HR.out];simp,hL.trans HL⟩
end Go.Proofs.YtbbblemfodpmaaaGreat
