/-Two leads that cross.-/
import Derived.Test.YtbbblemfodpmaaaGreatWebGb
import Derived.Test.YtbbblemfodpmaaaGreatOrdA
set_option linter.unusedVariables false
set_option linter.unusedSimpArgs false
set_option maxHeartbeats 16000000
set_option maxRecDepth 100000
namespace Go.Proofs.YtbbblemfodpmaaaGreat
open Go.RowKit
theorem Lays.allocN {w : World} (c : Obj) : ∀ (n : Nat) {w' : World},Lays w w'→Lays w (allocN c n w')
 | 0,_,h=>h
 | n + 1,_,h=>Lays.allocN c n (h.alloc c)
theorem allocN_at {c : Obj} : ∀ (n : Nat) (w : World),(∀ b,b < w.heap.size→(allocN c n w).heap[b]? = w.heap[b]?)∧∀ b,w.heap.size ≤ b→b < w.heap.size + n→(allocN c n w).heap[b]? = some c
 | 0,w=>⟨fun _ _=>rfl,fun b h1 h2=>by omega⟩
 | n + 1,w=>by
  obtain ⟨h1,h2⟩:=allocN_at (c:=c) n (w.alloc c);have hs : (w.alloc c).heap.size = w.heap.size + 1:=by simp
  have hk:=MapKept.heap_alloc w c;refine ⟨fun b hb=>(h1 b (by omega)).trans (hk.2 b hb),fun b hb hb2=>?_⟩
  rcases Nat.eq_or_lt_of_le hb with e | hlt
  ·subst e;exact (h1 _ (by omega)).trans hk.1
  ·exact h2 b (by omega) (by omega)
theorem zFY (x y : Int) : cmpZ x y = -1 ∨ cmpZ x y = 0 ∨ cmpZ x y = 1:=by unfold cmpZ;split;simp;split <;> simp
theorem cmpZ_mul (x y u v : Int) : IntKind.i64.wrap (cmpZ x y * cmpZ u v) = cmpZ x y * cmpZ u v:=by
 rcases zFY x y with h | h | h <;> rcases zFY u v with k | k | k <;> rw [h,k] <;> rfl
theorem meet_any {b ba : Nat} {js : List Joint} (l m : Lead) (w : World) (hb : b < w.heap.size) (hc2 : w.cell? ⟨b,2,none⟩ = some (.map (some ba)))
  (hma : MapAt vi zAL I64 w ba (zA7 js)) (hl : I64 l.a∧I64 l.b) (hm : I64 m.a∧I64 m.b) (hsm : ∀ id,zAy (ptA js id)) :
  Calls Tryz.prog 81 #[.pointer (some ⟨b,0,none⟩), .agg (zAd l), .agg (zAd m)] w fun e w'=>e = .returned (.bool (zBO js l m))∧Below w.heap.size w w':=by
 have hL : Lays w ((w.alloc (.cells (zAd l) 31)).alloc (.cells (zAd m) 31)):=((Lays.refl w).alloc _).alloc _;have hB:=hL.below (Nat.le_refl _);have hmd : MapAt vi zAL I64 (((w.alloc (.cells (zAd l) 31)).alloc (.cells (zAd m) 31))).drew ba (zA7 js):=((hma.alloc _).alloc _).of_block rfl;have hcm : (((w.alloc (.cells (zAd l) 31)).alloc (.cells (zAd m) 31))).drew.cell? ⟨b,2,none⟩ = some (.map (some ba)):=(hB.cell (p:=⟨b,2,none⟩) hb).trans hc2;have h0 : zAe (((w.alloc (.cells (zAd l) 31)).alloc (.cells (zAd m) 31))).drew w.heap.size 31 (zAd l):=((zAe.new _ _ _).alloc _).drew;have h1 : zAe (((w.alloc (.cells (zAd l) 31)).alloc (.cells (zAd m) 31))).drew (w.heap.size + 1) 31 (zAd m):=by have h:=zAe.new (w.alloc (.cells (zAd l) 31)) 31 (zAd m);rw [World.size_alloc] at h;exact h.drew
 have hszD : w.heap.size + 2 ≤ (((w.alloc (.cells (zAd l) 31)).alloc (.cells (zAd m) 31))).drew.heap.size:=by show _ ≤ (((w.alloc (.cells (zAd l) 31)).alloc (.cells (zAd m) 31))).heap.size;simp
 have kbn : b < w.heap.size + 2:=by omega
 have kbm : ba < w.heap.size + 2:=by have:=hma.lt;omega
 have kb : b < (((w.alloc (.cells (zAd l) 31)).alloc (.cells (zAd m) 31))).drew.heap.size:=by show b < (((w.alloc (.cells (zAd l) 31)).alloc (.cells (zAd m) 31))).heap.size;simp;omega
 obtain ⟨pa,hpa⟩ : ∃ p,(atA js l.a).getD zAF = p:=⟨_,rfl⟩
 obtain ⟨pb,hpb⟩ : ∃ p,(atA js l.b).getD zAF = p:=⟨_,rfl⟩
 obtain ⟨qa,hqa⟩ : ∃ p,(atA js m.a).getD zAF = p:=⟨_,rfl⟩
 obtain ⟨qb,hqb⟩ : ∃ p,(atA js m.b).getD zAF = p:=⟨_,rfl⟩
 have HPA:=zz hpa;have HPB:=zz hpb;have HQA:=zz hqa;have HQB:=zz hqb;have Spa : Hid (zAy pa):=zz (hpa ▸ hsm l.a);have Spb : Hid (zAy pb):=zz (hpb ▸ hsm l.b);have Sqa : Hid (zAy qa):=zz (hqa ▸ hsm m.a);have Sqb : Hid (zAy qb):=zz (hqb ▸ hsm m.b);have IA:=zz hl.1;have IB:=zz hl.2;have JA:=zz hm.1;have JB:=zz hm.2;obtain ⟨x1,hx1⟩ : ∃ x,decide (cmpZ (zAw pa pb qa) 0 * cmpZ (zAw pa pb qb) 0 < 0) = x:=⟨_,rfl⟩
 obtain ⟨x2,hx2⟩ : ∃ x,decide (cmpZ (zAw qa qb pa) 0 * cmpZ (zAw qa qb pb) 0 < 0) = x:=⟨_,rfl⟩
 have HX1:=zz hx1;have HX2:=zz hx2;obtain ⟨e1,he1⟩ : ∃ x,(l.a == m.a) = x:=⟨_,rfl⟩
 obtain ⟨e2,he2⟩ : ∃ x,(l.a == m.b) = x:=⟨_,rfl⟩
 obtain ⟨e3,he3⟩ : ∃ x,(l.b == m.a) = x:=⟨_,rfl⟩
 obtain ⟨e4,he4⟩ : ∃ x,(l.b == m.b) = x:=⟨_,rfl⟩
 have HM : Hid (zBO js l m = if e1 || e2 || e3 || e4 then false else x1 && x2):=zz (by unfold zBO ptA;rw [hpa,hpb,hqa,hqb,he1,he2,he3,he4,hx1,hx2]);clear hsm hma hc2 hpa hpb hqa hqb hx1 hx2 hl hm hb hB;have he1':=zz he1;have he2':=zz he2;have he3':=zz he3;have he4':=zz he4;clear he1 he2 he3 he4;go_enter Tryz.func81,Tryz.ntmps81;go_wp2;refine zFR (Below (w.heap.size + 2) (((w.alloc (.cells (zAd l) 31)).alloc (.cells (zAd m) 31))).drew) [0,1,2,3,4,5,6,7,8,9,10,11,12,13,14,15,16,17,18,19,20,21,22,23,24,25,26,27] 4 [(28,7),(29,8),(30,9),(31,10)] (.cells #[vi 0,vi 0] 27) [(32,false),(33,false),(34,false),(35,false)] rfl (by kernel_rfl) (by kernel_rfl) (by decide) (by decide) (fun d _ _ _ _ h=>by cases d <;> exact h) (fun W hW=>hW.alloc (Nat.le_trans hszD hW.size) _) (Below.refl _ _) (fun k hk=>by simp only [List.mem_cons,List.not_mem_nil,or_false] at hk;rcases hk with rfl | rfl | rfl | rfl <;> exact fun K a w h=>zBR (.alloc 27) rfl (by kernel_rfl) h) ?_;iterate 3 (refine wA rfl ?_;simp only [pT])
 refine zCq (v:=.map (some ba)) rfl rfl (fun W hW=>by have e : W.cell? ⟨b,2,none⟩ = some (.map (some ba)):=(hW.cell (p:=⟨b,2,none⟩) (by omega)).trans hcm;go_simp) ?_;simp only [pT];refine wA rfl ?_;simp only [pT];refine zCq (v:=.int .i64 l.a) rfl rfl (fun W hW=>by have e : W.cell? ⟨w.heap.size,1,none⟩ = some (.int .i64 l.a):=((h0.below hW (by omega)).cell 1).trans rfl;go_simp) ?_;simp only [pT];refine zCq (v:=zAL pa) rfl rfl (fun W hW=>Eq.trans (zA6 zAQ zuF zAF (zBq _) rfl (hmd.below hW (by omega)) l.a IA.out rfl) (by rw [zBf,HPA.out];rfl)) ?_;simp only [pT];iterate 3 (refine wA rfl ?_;simp only [pT])
 refine zCq (v:=.map (some ba)) rfl rfl (fun W hW=>by have e : W.cell? ⟨b,2,none⟩ = some (.map (some ba)):=(hW.cell (p:=⟨b,2,none⟩) (by omega)).trans hcm;go_simp) ?_;simp only [pT];refine wA rfl ?_;simp only [pT];refine zCq (v:=.int .i64 l.b) rfl rfl (fun W hW=>by have e : W.cell? ⟨w.heap.size,2,none⟩ = some (.int .i64 l.b):=((h0.below hW (by omega)).cell 2).trans rfl;go_simp) ?_;simp only [pT];refine zCq (v:=zAL pb) rfl rfl (fun W hW=>Eq.trans (zA6 zAQ zuF zAF (zBq _) rfl (hmd.below hW (by omega)) l.b IB.out rfl) (by rw [zBf,HPB.out];rfl)) ?_;simp only [pT];iterate 3 (refine wA rfl ?_;simp only [pT])
 refine zCq (v:=.map (some ba)) rfl rfl (fun W hW=>by have e : W.cell? ⟨b,2,none⟩ = some (.map (some ba)):=(hW.cell (p:=⟨b,2,none⟩) (by omega)).trans hcm;go_simp) ?_;simp only [pT];refine wA rfl ?_;simp only [pT];refine zCq (v:=.int .i64 m.a) rfl rfl (fun W hW=>by have e : W.cell? ⟨w.heap.size + 1,1,none⟩ = some (.int .i64 m.a):=((h1.below hW (by omega)).cell 1).trans rfl;go_simp) ?_;simp only [pT];refine zCq (v:=zAL qa) rfl rfl (fun W hW=>Eq.trans (zA6 zAQ zuF zAF (zBq _) rfl (hmd.below hW (by omega)) m.a JA.out rfl) (by rw [zBf,HQA.out];rfl)) ?_;simp only [pT];iterate 3 (refine wA rfl ?_;simp only [pT])
 refine zCq (v:=.map (some ba)) rfl rfl (fun W hW=>by have e : W.cell? ⟨b,2,none⟩ = some (.map (some ba)):=(hW.cell (p:=⟨b,2,none⟩) (by omega)).trans hcm;go_simp) ?_;simp only [pT];refine wA rfl ?_;simp only [pT];refine zCq (v:=.int .i64 m.b) rfl rfl (fun W hW=>by have e : W.cell? ⟨w.heap.size + 1,2,none⟩ = some (.int .i64 m.b):=((h1.below hW (by omega)).cell 2).trans rfl;go_simp) ?_;simp only [pT];refine zCq (v:=zAL qb) rfl rfl (fun W hW=>Eq.trans (zA6 zAQ zuF zAF (zBq _) rfl (hmd.below hW (by omega)) m.b JB.out rfl) (by rw [zBf,HQB.out];rfl)) ?_;simp only [pT];intro f hf hi;obtain ⟨ga,hga⟩ : ∃ g,f 28 = g:=⟨_,rfl⟩
 obtain ⟨gb,hgb⟩ : ∃ g,f 29 = g:=⟨_,rfl⟩
 obtain ⟨gc,hgc⟩ : ∃ g,f 30 = g:=⟨_,rfl⟩
 obtain ⟨gd,hgd⟩ : ∃ g,f 31 = g:=⟨_,rfl⟩
 have ra:=hf (28,7) (by simp);have rb:=hf (29,8) (by simp);have rc:=hf (30,9) (by simp);have rd:=hf (31,10) (by simp);have nab:=hi (28,7) (by simp) (29,8) (by simp);have nac:=hi (28,7) (by simp) (30,9) (by simp);have nad:=hi (28,7) (by simp) (31,10) (by simp);have nbc:=hi (29,8) (by simp) (30,9) (by simp);have nbd:=hi (29,8) (by simp) (31,10) (by simp);have ncd:=hi (30,9) (by simp) (31,10) (by simp);simp only [hga,hgb,hgc,hgd] at ra rb rc rd nab nac nad nbc nbd ncd;simp only [zAP,hga,hgb,hgc,hgd,pT];have hsz : (((w.alloc (.cells (zAd l) 31)).alloc (.cells (zAd m) 31))).drew.heap.size = w.heap.size + 2:=by show (((w.alloc (.cells (zAd l) 31)).alloc (.cells (zAd m) 31))).heap.size = _;simp
 have hAN:=allocN_at (c:=.cells #[vi 0,vi 0] 27) 4 (((w.alloc (.cells (zAd l) 31)).alloc (.cells (zAd m) 31))).drew;have hLN:=hL.drew.allocN (.cells #[vi 0,vi 0] 27) 4;obtain ⟨wN,hwN⟩ : ∃ wN,allocN (.cells #[vi 0,vi 0] 27) 4 (((w.alloc (.cells (zAd l) 31)).alloc (.cells (zAd m) 31))).drew = wN:=⟨_,rfl⟩
 rw [hwN] at hAN hLN ⊢;have ka : zAe wN ga 27 #[vi 0,vi 0]:=hAN.2 _ ra.1 (by omega);have kb2 : zAe wN gb 27 #[vi 0,vi 0]:=hAN.2 _ rb.1 (by omega);have kc : zAe wN gc 27 #[vi 0,vi 0]:=hAN.2 _ rc.1 (by omega);have kd : zAe wN gd 27 #[vi 0,vi 0]:=hAN.2 _ rd.1 (by omega);have hTn : Below (w.heap.size + 2) (((w.alloc (.cells (zAd l) 31)).alloc (.cells (zAd m) 31))).drew wN:=by have h:=((Lays.refl (((w.alloc (.cells (zAd l) 31)).alloc (.cells (zAd m) 31))).drew).allocN (.cells #[vi 0,vi 0] 27) 4).below (Nat.le_refl _);rw [hwN,hsz] at h;exact h
 rw [hsz] at ra rb rc rd;have dab : ga ≠ gb:=fun e=>absurd (nab e) (by decide);have dac : ga ≠ gc:=fun e=>absurd (nac e) (by decide);have dad : ga ≠ gd:=fun e=>absurd (nad e) (by decide);have dbc : gb ≠ gc:=fun e=>absurd (nbc e) (by decide);have dbd : gb ≠ gd:=fun e=>absurd (nbd e) (by decide);have dcd : gc ≠ gd:=fun e=>absurd (ncd e) (by decide);clear nab nac nad nbc nbd ncd hAN hf hi hga hgb hgc hgd;refine zCo rfl rfl (fun K hK=>?_);refine zAr ka 27 _ _ rfl rfl (zAL pa) rfl (by kernel_rfl) rfl (zAD _) ?_;intro w2 bn tn;replace kb2:=kb2.turn tn (by omega);replace kc:=kc.turn tn (by omega);replace kd:=kd.turn tn (by omega);replace ka:=bn.eqv (cs':=zAb pa) (by simp [zAx,zAb,zAL,Value.cells]);replace hTn:=hTn.trans (tn.below (by omega));clear bn tn;refine hK _ _ hTn ?_;clear hK K
 try simp only [pT]
 refine zCo rfl rfl (fun K hK=>?_);refine zAr kb2 27 _ _ rfl rfl (zAL pb) rfl (by kernel_rfl) rfl (zAD _) ?_;intro w2 bn tn;replace ka:=ka.turn tn (by omega);replace kc:=kc.turn tn (by omega);replace kd:=kd.turn tn (by omega);replace kb2:=bn.eqv (cs':=zAb pb) (by simp [zAx,zAb,zAL,Value.cells]);replace hTn:=hTn.trans (tn.below (by omega));clear bn tn;refine hK _ _ hTn ?_;clear hK K
 try simp only [pT]
 refine zCo rfl rfl (fun K hK=>?_);refine zAr kc 27 _ _ rfl rfl (zAL qa) rfl (by kernel_rfl) rfl (zAD _) ?_;intro w2 bn tn;replace ka:=ka.turn tn (by omega);replace kb2:=kb2.turn tn (by omega);replace kd:=kd.turn tn (by omega);replace kc:=bn.eqv (cs':=zAb qa) (by simp [zAx,zAb,zAL,Value.cells]);replace hTn:=hTn.trans (tn.below (by omega));clear bn tn;refine hK _ _ hTn ?_;clear hK K
 try simp only [pT]
 refine zCo rfl rfl (fun K hK=>?_);refine zAr kd 27 _ _ rfl rfl (zAL qb) rfl (by kernel_rfl) rfl (zAD _) ?_;intro w2 bn tn;replace ka:=ka.turn tn (by omega);replace kb2:=kb2.turn tn (by omega);replace kc:=kc.turn tn (by omega);replace kd:=bn.eqv (cs':=zAb qb) (by simp [zAx,zAb,zAL,Value.cells]);replace hTn:=hTn.trans (tn.below (by omega));clear bn tn;refine hK _ _ hTn ?_;clear hK K
 try simp only [pT]
 simp only [wpS];have h0:=h0.below hTn (by omega);have h1:=h1.below hTn (by omega);have hEnd : Below w.heap.size w w2:=(hL.drew.below (Nat.le_refl _)).trans (hTn.mono (by omega));have c0 : w2.cell? ⟨w.heap.size,1,none⟩ = some (.int .i64 l.a):=(h0.cell 1).trans rfl;have c1 : w2.cell? ⟨w.heap.size,2,none⟩ = some (.int .i64 l.b):=(h0.cell 2).trans rfl;have c2 : w2.cell? ⟨w.heap.size + 1,1,none⟩ = some (.int .i64 m.a):=(h1.cell 1).trans rfl;have c3 : w2.cell? ⟨w.heap.size + 1,2,none⟩ = some (.int .i64 m.b):=(h1.cell 2).trans rfl;clear hLN hwN hTn h0 h1 hmd hcm hL;have he1:=he1'.out;have he2:=he2'.out;have he3:=he3'.out;have he4:=he4'.out
 cases e1 with
 | true=>go_wp2;go_ret;exact ⟨by rw [HM.out];simp,hEnd⟩
 | false=>
  cases e2 with
  | true=>go_wp2;go_ret;exact ⟨by rw [HM.out];simp,hEnd⟩
  | false=>
   cases e3 with
   | true=>go_wp2;go_ret;exact ⟨by rw [HM.out];simp,hEnd⟩
   | false=>
    cases e4 with
    | true=>go_wp2;go_ret;exact ⟨by rw [HM.out];simp,hEnd⟩
    | false=>
     go_wp2;replace ka:=ka.drew;replace kb2:=kb2.drew;replace kc:=kc.drew;replace kd:=kd.drew;replace hEnd:=hEnd.drew;refine rgO [(0,true),(1,true),(2,true),(5,true),(6,true),(7,true),(3,false),(4,false),(8,false),(9,false),(10,true),(11,true),(12,true),(13,true),(14,true),(15,true),(18,true),(19,true),(20,true),(16,false),(17,false),(21,false),(22,false),(23,true),(24,true),(25,true),(26,true)] ?_;refine zAf (v:=.agg (zAb pa)) rfl rfl (fun W hW=>zAc (zAb pa) (ka.belowAll hW) rfl (zAg _) zuB) ?_;simp only [pT];refine zAf (v:=.agg (zAb pb)) rfl rfl (fun W hW=>zAc (zAb pb) (kb2.belowAll hW) rfl (zAg _) zuB) ?_;simp only [pT];refine zAf (v:=.agg (zAb qa)) rfl rfl (fun W hW=>zAc (zAb qa) (kc.belowAll hW) rfl (zAg _) zuB) ?_;simp only [pT];refine zAf (v:=.agg (zAb pa)) rfl rfl (fun W hW=>zAc (zAb pa) (ka.belowAll hW) rfl (zAg _) zuB) ?_;simp only [pT];refine zAf (v:=.agg (zAb pb)) rfl rfl (fun W hW=>zAc (zAb pb) (kb2.belowAll hW) rfl (zAg _) zuB) ?_;simp only [pT];refine zAf (v:=.agg (zAb qb)) rfl rfl (fun W hW=>zAc (zAb qb) (kd.belowAll hW) rfl (zAg _) zuB) ?_;simp only [pT];refine zAG rfl rfl (fun K hK=>?_)
     go_simp
     refine (zCK pa pb qa Spa.out Spb.out Sqa.out _).mono ?_;rintro e w3 ⟨rfl,l3⟩;have hb3:=l3.below (Nat.le_refl _);replace ka:=ka.belowAll hb3;replace kb2:=kb2.belowAll hb3;replace kc:=kc.belowAll hb3;replace kd:=kd.belowAll hb3;have HL3:=l3;replace hEnd:=hEnd.trans (hb3.mono hEnd.size);refine hK _ _ hb3 ?_;clear hK K
     try simp only [pT]
     refine zAG rfl rfl (fun K hK=>?_)
     go_simp
     refine (zDA _ _ _).mono ?_;rintro e w3 ⟨rfl,rfl⟩;refine hK _ _ (Below.refl _ _) ?_;clear hK K
     try simp only [pT]
     refine zAG rfl rfl (fun K hK=>?_)
     go_simp
     refine (zCK pa pb qb Spa.out Spb.out Sqb.out _).mono ?_;rintro e w3 ⟨rfl,l3⟩;have hb3:=l3.below (Nat.le_refl _);replace ka:=ka.belowAll hb3;replace kb2:=kb2.belowAll hb3;replace kc:=kc.belowAll hb3;replace kd:=kd.belowAll hb3;have HL3:=l3;replace hEnd:=hEnd.trans (hb3.mono hEnd.size);refine hK _ _ hb3 ?_;clear hK K
     try simp only [pT]
     refine zAG rfl rfl (fun K hK=>?_)
     go_simp
     refine (zDA _ _ _).mono ?_;rintro e w3 ⟨rfl,rfl⟩;refine hK _ _ (Below.refl _ _) ?_;clear hK K
     try simp only [pT]
     refine zAf (v:=.int .i64 (cmpZ (zAw pa pb qa) 0 * cmpZ (zAw pa pb qb) 0)) rfl rfl (fun W hW=>by go_simp;rw [cmpZ_mul]) ?_;simp only [pT];refine zAf (v:=.bool x1) rfl rfl (fun W hW=>by go_simp;rw [HX1.out]) ?_;simp only [pT]
     cases x1
     case false=>
      repeat ((first | refine wK rfl ?_ | refine wL rfl ?_ | refine wB rfl ?_);simp only [pT])
      simp only [wpB];go_wp2;go_ret;exact ⟨by rw [HM.out];simp,hEnd⟩
     case true=>
      repeat ((first | refine wK rfl ?_ | refine wL rfl ?_ | refine wB rfl ?_);simp only [pT])
      refine zAf (v:=.agg (zAb qa)) rfl rfl (fun W hW=>zAc (zAb qa) (kc.belowAll hW) rfl (zAg _) zuB) ?_;simp only [pT];refine zAf (v:=.agg (zAb qb)) rfl rfl (fun W hW=>zAc (zAb qb) (kd.belowAll hW) rfl (zAg _) zuB) ?_;simp only [pT];refine zAf (v:=.agg (zAb pa)) rfl rfl (fun W hW=>zAc (zAb pa) (ka.belowAll hW) rfl (zAg _) zuB) ?_;simp only [pT];refine zAf (v:=.agg (zAb qa)) rfl rfl (fun W hW=>zAc (zAb qa) (kc.belowAll hW) rfl (zAg _) zuB) ?_;simp only [pT];refine zAf (v:=.agg (zAb qb)) rfl rfl (fun W hW=>zAc (zAb qb) (kd.belowAll hW) rfl (zAg _) zuB) ?_;simp only [pT];refine zAf (v:=.agg (zAb pb)) rfl rfl (fun W hW=>zAc (zAb pb) (kb2.belowAll hW) rfl (zAg _) zuB) ?_;simp only [pT];refine zAG rfl rfl (fun K hK=>?_)
      go_simp
      refine (zCK qa qb pa Sqa.out Sqb.out Spa.out _).mono ?_;rintro e w3 ⟨rfl,l3⟩;have hb3:=l3.below (Nat.le_refl _);replace ka:=ka.belowAll hb3;replace kb2:=kb2.belowAll hb3;replace kc:=kc.belowAll hb3;replace kd:=kd.belowAll hb3;have HL3:=l3;replace hEnd:=hEnd.trans (hb3.mono hEnd.size);refine hK _ _ hb3 ?_;clear hK K
      try simp only [pT]
      refine zAG rfl rfl (fun K hK=>?_)
      go_simp
      refine (zDA _ _ _).mono ?_;rintro e w3 ⟨rfl,rfl⟩;refine hK _ _ (Below.refl _ _) ?_;clear hK K
      try simp only [pT]
      refine zAG rfl rfl (fun K hK=>?_)
      go_simp
      refine (zCK qa qb pb Sqa.out Sqb.out Spb.out _).mono ?_;rintro e w3 ⟨rfl,l3⟩;have hb3:=l3.below (Nat.le_refl _);replace ka:=ka.belowAll hb3;replace kb2:=kb2.belowAll hb3;replace kc:=kc.belowAll hb3;replace kd:=kd.belowAll hb3;have HL3:=l3;replace hEnd:=hEnd.trans (hb3.mono hEnd.size);refine hK _ _ hb3 ?_;clear hK K
      try simp only [pT]
      refine zAG rfl rfl (fun K hK=>?_)
      go_simp
      refine (zDA _ _ _).mono ?_;rintro e w3 ⟨rfl,rfl⟩;refine hK _ _ (Below.refl _ _) ?_;clear hK K
      try simp only [pT]
      refine zAf (v:=.int .i64 (cmpZ (zAw qa qb pa) 0 * cmpZ (zAw qa qb pb) 0)) rfl rfl (fun W hW=>by go_simp;rw [cmpZ_mul]) ?_;simp only [pT];refine zAf (v:=.bool x2) rfl rfl (fun W hW=>by go_simp;rw [HX2.out]) ?_;simp only [pT]
      repeat ((first | refine wK rfl ?_ | refine wL rfl ?_ | refine wB rfl ?_);simp only [pT])
      simp only [wpB];go_wp2;go_ret;exact ⟨by rw [HM.out];simp,hEnd⟩
end Go.Proofs.YtbbblemfodpmaaaGreat
