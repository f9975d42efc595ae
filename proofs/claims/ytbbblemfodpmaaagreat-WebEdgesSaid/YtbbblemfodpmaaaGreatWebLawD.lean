/-WebEdges answers true: the law.-/
import Derived.Test.YtbbblemfodpmaaaGreatWebTurn
import Derived.Test.YtbbblemfodpmaaaGreatWebGv
import Derived.Test.YtbbblemfodpmaaaGreatWebQx
set_option linter.unusedVariables false
set_option linter.unusedSimpArgs false
set_option maxHeartbeats 16000000
set_option maxRecDepth 100000
namespace Go.Proofs.YtbbblemfodpmaaaGreat
open Go.RowKit
theorem zEd {p : Point} (h : zAI p) : inP p = true := by
 unfold zAI at h;unfold inP winI;simp only [Bool.and_eq_true,decide_eq_true_eq];omega
structure EdgeOK (C : Array Value) (w : World) (p : PaneP) (A B : Point) (e : List Side) (Q : Nat → Point) : Prop where
 q0 : Q 0 = A
 q1 : Q e.length = B
 len : 0 < e.length ∧ e.length ≤ 800
 ends : ∀ (m : Nat) (s : Side),e[m]? = some s → ∃ ia ib,Det 47 #[.agg C, .agg (zAa s)] (.tuple #[.agg (zAg ⟨ia,Q m⟩), .agg (zAg ⟨ib,Q (m + 1)⟩), .int .i64 0]) w
 turn : ∀ (m : Nat) (s : Side),e[m]? = some s → Det 48 #[.agg (zAb A), .agg (zAb B), .agg (zAb (Q (m + 1)))] (.tuple #[.int .i64 0, .int .i64 0]) w
 pane : ∀ (m : Nat) (s : Side),e[m]? = some s → Det 49 #[.agg C, .agg (zAa s)] (.tuple #[.int .i64 p.id, .int .i64 0]) w
theorem edge_all (sj : Sl Joint) (sl : Sl Lead) (w : World) (hj : sj.OK 3 zAg zAy (fun _ => False) w) (hl : sl.OK 8 zAe zAB (fun _ => False) w) (h : sndE sj.val sl.val = 0) {i : Nat} {p : PaneP} (hp : (zBq sj.val sl.val)[i]? = some p) :
  3 ≤ p.outline.length ∧ p.outline.length ≤ 800 ∧ p.edges.length = p.outline.length ∧ ∀ (k : Nat) (e : List Side),p.edges[k]? = some e → ∃ A B Q,p.outline[k]? = some A ∧ p.outline[(k + 1) % p.outline.length]? = some B ∧ EdgeOK #[.slice sj.a sj.val.length sj.cap, .slice sl.a sl.val.length sl.cap] w p A B e Q := by
 obtain ⟨h1,h2⟩ := zE0 h;have V := zCH h1;have hb := (zEz h2).2.1;obtain ⟨_,l,hlb,ho,he⟩ := pane_at hp;have g8 := (zDW V ((zDC _ _).subset hlb)).2.1;have gne := (zDW V ((zDC _ _).subset hlb)).1;refine ⟨by rw [ho,zCK];exact V.corners3 hb hlb,by rw [ho];exact zE7 g8,by rw [ho,he,zCK,zEy],fun k e hk => ?_⟩;obtain ⟨A,B,hA,hB,hlen,hs,hfin⟩ := V.edge_ok hb hp hk;have hen : e.length ≤ 800 := by
  have hm := List.mem_of_getElem? hk;rw [he] at hm;exact (zFE (js := sj.val) (ls := sl.val) g8 gne).2 e hm
 have hpt : ∀ (m : Nat) (s : Side),e[m]? = some s → (e[m + 1 - 1]?).map (eP sj.val sl.val) = some (eP sj.val sl.val s) := fun m s hm => by rw [Nat.add_sub_cancel,hm];rfl
 refine ⟨A,B,fun m => if m = 0 then A else ((e[m - 1]?).map (eP sj.val sl.val)).getD zAx,hA,hB,⟨rfl, ?_,⟨hlen,hen⟩,fun m s hm => ?_,fun m s hm => ?_,fun m s hm => ?_⟩⟩
 ·rw [if_neg (by omega)];exact hfin
 ·obtain ⟨hi,ho2,_,_⟩ := hs m s hm;have hI : I64 s.lead := by obtain ⟨y,hy,e2⟩ := hi;rw [← e2];exact (V.leadI hy).1
  have h0 : zBY sj.val sl.val s = 0 := by
   obtain ⟨y,hy,e2⟩ := hi;unfold zBY;rw [if_neg (by simp [h1]),if_pos (by rw [← e2,V.lead hy];rfl)]
  refine ⟨(zAj sl.val s).1,(zAj sl.val s).2,fun W hW => ?_⟩;have := Ends_any sj sl s W (hj.jmoved hW) (hl.lmoved hW) hI;rw [h0,show endFrom sj.val sl.val s = ⟨(zAj sl.val s).1,oP sj.val sl.val s⟩ by unfold endFrom;rw [if_pos h0];rfl,show endTo sj.val sl.val s = ⟨(zAj sl.val s).2,eP sj.val sl.val s⟩ by unfold endTo;rw [if_pos h0];rfl] at this;rw [if_neg (show ¬ m + 1 = 0 by omega),hpt m s hm,← ho2];exact this
 ·obtain ⟨hi,ho2,hc,_⟩ := hs m s hm;have hvA : zAI A := by
   obtain ⟨s0,hs0⟩ : ∃ s0,e[0]? = some s0 := ⟨_,List.getElem?_eq_getElem hlen⟩
   have := (hs 0 s0 hs0).2.1;rw [if_pos rfl] at this;rw [← this];exact V.small _
  have hvB : zAI B := by
   obtain ⟨s1,hs1⟩ : ∃ s1,e[e.length - 1]? = some s1 := ⟨_,List.getElem?_eq_getElem (by omega)⟩
   rw [← hfin,hs1];exact V.small _
  intro W hW;have := turn_any A B (eP sj.val sl.val s) (zEd hvA) (zEd hvB) (zEd (V.small _)) W;rw [hc] at this;rw [if_neg (show ¬ m + 1 = 0 by omega),hpt m s hm];exact this
 ·obtain ⟨hi,_,_,hpo⟩ := hs m s hm;have hI : I64 s.lead := by obtain ⟨y,hy,e2⟩ := hi;rw [← e2];exact (V.leadI hy).1
  have hE : zDc sj.val sl.val s = 0 := by
   obtain ⟨y,hy,e2⟩ := hi;unfold zDc;rw [if_pos h,if_pos (by rw [← e2,V.lead hy];rfl)]
  intro W hW;have := PaneAt_all sj sl s W (hj.jmoved hW) (hl.lmoved hW) hI;rw [hE,show zDx sj.val sl.val s = p.id by unfold zDx;rw [if_pos hE];exact hpo] at this;exact this
theorem OwnL.cells {α : Type} {enc : α → Array Value} {sz : Nat} (hsz : ∀ x,(enc x).size = sz) {w : World} {N : Nat} {T : TypeId} {a : Option Addr} {c : Nat} {l : List α} (h : OwnL enc sz w N T (.slice a l.length c) l) (hne : 0 < l.length) :
  ∃ g,a = some ⟨g,0,none⟩ ∧ ∀ (k : Nat) (x : α),l[k]? = some x → ∀ W,Below w.heap.size w W → ∀ j,j < sz → W.cell? ⟨g,k * sz + j,none⟩ = (enc x)[j]? := by
 obtain ⟨y,hy⟩ : ∃ y,l[0]? = some y := ⟨_,List.getElem?_eq_getElem hne⟩
 obtain ⟨g,cap,e,_,_,_⟩ := OwnL.cellOf hsz h hy;simp only [Value.slice.injEq,true_and] at e;obtain ⟨rfl,rfl⟩ := e;refine ⟨g,rfl,fun k x hx W hW j hj => ?_⟩;obtain ⟨g2,c2,e2,_,hg,hc⟩ := OwnL.cellOf hsz h hx;simp only [Value.slice.injEq,Option.some.injEq,Addr.mk.injEq,and_true,true_and] at e2;obtain ⟨rfl,_⟩ := e2;rw [hW.cell (p := ⟨g,k * sz + j,none⟩) hg];exact hc j hj
theorem zE1 (i : Int) (p : Point) : ∀ j,j < (zAb p).size → (zAg ⟨i,p⟩)[1 + j]? = (zAb p)[j]? := fun j hj => by
 have : j < 2 := hj
 match j,this with
 | 0,_ => rfl
 | 1,_ => rfl
theorem wedges_any (sj : Sl Joint) (sl : Sl Lead) (w : World) (hj : sj.OK 3 zAg zAy (fun _ => False) w) (hl : sl.OK 8 zAe zAB (fun _ => False) w) (hf1 : sj.val.length ≤ 40) (hf2 : sl.val.length ≤ 60) :
  Calls Tryz.prog 9 #[.agg #[.slice sj.a sj.val.length sj.cap, .slice sl.a sl.val.length sl.cap]] w fun e w' => e = .returned (.bool true) ∧ Below w.heap.size w w' := by
 have HPN : Hid (∀ W,Below w.heap.size w W → Calls Tryz.prog 14 #[.agg #[.slice sj.a sj.val.length sj.cap, .slice sl.a sl.val.length sl.cap]] W fun e w' => ∃ v ms,e = .returned (.tuple #[v, .int .i64 (sndE sj.val sl.val)]) ∧ ms.map PaneM.plain = zCR sj.val sl.val ∧ OwnL zAz 3 w' W.heap.size 82 v ms ∧ (∀ m ∈ ms,PaneLies w' W.heap.size m) ∧ Below W.heap.size W w') := zz fun W hW => Panes_all sj sl W (hj.jmoved hW) (hl.lmoved hW);have HBD : Hid (sndE sj.val sl.val ≠ 0 → zCR sj.val sl.val = []) := zz fun h => by unfold zCR;rw [if_neg h]
 have HPL : Hid ((zCR sj.val sl.val).length ≤ 64) := zz (by
  unfold zCR
  split
  ·rename_i h;rw [panes_len];exact (zEz (zE0 h).2).2.2.2.2.2
  ·simp)
 have HGD : Hid (sndE sj.val sl.val = 0 → ∀ (i : Nat) (p : PaneP),(zCR sj.val sl.val)[i]? = some p → 3 ≤ p.outline.length ∧ p.outline.length ≤ 800 ∧ p.edges.length = p.outline.length ∧ ∀ (k : Nat) (e : List Side),p.edges[k]? = some e → ∃ A B Q,p.outline[k]? = some A ∧ p.outline[(k + 1) % p.outline.length]? = some B ∧ EdgeOK #[.slice sj.a sj.val.length sj.cap, .slice sl.a sl.val.length sl.cap] w p A B e Q) := zz fun h i p hp => by
  unfold zCR at hp;rw [if_pos h] at hp;exact edge_all sj sl w hj hl h hp
 obtain ⟨HB0,HWB⟩ := zP1 w #[.slice sj.a sj.val.length sj.cap, .slice sl.a sl.val.length sl.cap] 25;obtain ⟨aj,cj,js⟩ := sj;obtain ⟨al,cl,ls⟩ := sl;obtain ⟨nj,hn1⟩ : ∃ n,js.length = n := ⟨_,rfl⟩
 obtain ⟨nl,hn2⟩ : ∃ n,ls.length = n := ⟨_,rfl⟩
 obtain ⟨P,hn3⟩ : ∃ n,zCR js ls = n := ⟨_,rfl⟩
 obtain ⟨E,hn5⟩ : ∃ n,sndE js ls = n := ⟨_,rfl⟩
 simp only [hn1,hn2,hn3,hn5] at HPN HPL HBD HGD HB0 HWB hf1 hf2 ⊢;clear hn1 hn2 hn3 hn5 hj hl;go_enter Tryz.func9,Tryz.ntmps9;have m1 : ¬ 40 < nj := by omega
 have m2 : ¬ 60 < nl := by omega
 by_cases h0 : E = 0
 case neg =>
  have hz := HBD.out h0;subst hz;clear HGD HBD
  go_wp2_with (first
   | (go_at_call 13;refine (zEn _).mono ?_;rintro e w1 ⟨rfl,hb1⟩;replace HWB := zz (HWB.out.belowAll hb1);replace HB0 := hTr HB0 hb1;clear hb1;have q0 := (HWB.out.cell 0).trans (show _ = some (.slice aj nj cj) from rfl);have q1 := (HWB.out.cell 1).trans (show _ = some (.slice al nl cl) from rfl))
   | (refine zLd 32 HWB.out #[.slice aj nj cj, .slice al nl cl] zuC ?_) | (go_at_call 14;refine (HPN.out _ HB0.out).mono ?_;rintro e w2 ⟨pv,ms,rfl,hms,how,hli,hb2⟩;replace HWB := zz (HWB.out.belowAll hb2);replace HB0 := hTr HB0 hb2;have HMS := zz hms;have HOW := zz how;have HLI := zz hli;obtain ⟨va,vc,rfl⟩ := how.shape;clear hb2 hms how hli))
  have hms : ms.length = 0 := by have := congrArg List.length HMS.out;simpa using this
  go_ret;exact ⟨by simp [hms],HB0.out⟩
 subst h0;have HPF := zz (HGD.out rfl);clear HGD HBD
 go_wp2_with (first
  | (go_at_call 13;refine (zEn _).mono ?_;rintro e w1 ⟨rfl,hb1⟩;replace HWB := zz (HWB.out.belowAll hb1);replace HB0 := hTr HB0 hb1;clear hb1;have q0 := (HWB.out.cell 0).trans (show _ = some (.slice aj nj cj) from rfl);have q1 := (HWB.out.cell 1).trans (show _ = some (.slice al nl cl) from rfl))
  | (refine zLd 32 HWB.out #[.slice aj nj cj, .slice al nl cl] zuC ?_) | (go_at_call 14;refine (HPN.out _ HB0.out).mono ?_;rintro e w2 ⟨pv,ms,rfl,hms,how,hli,hb2⟩;replace HWB := zz (HWB.out.belowAll hb2);replace HB0 := hTr HB0 hb2;have HMS := zz hms;have HOW := zz how;have HLI := zz hli;obtain ⟨va,vc,rfl⟩ := how.shape;clear hb2 hms how hli))
 obtain ⟨nP,hn7⟩ : ∃ n,ms.length = n := ⟨_,rfl⟩
 have HNP := zz hn7;have hnP : nP ≤ 64 := by rw [← hn7,← List.length_map (f := PaneM.plain),HMS.out];exact HPL.out
 have HMC : Hid (0 < nP → ∃ g,va = some ⟨g,0,none⟩ ∧ ∀ (k : Nat) (x : PaneM),ms[k]? = some x → ∀ W,Below w2.heap.size w2 W → ∀ j,j < 3 → W.cell? ⟨g,k * 3 + j,none⟩ = (zAz x)[j]?) := zz fun h => OwnL.cells (enc := zAz) (sz := 3) (fun _ => rfl) HOW.out (by rw [hn7];exact h);simp only [hn7] at HOW ⊢;clear hn7 HOW;have HR0 : Hid (Below w2.heap.size w2 w2) := zz (Below.refl _ _)
 go_loopw [6] (fun iv wr => ∃ i : Nat,i ≤ nP ∧ iv = .int .i64 i ∧ Hid (Below w2.heap.size w2 wr)) (fun iv _ => nP - (intOf iv).toNat)
 case atStart => exact ⟨0,Nat.zero_le _,rfl,HR0⟩
 case round =>
  obtain ⟨i,hi,rfl,HW0⟩ := hrel
  by_cases hlt : i < nP
  case neg =>
   have hin : i = nP := by omega
   subst hin;go_wp2;go_ret;exact ⟨rfl,HB0.out.trans (HW0.out.mono HB0.out.size)⟩
  obtain ⟨pm,hpm⟩ : ∃ x,ms[i]? = some x := ⟨_,List.getElem?_eq_getElem (by rw [HNP.out];exact hlt)⟩
  obtain ⟨g,rfl,hmc⟩ := HMC.out (by omega);have hcp := hmc i pm hpm;have hlp := HLI.out pm (List.mem_of_getElem? hpm);obtain ⟨f1,f2,f3,f4⟩ := HPF.out i pm.plain (by rw [← HMS.out,List.getElem?_map,hpm];rfl);obtain ⟨id,⟨oa,oc,o⟩,⟨ea,ec,es⟩⟩ := pm;obtain ⟨ho,he,hsd⟩ := hlp;simp only [PaneM.plain,Sl.v] at f1 f2 f3 f4 ho he hsd;rw [List.length_map] at f3;obtain ⟨n,hn⟩ : ∃ n,o.length = n := ⟨_,rfl⟩
  obtain ⟨go,rfl,hoc⟩ := OwnL.cells (enc := zAb) (sz := 2) (fun _ => rfl) ho (by omega);obtain ⟨ge,rfl,hec⟩ := OwnL.cells (enc := zB7) (sz := 1) (fun _ => rfl) he (by omega);rw [hn] at f1 f2 f3 f4;have HC0 : Hid (∀ W,Below w2.heap.size w2 W → W.cell? ⟨g,i * 3,none⟩ = some (.int .i64 id)) := zz fun W hW => (hcp W hW 0 (by decide)).trans rfl;have HC1 : Hid (∀ W,Below w2.heap.size w2 W → W.cell? ⟨g,i * 3 + 1,none⟩ = some (.slice (some ⟨go,0,none⟩) n oc)) := zz fun W hW => (hcp W hW 1 (by decide)).trans (by rw [← hn];rfl);have HC2 : Hid (∀ W,Below w2.heap.size w2 W → W.cell? ⟨g,i * 3 + 2,none⟩ = some (.slice (some ⟨ge,0,none⟩) n ec)) := zz fun W hW => (hcp W hW 2 (by decide)).trans (by rw [← f3];rfl);have HOC := zz hoc;have HEC := zz hec;have HSD := zz hsd;have HF4 := zz f4;have HES : Hid (es.length = n) := zz f3;have q2 := HC1.out wr HW0.out;have q3 := HC2.out wr HW0.out;have f1' : ¬ n < 3 := by omega
  clear hpm hmc hcp hoc hec hsd ho he f4 f3 hn;go_wp2
  go_loopw [8] (fun kv wr => ∃ k : Nat,k ≤ n ∧ kv = .int .i64 k ∧ Hid (Below w2.heap.size w2 wr)) (fun kv _ => n - (intOf kv).toNat)
  case atStart => exact ⟨0,Nat.zero_le _,rfl,HW0⟩
  case round =>
   clear q2 q3;obtain ⟨k,hk,rfl,HW⟩ := hrel
   by_cases hlk : k < n
   case neg =>
    have hkn : k = n := by omega
    subst hkn;go_wp2;go_roundw
    case rel => exact ⟨i + 1,by omega,by go_num,HW⟩
    case measure => simp [intOf];omega
   obtain ⟨se,hse⟩ : ∃ x,es[k]? = some x := ⟨_,List.getElem?_eq_getElem (by rw [HES.out];exact hlk)⟩
   have hsl := HSD.out se (List.mem_of_getElem? hse);have hce := HEC.out k se hse;obtain ⟨sa,sc,e⟩ := se;obtain ⟨A,B,Q,hA,hB,EK⟩ := HF4.out k e (by rw [List.getElem?_map,hse];rfl);obtain ⟨q0,q1,⟨el1,el2⟩,hen,htn,hpa⟩ := EK;simp only [Sl.v] at hsl;obtain ⟨gs,rfl,hcs⟩ := OwnL.cells (enc := zAa) (sz := 2) (fun _ => rfl) hsl el1;obtain ⟨len,hlen⟩ : ∃ n,e.length = n := ⟨_,rfl⟩
   obtain ⟨k1,hk1⟩ : ∃ m,(k + 1) % n = m := ⟨_,rfl⟩
   have hk1n : k1 < n := by rw [← hk1];exact Nat.mod_lt _ (by omega)
   rw [hlen] at q1 el1 el2;rw [hk1] at hB;have HCE : Hid (∀ W,Below w2.heap.size w2 W → W.cell? ⟨ge,k,none⟩ = some (.slice (some ⟨gs,0,none⟩) len sc)) := zz fun W hW => by
    have := hce W hW 0 (by decide);rw [Nat.mul_one,Nat.add_zero] at this;rw [this,← hlen];rfl
   have HOA : Hid (∀ W,Below w2.heap.size w2 W → ∀ j,j < (zAb A).size → W.cell? ⟨go,k * 2 + j,none⟩ = (zAb A)[j]?) := zz fun W hW j hj => HOC.out k A hA W hW j hj;have HOB : Hid (∀ W,Below w2.heap.size w2 W → ∀ j,j < (zAb B).size → W.cell? ⟨go,k1 * 2 + j,none⟩ = (zAb B)[j]?) := zz fun W hW j hj => HOC.out k1 B hB W hW j hj;have HCSA := zz hcs;have HENA := zz hen;have HTNA := zz htn;have HPAA := zz hpa;have HQ0 := zz q0;have HQ1 := zz q1;have HLE := zz hlen;have K1 : Hid (IntKind.i64.wrap ((k : Int) + 1) = ((k + 1 : Nat) : Int)) := zz (by rw [IntWalk.i64_in _ (by omega)];omega);have K2 : Hid (((k : Int) + 1).tmod (n : Int) = (k1 : Int)) := zz (by rw [← hk1];rfl);have K5 : Hid (¬ n = 0) := zz (by omega);clear hse hsl hce hA hB hcs hen htn hpa q0 q1 hlen hk1
   go_upto_region 16 with (fail)
   refine rgQ [0,1,2,3,4,5,6,7] [8,9] ?_;iterate 4 (refine wD rfl ?_;simp only [pT])
   refine zA8 (v := .slice (some ⟨go,0,none⟩) n oc) rfl rfl (fun W hW => by have e := HC1.out W (HW.out.trans (hW.mono HW.out.size));go_simp;try with_reducible rfl) ?_;simp only [pT];iterate 2 (refine wD rfl ?_;simp only [pT])
   refine zA8 (v := .agg (zAb A)) rfl rfl (fun W hW => zAR (zAb A) (HOA.out W (HW.out.trans (hW.mono HW.out.size))) rfl zuB) ?_;simp only [pT];intro W1 HW1;refine wpO_forget [73,74,75,76,77,78,79] fun u => ?_;simp only [zCf,pT];refine wpO_box (T := 27) (cs := #[.int .i64 0, .int .i64 0]) rfl (by kernel_rfl) ?_;simp only [zBL,pT];have hfb := zAd.new W1 27 #[.int .i64 0, .int .i64 0];have HW3 := HW1.trans (((Below.refl W1.heap.size W1).alloc (Nat.le_refl _) (.cells #[.int .i64 0, .int .i64 0] 27)).mono HW1.size);have hfl := HW1.size;obtain ⟨jat,hj⟩ : ∃ j,W1.heap.size = j := ⟨_,rfl⟩
   rw [hj] at hfb hfl;simp only [hj];refine wpO_store hfb rfl rfl (.agg (zAb A)) rfl (by kernel_rfl) (by rfl) (zAL _) fun W2 hb2 ht2 => ?_;have HAT := zz (hb2.eqv (cs' := zAb A) (by simp [zAC,zAb,Value.cells]));have HW2 := HW3.trans (ht2.below hfl);refine wpO_nil ?_;have HGA := zz hfl;clear hb2 ht2 hfl hfb HW1 HW3 hj W1;have HJ1 : Hid (w2.heap.size ≤ jat) := zz (Nat.le_trans HW.out.size HGA.out);replace HW := zz (HW.out.trans (HW2.mono HW.out.size));clear HW2 HGA;have hlt1 := HAT.out.lt
   go_upto_region 17 with (fail)
   refine zE8 [0,1,2,3,4,5,6,7,8,9,10] [(11,10)] (fun _ => (27,#[.int .i64 0, .int .i64 0])) [(12,false)] rfl (by kernel_rfl) (fun d _ _ _ _ h => by cases d <;> exact h) (by intro k hk K a w h;simp only [List.mem_cons,List.not_mem_nil,or_false] at hk;rcases hk with rfl <;> exact wpOp_box _ rfl (by kernel_rfl) h) ?_;iterate 4 (refine wD rfl ?_;simp only [pT])
   refine zA8 (v := .slice (some ⟨go,0,none⟩) n oc) rfl rfl (fun W hW => by have e := HC1.out W (HW.out.drew.trans (hW.mono HW.out.drew.size));go_simp;try with_reducible rfl) ?_;simp only [pT]
   (refine wD rfl ?_;simp only [pT])
   refine zA8 (v := .int .i64 (((k + 1 : Nat)) : Int)) rfl rfl (fun W hW => by go_simp;exact K1.out) ?_;simp only [pT]
   (refine wD rfl ?_;simp only [pT])
   refine zA8 (v := .int .i64 (k1 : Int)) rfl rfl (fun W hW => by go_simp;rw [if_neg K5.out,K2.out]) ?_;simp only [pT];refine zA8 (v := .pointer (some ⟨go,k1 * 2,none⟩)) rfl rfl (fun W hW => by go_simp) ?_;simp only [pT];refine zA8 (v := .agg (zAb B)) rfl rfl (fun W hW => zAR (zAb B) (HOB.out W (HW.out.drew.trans (hW.mono HW.out.drew.size))) rfl zuB) ?_;simp only [pT];intro f W1 HW1 hf hi;simp only [zBM,zBL,pT];have hf0 := hf (11,10) (by simp);simp only at hf0;obtain ⟨jto,hj⟩ : ∃ j,f 11 = j := ⟨_,rfl⟩
   simp only [hj] at hf0 ⊢;obtain ⟨hfl,hfb⟩ := hf0;clear hf hi hj f;refine zCg [81,82,83,84,85,86,87,88,89,90] fun u => ?_;simp only [zCf,pT];refine zFs hfb rfl rfl (.agg (zAb B)) rfl (by kernel_rfl) (by rfl) (zAL _) fun W3 hb2 ht2 => ?_;have HTO := zz (hb2.eqv (cs' := zAb B) (by simp [zAC,zAb,Value.cells]));have HW3 := HW1.trans (ht2.below hfl);simp only [wpS];have HGB := zz hfl;clear hb2 ht2 hfl hfb HW1 W1;have HJ2 : Hid (w2.heap.size ≤ jto ∧ jat < jto) := zz (by
    have h1 : W2.heap.size ≤ jto := HGB.out;exact ⟨Nat.le_trans HW.out.size h1,by omega⟩)
   replace HAT := zz (HAT.out.drew.belowAll HW3);replace HW := zz (HW.out.drew.trans (HW3.mono HW.out.drew.size));clear HW3 HGB hlt1 K1 K2 K5;rw [← HQ0.out] at HAT;go_wp2
   go_loopw [11] (fun mv wr => ∃ m : Nat,m ≤ len ∧ mv = .int .i64 m ∧ Hid (zAd wr jat 27 (zAb (Q m))) ∧ Hid (zAd wr jto 27 (zAb B)) ∧ Hid (Below w2.heap.size w2 wr)) (fun mv _ => len - (intOf mv).toNat)
   case atStart => exact ⟨0,Nat.zero_le _,rfl,HAT,HTO,HW⟩
   case round =>
    clear HAT HTO HW;obtain ⟨m,hm,rfl,HAT,HTO,HW⟩ := hrel;have q2 := HC2.out wr HW.out;have q3 := HCE.out wr HW.out
    by_cases hlm : m < len
    case neg =>
     have hml : m = len := by omega
     subst hml;rw [HQ1.out] at HAT;have hqq : zDZ B B = true := decide_eq_true rfl
     go_wp2_with (first
      | (refine zLd 184 HAT.out (zAb B) zuB ?_)
      | (refine zLd 185 HTO.out (zAb B) zuB ?_))
     go_roundw
     case rel => exact ⟨k + 1,by omega,by go_num,HW⟩
     case measure => simp [intOf];omega
    obtain ⟨s,hs⟩ : ∃ x,e[m]? = some x := ⟨_,List.getElem?_eq_getElem (by rw [HLE.out];exact hlm)⟩
    obtain ⟨ia,ib,hen⟩ := HENA.out m s hs;have htn := HTNA.out m s hs;have hpa := HPAA.out m s hs;have HCS : Hid (∀ W,Below w2.heap.size w2 W → ∀ j,j < (zAa s).size → W.cell? ⟨gs,m * 2 + j,none⟩ = (zAa s)[j]?) := zz fun W hW j hj => HCSA.out m s hs W hW j hj;obtain ⟨qm,hqm⟩ : ∃ q,Q m = q := ⟨_,rfl⟩
    obtain ⟨qn,hqn⟩ : ∃ q,Q (m + 1) = q := ⟨_,rfl⟩
    rw [hqm] at hen HAT;rw [hqn] at hen htn;have HQN := zz hqn;have HEN := zz (hen.moved HB0.out);have HTN := zz (htn.moved HB0.out);have HPA := zz (hpa.moved HB0.out);have HWR := zz (HWB.out.belowAll HW.out);clear hs hen htn hpa hqm hqn
    go_upto_region 21 with (fail)
    clear q2 q3;refine zGl [0,1,2,3,4,5,6,7,8,9,10,11,12,13,14,15,16] [15,16] [(17,12),(18,13)] (fun _ => (29,#[.int .i64 0, .int .i64 0, .int .i64 0])) [(19,false),(20,false),(21,false)] rfl (by kernel_rfl) (fun d _ _ _ _ h => by cases d <;> exact h) (by intro k hk K a w h;simp only [List.mem_cons,List.not_mem_nil,or_false] at hk;rcases hk with rfl | rfl <;> exact wpOp_box _ rfl (by kernel_rfl) h) ?_;refine zA8 (v := _) rfl rfl (fun W hW => zAf _ (HWR.out.drew.belowAll hW) rfl (zAt _) zuC) ?_;simp only [pT];iterate 4 (refine wD rfl ?_;simp only [pT])
    refine zA8 (v := .slice (some ⟨ge,0,none⟩) n ec) rfl rfl (fun W hW => by have e := HC2.out W (HW.out.drew.trans (hW.mono HW.out.drew.size));go_simp;try with_reducible rfl) ?_;simp only [pT];iterate 2 (refine wD rfl ?_;simp only [pT])
    refine zA8 (v := .slice (some ⟨gs,0,none⟩) len sc) rfl rfl (fun W hW => by have e := HCE.out W (HW.out.drew.trans (hW.mono HW.out.drew.size));go_simp;try with_reducible rfl) ?_;simp only [pT];iterate 2 (refine wD rfl ?_;simp only [pT])
    refine zA8 (v := .agg (zAa s)) rfl rfl (fun W hW => zAR (zAa s) (HCS.out W (HW.out.drew.trans (hW.mono HW.out.drew.size))) rfl zuA) ?_;simp only [pT];refine zEc _ _ _ rfl rfl (fun W => by go_simp;try with_reducible rfl) (HEN.out.moved HW.out.drew) ?_;simp only [pT];iterate 4 (refine wD rfl ?_;simp only [pT])
    intro f W1 HW1 hf hi;simp only [zBM,zBL,pT];refine zCg [106,107,108,109,110,111,112,113,114,115,116,117,118,105] fun u => ?_;simp only [zCf,pT];have h14 := hf (17,12) (by simp);have h15 := hf (18,13) (by simp);have hn12 : f 17 ≠ f 18 := fun e => by have := hi (17,12) (by simp) (18,13) (by simp) e;simp at this
    simp only at h14 h15;obtain ⟨j1,hj1⟩ : ∃ j,f 17 = j := ⟨_,rfl⟩
    obtain ⟨j2,hj2⟩ : ∃ j,f 18 = j := ⟨_,rfl⟩
    simp only [hj1,hj2] at h14 h15 hn12 ⊢;obtain ⟨l1,b1⟩ := h14;obtain ⟨l2,b2⟩ := h15;clear hf hi hj1 hj2 f;refine zFs b1 rfl rfl (.agg (zAg ⟨ia,qm⟩)) rfl (by kernel_rfl) (by rfl) (zAT _) fun W2 hb2 ht2 => ?_;refine zFs (b2.turn ht2 (by omega)) rfl rfl (.agg (zAg ⟨ib,qn⟩)) rfl (by kernel_rfl) (by rfl) (zAT _) fun W3 hb3 ht3 => ?_;have HJA := zz ((hb2.turn ht3 (by omega)).eqv (cs' := zAg ⟨ia,qm⟩) (by simp [zAC,zAg,Value.cells]));have HJB := zz (hb3.eqv (cs' := zAg ⟨ib,qn⟩) (by simp [zAC,zAg,Value.cells]));refine wpS_val rfl rfl (by go_simp;with_reducible rfl) ?_;simp only [pT];simp only [wpS];have HW3 := (HW1.trans (ht2.below l1)).trans (ht3.below l2);clear hb2 ht2 hb3 ht3 b1 b2 l1 l2 hn12 HW1 W2;replace HAT := zz (HAT.out.drew.belowAll HW3);replace HTO := zz (HTO.out.drew.belowAll HW3);replace HW := zz (HW.out.drew.trans (HW3.mono HW.out.drew.size));clear HW3 HWR
    go_upto_region 22 with (fail)
    refine rgD [0,1,2,3,4,5,6,7,8,9,10,11,12,13,14,15,16] [] (fun _ => (0,#[])) [] ?_;iterate 4 (refine wD rfl ?_;simp only [pT])
    refine zA8 (v := .slice (some ⟨go,0,none⟩) n oc) rfl rfl (fun W hW => by have e := HC1.out W (HW.out.drew.trans (hW.mono HW.out.drew.size));go_simp;try with_reducible rfl) ?_;simp only [pT];iterate 2 (refine wD rfl ?_;simp only [pT])
    refine zA8 (v := .agg (zAb A)) rfl rfl (fun W hW => zAR (zAb A) (HOA.out W (HW.out.drew.trans (hW.mono HW.out.drew.size))) rfl zuB) ?_;simp only [pT];refine zA8 (v := _) rfl rfl (fun W hW => zAf _ (HTO.out.drew.belowAll hW) rfl (zAt _) zuB) ?_;simp only [pT]
    (refine wD rfl ?_;simp only [pT])
    refine zA8 (v := .agg (zAb qn)) rfl rfl (fun W hW => zAf (off := 1) (zAb qn) (HJB.out.drew.belowAll hW) rfl (zE1 _ _) zuB) ?_;simp only [pT];refine zEc _ _ _ rfl rfl (fun W => by go_simp;try with_reducible rfl) (HTN.out.moved HW.out.drew) ?_;simp only [pT];iterate 5 (refine wD rfl ?_;simp only [pT])
    intro f W1 HW1 h1 h2;simp only [zBM];clear h1 h2 f;refine zCg [123,124,125,126,127,128,129,130,131,132,133,134,122,135,136] fun u => ?_;simp only [zCf,pT];simp only [wpS];replace HAT := zz (HAT.out.drew.belowAll HW1);replace HTO := zz (HTO.out.drew.belowAll HW1);replace HJA := zz (HJA.out.drew.belowAll HW1);replace HJB := zz (HJB.out.drew.belowAll HW1);replace HW := zz (HW.out.drew.trans (HW1.mono HW.out.drew.size));clear HW1;have HWR := zz (HWB.out.belowAll HW.out)
    go_upto_region 23 with (fail)
    refine rgD [0,1,2,3,4,5,6,7,8,9,10,11,12,13,14,15,16,17] [] (fun _ => (0,#[])) [] ?_;refine zA8 (v := _) rfl rfl (fun W hW => zAf _ (HWR.out.drew.belowAll hW) rfl (zAt _) zuC) ?_;simp only [pT];iterate 4 (refine wD rfl ?_;simp only [pT])
    refine zA8 (v := .slice (some ⟨ge,0,none⟩) n ec) rfl rfl (fun W hW => by have e := HC2.out W (HW.out.drew.trans (hW.mono HW.out.drew.size));go_simp;try with_reducible rfl) ?_;simp only [pT];iterate 2 (refine wD rfl ?_;simp only [pT])
    refine zA8 (v := .slice (some ⟨gs,0,none⟩) len sc) rfl rfl (fun W hW => by have e := HCE.out W (HW.out.drew.trans (hW.mono HW.out.drew.size));go_simp;try with_reducible rfl) ?_;simp only [pT];iterate 2 (refine wD rfl ?_;simp only [pT])
    refine zA8 (v := .agg (zAa s)) rfl rfl (fun W hW => zAR (zAa s) (HCS.out W (HW.out.drew.trans (hW.mono HW.out.drew.size))) rfl zuA) ?_;simp only [pT];refine zEc _ _ _ rfl rfl (fun W => by go_simp;try with_reducible rfl) (HPA.out.moved HW.out.drew) ?_;simp only [pT];iterate 5 (refine wD rfl ?_;simp only [pT])
    intro f W1 HW1 h1 h2;simp only [zBM];clear h1 h2 f;refine zCg [138,139,140,141,142,143,144,145,146,147,148,149,150,137,151,152] fun u => ?_;simp only [zCf,pT];simp only [wpS];replace HAT := zz (HAT.out.drew.belowAll HW1);replace HTO := zz (HTO.out.drew.belowAll HW1);replace HJA := zz (HJA.out.drew.belowAll HW1);replace HJB := zz (HJB.out.drew.belowAll HW1);replace HW := zz (HW.out.drew.trans (HW1.mono HW.out.drew.size));clear HW1 HWR HEN HTN HPA;have hqq : zDZ qm qm = true := decide_eq_true rfl;have q5 := HC0.out _ HW.out
    go_wp2_with (first
     | ((with_reducible refine zAn 165 ?_);refine zBr HJA.out rfl 27 _ rfl rfl (zAb qm) (zE1 _ _) zuB ?_)
     | (refine zLd 166 HAT.out (zAb qm) zuB ?_)
     | ((with_reducible refine zAn 183 ?_);refine zBr HJB.out rfl 27 _ rfl rfl (zAb qn) (zE1 _ _) zuB ?_)
     | ((with_reducible refine zAw 27 ?_);refine zAN HAT.out rfl _ _ _ rfl rfl (.agg (zAb qn)) rfl (by kernel_rfl) (by rfl) (zAL _) ?_;intro w5 hb5 hT5;replace HTO := zz (HTO.out.turn hT5 (by have := HJ2.out.2;omega));replace HAT := zz (hb5.eqv (cs' := zAb qn) (by simp [zAC,zAb,Value.cells]));replace HW := zz (HW.out.trans ((hT5.below HJ1.out)));clear hb5 hT5))
    go_roundw
    case rel => exact ⟨m + 1,by omega,by go_num,by rw [HQN.out];exact HAT,HTO,HW⟩
    case measure => simp [intOf];omega
theorem wedges_big (aj al : Option Addr) (nj cj nl cl : Nat) (w : World) (hbig : 40 < nj ∨ 60 < nl) :
  Calls Tryz.prog 9 #[.agg #[.slice aj nj cj, .slice al nl cl]] w fun e w' => e = .returned (.bool true) ∧ Below w.heap.size w w' := by
 obtain ⟨HB0,HWB⟩ := zP1 w #[.slice aj nj cj, .slice al nl cl] 25;go_enter Tryz.func9,Tryz.ntmps9
 by_cases h1 : 40 < nj
 ·go_wp2_with (first
   | (go_at_call 13;refine (zEn _).mono ?_;rintro e w1 ⟨rfl,hb1⟩;replace HWB := zz (HWB.out.belowAll hb1);replace HB0 := hTr HB0 hb1;clear hb1;have q0 := (HWB.out.cell 0).trans (show _ = some (.slice aj nj cj) from rfl);have q1 := (HWB.out.cell 1).trans (show _ = some (.slice al nl cl) from rfl)))
  go_ret;exact ⟨rfl,HB0.out⟩
 ·have h2 : 60 < nl := by omega
  clear hbig
  go_wp2_with (first
   | (go_at_call 13;refine (zEn _).mono ?_;rintro e w1 ⟨rfl,hb1⟩;replace HWB := zz (HWB.out.belowAll hb1);replace HB0 := hTr HB0 hb1;clear hb1;have q0 := (HWB.out.cell 0).trans (show _ = some (.slice aj nj cj) from rfl);have q1 := (HWB.out.cell 1).trans (show _ = some (.slice al nl cl) from rfl)))
  go_ret;exact ⟨rfl,HB0.out⟩
end Go.Proofs.YtbbblemfodpmaaaGreat
