/-plane.Turn at valid points.-/
import Derived.Test.YtbbblemfodpmaaaGreatWebPb
set_option linter.unusedVariables false
set_option linter.unusedSimpArgs false
set_option maxHeartbeats 16000000
set_option maxRecDepth 100000
namespace Go.Proofs.YtbbblemfodpmaaaGreat
open Go.RowKit
theorem crossPl_any (a b c : Point) (ha : zAI a) (hb : zAI b) (hc : zAI c) (w : World) :
  Calls Tryz.prog 114 #[.agg (zAb a), .agg (zAb b), .agg (zAb c)] w fun e w' => e = .returned (.int .i64 (zAl a b c)) ∧ Lays w w' := by
 obtain ⟨a1,a2,a3,a4⟩ := ha;obtain ⟨b1,b2,b3,b4⟩ := hb;obtain ⟨c1,c2,c3,c4⟩ := hc;obtain ⟨p0,q0⟩ := zBN (x := b.x - a.x) (y := c.y - a.y) (by omega) (by omega) (by omega) (by omega);have k0 : IntKind.i64.wrap ((b.x - a.x) * (c.y - a.y)) = (b.x - a.x) * (c.y - a.y) := IntWalk.i64_in _ (by omega);obtain ⟨p1,q1⟩ := zBN (x := b.y - a.y) (y := c.x - a.x) (by omega) (by omega) (by omega) (by omega);have k1 : IntKind.i64.wrap ((b.y - a.y) * (c.x - a.x)) = (b.y - a.y) * (c.x - a.x) := IntWalk.i64_in _ (by omega);have k9 : IntKind.i64.wrap ((b.x - a.x) * (c.y - a.y) - (b.y - a.y) * (c.x - a.x)) = (b.x - a.x) * (c.y - a.y) - (b.y - a.y) * (c.x - a.x) := IntWalk.i64_in _ (by omega);go_enter Tryz.func114,Tryz.ntmps114;go_wp2;go_ret;exact ⟨by simp [zAl],(((Lays.refl _).alloc _).alloc _).alloc _⟩
theorem valid1_any (a : Point) (w : World) : Calls Tryz.prog 168 #[.agg (zAb a)] w fun e w' => e = .returned (.bool (!inP a)) ∧ Below w.heap.size w w' := by
 have hB : Below w.heap.size w (w.alloc (.cells (zAb a) 27)) := (Below.refl _ _).alloc (Nat.le_refl _) _;have hb : zAd (w.alloc (.cells (zAb a) 27)) w.heap.size 27 (zAb a) := zAd.new _ _ _;obtain ⟨r,hr⟩ : ∃ r,inP a = r := ⟨_,rfl⟩
 have HV := zz (zDr a);rw [hr] at HV ⊢;clear hr;go_enter Tryz.func168,Tryz.ntmps168
 go_wp2_with (first
  | (refine zLd 3 hb (zAb a) zuB ?_)
  | (go_at_call 131;(with_reducible refine (HV.out _).mono ?_);rintro e w1 ⟨rfl,l1⟩))
 go_ret;exact ⟨rfl,hB.trans ((l1.below (Nat.le_refl _)).mono hB.size)⟩
theorem index_tpt (D : Nat → Prop) (s : Sl Point) (w : World) (hs : s.OK 2 zAb (fun _ _ _ => True) D w) (p : Point → Bool)
  (hp : ∀ x,(fun _ _ _ => True) D w x → ∀ W,Below w.heap.size w W → Calls Tryz.prog 168 #[.agg (zAb x)] W fun e W' => e = .returned (.bool (p x)) ∧ Below W.heap.size W W') :
  Calls Tryz.prog 190 #[.slice s.a s.val.length s.cap, .func (.func 168) #[] #[]] w fun e w' => e = .returned (.int .i64 (idxI p s.val)) ∧ Below w.heap.size w w' := by
 have hroom := hs.room;have HP := zz hp;have HS := zz hs;clear hp hs;obtain ⟨a,cap,val⟩ := s;simp only at hroom;go_enter Tryz.func190,Tryz.ntmps190;go_wp2
 go_loopw [5,8] (fun _ i wr => ∃ k : Nat,k ≤ val.length ∧ i = .int .i64 k ∧ Hid (∀ j y,j < k → val[j]? = some y → p y = false) ∧ Below w.heap.size w wr) (fun _ i _ => val.length - (intOf i).toNat)
 case atStart => exact ⟨0,Nat.zero_le _,rfl,zz (by omega),Below.refl _ _⟩
 case round =>
  obtain ⟨k,hk,rfl,hn,hB⟩ := hrel
  by_cases hlt : k < val.length
  ·obtain ⟨x,hx⟩ : ∃ x,val[k]? = some x := ⟨_,List.getElem?_eq_getElem hlt⟩
   have HX := zz hx;obtain ⟨b,o,rfl,hb,_,hok,hcell⟩ := HS.out.at hx;have HC : Hid (∀ j,j < (zAb x).size → wr.cell? ⟨b,o + k * 2 + j,none⟩ = (zAb x)[j]?) := zz fun j hj => by
    rw [(Ext.of_below (D := fun _ => False) hB).cell hb id];exact hcell j hj
   clear hx hcell;have hcall := HP.out x hok wr hB;have HCL := zz hcall;clear hcall
   by_cases hpx : p x = true
   ·have HPX := zz hpx;clear hpx
    go_wp2_with (first
     | (refine zBo rfl 27 _ rfl b (o + k * 2) rfl (zAb x) _ HC.out zuB ?_)
     | (go_at_call 168;refine HCL.out.mono ?_;rintro e w1 ⟨rfl,hb1⟩;rw [HPX.out]))
    go_ret;exact ⟨by simp [zCx HX.out hn.out HPX.out],hB.trans (hb1.mono hB.size)⟩
   ·have HPX : Hid (p x = false) := zz (by simpa using hpx);clear hpx
    go_wp2_with (first
     | (refine zBo rfl 27 _ rfl b (o + k * 2) rfl (zAb x) _ HC.out zuB ?_)
     | (go_at_call 168;refine HCL.out.mono ?_;rintro e w1 ⟨rfl,hb1⟩;rw [HPX.out]))
    go_roundw
    case rel =>
     refine ⟨k + 1,by omega,by go_num,zz fun j y hj hy => ?_,hB.trans (hb1.mono hB.size)⟩
     rcases Nat.lt_succ_iff_lt_or_eq.1 hj with h | rfl
     ·exact hn.out j y h hy
     ·rw [HX.out] at hy;cases hy;exact HPX.out
    case measure => simp [intOf];omega
  ·go_wp2;go_ret;refine ⟨?_,hB⟩;rw [zCu fun j y hy => hn.out j y (by have := (List.getElem?_eq_some_iff.1 hy).1;omega) hy]
   rfl
theorem contains_tpt (D : Nat → Prop) (s : Sl Point) (w : World) (hs : s.OK 2 zAb (fun _ _ _ => True) D w) (p : Point → Bool)
  (hp : ∀ x,(fun _ _ _ => True) D w x → ∀ W,Below w.heap.size w W → Calls Tryz.prog 168 #[.agg (zAb x)] W fun e W' => e = .returned (.bool (p x)) ∧ Below W.heap.size W W') :
  Calls Tryz.prog 167 #[.slice s.a s.val.length s.cap, .func (.func 168) #[] #[]] w fun e w' => e = .returned (.bool (s.val.any p)) ∧ Below w.heap.size w w' := by
 have H := zz (index_tpt D s w hs p hp);have hg := zz (idxI_ge p s.val);clear hp hs;go_enter Tryz.func167,Tryz.ntmps167
 go_wp2_with (go_at_call 190;refine H.out.mono ?_;rintro e w1 ⟨rfl,hb1⟩)
 go_ret;exact ⟨by simp [← hg.out],hb1⟩
theorem validL_any (D : Nat → Prop) (s : Sl Point) (w : World) (hs : s.OK 2 zAb (fun _ _ _ => True) D w) :
  Calls Tryz.prog 112 #[.slice s.a s.val.length s.cap] w fun e w' => e = .returned (.bool (!s.val.any fun p => !inP p)) ∧ Below w.heap.size w w' := by
 have H := zz (contains_tpt D s w hs (fun p => !inP p) fun x _ W _ => valid1_any x W);obtain ⟨r,hr⟩ : ∃ r,(s.val.any fun p => !inP p) = r := ⟨_,rfl⟩
 rw [hr] at H ⊢;clear hs hr;go_enter Tryz.func112,Tryz.ntmps112
 go_wp2_with (go_at_call 167;(with_reducible refine H.out.mono ?_);rintro e w1 ⟨rfl,hb1⟩)
 go_ret;exact ⟨rfl,hb1⟩
theorem zFt {p : Point} (h : inP p = true) : zAI p := by
 unfold inP winI at h;simp only [Bool.and_eq_true,decide_eq_true_eq] at h;unfold zAI;omega
theorem OwnL.lit {α : Type} {enc : α → Array Value} {sz : Nat} {W : World} {T : TypeId} {l : List α} {cs : Array Value} (hsz : ∀ x,(enc x).size = sz) (hm : l.length ≤ maxLen) (h : cs.toList = flat enc l) : OwnL enc sz (W.alloc (.cells cs T)) W.heap.size T (.slice (some ⟨W.heap.size,0,none⟩) l.length l.length) l := by
 have hf := zA2 (enc := enc) (sz := sz) hsz l;have hc : cs.size = l.length * sz := by rw [← hf,← h];simp
 exact ⟨hf, .inr ⟨W.heap.size,l.length,cs,rfl,Nat.le_refl _,(MapKept.heap_alloc W _).1,Nat.le_refl _,hm,hc,by rw [h,List.take_of_length_le (by rw [hf];exact Nat.le_refl _)]⟩⟩
theorem lay_below {W w1 : World} {o : Obj} (h : Below (W.alloc o).heap.size (W.alloc o) w1) : Below W.heap.size W w1 := by
 have h1 : Below W.heap.size W (W.alloc o) := (Below.refl _ _).alloc (Nat.le_refl _) _;exact h1.trans (h.mono h1.size)
theorem turn_any (a b c : Point) (ha : inP a = true) (hb : inP b = true) (hc : inP c = true) (w : World) :
  Calls Tryz.prog 48 #[.agg (zAb a), .agg (zAb b), .agg (zAb c)] w fun e w' => e = .returned (.tuple #[.int .i64 (cmpZ (zAl a b c) 0), .int .i64 0]) ∧ Below w.heap.size w w' := by
 have HCR : Hid (∀ W : World,Calls Tryz.prog 114 #[.agg (zAb a), .agg (zAb b), .agg (zAb c)] W fun e w' => e = .returned (.int .i64 (zAl a b c)) ∧ Lays W w') := zz fun W => crossPl_any a b c (zFt ha) (zFt hb) (zFt hc) W;have HVL : Hid (∀ (W : World) (n : Nat) (cs : Array Value),W.heap.size = n → cs.toList = flat zAb [a,b,c] → Calls Tryz.prog 112 #[.slice (some ⟨n,0,none⟩) 3 3] (W.alloc (.cells cs 27)) fun e w' => e = .returned (.bool true) ∧ Below (W.alloc (.cells cs 27)).heap.size (W.alloc (.cells cs 27)) w') := zz fun W n cs hn h => by
  subst hn;have ho := OwnL.lit (W := W) (T := 27) (enc := zAb) (sz := 2) (l := [a,b,c]) (cs := cs) (fun _ => rfl) (by show 3 ≤ _;decide) h;have hs := validL_any (fun _ => False) ⟨some ⟨W.heap.size,0,none⟩,3,[a,b,c]⟩ _ (ho.okSl (fun _ => rfl) (fun _ _ _ => True) (fun _ _ => trivial) (by simp));simpa [ha,hb,hc] using hs
 obtain ⟨z,hz⟩ : ∃ z,zAl a b c = z := ⟨_,rfl⟩
 rw [hz] at HCR ⊢;obtain ⟨HB0,HA,HB,HC⟩ := zP3 w (zAb a) 27 (zAb b) 27 (zAb c) 27;clear hz ha hb hc;go_enter Tryz.func48,Tryz.ntmps48
 go_wp2_with (first
  | (refine zLd 8 HA.out (zAb a) zuB ?_)
  | (refine zLd 9 HB.out (zAb b) zuB ?_)
  | (refine zLd 10 HC.out (zAb c) zuB ?_)
  | ((with_reducible refine zAn 11 ?_);refine wpList_lits (enc := zAb) (z0 := #[Value.int .i64 0,Value.int .i64 0]) [a,b,c] rfl 80 _ _ rfl zEv (by kernel_rfl) rfl (by decide) (fun _ => rfl) rfl (Nat.le_of_ble_eq_true rfl) (Nat.zero_lt_succ _) (by kernel_rfl) ?_;intro cs hcs;have HCS := zz hcs;clear hcs)
  | (go_at_call 112;refine (HVL.out _ _ cs (by simp) HCS.out).mono ?_;rintro e w1 ⟨rfl,hb1⟩;have hb2 := lay_below hb1;replace HA := zz (HA.out.belowAll hb2);replace HB := zz (HB.out.belowAll hb2);replace HC := zz (HC.out.belowAll hb2);replace HB0 := hTr HB0 hb2)
  | (refine zLd 14 HA.out (zAb a) zuB ?_)
  | (refine zLd 15 HB.out (zAb b) zuB ?_)
  | (refine zLd 16 HC.out (zAb c) zuB ?_)
  | (go_at_call 114;(with_reducible refine (HCR.out _).mono ?_);rintro e w3 ⟨rfl,l3⟩)
  | (go_at_call 113;(with_reducible refine (zDa _ _ _).mono ?_);rintro e w4 ⟨rfl,rfl⟩))
 go_ret2;exact ⟨rfl,HB0.out.trans ((l3.below (Nat.le_refl _)).mono HB0.out.size)⟩
end Go.Proofs.YtbbblemfodpmaaaGreat
