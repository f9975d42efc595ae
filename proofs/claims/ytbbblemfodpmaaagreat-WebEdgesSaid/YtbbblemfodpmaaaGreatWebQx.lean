/-Straight ahead between corners; outlines tell panes apart (plain).-/
import Derived.Test.YtbbblemfodpmaaaGreatWebPx
import Derived.Test.YtbbblemfodpmaaaGreatWebGp
set_option linter.unusedVariables false
set_option linter.unusedSimpArgs false
set_option maxHeartbeats 16000000
set_option maxRecDepth 100000
section
namespace Go.Proofs.YtbbblemfodpmaaaGreat
open Go.RowKit
theorem par_low {o p q : Point} (hp : o ≠ p) (hq : o ≠ q) (h0 : zAl o p q = 0) : (zAU o p = zAU o q ∧ 0 < dotP o p q) ∨ (zAU o p ≠ zAU o q ∧ dotP o p q < 0) := by
 unfold zAl at h0;unfold dotP
 cases e1 : zAU o p <;> cases e2 : zAU o q
 ·exact .inl ⟨rfl,zDY (zDd hp e1) (zDd hq e2) h0⟩
 ·have d := zDY (zDd hp e1) (zCw e2) (by grind);exact .inr ⟨by decide,by grind⟩
 ·have d := zDY (zCw e1) (zDd hq e2) (by grind);exact .inr ⟨by decide,by grind⟩
 ·have d := zDY (zCw e1) (zCw e2) (by grind);exact .inl ⟨rfl,by grind⟩
theorem zEp {a1 a2 b1 b2 c1 c2 : Int} (h1 : a1 * b2 - a2 * b1 = 0) (h2 : 0 < a1 * b1 + a2 * b2) (h3 : b1 * c2 - b2 * c1 = 0) (h4 : 0 < b1 * c1 + b2 * c2) : a1 * c2 - a2 * c1 = 0 ∧ 0 < a1 * c1 + a2 * c2 := by
 have hb : 0 < b1 * b1 + b2 * b2 := by
  have s1 := sq_nn b1;have s2 := sq_nn b2
  by_cases e1 : b1 = 0
  ·by_cases e2 : b2 = 0
   ·subst e1;subst e2;simp at h2
   ·rcases Int.lt_or_gt_of_ne e2 with h | h
    ·have := Int.mul_pos_of_neg_of_neg h h;omega
    ·have := Int.mul_pos h h;omega
  ·rcases Int.lt_or_gt_of_ne e1 with h | h
   ·have := Int.mul_pos_of_neg_of_neg h h;omega
   ·have := Int.mul_pos h h;omega
 have i1 : (b1 * b1 + b2 * b2) * (a1 * c2 - a2 * c1) = (a1 * b2 - a2 * b1) * (b1 * c1 + b2 * c2) + (a1 * b1 + a2 * b2) * (b1 * c2 - b2 * c1) := by grind
 have i2 : (b1 * b1 + b2 * b2) * (a1 * c1 + a2 * c2) = (a1 * b1 + a2 * b2) * (b1 * c1 + b2 * c2) - (a1 * b2 - a2 * b1) * (b1 * c2 - b2 * c1) := by grind
 rw [h1,h3,Int.zero_mul,Int.mul_zero] at i1;rw [h1,h3,Int.zero_mul] at i2;have p := Int.mul_pos h2 h4;refine ⟨?_, ?_⟩
 ·rcases Int.mul_eq_zero.1 i1 with h | h
  ·omega
  ·exact h
 ·refine Int.lt_of_not_ge fun hn => ?_;have := Int.mul_nonpos_of_nonneg_of_nonpos (Int.le_of_lt hb) hn;omega
def oP (js : List Joint) (ls : List Lead) (s : Side) : Point := ptA js (zAj ls s).1
def eP (js : List Joint) (ls : List Lead) (s : Side) : Point := ptA js (zAj ls s).2
def cornB (js : List Joint) (ls : List Lead) (s : Side) : Bool := !decide (zAl (oP js ls s) (eP js ls s) (eP js ls (zAv js ls s)) = 0)
def zEI (o p q r : Point) : Prop := (p.x - o.x) * (r.y - q.y) - (p.y - o.y) * (r.x - q.x) = 0 ∧ 0 < (p.x - o.x) * (r.x - q.x) + (p.y - o.y) * (r.y - q.y)
section
variable {js : List Joint} {ls : List Lead} (V : ValidW js ls)
include V
theorem ValidW.far {v : Int} {s : Side} (hs : s ∈ zAu v ls) : ptA js v ≠ ptA js (zAj ls s).2 := by
 obtain ⟨l,hl,_,_,i,hi,k,hk,e1,e2,e3,e4,e5,_⟩ := V.leave hs;rw [e4,e5];exact V.atne hi hk (by rw [e1];exact e3)
theorem ValidW.one_dir {v : Int} {s t : Side} (hs : s ∈ zAu v ls) (ht : t ∈ zAu v ls) (h0 : zAl (ptA js v) (ptA js (zAj ls s).2) (ptA js (zAj ls t).2) = 0) (h1 : 0 < dotP (ptA js v) (ptA js (zAj ls s).2) (ptA js (zAj ls t).2)) : s = t := by
 have e : zAU (ptA js v) (ptA js (zAj ls s).2) = zAU (ptA js v) (ptA js (zAj ls t).2) := by
  rcases par_low (V.far hs) (V.far ht) h0 with h | h
  ·exact h.1
  ·have := h.2;omega
 have h2 := zEJ (ptA js v) (ptA js (zAj ls s).2) (ptA js (zAj ls t).2);refine (V.ord v).tot s t hs ht ?_ ?_
 ·show ltD _ _ _ = false
  rw [Bool.eq_false_iff];intro h
  rcases zC8.1 h with ⟨a,b⟩ | ⟨_,b⟩
  ·rw [e,b] at a;cases a
  ·omega
 ·show ltD _ _ _ = false
  rw [Bool.eq_false_iff];intro h
  rcases zC8.1 h with ⟨a,b⟩ | ⟨_,b⟩
  ·rw [e,a] at b;cases b
  ·omega
theorem ValidW.next_o {s : Side} (h : zAE ls s) : oP js ls (zAv js ls s) = eP js ls s := by
 unfold oP eP;rw [(V.next h).2.1]
theorem ValidW.ahead {s : Side} (h : zAE ls s) (hb : ∀ l ∈ ls,zAW js ls l = false) (h0 : cornB js ls s = false) : zEI (oP js ls s) (eP js ls s) (eP js ls s) (eP js ls (zAv js ls s)) := by
 have h0 : zAl (oP js ls s) (eP js ls s) (eP js ls (zAv js ls s)) = 0 := by simpa [cornB] using h0
 obtain ⟨n1,n2,_⟩ := V.next h;have hr : revA s ∈ zAu (zAj ls s).2 ls := zB2.1 (V.rev_out h);have ht : zAv js ls s ∈ zAu (zAj ls s).2 ls := by rw [← n2];exact V.side_leave n1
 have er : ptA js (zAj ls (revA s)).2 = oP js ls s := by rw [V.rev_ends h];rfl
 have hc : zAl (eP js ls s) (oP js ls s) (eP js ls (zAv js ls s)) = 0 := by unfold zAl at h0 ⊢;grind
 refine ⟨by unfold zAl at hc;grind, ?_⟩;have f1 := V.far hr;have f2 := V.far ht;rw [er] at f1
 rcases par_low f1 f2 hc with ⟨_,k⟩ | ⟨_,k⟩
 ·exfalso;have e : revA s = zAv js ls s := V.one_dir hr ht (by rw [er];exact hc) (by rw [er];exact k);obtain ⟨l,hl,el⟩ := h;have hw : revA s ∈ zAr js ls s := by
   rw [e];exact (V.walk_next ⟨l,hl,el⟩ (zEK ⟨l,hl,el⟩)).2
  have := (V.bridge_walk hl el).1 hw;rw [hb l hl] at this;cases this
 ·have k' : dotP (eP js ls s) (oP js ls s) (eP js ls (zAv js ls s)) < 0 := k;unfold dotP at k'
  grind
theorem ValidW.run {t : Side} (h : zAE ls t) (hb : ∀ l ∈ ls,zAW js ls l = false) : ∀ m,(∀ i,i < m → cornB js ls (itA (zAv js ls) i t) = false) →
  zEI (oP js ls t) (eP js ls t) (oP js ls (itA (zAv js ls) m t)) (eP js ls (itA (zAv js ls) m t)) ∧ zEI (oP js ls t) (eP js ls t) (oP js ls t) (eP js ls (itA (zAv js ls) m t))
 | 0,_ => by
  have f := V.far (V.side_leave h);have : zEI (oP js ls t) (eP js ls t) (oP js ls t) (eP js ls t) := by
   refine ⟨by grind, ?_⟩
   rcases par_low f f (show zAl _ _ _ = 0 by unfold zAl;grind) with ⟨_,k⟩ | ⟨k,_⟩
   ·exact k
   ·exact absurd rfl k
  exact ⟨this,this⟩
 | m + 1,hm => by
  obtain ⟨i1,i2⟩ := ValidW.run h hb m fun i hi => hm i (by omega);have hs := V.it_side h m;have a := V.ahead hs hb (hm m (by omega));have e : oP js ls (itA (zAv js ls) (m + 1) t) = eP js ls (itA (zAv js ls) m t) := V.next_o hs;have j1 : zEI (oP js ls t) (eP js ls t) (oP js ls (itA (zAv js ls) (m + 1) t)) (eP js ls (itA (zAv js ls) (m + 1) t)) := by
   rw [e];exact zEp i1.1 i1.2 a.1 a.2
  refine ⟨j1, ?_⟩;obtain ⟨c1,c2⟩ := j1;obtain ⟨d1,d2⟩ := i2;rw [e] at c1 c2;unfold zEI
  show (_ = 0) ∧ _
  revert c1 c2 d1 d2
  generalize eP js ls (itA (zAv js ls) (m + 1) t) = A;generalize eP js ls (itA (zAv js ls) m t) = B;intro c1 c2 d1 d2;exact ⟨by grind,by grind⟩
end
end Go.Proofs.YtbbblemfodpmaaaGreat
end
section
namespace Go.Proofs.YtbbblemfodpmaaaGreat
open Go.RowKit
theorem atN_eq {l : List Nat} {i : Nat} (h : i < l.length) : atN l i = l[i] := by unfold atN;rw [List.getElem?_eq_getElem h];rfl
structure CycC (n : Nat) (c : List Nat) : Prop where
 up : ∀ i k,i < k → k < c.length → atN c i < atN c k
 lt : ∀ i,i < c.length → atN c i < n
theorem zEZ (n : Nat) (p : Nat → Bool) : CycC n ((List.range n).filter p) := by
 refine ⟨fun i k h hk => ?_,fun i h => ?_⟩
 ·rw [atN_eq hk,atN_eq (by omega)];exact List.pairwise_iff_getElem.1 (List.pairwise_lt_range.filter p) i k (by omega) hk h
 ·rw [atN_eq h];exact List.mem_range.1 (List.mem_filter.1 (List.getElem_mem h)).1
theorem el_lt {n a b : Nat} (h : a < b) (hb : b < n) : zBy n a b = b - a := by
 unfold zBy;have e := zCJ (show 0 < n by omega) (x := b + n - a - 1) (by omega);rw [e,if_neg (by omega)];omega
theorem el_ge {n a b : Nat} (h : b ≤ a) (ha : a < n) : zBy n a b = n + b - a := by
 unfold zBy;have e := zCJ (show 0 < n by omega) (x := b + n - a - 1) (by omega);rw [e,if_pos (by omega)];omega
theorem cyc_gap {n : Nat} {p : Nat → Bool} {c : List Nat} (hc : c = (List.range n).filter p) {a : Nat} (ha : a < c.length) {q : Nat} (hq : q + 1 < zBy n (atN c a) (atN c ((a + 1) % c.length))) : p ((atN c a + (q + 1)) % n) = false := by
 have C : CycC n c := hc ▸ zEZ n p;have hla := C.lt a ha;have n0 : 0 < n := by omega
 cases hp : p ((atN c a + (q + 1)) % n) with
 | false => rfl
 | true =>
  exfalso;have hm : (atN c a + (q + 1)) % n ∈ c := by
   have h9 : (atN c a + (q + 1)) % n ∈ (List.range n).filter p := List.mem_filter.2 ⟨List.mem_range.2 (Nat.mod_lt _ n0),hp⟩
   rwa [← hc] at h9
  obtain ⟨b,hb,eb⟩ := List.mem_iff_getElem.1 hm;rw [← atN_eq hb] at eb
  by_cases h1 : a + 1 < c.length
  ·rw [Nat.mod_eq_of_lt h1] at hq;have u := C.up a (a + 1) (by omega) h1;have l1 := C.lt _ h1;rw [el_lt u l1] at hq;rw [Nat.mod_eq_of_lt (by omega)] at eb
   rcases Nat.lt_trichotomy b a with h | h | h
   ·have := C.up b a h ha;omega
   ·subst h;omega
   ·rcases Nat.lt_or_ge (a + 1) b with k | k
    ·have := C.up _ b k hb;omega
    ·have : b = a + 1 := by omega
     subst this;omega
  ·have e1 : a + 1 = c.length := by omega
   rw [e1,Nat.mod_self] at hq;have u : atN c 0 ≤ atN c a := by
    rcases Nat.eq_zero_or_pos a with h | h
    ·subst h;exact Nat.le_refl _
    ·exact Nat.le_of_lt (C.up 0 a h ha)
   rw [el_ge u hla] at hq;have e := zCJ n0 (x := atN c a + (q + 1)) (by omega);rw [e] at eb
   by_cases h2 : atN c a + (q + 1) < n
   ·rw [if_pos h2] at eb
    rcases Nat.lt_trichotomy b a with h | h | h
    ·have := C.up b a h ha;omega
    ·subst h;omega
    ·omega
   ·rw [if_neg h2] at eb
    rcases Nat.eq_zero_or_pos b with h | h
    ·subst h;omega
    ·have := C.up 0 b h hb;omega
def cumD (n : Nat) (c : List Nat) (f k : Nat) : Nat := if f + k < c.length then atN c (f + k) - atN c f else n + atN c (f + k - c.length) - atN c f
theorem cum_step {n : Nat} {c : List Nat} (C : CycC n c) {f k : Nat} (hf : f < c.length) (hk : k < c.length) :
  cumD n c f (k + 1) = cumD n c f k + zBy n (atN c ((f + k) % c.length)) (atN c ((f + k + 1) % c.length)) ∧ (atN c f + cumD n c f k) % n = atN c ((f + k) % c.length) := by
 have lf := C.lt f hf;unfold cumD
 by_cases h1 : f + k < c.length
 ·have u : atN c f ≤ atN c (f + k) := by
   rcases Nat.eq_zero_or_pos k with h | h
   ·subst h;exact Nat.le_refl _
   ·exact Nat.le_of_lt (C.up f (f + k) (by omega) h1)
  have l1 := C.lt _ h1;rw [if_pos h1,Nat.mod_eq_of_lt h1];refine ⟨?_,by rw [show atN c f + (atN c (f + k) - atN c f) = atN c (f + k) by omega,Nat.mod_eq_of_lt l1]⟩
  by_cases h2 : f + k + 1 < c.length
  ·have u2 := C.up (f + k) (f + k + 1) (by omega) h2;rw [if_pos (show f + (k + 1) < c.length by omega),Nat.mod_eq_of_lt h2,el_lt u2 (C.lt _ h2),show f + (k + 1) = f + k + 1 from rfl];omega
  ·have u2 : atN c 0 ≤ atN c (f + k) := by
    rcases Nat.eq_zero_or_pos (f + k) with h | h
    ·rw [h];exact Nat.le_refl _
    ·exact Nat.le_of_lt (C.up 0 (f + k) h h1)
   rw [if_neg (show ¬ f + (k + 1) < c.length by omega),show f + k + 1 = c.length by omega,Nat.mod_self,el_ge u2 l1,show f + (k + 1) - c.length = 0 by omega];omega
 ·have hb : f + k - c.length + 1 < c.length := by omega
  have u := C.up (f + k - c.length) (f + k - c.length + 1) (by omega) hb;have l1 := C.lt _ hb;have e1 := zCJ (show 0 < c.length by omega) (x := f + k) (by omega);have e2 := zCJ (show 0 < c.length by omega) (x := f + k + 1) (by omega);rw [if_neg h1] at e1;rw [if_neg (by omega)] at e2;rw [if_neg h1,if_neg (show ¬ f + (k + 1) < c.length by omega),e1,e2,show f + k + 1 - c.length = f + k - c.length + 1 by omega,show f + (k + 1) - c.length = f + k - c.length + 1 by omega,el_lt u l1];refine ⟨by omega, ?_⟩;rw [show atN c f + (n + atN c (f + k - c.length) - atN c f) = n + atN c (f + k - c.length) by omega,Nat.add_mod_left,Nat.mod_eq_of_lt (by omega)]
theorem zGa {l : List Side} {c : List Nat} (C : CycC l.length c) {f : Nat} (hf : f < c.length) : ∀ k,k ≤ c.length →
  ((List.range k).map fun k => zBG l (atN c ((f + k) % c.length)) (atN c ((f + k + 1) % c.length))).flatten = (List.range (cumD l.length c f k)).map fun q => (l[(atN c f + q) % l.length]?).getD zCS
 | 0,_ => by
  have : cumD l.length c f 0 = 0 := by unfold cumD;rw [if_pos (by omega),Nat.add_zero,Nat.sub_self]
  rw [this];rfl
 | k + 1,hk => by
  have ih := zGa C hf k (by omega);obtain ⟨s1,s2⟩ := cum_step C hf (show k < c.length by omega);rw [zDj,List.flatten_append,ih,s1,List.range_add,List.map_append,List.map_map]
  congr 1
  simp only [List.flatten_cons,List.flatten_nil,List.append_nil];unfold zBG
  apply List.map_congr_left
  intro q _;simp only [Function.comp];rw [← s2,Nat.mod_add_mod,Nat.add_assoc]
theorem rot_eq {l : List Side} {f : Nat} (hf : f < l.length) : ((List.range l.length).map fun q => (l[(f + q) % l.length]?).getD zCS) = l.drop f ++ l.take f := by
 apply List.ext_getElem?
 intro i
 by_cases hi : i < l.length
 ·rw [List.getElem?_map,List.getElem?_range hi];have e := zCJ (show 0 < l.length by omega) (x := f + i) (by omega);simp only [Option.map_some];rw [e]
  by_cases h1 : f + i < l.length
  ·rw [if_pos h1,List.getElem?_append_left (by rw [List.length_drop];omega),List.getElem?_drop,List.getElem?_eq_getElem h1];rfl
  ·rw [if_neg h1,List.getElem?_append_right (by rw [List.length_drop];omega),List.length_drop,List.getElem?_take_of_lt (by omega),show i - (l.length - f) = f + i - l.length by omega,List.getElem?_eq_getElem (by omega)];rfl
 ·rw [List.getElem?_eq_none (by simp;omega),List.getElem?_eq_none (by simp;omega)]
theorem fromC_mod {pts : List Point} (hne : zAs pts ≠ []) : zCP pts % (zAs pts).length < (zAs pts).length ∧ ∀ k,zBm pts k = atN (zAs pts) ((zCP pts % (zAs pts).length + k) % (zAs pts).length) := by
 refine ⟨Nat.mod_lt _ (by cases h : zAs pts with
  | nil => exact absurd h hne
  | cons => simp),fun k => ?_⟩
 unfold zBm;rw [Nat.mod_add_mod]
theorem zGb {l : List Side} {pts : List Point} (hl : pts.length = l.length) (hne : zAs pts ≠ []) : (zBE l pts).flatten.Perm l := by
 obtain ⟨hf,he⟩ := fromC_mod hne;have C : CycC l.length (zAs pts) := by rw [← hl];exact zEZ _ _
 have h := zGa C hf _ (Nat.le_refl _);have hcum : cumD l.length (zAs pts) (zCP pts % (zAs pts).length) (zAs pts).length = l.length := by
  unfold cumD;rw [if_neg (by omega),Nat.add_sub_cancel];have := C.lt _ hf;omega
 rw [hcum,rot_eq (C.lt _ hf)] at h;have e : zBE l pts = (List.range (zAs pts).length).map fun k => zBG l (atN (zAs pts) ((zCP pts % (zAs pts).length + k) % (zAs pts).length)) (atN (zAs pts) ((zCP pts % (zAs pts).length + k + 1) % (zAs pts).length)) := by
  unfold zBE
  apply List.map_congr_left
  intro k _;rw [he,he];rfl
 rw [e,h];exact List.perm_append_comm.trans (by rw [List.take_append_drop])
end Go.Proofs.YtbbblemfodpmaaaGreat
end
section
namespace Go.Proofs.YtbbblemfodpmaaaGreat
open Go.RowKit
theorem len_end {n a b : Nat} (ha : a < n) (hb : b < n) : (a + zBy n a b) % n = b := by
 rcases Nat.lt_or_ge a b with h | h
 ·rw [el_lt h hb,show a + (b - a) = b by omega,Nat.mod_eq_of_lt hb]
 ·rw [el_ge h ha,show a + (n + b - a) = n + b by omega,Nat.add_mod_left,Nat.mod_eq_of_lt hb]
theorem flat_own {α : Type} {L : List (List α)} (h : L.flatten.Nodup) {l m : List α} (hl : l ∈ L) (hm : m ∈ L) {x : α} (hx : x ∈ l) (hy : x ∈ m) : l = m := by
 rcases pw_or (List.pairwise_flatten.1 h).2 hl hm with e | e | e
 ·exact e
 ·exact absurd rfl (e x hx x hy)
 ·exact absurd rfl (e x hy x hx)
section
variable {js : List Joint} {ls : List Lead} (V : ValidW js ls)
include V
theorem ValidW.walk_at {s : Side} (h : zAE ls s) {i : Nat} {t : Side} (ht : (zAr js ls s)[i]? = some t) : ∀ q,(zAr js ls s)[(i + q) % (zAr js ls s).length]? = some (itA (zAv js ls) q t)
 | 0 => by
  have := (List.getElem?_eq_some_iff.1 ht).1;rw [Nat.add_zero,Nat.mod_eq_of_lt this];exact ht
 | q + 1 => by
  have := V.walk_step h (ValidW.walk_at h ht q);rw [zEm (by have := (List.getElem?_eq_some_iff.1 ht).1;omega)] at this;exact this
theorem ValidW.corner_at {s : Side} (h : zAE ls s) {i : Nat} {t : Side} (ht : (zAr js ls s)[i]? = some t) : zBt (zAm js ls (zAr js ls s)) ((i + 1) % (zAr js ls s).length) = cornB js ls t := by
 have hi := (List.getElem?_eq_some_iff.1 ht).1;have g1 := V.walk_step h ht;have g2 := V.walk_step h g1;have h1 := (V.walk_next h (List.mem_of_getElem? ht)).1;have h2 := (V.walk_next h (List.mem_of_getElem? g1)).1;have pt : ∀ {j : Nat} {x : Side},(zAr js ls s)[j]? = some x → ((zAm js ls (zAr js ls s))[j]?).getD zAx = oP js ls x := fun hx => by
  unfold zAm;rw [List.getElem?_map,hx];rfl
 have e0 : (zAm js ls (zAr js ls s)).length = (zAr js ls s).length := by unfold zAm;rw [List.length_map]
 unfold zBt;rw [e0,(mod_succ hi).1,pt ht,pt g1,pt g2,V.next_o h1,V.next_o h2]
 rfl
theorem ValidW.edge {s : Side} (h : zAE ls s) (hne : zAs (zAm js ls (zAr js ls s)) ≠ []) {k : Nat} (hk : k < (zAs (zAm js ls (zAr js ls s))).length) :
  ∃ t len,0 < len ∧ t ∈ zAr js ls s ∧ (zBE (zAr js ls s) (zAm js ls (zAr js ls s)))[k]? = some ((List.range len).map fun q => itA (zAv js ls) q t) ∧
   (zBl (zAm js ls (zAr js ls s)))[k]? = some (oP js ls t) ∧ (zBl (zAm js ls (zAr js ls s)))[(k + 1) % (zAs (zAm js ls (zAr js ls s))).length]? = some (eP js ls (itA (zAv js ls) (len - 1) t)) ∧
   ∀ i,i + 1 < len → cornB js ls (itA (zAv js ls) i t) = false := by
 obtain ⟨hf,he⟩ := fromC_mod hne;have e0 : (zAm js ls (zAr js ls s)).length = (zAr js ls s).length := by unfold zAm;rw [List.length_map]
 have C : CycC (zAr js ls s).length (zAs (zAm js ls (zAr js ls s))) := by rw [← e0];exact zEZ _ _
 have hM : 0 < (zAs (zAm js ls (zAr js ls s))).length := by omega
 have ha := Nat.mod_lt (zCP (zAm js ls (zAr js ls s)) % (zAs (zAm js ls (zAr js ls s))).length + k) hM;have hb := Nat.mod_lt (zCP (zAm js ls (zAr js ls s)) % (zAs (zAm js ls (zAr js ls s))).length + (k + 1)) hM;have l1 := C.lt _ ha;have l2 := C.lt _ hb;rw [← he k] at l1;rw [← he (k + 1)] at l2;have pt : ∀ {j : Nat} {x : Side},(zAr js ls s)[j]? = some x → ((zAm js ls (zAr js ls s))[j]?).getD zAx = oP js ls x := fun hx => by
  unfold zAm;rw [List.getElem?_map,hx];rfl
 obtain ⟨t,ht⟩ : ∃ t,(zAr js ls s)[zBm (zAm js ls (zAr js ls s)) k]? = some t := ⟨_,List.getElem?_eq_getElem l1⟩
 refine ⟨t,zBy (zAr js ls s).length (zBm (zAm js ls (zAr js ls s)) k) (zBm (zAm js ls (zAr js ls s)) (k + 1)),by unfold zBy;omega,List.mem_of_getElem? ht, ?_, ?_, ?_,fun i hi => ?_⟩
 ·unfold zBE;rw [List.getElem?_map,List.getElem?_range hk];simp only [Option.map_some];unfold zBG
  congr 1
  apply List.map_congr_left
  intro q _;rw [V.walk_at h ht q];rfl
 ·unfold zBl;rw [List.getElem?_map,List.getElem?_range hk];simp only [Option.map_some];rw [pt ht]
 ·unfold zBl;rw [List.getElem?_map,List.getElem?_range (Nat.mod_lt _ hM)];simp only [Option.map_some];have e1 : zBm (zAm js ls (zAr js ls s)) ((k + 1) % (zAs (zAm js ls (zAr js ls s))).length) = zBm (zAm js ls (zAr js ls s)) (k + 1) := by rw [he,he,Nat.add_mod_mod]
  have g := V.walk_at h ht (zBy (zAr js ls s).length (zBm (zAm js ls (zAr js ls s)) k) (zBm (zAm js ls (zAr js ls s)) (k + 1)));rw [len_end l1 l2] at g;rw [e1,pt g]
  congr 1
  have hts := (V.walk_next h (List.mem_of_getElem? ht)).1;rw [← V.next_o (V.it_side hts _)]
  congr 1
 ·have g := V.walk_at h ht i;rw [← V.corner_at h g,zEm (by omega)];have e2 : zBm (zAm js ls (zAr js ls s)) (k + 1) = atN (zAs (zAm js ls (zAr js ls s))) (((zCP (zAm js ls (zAr js ls s)) % (zAs (zAm js ls (zAr js ls s))).length + k) % (zAs (zAm js ls (zAr js ls s))).length + 1) % (zAs (zAm js ls (zAr js ls s))).length) := by
   rw [he,zEm hM]
  rw [he k,e2] at hi;have := cyc_gap (n := (zAr js ls s).length) (p := zBt (zAm js ls (zAr js ls s))) (c := zAs (zAm js ls (zAr js ls s))) (by unfold zAs;rw [e0]) ha hi;rw [he k];exact this
theorem ValidW.corn_ne {s : Side} (h : zAE ls s) (hb : ∀ l ∈ ls,zAW js ls l = false) : zAs (zAm js ls (zAr js ls s)) ≠ [] := by
 intro h0;obtain ⟨n,n1,n2,n3,n4,n5⟩ := V.walk h;have hlen : (zAr js ls s).length = n := by rw [n5];simp
 have e0 : (zAm js ls (zAr js ls s)).length = (zAr js ls s).length := by unfold zAm;rw [List.length_map]
 have nc : ∀ i,i < n - 1 → cornB js ls (itA (zAv js ls) i s) = false := fun i hi => by
  have g : (zAr js ls s)[i]? = some (itA (zAv js ls) i s) := by rw [n5,List.getElem?_map,List.getElem?_range (by omega)];rfl
  have c := V.corner_at h g;rw [← c]
  cases hc : zBt (zAm js ls (zAr js ls s)) ((i + 1) % (zAr js ls s).length) with
  | false => rfl
  | true =>
   have : (i + 1) % (zAr js ls s).length ∈ zAs (zAm js ls (zAr js ls s)) := List.mem_filter.2 ⟨List.mem_range.2 (by rw [e0];exact Nat.mod_lt _ (by omega)),hc⟩;rw [h0] at this;cases this
 have r := (V.run h hb (n - 1) nc).2.2;have e : eP js ls (itA (zAv js ls) (n - 1) s) = oP js ls s := by
  rw [← V.next_o (V.it_side h _)];have : zAv js ls (itA (zAv js ls) (n - 1) s) = itA (zAv js ls) n s := by
   obtain ⟨m,rfl⟩ : ∃ m,n = m + 1 := ⟨n - 1,by omega⟩
   rfl
  rw [this,n3]
 rw [e] at r;simp at r
theorem ValidW.at_same {v w : Int} {s t : Side} (hs : s ∈ zAu v ls) (ht : t ∈ zAu w ls) (e : ptA js v = ptA js w) : v = w := by
 obtain ⟨_,_,_,_,i,hi,_,_,e1,_,_,e4,_⟩ := V.leave hs;obtain ⟨_,_,_,_,k,hk,_,_,f1,_,_,f4,_⟩ := V.leave ht;refine Decidable.byContradiction fun hne => ?_;exact V.atne hi hk (by rw [e1,f1];exact hne) (by rw [← e4,← f4];exact e)
theorem ValidW.told (hb : ∀ l ∈ ls,zAW js ls l = false) : Told js ls := by
 have hw : ∀ l ∈ zA3 js ls,∃ s,zAE ls s ∧ l = zAr js ls s ∧ l ∈ zCB js ls := fun l hl => by
  have h1 := (List.mem_filter.1 hl).1;obtain ⟨s,hs,e⟩ := V.walks_inv.1 l h1;exact ⟨s,hs,e,h1⟩
 refine ⟨fun l hl => ?_,fun a ha b hb2 e => ?_⟩
 ·obtain ⟨s,hs,rfl,_⟩ := hw l hl;exact V.corn_ne hs hb
 ·obtain ⟨l1,h1,rfl⟩ := List.mem_map.1 ha;obtain ⟨l2,h2,rfl⟩ := List.mem_map.1 hb2;obtain ⟨s1,i1,e1,m1⟩ := hw l1 h1;obtain ⟨s2,i2,e2,m2⟩ := hw l2 h2;have n1 := V.corn_ne i1 hb;have n2 := V.corn_ne i2 hb;rw [← e1] at n1;rw [← e2] at n2;have p1 : 0 < (zAs (zAm js ls l1)).length := Nat.pos_of_ne_zero fun h => n1 (List.eq_nil_of_length_eq_zero h);have p2 : 0 < (zAs (zAm js ls l2)).length := Nat.pos_of_ne_zero fun h => n2 (List.eq_nil_of_length_eq_zero h);have x1 := V.edge i1 (by rw [← e1];exact n1) (k := 0) (by rw [← e1];exact p1);have x2 := V.edge i2 (by rw [← e2];exact n2) (k := 0) (by rw [← e2];exact p2);rw [← e1] at x1;rw [← e2] at x2;obtain ⟨t1,k1,a1,b1,_,c1,d1,g1⟩ := x1;obtain ⟨t2,k2,a2,b2,_,c2,d2,g2⟩ := x2;have eo : zBl (zAm js ls l1) = zBl (zAm js ls l2) := e;have el : (zAs (zAm js ls l1)).length = (zAs (zAm js ls l2)).length := by
   have := congrArg List.length eo;unfold zBl at this;simpa using this
  rw [eo,c2] at c1;rw [eo,el,d2] at d1;have c1 : oP js ls t2 = oP js ls t1 := by simpa using c1
  have d1 : eP js ls (itA (zAv js ls) (k2 - 1) t2) = eP js ls (itA (zAv js ls) (k1 - 1) t1) := by simpa using d1
  have q1 : zAE ls t1 := (V.walk_next i1 (by rw [← e1];exact b1)).1;have q2 : zAE ls t2 := (V.walk_next i2 (by rw [← e2];exact b2)).1;have r1 := (V.run q1 hb (k1 - 1) fun i hi => g1 i (by omega)).2;have r2 := (V.run q2 hb (k2 - 1) fun i hi => g2 i (by omega)).2;rw [c1,d1] at r2;obtain ⟨u1,u2⟩ := r1;obtain ⟨v1,v2⟩ := r2;have z := zEp u1 u2 (c1 := (eP js ls t2).x - (oP js ls t1).x) (c2 := (eP js ls t2).y - (oP js ls t1).y) (by grind) (by grind);have hv : (zAj ls t2).1 = (zAj ls t1).1 := V.at_same (V.side_leave q2) (V.side_leave q1) c1;have w1 := V.side_leave q1;have w2 := V.side_leave q2;rw [hv] at w2;have et : t1 = t2 := V.one_dir w1 w2 z.1 z.2;subst et;rw [flat_own V.walks_inv.2 m1 m2 b1 b2]
end
end Go.Proofs.YtbbblemfodpmaaaGreat
end
section
namespace Go.Proofs.YtbbblemfodpmaaaGreat
open Go.RowKit
theorem of_edge (n : Int) (s : Side) : ∀ (e : List Side) (m : List (Side × Int)),aget (zCF n m e) s = if s ∈ e then some n else aget m s
 | [],m => by simp [zCF]
 | t :: e,m => by
  have ih := of_edge n s e (aput m t n)
  show aget (zCF n (aput m t n) e) s = _
  rw [ih,zBv]
  by_cases h1 : s ∈ e
  ·simp [h1]
  ·by_cases h2 : s = t <;> simp [h1,h2]
theorem of_edges (n : Int) (s : Side) : ∀ (E : List (List Side)) (m : List (Side × Int)),aget (E.foldl (zCF n) m) s = if s ∈ E.flatten then some n else aget m s
 | [],m => by simp
 | e :: E,m => by
  have ih := of_edges n s E (zCF n m e)
  show aget (E.foldl (zCF n) (zCF n m e)) s = _
  rw [ih,of_edge,List.flatten_cons]
  by_cases h1 : s ∈ E.flatten
  ·rw [if_pos h1,if_pos (List.mem_append_right _ h1)]
  ·by_cases h2 : s ∈ e
   ·rw [if_neg h1,if_pos h2,if_pos (List.mem_append_left _ h2)]
   ·rw [if_neg h1,if_neg h2,if_neg fun h => by rcases List.mem_append.1 h with h | h;exact h2 h;exact h1 h]
theorem of_none (s : Side) : ∀ (L : List PaneP) (m : List (Side × Int)),(∀ p ∈ L,s ∉ p.edges.flatten) → aget (L.foldl zCG m) s = aget m s
 | [],m,_ => rfl
 | p :: L,m,h => by
  have ih := of_none s L (zCG m p) fun q hq => h q (List.mem_cons_of_mem _ hq)
  show aget (L.foldl zCG (zCG m p)) s = _
  rw [ih];unfold zCG;rw [of_edges,if_neg (h p (by simp))]
def DisE (E F : List (List Side)) : Prop := ∀ x ∈ E.flatten,x ∉ F.flatten
theorem of_in (s : Side) {p : PaneP} : ∀ (L : List PaneP) (m : List (Side × Int)),(L.map PaneP.edges).Pairwise DisE → p ∈ L → s ∈ p.edges.flatten → aget (L.foldl zCG m) s = some p.id
 | [],m,_,h,_ => by cases h
 | q :: L,m,hd,h,hs => by
  rw [List.map_cons,List.pairwise_cons] at hd
  show aget (L.foldl zCG (zCG m q)) s = _
  rcases List.mem_cons.1 h with rfl | h
  ·rw [of_none s L _ fun r hr => hd.1 _ (List.mem_map_of_mem hr) s hs];unfold zCG;rw [of_edges,if_pos hs]
  ·exact of_in s L _ hd.2 h hs
theorem zGm (l : List PaneP) : (zBJ l).map PaneP.edges = l.map PaneP.edges := by
 apply List.ext_getElem?
 intro i;rw [List.getElem?_map,zDl,List.getElem?_map]
 cases l[i]? <;> rfl
def paneOf (js : List Joint) (ls : List Lead) (s : Side) : Int := (aget (ofA (zBq js ls)) s).getD 0
theorem panes_len (js : List Joint) (ls : List Lead) : (zBq js ls).length = (zA3 js ls).length := by
 unfold zBq zBJ;rw [List.length_map,List.length_zipIdx,(zBK _ _).length_eq];unfold zCp;rw [List.length_map]
theorem pane_at {js : List Joint} {ls : List Lead} {i : Nat} {p : PaneP} (h : (zBq js ls)[i]? = some p) : p.id = (i : Int) + 1 ∧ ∃ l ∈ zA3 js ls,p.outline = zBl (zAm js ls l) ∧ p.edges = zBE l (zAm js ls l) := by
 unfold zBq at h;rw [zDl] at h
 cases hq : (sortB zC2 (zCp js ls))[i]? with
 | none => rw [hq] at h;cases h
 | some q =>
  rw [hq] at h;obtain rfl : { q with id := (i : Int) + 1 } = p := by simpa using h
  have hm := (zBK zC2 (zCp js ls)).mem_iff.1 (List.mem_of_getElem? hq);obtain ⟨l,hl,rfl⟩ := List.mem_map.1 hm;exact ⟨rfl,l,hl,rfl,rfl⟩
theorem zDC (js : List Joint) (ls : List Lead) : (zA3 js ls).Sublist (zCB js ls) := List.filter_sublist
theorem zCK (l : List Point) : (zBl l).length = (zAs l).length := by unfold zBl;rw [List.length_map,List.length_range]
theorem zEy (l : List Side) (p : List Point) : (zBE l p).length = (zAs p).length := by unfold zBE;rw [List.length_map,List.length_range]
theorem zFL (js : List Joint) (ls : List Lead) (l : List Side) : (zAm js ls l).length = l.length := by unfold zAm;rw [List.length_map]
section
variable {js : List Joint} {ls : List Lead} (V : ValidW js ls)
include V
theorem ValidW.bound {l : List Side} (h : l ∈ zA3 js ls) : ∃ s,zAE ls s ∧ l = zAr js ls s := by
 obtain ⟨s,hs,e⟩ := V.walks_inv.1 l ((zDC js ls).subset h);exact ⟨s,hs,e⟩
theorem ValidW.bound_edges (hb : ∀ l ∈ ls,zAW js ls l = false) {l : List Side} (h : l ∈ zA3 js ls) : (zBE l (zAm js ls l)).flatten.Perm l := by
 obtain ⟨s,hs,rfl⟩ := V.bound h;exact zGb (zFL _ _ _) (V.corn_ne hs hb)
theorem ValidW.panes_dis (hb : ∀ l ∈ ls,zAW js ls l = false) : ((zBq js ls).map PaneP.edges).Pairwise DisE := by
 unfold zBq;rw [zGm];have hs : ∀ {a b : PaneP},DisE a.edges b.edges → DisE b.edges a.edges := fun h x hx hy => h x hy hx;rw [List.pairwise_map];refine ((zBK zC2 (zCp js ls)).pairwise_iff hs).2 ?_;unfold zCp;rw [List.pairwise_map];have hd := (List.pairwise_flatten.1 V.walks_inv.2).2.sublist (zDC js ls);refine hd.imp_of_mem ?_;intro a b ha hb2 h x hx hy;exact h x ((V.bound_edges hb ha).mem_iff.1 hx) x ((V.bound_edges hb hb2).mem_iff.1 hy) rfl
theorem ValidW.paneOf_in (hb : ∀ l ∈ ls,zAW js ls l = false) {p : PaneP} (hp : p ∈ zBq js ls) {s : Side} (hs : s ∈ p.edges.flatten) : paneOf js ls s = p.id := by
 unfold paneOf;rw [show aget (ofA (zBq js ls)) s = some p.id from of_in s _ _ (V.panes_dis hb) hp hs]
 rfl
theorem ValidW.edge_ok (hb : ∀ l ∈ ls,zAW js ls l = false) {i k : Nat} {p : PaneP} {e : List Side} (hp : (zBq js ls)[i]? = some p) (he : p.edges[k]? = some e) : ∃ A B,p.outline[k]? = some A ∧ p.outline[(k + 1) % p.outline.length]? = some B ∧ 0 < e.length ∧ (∀ m s,e[m]? = some s → zAE ls s ∧ oP js ls s = (if m = 0 then A else ((e[m - 1]?).map (eP js ls)).getD zAx) ∧ zAl A B (eP js ls s) = 0 ∧ paneOf js ls s = p.id) ∧
  ((e[e.length - 1]?).map (eP js ls)).getD zAx = B := by
 obtain ⟨hid,l,hl,ho,hed⟩ := pane_at hp;obtain ⟨s,hs,rfl⟩ := V.bound hl;have hne := V.corn_ne hs hb;have hk : k < (zAs (zAm js ls (zAr js ls s))).length := by
  have := (List.getElem?_eq_some_iff.1 he).1;rw [hed,zEy] at this;exact this
 obtain ⟨t,len,h1,h2,h3,h4,h5,h6⟩ := V.edge hs hne hk;have ht : zAE ls t := (V.walk_next hs h2).1;rw [hed,h3] at he;obtain rfl : (List.range len).map (fun q => itA (zAv js ls) q t) = e := by simpa using he
 have gm : ∀ m x,((List.range len).map (fun q => itA (zAv js ls) q t))[m]? = some x → m < len ∧ x = itA (zAv js ls) m t := fun m x hx => by
  have hm : m < len := by have := (List.getElem?_eq_some_iff.1 hx).1;simpa using this
  rw [List.getElem?_map,List.getElem?_range hm] at hx;exact ⟨hm,by simpa using hx.symm⟩
 have gx : ∀ m,m < len → ((List.range len).map (fun q => itA (zAv js ls) q t))[m]? = some (itA (zAv js ls) m t) := fun m hm => by
  rw [List.getElem?_map,List.getElem?_range hm];rfl
 refine ⟨_,_,by rw [ho];exact h4,by rw [ho,zCK];exact h5,by simpa using h1,fun m x hx => ?_, ?_⟩
 ·obtain ⟨hm,rfl⟩ := gm m x hx;refine ⟨V.it_side ht m, ?_, ?_, ?_⟩
  ·cases m with
   | zero => rfl
   | succ m =>
    rw [if_neg (by omega),Nat.add_sub_cancel,gx m (by omega)];exact V.next_o (V.it_side ht m)
  ·have r1 := (V.run ht hb (len - 1) fun i hi => h6 i (by omega)).2;have r2 := (V.run ht hb m fun i hi => h6 i (by omega)).2;obtain ⟨u1,u2⟩ := r1;obtain ⟨v1,v2⟩ := r2;have z := zEp (a1 := (eP js ls (itA (zAv js ls) (len - 1) t)).x - (oP js ls t).x) (a2 := (eP js ls (itA (zAv js ls) (len - 1) t)).y - (oP js ls t).y) (by grind) (by grind) v1 v2;exact z.1
  ·refine V.paneOf_in hb (List.mem_of_getElem? hp) ?_;refine List.mem_flatten.2 ⟨_, ?_,List.mem_of_getElem? hx⟩;rw [hed];exact List.mem_of_getElem? h3
 ·rw [List.length_map,List.length_range,gx (len - 1) (by omega)]
  rfl
end
theorem no_bridge {js : List Joint} {ls : List Lead} (h : ¬ 0 < (zC6 js ls).length) : ∀ l ∈ ls,zAW js ls l = false := fun l hl => by
 cases e : zAW js ls l with
 | false => rfl
 | true =>
  exfalso
  apply h
  have : l.id ∈ zC6 js ls := List.mem_map.2 ⟨l,List.mem_filter.2 ⟨hl,e⟩,rfl⟩;exact List.length_pos_of_mem this
theorem zEz {js : List Joint} {ls : List Lead} (h : zBp js ls = 0) : zDi js ls = false ∧ (∀ l ∈ ls,zAW js ls l = false) ∧ ¬ 0 < (zDt js ls).length ∧ zCo js ls (zA3 js ls) = false ∧ (zA3 js ls).any (longA js ls) = false ∧ (zA3 js ls).length ≤ 64 := by
 unfold zBp at h
 split at h;· cases h
 rename_i h1
 split at h;· cases h
 rename_i h2
 split at h;· cases h
 rename_i h3
 split at h;· cases h
 rename_i h4
 split at h;· cases h
 rename_i h5
 split at h;· cases h
 rename_i h6;exact ⟨by simpa using h1,no_bridge h2,h3,by simpa using h4,by simpa using h5,by omega⟩
theorem zGc {js : List Joint} {ls : List Lead} (V : ValidW js ls) (h : zBp js ls = 0) : Told js ls := V.told (zEz h).2.1
end Go.Proofs.YtbbblemfodpmaaaGreat
end
section
namespace Go.Proofs.YtbbblemfodpmaaaGreat
open Go.RowKit
def xP (a b : Point) : Int := a.x * b.y - b.x * a.y
theorem perm_sumI {l m : List Int} (h : l.Perm m) : l.sum = m.sum := by
 induction h with
 | nil => rfl
 | cons x _ ih => rw [List.sum_cons,List.sum_cons,ih]
 | swap x y l => simp only [List.sum_cons];omega
 | trans _ _ ih1 ih2 => rw [ih1,ih2]
theorem sum_flat (f : Side → Int) : ∀ E : List (List Side),(E.flatten.map f).sum = (E.map fun e => (e.map f).sum).sum
 | [] => rfl
 | e :: E => by rw [List.flatten_cons,List.map_append,List.sum_append,sum_flat f E,List.map_cons,List.sum_cons]
def oAt (o : List Point) (k : Nat) : Point := (o[k]?).getD zAx
def zD1 (o : List Point) : Int := ((List.range o.length).map fun k => xP (oAt o k) (oAt o ((k + 1) % o.length))).sum
section
variable {js : List Joint} {ls : List Lead} (V : ValidW js ls)
include V
theorem ValidW.edge_area (hb : ∀ l ∈ ls,zAW js ls l = false) {t : Side} (ht : zAE ls t) : ∀ m,(∀ i,i < m → cornB js ls (itA (zAv js ls) i t) = false) →
  (((List.range (m + 1)).map fun q => itA (zAv js ls) q t).map (zCy js ls)).sum = xP (oP js ls t) (eP js ls (itA (zAv js ls) m t))
 | 0,_ => by show (_ : Int) + 0 = _;rw [Int.add_zero];rfl
 | m + 1,hm => by
  have ih := ValidW.edge_area hb ht m fun i hi => hm i (by omega);have r1 := (V.run ht hb m fun i hi => hm i (by omega)).2;have r2 := (V.run ht hb (m + 1) hm).2;have e : zCy js ls (itA (zAv js ls) (m + 1) t) = xP (eP js ls (itA (zAv js ls) m t)) (eP js ls (itA (zAv js ls) (m + 1) t)) := by
   show xP (oP js ls (zAv js ls (itA (zAv js ls) m t))) _ = _
   rw [V.next_o (V.it_side ht m)];rfl
  rw [zDj,List.map_append,List.sum_append,ih]
  show _ + (zCy js ls (itA (zAv js ls) (m + 1) t) + 0) = _
  rw [e,Int.add_zero];obtain ⟨u1,u2⟩ := r1;obtain ⟨v1,v2⟩ := r2;have z := (zEp (a1 := (eP js ls (itA (zAv js ls) m t)).x - (oP js ls t).x) (a2 := (eP js ls (itA (zAv js ls) m t)).y - (oP js ls t).y) (by grind) (by grind) v1 v2).1
  revert z
  generalize oP js ls t = A;generalize eP js ls (itA (zAv js ls) m t) = B;generalize eP js ls (itA (zAv js ls) (m + 1) t) = C;intro z;unfold xP
  grind
theorem ValidW.outline_area (hb : ∀ l ∈ ls,zAW js ls l = false) {s : Side} (hs : zAE ls s) : zBc js ls (zAr js ls s) = zD1 (zBl (zAm js ls (zAr js ls s))) := by
 have hne := V.corn_ne hs hb;have hp := zGb (zFL js ls (zAr js ls s)) hne;unfold zBc;rw [← perm_sumI (hp.map (zCy js ls)),sum_flat];unfold zD1
 congr 1
 apply List.ext_getElem?
 intro k
 by_cases hk : k < (zAs (zAm js ls (zAr js ls s))).length
 ·obtain ⟨t,len,h1,h2,h3,h4,h5,h6⟩ := V.edge hs hne hk;rw [List.getElem?_map,h3,List.getElem?_map,zCK,List.getElem?_range hk];simp only [Option.map_some,Option.some.injEq];obtain ⟨m,rfl⟩ : ∃ m,len = m + 1 := ⟨len - 1,by omega⟩
  rw [V.edge_area hb (V.walk_next hs h2).1 m fun i hi => h6 i (by omega)];unfold oAt;rw [h4,h5];rfl
 ·rw [List.getElem?_eq_none (by rw [List.length_map,zEy];omega),List.getElem?_eq_none (by rw [List.length_map,List.length_range,zCK];omega)]
theorem ValidW.corners3 (hb : ∀ l ∈ ls,zAW js ls l = false) {l : List Side} (hl : l ∈ zA3 js ls) : 3 ≤ (zAs (zAm js ls l)).length := by
 obtain ⟨s,hs,rfl⟩ := V.bound hl;have ha : 0 < zBc js ls (zAr js ls s) := by simpa using (List.mem_filter.1 hl).2
 rw [V.outline_area hb hs] at ha;have hM := zCK (zAm js ls (zAr js ls s));rw [← hM]
 revert ha
 generalize zBl (zAm js ls (zAr js ls s)) = o;intro ha;refine Decidable.byContradiction fun hn => ?_
 match o,hn,ha with
 | [],_,ha => exact absurd ha (by decide)
 | [a],_,ha =>
  have : zD1 [a] = xP a a := by simp [zD1,oAt,List.range_succ]
  rw [this] at ha;unfold xP at ha
  grind
 | [a,b],_,ha =>
  have : zD1 [a,b] = xP a b + xP b a := by simp [zD1,oAt,List.range_succ]
  rw [this] at ha;unfold xP at ha
  grind
 | a :: b :: c :: o,hn,_ => exact hn (by simp)
end
end Go.Proofs.YtbbblemfodpmaaaGreat
end
