/-
  The functions of package glass by which a piece is valid, walked: each returns what its Lean function says.
  ValidPiece of package glass, walked.
-/
import Derived.Test.YtnmgfnpphglphaaGreatBase
import Derived.Deep.QuietTactic
import Derived.BigQuiet
set_option maxHeartbeats 16000000
set_option maxRecDepth 100000
section
set_option linter.unusedVariables false
set_option linter.unusedSimpArgs false
namespace Go.Proofs.YtnmgfnpphglphaaGreat
open Go.RowKit
def inB (n lo hi : Int) : Bool := decide (lo ≤ n) && decide (n ≤ hi)
def cmpI (x y : Int) : Int := if x < y then -1 else if y < x then 1 else 0
def orI (l : List Int) : Int := (l.find? (· != 0)).getD 0
def idxI {α : Type} (p : α → Bool) (l : List α) : Int := match l.findIdx? p with | some i => i | none => -1
theorem idxI_hit {α : Type} {p : α → Bool} {l : List α} {k : Nat} {x : α} (hk : l[k]? = some x) (hn : ∀ j y, j < k → l[j]? = some y → p y = false) (hp : p x = true) : idxI p l = k := by
 have : l.findIdx? p = some k := by
  rw [List.findIdx?_eq_some_iff_getElem]
  obtain ⟨hlt, e⟩ := List.getElem?_eq_some_iff.1 hk
  refine ⟨hlt, by rw [e]; exact hp, fun j hj => ?_⟩
  have := hn j _ hj (List.getElem?_eq_getElem (by omega))
  simp [this]
 simp [idxI, this]
theorem idxI_none {α : Type} {p : α → Bool} {l : List α} (hn : ∀ (j : Nat) y, l[j]? = some y → p y = false) : idxI p l = -1 := by
 have : l.findIdx? p = none := by
  rw [List.findIdx?_eq_none_iff]
  intro x hx
  obtain ⟨j, hj⟩ := List.mem_iff_getElem?.1 hx
  exact hn j x hj
 simp [idxI, this]
theorem idxI_ge {α : Type} (p : α → Bool) (l : List α) : decide (0 ≤ idxI p l) = l.any p := by
 unfold idxI
 cases h : l.findIdx? p with
 | none =>
  rw [List.findIdx?_eq_none_iff] at h
  simp only []
  symm
  rw [show decide ((0 : Int) ≤ -1) = false from rfl, List.any_eq_false]
  intro x hx; simp [h x hx]
 | some i =>
  rw [List.findIdx?_eq_some_iff_getElem] at h
  obtain ⟨hi, hp, _⟩ := h
  have : l.any p = true := List.any_eq_true.2 ⟨_, List.getElem_mem hi, hp⟩
  simp [this]
def chainB {α : Type} (r : α → α → Bool) : List α → Bool
 | a :: b :: t => r a b && chainB r (b :: t)
 | _ => true
theorem chainB_snoc {α : Type} (r : α → α → Bool) : ∀ (l : List α) (a b : α), chainB r (l ++ [a, b]) = (chainB r (l ++ [a]) && r a b)
 | [], a, b => by simp [chainB]
 | [x], a, b => by simp [chainB]
 | x :: y :: t, a, b => by
  have := chainB_snoc r (y :: t) a b
  simp only [List.cons_append, chainB] at this ⊢
  rw [this, Bool.and_assoc]
theorem chainB_take {α : Type} (r : α → α → Bool) {l : List α} {m : Nat} {x y : α} (hx : l[m]? = some x) (hy : l[m + 1]? = some y) :
  chainB r (l.take (m + 2)) = (chainB r (l.take (m + 1)) && r x y) := by
 have h1 : l.take (m + 1) = l.take m ++ [x] := by rw [List.take_add_one, hx]; rfl
 have h2 : l.take (m + 2) = l.take m ++ [x, y] := by rw [List.take_add_one, hy, h1]; simp
 rw [h1, h2, chainB_snoc]
theorem chainB_append_false {α : Type} (r : α → α → Bool) : ∀ (l t : List α), chainB r l = false → chainB r (l ++ t) = false
 | [], t, h => by simp [chainB] at h
 | [x], t, h => by simp [chainB] at h
 | x :: y :: l, t, h => by
  simp only [List.cons_append, chainB, Bool.and_eq_false_iff] at h ⊢
  rcases h with h | h
  ·exact .inl h
  ·exact .inr (chainB_append_false r (y :: l) t h)
theorem chainB_false {α : Type} (r : α → α → Bool) {l : List α} {k : Nat} (h : chainB r (l.take k) = false) : chainB r l = false := by
 have := chainB_append_false r (l.take k) (l.drop k) h
 rwa [List.take_append_drop] at this
theorem chainB_one {α : Type} (r : α → α → Bool) (l : List α) : chainB r (l.take 1) = true := by cases l <;> simp [chainB]
def validSpanB (s : Span) (least : Int) : Bool := decide (least ≤ s.lo) && decide (s.lo ≤ s.hi) && decide (s.hi ≤ 33554432)
def validGaugeB (g : Gauge) : Bool := validSpanB g.edge 1 && validSpanB g.across 0 && inB g.bend (-1) 1
def validGaugesB (l : List Gauge) : Bool := inB l.length 3 24 && !(l.any fun g => !validGaugeB g)
def compareMarksI (a b : Mark) : Int := orI [cmpI a.edge b.edge, cmpI a.at_ b.at_, cmpI a.tone b.tone]
def risingMarksB (l : List Mark) : Bool := chainB (fun a b => decide (compareMarksI a b < 0)) l
def badMarkB (n : Int) (m : Mark) : Bool := !inB m.edge 0 (n - 1) || !inB m.at_ 0 16 || !inB m.tone 1 16
def validMarksB (l : List Mark) (n : Int) : Bool := decide ((l.length : Int) ≤ 32) && risingMarksB l && !(l.any (badMarkB n))
def validPieceB (p : Piece) : Bool :=
 (inB p.id 1 65535 && inB p.colour 1 16 && inB p.reverse 1 16 && inB p.made 0 9999 && inB p.swell (-64) 64) && validGaugesB p.gauges.val && validMarksB p.marks.val p.gauges.val.length
theorem isNaN_any (x : Int) (w : World) : Calls Tryz.prog 182 #[.int .i64 x] w fun e w' => e = .returned (.bool false) ∧ w = w' := by
 go_enter Tryz.func182, Tryz.ntmps182
 go_wp2
 go_ret
 exact ⟨by simp, rfl⟩
theorem cmp_any (x y : Int) (w : World) : Calls Tryz.prog 153 #[.int .i64 x, .int .i64 y] w fun e w' => e = .returned (.int .i64 (cmpI x y)) ∧ w = w' := by
 go_enter Tryz.func153, Tryz.ntmps153
 go_wp2_with (go_at_call 182; refine (isNaN_any _ _).mono ?_; rintro e w' ⟨rfl, rfl⟩)
 all_goals go_ret
 all_goals exact ⟨by simp [cmpI, *]; try omega, rfl⟩
theorem or_any (b o len cap : Nat) (xs : List Int) (w : World) (hl : len = xs.length) (hm : len ≤ 1000000)
  (hc : ∀ k x, xs[k]? = some x → w.cell? ⟨b, o + k, none⟩ = some (.int .i64 x)) :
  Calls Tryz.prog 152 #[.slice (some ⟨b, o, none⟩) len cap] w fun e w' => e = .returned (.int .i64 (orI xs)) ∧ w = w' := by
 have HC := Lib.hid hc
 have HL := Lib.hid hl
 clear hc hl
 go_enter Tryz.func152, Tryz.ntmps152
 go_wp2
 go_loop [5, 8] (fun _ i => ∃ k : Nat, k ≤ len ∧ i = .int .i64 k ∧ Hid (xs.take k = List.replicate k 0)) (fun _ i => len - (intOf i).toNat)
 case atStart => exact ⟨0, Nat.zero_le _, rfl, Lib.hid (by simp)⟩
 case round =>
  obtain ⟨k, hk, rfl, hz⟩ := hrel
  have hfind : ∀ (x : Int) r, xs = List.replicate k 0 ++ x :: r → (x != 0) = true → orI xs = x := by
   intro x r h hx
   rw [h]; unfold orI
   rw [List.find?_append, List.find?_replicate]
   simp [hx]
  by_cases hlt : k < len
  ·obtain ⟨x, hx⟩ : ∃ x, xs[k]? = some x := ⟨_, List.getElem?_eq_getElem (by rw [← HL.out]; exact hlt)⟩
   have hcell := HC.out k x hx
   have hsplit : xs = List.replicate k 0 ++ x :: xs.drop (k + 1) := by
    obtain ⟨h1, h2⟩ := List.getElem?_eq_some_iff.1 hx
    conv => lhs; rw [← List.take_append_drop k xs, hz.out, List.drop_eq_getElem_cons h1, h2]
   have htake : (x != 0) = false → xs.take (k + 1) = List.replicate (k + 1) 0 := by
    intro h0
    obtain rfl : x = 0 := by simpa using h0
    rw [List.take_add_one, hz.out, hx, List.replicate_succ']; rfl
   have HF := Lib.hid (hfind x _ hsplit)
   have HT := Lib.hid htake
   clear hsplit htake hx hfind
   go_wp2
   ·go_ret
    exact ⟨by simp [HF.out ‹_›], rfl⟩
   ·go_round
    case rel => exact ⟨k + 1, by omega, by go_num, Lib.hid (HT.out ‹_›)⟩
    case measure => simp [intOf]; omega
  ·have hk' : k = xs.length := by have := HL.out; omega
   have hall : orI xs = 0 := by
    have := hz.out
    rw [hk', List.take_length] at this
    rw [this]; unfold orI; rw [List.find?_replicate]; simp
   have HA := Lib.hid hall
   clear hk' hall hfind
   go_wp2
   go_ret
   exact ⟨by simp [HA.out], rfl⟩
theorem within_glass (n lo hi : Int) (w : World) :
  Calls Tryz.prog 226 #[.int .i64 n, .int .i64 lo, .int .i64 hi] w fun e w' => e = .returned (.bool (inB n lo hi)) ∧ w = w' := by
 go_enter Tryz.func226, Tryz.ntmps226
 go_wp2
 all_goals go_ret
 all_goals exact ⟨by simp [inB, *]; try omega, rfl⟩
theorem validSpan_any (s : Span) (least : Int) (w : World) :
  Calls Tryz.prog 261 #[.agg #[.int .i64 s.lo, .int .i64 s.hi], .int .i64 least] w fun e w' =>
   e = .returned (.bool (validSpanB s least)) ∧ Below w.heap.size w w' := by
 go_enter Tryz.func261, Tryz.ntmps261
 go_wp2
 all_goals go_ret
 all_goals (refine ⟨?_, (Below.refl _ _).alloc (Nat.le_refl _) _⟩)
 all_goals (simp [validSpanB, *]; try omega)
theorem validGauge_any (g : Gauge) (w : World) :
  Calls Tryz.prog 250 #[.agg (encGauge g)] w fun e w' =>
   e = .returned (.bool (validGaugeB g)) ∧ Below w.heap.size w w' := by
 go_enter Tryz.func250, Tryz.ntmps250
 go_wp2_with fail
 refine (validSpan_any g.edge 1 _).mono ?_
 rintro e w1 ⟨rfl, hb⟩
 obtain ⟨hB1, hc, hf, hz, hz', hz''⟩ := behind (K := 1) ((Below.refl w.heap.size w).alloc (Nat.le_refl _) _) (by simp) hb
 go_wp2_with fail
 ·refine (validSpan_any g.across 0 _).mono ?_
  rintro e w2 ⟨rfl, hb2⟩
  obtain ⟨hB2, hc2, hf2, hy, hy', hy''⟩ := behind hB1 hz hb2
  go_wp2_with (go_at_call 226; refine (within_glass _ _ _ _).mono ?_; rintro e w1 ⟨rfl, rfl⟩)
  all_goals (go_ret; refine ⟨?_, hB2⟩; simp [validGaugeB, *])
 all_goals (go_ret; refine ⟨?_, hB1⟩; simp [validGaugeB, *])
theorem validGauges1_any (g : Gauge) (w : World) :
  Calls Tryz.prog 249 #[.agg (encGauge g)] w fun e w' =>
   e = .returned (.bool (!validGaugeB g)) ∧ Below w.heap.size w w' := by
 go_enter Tryz.func249, Tryz.ntmps249
 go_wp2_with (first
  | (refine wpList_load_at rfl 89 _ rfl w.heap.size 0 rfl (encGauge g) _ (by intro j hj; simp) Tryz.underlying89 rfl (by kernel_rfl) ?_)
  | (go_at_call 250; refine (validGauge_any g _).mono ?_; rintro e w1 ⟨rfl, hb⟩))
 go_ret
 exact ⟨by simp, ((Below.refl w.heap.size w).alloc (Nat.le_refl _) _).trans (hb.mono (by simp))⟩
theorem index_validGauges (D : Nat → Prop) (s : Sl Gauge) (w : World) (hs : s.OK 5 encGauge okGauge D w) (p : Gauge → Bool)
  (hp : ∀ x, okGauge D w x → ∀ W, Below w.heap.size w W → Calls Tryz.prog 249 #[.agg (encGauge x)] W fun e W' => e = .returned (.bool (p x)) ∧ Below W.heap.size W W') :
  Calls Tryz.prog 260 #[.slice s.a s.val.length s.cap, .func (.func 249) #[] #[]] w fun e w' => e = .returned (.int .i64 (idxI p s.val)) ∧ Below w.heap.size w w' := by
 have hroom := hs.room
 have HP := Lib.hid hp
 have HS := Lib.hid hs
 clear hp hs
 obtain ⟨a, cap, val⟩ := s
 simp only at hroom
 go_enter Tryz.func260, Tryz.ntmps260
 go_wp2
 go_loopw [5, 8] (fun _ i wr => ∃ k : Nat, k ≤ val.length ∧ i = .int .i64 k ∧ Hid (∀ j y, j < k → val[j]? = some y → p y = false) ∧ Below w.heap.size w wr) (fun _ i _ => val.length - (intOf i).toNat)
 case atStart => exact ⟨0, Nat.zero_le _, rfl, Lib.hid (by omega), Below.refl _ _⟩
 case round =>
  obtain ⟨k, hk, rfl, hn, hB⟩ := hrel
  by_cases hlt : k < val.length
  ·obtain ⟨x, hx⟩ : ∃ x, val[k]? = some x := ⟨_, List.getElem?_eq_getElem hlt⟩
   have HX := Lib.hid hx
   obtain ⟨b, o, rfl, hb, _, hok, hcell⟩ := HS.out.at hx
   have HC : Hid (∀ j, j < (encGauge x).size → wr.cell? ⟨b, o + k * 5 + j, none⟩ = (encGauge x)[j]?) := Lib.hid fun j hj => by
    rw [(Ext.of_below (D := fun _ => False) hB).cell hb id]; exact hcell j hj
   clear hx hcell
   have hcall := HP.out x hok wr hB
   have HCL := Lib.hid hcall
   clear hcall
   by_cases hpx : p x = true
   ·have HPX := Lib.hid hpx
    clear hpx
    go_wp2_with (first
     | (refine wpList_load_at rfl 89 _ rfl b (o + k * 5) rfl (encGauge x) _ HC.out Tryz.underlying89 rfl (by kernel_rfl) ?_)
     | (go_at_call 249; refine HCL.out.mono ?_; rintro e w1 ⟨rfl, hb1⟩; rw [HPX.out]))
    go_ret
    exact ⟨by simp [idxI_hit HX.out hn.out HPX.out], hB.trans (hb1.mono hB.size)⟩
   ·have HPX : Hid (p x = false) := Lib.hid (by simpa using hpx)
    clear hpx
    go_wp2_with (first
     | (refine wpList_load_at rfl 89 _ rfl b (o + k * 5) rfl (encGauge x) _ HC.out Tryz.underlying89 rfl (by kernel_rfl) ?_)
     | (go_at_call 249; refine HCL.out.mono ?_; rintro e w1 ⟨rfl, hb1⟩; rw [HPX.out]))
    go_roundw
    case rel =>
     refine ⟨k + 1, by omega, by go_num, Lib.hid fun j y hj hy => ?_, hB.trans (hb1.mono hB.size)⟩
     rcases Nat.lt_succ_iff_lt_or_eq.1 hj with h | rfl
     ·exact hn.out j y h hy
     ·rw [HX.out] at hy; cases hy; exact HPX.out
    case measure => simp [intOf]; omega
  ·go_wp2
   go_ret
   refine ⟨?_, hB⟩
   rw [idxI_none fun j y hy => hn.out j y (by have := (List.getElem?_eq_some_iff.1 hy).1; omega) hy]
   rfl
theorem contains_validGauges (D : Nat → Prop) (s : Sl Gauge) (w : World) (hs : s.OK 5 encGauge okGauge D w) (p : Gauge → Bool)
  (hp : ∀ x, okGauge D w x → ∀ W, Below w.heap.size w W → Calls Tryz.prog 249 #[.agg (encGauge x)] W fun e W' => e = .returned (.bool (p x)) ∧ Below W.heap.size W W') :
  Calls Tryz.prog 248 #[.slice s.a s.val.length s.cap, .func (.func 249) #[] #[]] w fun e w' => e = .returned (.bool (s.val.any p)) ∧ Below w.heap.size w w' := by
 have H := Lib.hid (index_validGauges D s w hs p hp)
 have hg := Lib.hid (idxI_ge p s.val)
 clear hp hs
 go_enter Tryz.func248, Tryz.ntmps248
 go_wp2_with (go_at_call 260; refine H.out.mono ?_; rintro e w1 ⟨rfl, hb1⟩)
 go_ret
 exact ⟨by simp [← hg.out], hb1⟩
theorem validGauges_any (D : Nat → Prop) (s : Sl Gauge) (w : World) (hs : s.OK 5 encGauge okGauge D w) :
  Calls Tryz.prog 227 #[.slice s.a s.val.length s.cap] w fun e w' =>
   e = .returned (.bool (validGaugesB s.val)) ∧ Below w.heap.size w w' := by
 have HC := Lib.hid (contains_validGauges D s w hs (fun g => !validGaugeB g) fun x _ W _ => validGauges1_any x W)
 clear hs
 go_enter Tryz.func227, Tryz.ntmps227
 go_wp2_with (first
  | (go_at_call 226; refine (within_glass _ _ _ _).mono ?_; rintro e w1 ⟨rfl, rfl⟩)
  | (go_at_call 248; refine HC.out.mono ?_; rintro e w1 ⟨rfl, hb⟩))
 all_goals go_ret
 ·exact ⟨by simp [validGaugesB, *], hb⟩
 ·exact ⟨by simp [validGaugesB, *], Below.refl _ _⟩
theorem compareMarks_any (a b : Mark) (w : World) :
  Calls Tryz.prog 253 #[.agg (encMark a), .agg (encMark b)] w fun e w' =>
   e = .returned (.int .i64 (compareMarksI a b)) ∧ Below w.heap.size w w' := by
 go_enter Tryz.func253, Tryz.ntmps253
 go_wp2
 go_region_held3 (fun W => W.cell? ⟨w.heap.size, 0, none⟩ = some (vi a.edge) ∧ W.cell? ⟨w.heap.size, 1, none⟩ = some (vi a.at_) ∧ W.cell? ⟨w.heap.size, 2, none⟩ = some (vi a.tone) ∧ W.cell? ⟨w.heap.size + 1, 0, none⟩ = some (vi b.edge) ∧ W.cell? ⟨w.heap.size + 1, 1, none⟩ = some (vi b.at_) ∧ W.cell? ⟨w.heap.size + 1, 2, none⟩ = some (vi b.tone)) (simp [go_sem, *, World.cell?_alloc_some])
  (first
   | (go_at_call 153; refine (cmp_any _ _ _).mono ?_; rintro e w' ⟨rfl, rfl⟩)
   | (go_at_call 152; refine (or_any (w.heap.size + 2) 0 3 3 [cmpI a.edge b.edge, cmpI a.at_ b.at_, cmpI a.tone b.tone] _ rfl (by decide) ?_).mono ?_; (rintro (_ | _ | _ | k) x hk <;> simp at hk <;> subst hk <;> simp [go_sem]); rintro e w' ⟨rfl, rfl⟩))
 go_wp2
 go_ret
 exact ⟨by simp [compareMarksI], by repeat (first | exact Below.refl _ _ | refine Below.drew ?_ | refine Below.alloc ?_ (by simp; try omega) _)⟩
theorem risingMarks_any (D : Nat → Prop) (s : Sl Mark) (w : World) (hs : s.OK 3 encMark okMark D w) :
  Calls Tryz.prog 252 #[.slice s.a s.val.length s.cap, .func (.func 253) #[] #[]] w fun e w' => e = .returned (.bool (risingMarksB s.val)) ∧ Below w.heap.size w w' := by
 have hroom := hs.room
 have HS := Lib.hid hs
 clear hs
 obtain ⟨a, cap, val⟩ := s
 simp only at hroom
 go_enter Tryz.func252, Tryz.ntmps252
 go_wp2
 go_loopw [4, 5, 8] (fun _ _ i wr => ∃ k : Nat, k ≤ val.length ∧ i = .int .i64 k ∧ Hid (risingMarksB (val.take k) = true) ∧ Below w.heap.size w wr) (fun _ _ i _ => val.length - (intOf i).toNat)
 case atStart => exact ⟨0, Nat.zero_le _, rfl, Lib.hid (by simp [risingMarksB, chainB]), Below.refl _ _⟩
 case round =>
  obtain ⟨k, hk, rfl, hn, hB⟩ := hrel
  by_cases hlt : k < val.length
  ·cases k with
   | zero =>
    have h3 : (0 : Int) < (val.length : Int) := by omega
    have hd : decide ((0 : Int) < 0) = false := by simp
    go_wp2
    go_quiet (fail)
    go_wp2
    go_roundw
    case rel => exact ⟨1, by omega, by go_num, Lib.hid (chainB_one _ _), ⟨hB.os, hB.tape, hB.output, hB.size, hB.block⟩⟩
    case measure => simp [intOf]; omega
   | succ m =>
    obtain ⟨x, hx⟩ : ∃ x, val[m]? = some x := ⟨_, List.getElem?_eq_getElem (by omega)⟩
    obtain ⟨y, hy⟩ : ∃ y, val[m + 1]? = some y := ⟨_, List.getElem?_eq_getElem (by omega)⟩
    obtain ⟨b, o, rfl, hb, _, hok, hcell⟩ := HS.out.at hx
    have hcell2 := HS.out.cell b o rfl _ _ hy
    have E := fun j => (Ext.of_below (D := fun _ => False) hB).cell hb id j
    have x0 := (E (o + m * 3)).trans (hcell 0 (by decide))
    have x1 := (E _).trans (hcell 1 (by decide))
    have x2 := (E _).trans (hcell 2 (by decide))
    have y0 := (E (o + (m + 1) * 3)).trans (hcell2 0 (by decide))
    have y1 := (E _).trans (hcell2 1 (by decide))
    have y2 := (E _).trans (hcell2 2 (by decide))
    simp only [go_sem] at x0 x1 x2 y0 y1 y2
    have HT := Lib.hid (chainB_take (fun a b => decide (compareMarksI a b < 0)) hx hy)
    clear hx hy hcell hcell2 E
    have h1 : IntKind.i64.wrap (m : Int) = m := IntWalk.i64_in _ (by omega)
    have h2 : (m : Int) < (val.length : Int) := by omega
    have h3 : (m : Int) + 1 < (val.length : Int) := by omega
    have h4 : (0 : Int) ≤ (m : Int) + 1 := by omega
    have h5 : ((m : Int) + 1).toNat = m + 1 := by omega
    have hbr : b < wr.heap.size := Nat.lt_of_lt_of_le hb hB.size
    have h6 : (0 : Int) < (m : Int) + 1 := by omega
    go_wp2
    go_region_held3 (fun W => W.cell? ⟨b, o + m * 3, none⟩ = some (vi x.edge) ∧ W.cell? ⟨b, o + m * 3 + 1, none⟩ = some (vi x.at_) ∧ W.cell? ⟨b, o + m * 3 + 2, none⟩ = some (vi x.tone) ∧ W.cell? ⟨b, o + (m + 1) * 3, none⟩ = some (vi y.edge) ∧ W.cell? ⟨b, o + (m + 1) * 3 + 1, none⟩ = some (vi y.at_) ∧ W.cell? ⟨b, o + (m + 1) * 3 + 2, none⟩ = some (vi y.tone)) (simp [go_sem, *])
     (first
      | (go_at_call 253; refine (compareMarks_any x y _).mono ?_; rintro e w1 ⟨rfl, hb1⟩; have hE : ∀ o', w1.cell? ⟨b, o', none⟩ = _ := fun o' => hb1.cell (p := ⟨b, o', none⟩) hbr))
    have hB1 : Below w.heap.size w w1 := hB.drew.trans (hb1.mono hB.size)
    clear h1 h2 h4 h5 h6 hE
    go_wp2
    ·go_ret
     refine ⟨?_, hB1⟩
     have : ¬ compareMarksI x y < 0 := by omega
     have : risingMarksB val = false := chainB_false _ (k := m + 2) (by rw [HT.out]; simp [this])
     simp [this]
    ·have hneg : compareMarksI x y < 0 := by assumption
     go_roundw
     case rel => exact ⟨m + 2, by omega, by go_num, Lib.hid (by unfold risingMarksB; rw [HT.out]; have := hn.out; unfold risingMarksB at this; simp [this, hneg]), hB1⟩
     case measure => simp [intOf]; omega
  ·go_wp2
   go_ret
   refine ⟨?_, hB⟩
   have : k = val.length := by omega
   have hh := hn.out
   rw [this, List.take_length] at hh
   simp [hh]
end Go.Proofs.YtnmgfnpphglphaaGreat
end
section
set_option linter.unusedVariables false
set_option linter.unusedSimpArgs false
namespace Go.Proofs.YtnmgfnpphglphaaGreat
open Go.RowKit
theorem validMarks1_any (m : Mark) (bn : Nat) (n : Int) (hn0 : 0 ≤ n ∧ n ≤ 4294967296) (w : World) (hc : w.cell? ⟨bn, 0, none⟩ = some (vi n)) :
  Calls Tryz.prog 251 #[.agg (encMark m), .pointer (some ⟨bn, 0, none⟩)] w fun e w' =>
   e = .returned (.bool (badMarkB n m)) ∧ Below w.heap.size w w' := by
 have hlt := block_lt_of_cell hc
 have hne := Nat.ne_of_lt hlt
 obtain ⟨h0, h1⟩ := hn0
 have hwr : IntKind.i64.wrap (n - 1) = n - 1 := IntWalk.i64_in _ (by omega)
 go_enter Tryz.func251, Tryz.ntmps251
 go_wp2_with (go_at_call 226; refine (within_glass _ _ _ _).mono ?_; rintro e w1 ⟨rfl, rfl⟩)
 all_goals go_ret
 all_goals exact ⟨by simp [badMarkB, *], (Below.refl w.heap.size w).alloc (Nat.le_refl _) _⟩
theorem index_validMarks (c0 : Value) (D : Nat → Prop) (s : Sl Mark) (w : World) (hs : s.OK 3 encMark okMark D w) (p : Mark → Bool)
  (hp : ∀ x, okMark D w x → ∀ W, Below w.heap.size w W → Calls Tryz.prog 251 #[.agg (encMark x), c0] W fun e W' => e = .returned (.bool (p x)) ∧ Below W.heap.size W W') :
  Calls Tryz.prog 262 #[.slice s.a s.val.length s.cap, .func (.func 251) #[] #[c0]] w fun e w' => e = .returned (.int .i64 (idxI p s.val)) ∧ Below w.heap.size w w' := by
 have hroom := hs.room
 have HP := Lib.hid hp
 have HS := Lib.hid hs
 clear hp hs
 obtain ⟨a, cap, val⟩ := s
 simp only at hroom
 go_enter Tryz.func262, Tryz.ntmps262
 go_wp2
 go_loopw [5, 8] (fun _ i wr => ∃ k : Nat, k ≤ val.length ∧ i = .int .i64 k ∧ Hid (∀ j y, j < k → val[j]? = some y → p y = false) ∧ Below w.heap.size w wr) (fun _ i _ => val.length - (intOf i).toNat)
 case atStart => exact ⟨0, Nat.zero_le _, rfl, Lib.hid (by omega), Below.refl _ _⟩
 case round =>
  obtain ⟨k, hk, rfl, hn, hB⟩ := hrel
  by_cases hlt : k < val.length
  ·obtain ⟨x, hx⟩ : ∃ x, val[k]? = some x := ⟨_, List.getElem?_eq_getElem hlt⟩
   have HX := Lib.hid hx
   obtain ⟨b, o, rfl, hb, _, hok, hcell⟩ := HS.out.at hx
   have HC : Hid (∀ j, j < (encMark x).size → wr.cell? ⟨b, o + k * 3 + j, none⟩ = (encMark x)[j]?) := Lib.hid fun j hj => by
    rw [(Ext.of_below (D := fun _ => False) hB).cell hb id]; exact hcell j hj
   clear hx hcell
   have hcall := HP.out x hok wr hB
   have HCL := Lib.hid hcall
   clear hcall
   by_cases hpx : p x = true
   ·have HPX := Lib.hid hpx
    clear hpx
    go_wp2_with (first
     | (refine wpList_load_at rfl 174 _ rfl b (o + k * 3) rfl (encMark x) _ HC.out Tryz.underlying174 rfl (by kernel_rfl) ?_)
     | (go_at_call 251; refine HCL.out.mono ?_; rintro e w1 ⟨rfl, hb1⟩; rw [HPX.out]))
    go_ret
    exact ⟨by simp [idxI_hit HX.out hn.out HPX.out], hB.trans (hb1.mono hB.size)⟩
   ·have HPX : Hid (p x = false) := Lib.hid (by simpa using hpx)
    clear hpx
    go_wp2_with (first
     | (refine wpList_load_at rfl 174 _ rfl b (o + k * 3) rfl (encMark x) _ HC.out Tryz.underlying174 rfl (by kernel_rfl) ?_)
     | (go_at_call 251; refine HCL.out.mono ?_; rintro e w1 ⟨rfl, hb1⟩; rw [HPX.out]))
    go_roundw
    case rel =>
     refine ⟨k + 1, by omega, by go_num, Lib.hid fun j y hj hy => ?_, hB.trans (hb1.mono hB.size)⟩
     rcases Nat.lt_succ_iff_lt_or_eq.1 hj with h | rfl
     ·exact hn.out j y h hy
     ·rw [HX.out] at hy; cases hy; exact HPX.out
    case measure => simp [intOf]; omega
  ·go_wp2
   go_ret
   refine ⟨?_, hB⟩
   rw [idxI_none fun j y hy => hn.out j y (by have := (List.getElem?_eq_some_iff.1 hy).1; omega) hy]
   rfl
theorem contains_validMarks (c0 : Value) (D : Nat → Prop) (s : Sl Mark) (w : World) (hs : s.OK 3 encMark okMark D w) (p : Mark → Bool)
  (hp : ∀ x, okMark D w x → ∀ W, Below w.heap.size w W → Calls Tryz.prog 251 #[.agg (encMark x), c0] W fun e W' => e = .returned (.bool (p x)) ∧ Below W.heap.size W W') :
  Calls Tryz.prog 254 #[.slice s.a s.val.length s.cap, .func (.func 251) #[] #[c0]] w fun e w' => e = .returned (.bool (s.val.any p)) ∧ Below w.heap.size w w' := by
 have H := Lib.hid (index_validMarks c0 D s w hs p hp)
 have hg := Lib.hid (idxI_ge p s.val)
 clear hp hs
 go_enter Tryz.func254, Tryz.ntmps254
 go_wp2_with (go_at_call 262; refine H.out.mono ?_; rintro e w1 ⟨rfl, hb1⟩)
 go_ret
 exact ⟨by simp [← hg.out], hb1⟩
theorem validMarks_any (D : Nat → Prop) (s : Sl Mark) (n : Int) (hn0 : 0 ≤ n ∧ n ≤ 4294967296) (w : World) (hs : s.OK 3 encMark okMark D w) :
  Calls Tryz.prog 228 #[.slice s.a s.val.length s.cap, .int .i64 n] w fun e w' =>
   e = .returned (.bool (validMarksB s.val n)) ∧ Below w.heap.size w w' := by
 have hw0 : Below w.heap.size w (w.alloc (.cells #[vi n] 3)) := (Below.refl w.heap.size w).alloc (Nat.le_refl _) _
 have hs1 : s.OK 3 encMark okMark D (w.alloc (.cells #[vi n] 3)) := hs.ext (fun x h => okMark.ext h (.of_below hw0)) (.of_below hw0)
 have HR := Lib.hid (risingMarks_any D s _ hs1)
 have HS := Lib.hid hs1
 have HW := Lib.hid hw0
 clear hs hs1 hw0
 go_enter Tryz.func228, Tryz.ntmps228
 go_wp2_with fail
 ·refine HR.out.mono ?_
  rintro e w1 ⟨rfl, hb1⟩
  have hB1 := HW.out.trans (hb1.mono (by simp))
  have hs2 : s.OK 3 encMark okMark D w1 := HS.out.ext (fun x h => okMark.ext h (.of_below hb1)) (.of_below hb1)
  have hcell : w1.cell? ⟨w.heap.size, 0, none⟩ = some (vi n) := by
   rw [hb1.cell (p := ⟨w.heap.size, 0, none⟩) (by simp)]; simp [go_sem]
  have HCt := Lib.hid (contains_validMarks (.pointer (some ⟨w.heap.size, 0, none⟩)) D s w1 hs2 (badMarkB n) fun x _ W hW => validMarks1_any x w.heap.size n hn0 W (by
   rw [hW.cell (p := ⟨w.heap.size, 0, none⟩) (block_lt_of_cell hcell)]; exact hcell))
  clear hcell hs2
  go_wp2_with (go_at_call 254; refine HCt.out.mono ?_; rintro e w2 ⟨rfl, hb2⟩)
  all_goals go_ret
  ·exact ⟨by simp [validMarksB, *], hB1.trans (hb2.mono (Nat.le_trans (by simp) hb1.size))⟩
  ·exact ⟨by simp [validMarksB, *], hB1⟩
 ·go_ret
  exact ⟨by simp [validMarksB, *]; try (intros; omega), HW.out⟩
theorem validPiece_any (D : Nat → Prop) (p : Piece) (w : World) (hp : okPiece D w p) :
  Calls Tryz.prog 200 #[.agg (encPiece p)] w fun e w' =>
   e = .returned (.bool (validPieceB p)) ∧ Below w.heap.size w w' := by
 obtain ⟨_, _, _, _, _, hg, hm⟩ := hp
 have hroom := hg.room
 have hw0 : Below w.heap.size w (w.alloc (.cells (encPiece p) 93)) := (Below.refl w.heap.size w).alloc (Nat.le_refl _) _
 have HG := Lib.hid (validGauges_any D p.gauges _ (hg.ext (fun x h => okGauge.ext h (.of_below hw0)) (.of_below hw0)))
 have HM := Lib.hid fun w1 (hb : Below (w.alloc (.cells (encPiece p) 93)).heap.size (w.alloc (.cells (encPiece p) 93)) w1) =>
  validMarks_any D p.marks p.gauges.val.length (by omega) w1 (hm.ext (fun x h => okMark.ext h (.of_below (hw0.trans (hb.mono (by simp))))) (.of_below (hw0.trans (hb.mono (by simp)))))
 have HW := Lib.hid hw0
 clear hg hm hw0
 go_enter Tryz.func200, Tryz.ntmps200
 go_wp2_with (first
  | (go_at_call 226; refine (within_glass _ _ _ _).mono ?_; rintro e w1 ⟨rfl, rfl⟩)
  | (go_at_call 227; refine HG.out.mono ?_; rintro e w1 ⟨rfl, hb⟩; obtain ⟨hB1, hc, hf, hz, hz', hz''⟩ := behind (K := 1) HW.out (by simp) hb)
  | (go_at_call 228; refine (HM.out _ hb).mono ?_; rintro e w2 ⟨rfl, hb2⟩; have hB2 := hB1.trans (hb2.mono (by omega))))
 all_goals go_ret
 all_goals first | exact ⟨by simp [validPieceB, *], hB2⟩ | exact ⟨by simp [validPieceB, *], hB1⟩ | exact ⟨by simp [validPieceB, *], HW.out⟩
end Go.Proofs.YtnmgfnpphglphaaGreat
end
