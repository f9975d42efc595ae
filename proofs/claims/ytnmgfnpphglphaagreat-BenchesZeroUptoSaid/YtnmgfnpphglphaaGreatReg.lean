/-
  The register while it is told: a box that holds five slices of the call's own.
-/
import Derived.Test.YtnmgfnpphglphaaGreatLed6
set_option maxHeartbeats 16000000
set_option maxRecDepth 100000
set_option linter.unusedVariables false
set_option linter.unusedSimpArgs false
namespace Go.Proofs.YtnmgfnpphglphaaGreat
open Go.RowKit
def Sep (vs : List Value) : Prop := ∀ (i j : Nat) (a b : Value), i ≠ j → vs[i]? = some a → vs[j]? = some b → ∀ g, a.ownBlock = some g → b.ownBlock ≠ some g
theorem Sep.set {vs : List Value} {i n : Nat} {v v' : Value} (h : Sep vs) (hv : vs[i]? = some v) (hat : v'.ownBlock = v.ownBlock ∨ v'.ownBlock = some n) (hlt : ∀ x ∈ vs, ∀ g, x.ownBlock = some g → g < n) : Sep (vs.set i v') := by
 intro a b x y hab hx hy g hgx hgy
 rw [List.getElem?_set] at hx hy
 have hi := (List.getElem?_eq_some_iff.1 hv).1
 by_cases ha : i = a
 ·subst ha
  rw [if_pos rfl, if_pos hi] at hx
  rw [if_neg hab] at hy
  cases hx
  rcases hat with h' | h'
  ·exact h i b v y hab hv hy g (h'.symm.trans hgx) hgy
  ·rw [h'] at hgx; cases hgx
   exact Nat.lt_irrefl _ (hlt y (List.mem_of_getElem? hy) _ hgy)
 ·rw [if_neg ha] at hx
  by_cases hb : i = b
  ·subst hb
   rw [if_pos rfl, if_pos hi] at hy
   cases hy
   rcases hat with h' | h'
   ·exact h a i x v hab hx hv g hgx (h'.symm.trans hgy)
   ·rw [h'] at hgy; cases hgy
    exact Nat.lt_irrefl _ (hlt x (List.mem_of_getElem? hx) _ hgx)
  ·rw [if_neg hb] at hy
   exact h a b x y hab hx hy g hgx hgy
def RD (c : Nat) (vs : List Value) : Nat → Prop := fun k => k < c + 2 ∨ ∃ v ∈ vs, v.ownBlock = some k
theorem RD.set {c : Nat} {vs : List Value} {i n : Nat} {v v' : Value} (hv : vs[i]? = some v) (hat : v'.ownBlock = v.ownBlock ∨ v'.ownBlock = some n) : ∀ k, RD c (vs.set i v') k → RD c vs k ∨ n ≤ k := by
 intro k hk
 rcases hk with hk | ⟨x, hx, hk⟩
 ·exact .inl (.inl hk)
 ·rcases List.mem_or_eq_of_mem_set hx with hx | rfl
  ·exact .inl (.inr ⟨x, hx, hk⟩)
  ·rcases hat with h' | h'
   ·exact .inl (.inr ⟨v, List.mem_of_getElem? hv, h'.symm.trans hk⟩)
   ·rw [h'] at hk; cases hk; exact .inr (Nat.le_refl _)
theorem okPiece_step {D D' : Nat → Prop} {w w' : World} {x : Piece} (h : okPiece D w x) (hx : ∀ k, k < w.heap.size → ¬ D k → w'.heap[k]? = w.heap[k]?) (hs : w.heap.size ≤ w'.heap.size) (hd : ∀ k, D' k → D k ∨ w.heap.size ≤ k) : okPiece D' w' x :=
 (okPiece.ext (okPiece_wide h) ⟨hs, fun k hk hn => hx k hk (fun h => hn (.inl h))⟩).mono hd
theorem okItem_step {D D' : Nat → Prop} {w w' : World} {x : Item} (h : okItem D w x) (hx : ∀ k, k < w.heap.size → ¬ D k → w'.heap[k]? = w.heap[k]?) (hs : w.heap.size ≤ w'.heap.size) (hd : ∀ k, D' k → D k ∨ w.heap.size ≤ k) : okItem D' w' x :=
 (okItem.ext (okItem_wide h) ⟨hs, fun k hk hn => hx k hk (fun h => hn (.inl h))⟩).mono hd
theorem okRelead_wide {D : Nat → Prop} {w : World} {x : Relead} (h : okRelead D w x) : okRelead (Wide D w) w x := ⟨h.1, h.2.wide (fun _ h => h)⟩
theorem okRelead_step {D D' : Nat → Prop} {w w' : World} {x : Relead} (h : okRelead D w x) (hx : ∀ k, k < w.heap.size → ¬ D k → w'.heap[k]? = w.heap[k]?) (hs : w.heap.size ≤ w'.heap.size) (hd : ∀ k, D' k → D k ∨ w.heap.size ≤ k) : okRelead D' w' x :=
 (okRelead.ext (okRelead_wide h) ⟨hs, fun k hk hn => hx k hk (fun h => hn (.inl h))⟩).mono hd
theorem okWhere_step {D D' : Nat → Prop} {w w' : World} {x : Where} (h : okWhere D w x) (hx : ∀ k, k < w.heap.size → ¬ D k → w'.heap[k]? = w.heap[k]?) (hs : w.heap.size ≤ w'.heap.size) (hd : ∀ k, D' k → D k ∨ w.heap.size ≤ k) : okWhere D' w' x := h
theorem okHeld_step {D D' : Nat → Prop} {w w' : World} {x : Held} (h : okHeld D w x) (hx : ∀ k, k < w.heap.size → ¬ D k → w'.heap[k]? = w.heap[k]?) (hs : w.heap.size ≤ w'.heap.size) (hd : ∀ k, D' k → D k ∨ w.heap.size ≤ k) : okHeld D' w' x := h
structure RegSt (c : Nat) (w : World) (v0 v1 v2 v3 v4 : Value) (lp : List Piece) (lw : List Where) (lh : List Held) (li : List Item) (lr : List Relead) : Prop where
 box0 : BoxAt w c 100 #[.slice none 0 0, .slice none 0 0, .slice none 0 0, .slice none 0 0, .slice none 0 0, .slice none 0 0]
 box : BoxAt w (c + 1) 100 #[v0, v1, v2, v3, v4, .slice none 0 0]
 o0 : OwnL encPiece 7 w (c + 2) 93 v0 lp
 o1 : OwnL encWhere 7 w (c + 2) 105 v1 lw
 o2 : OwnL encHeld 5 w (c + 2) 240 v2 lh
 o3 : OwnL encItem 12 w (c + 2) 41 v3 li
 o4 : OwnL encRelead 2 w (c + 2) 243 v4 lr
 sep : Sep [v0, v1, v2, v3, v4]
 k0 : ∀ p ∈ lp, okPiece (RD c [v0, v1, v2, v3, v4]) w p
 k1 : ∀ p ∈ lw, okWhere (RD c [v0, v1, v2, v3, v4]) w p
 k2 : ∀ p ∈ lh, okHeld (RD c [v0, v1, v2, v3, v4]) w p
 k3 : ∀ p ∈ li, okItem (RD c [v0, v1, v2, v3, v4]) w p
 k4 : ∀ p ∈ lr, okRelead (RD c [v0, v1, v2, v3, v4]) w p
theorem RegSt.lt {c : Nat} {w : World} {v0 v1 v2 v3 v4 : Value} {lp : List Piece} {lw : List Where} {lh : List Held} {li : List Item} {lr : List Relead} (h : RegSt c w v0 v1 v2 v3 v4 lp lw lh li lr) : c + 2 ≤ w.heap.size := h.box.lt
theorem RegSt.owns {c : Nat} {w : World} {v0 v1 v2 v3 v4 : Value} {lp : List Piece} {lw : List Where} {lh : List Held} {li : List Item} {lr : List Relead} (h : RegSt c w v0 v1 v2 v3 v4 lp lw lh li lr) : ∀ x ∈ [v0, v1, v2, v3, v4], ∀ g, x.ownBlock = some g → c + 2 ≤ g ∧ g < w.heap.size := by
 intro x hx g hg
 simp only [List.mem_cons, List.not_mem_nil, or_false] at hx
 rcases hx with rfl | rfl | rfl | rfl | rfl
 ·exact h.o0.block g hg
 ·exact h.o1.block g hg
 ·exact h.o2.block g hg
 ·exact h.o3.block g hg
 ·exact h.o4.block g hg
theorem RegSt.below {c : Nat} {w : World} {v0 v1 v2 v3 v4 : Value} {lp : List Piece} {lw : List Where} {lh : List Held} {li : List Item} {lr : List Relead} {w' : World} (h : RegSt c w v0 v1 v2 v3 v4 lp lw lh li lr) (hb : Below w.heap.size w w') : RegSt c w' v0 v1 v2 v3 v4 lp lw lh li lr :=
 ⟨h.box0.belowAll hb, h.box.belowAll hb, h.o0.belowAll hb, h.o1.belowAll hb, h.o2.belowAll hb, h.o3.belowAll hb, h.o4.belowAll hb, h.sep, fun p hp => okPiece.ext (h.k0 p hp) (.of_below hb), h.k1, h.k2, fun p hp => okItem.ext (h.k3 p hp) (.of_below hb), fun p hp => okRelead.ext (h.k4 p hp) (.of_below hb)⟩
theorem RegSt.fresh {c : Nat} {w : World} {v0 v1 v2 v3 v4 : Value} {lp : List Piece} {lw : List Where} {lh : List Held} {li : List Item} {lr : List Relead} (h : RegSt c w v0 v1 v2 v3 v4 lp lw lh li lr) {n : Nat} (hn : w.heap.size ≤ n) : ∀ k, RD c [v0, v1, v2, v3, v4] k → Old n k := by
 intro k hk
 rcases hk with hk | ⟨x, hx, hk⟩
 ·have := h.lt; show k < n; omega
 ·have := (h.owns x hx k hk).2; show k < n; omega
structure KeysAt (c : Nat) (w : World) (vs : List Value) (vk : Value) (ks : List Int) : Prop where
 own : OwnL encInt 1 w (c + 2) 3 vk ks
 sep : ∀ x ∈ vs, ∀ g, x.ownBlock = some g → vk.ownBlock ≠ some g
theorem KeysAt.below {c : Nat} {w w' : World} {vs : List Value} {vk : Value} {ks : List Int} (h : KeysAt c w vs vk ks) (hb : Below w.heap.size w w') : KeysAt c w' vs vk ks := ⟨h.own.belowAll hb, h.sep⟩
theorem KeysAt.step {c i : Nat} {w w1 w2 : World} {vs : List Value} {v v' vk : Value} {ks : List Int} (h : KeysAt c w vs vk ks) (hv : vs[i]? = some v) (hg : w.grownBy w1 v.ownBlock) (hat : v'.ownBlock = v.ownBlock ∨ v'.ownBlock = some w.heap.size) (hT : Turn (c + 1) w1 w2) : KeysAt c w2 (vs.set i v') vk ks := by
 have hm := List.mem_of_getElem? hv
 refine ⟨(h.own.kept fun g hg' => hg.block g (h.own.block g hg').2 (fun e => h.sep v hm g e.symm hg')).turn hT (own_ne h.own (by omega)), fun x hx g hgx hgk => ?_⟩
 rcases List.mem_or_eq_of_mem_set hx with hx | rfl
 ·exact h.sep x hx g hgx hgk
 ·rcases hat with h' | h'
  ·exact h.sep v hm g (h'.symm.trans hgx) hgk
  ·rw [h'] at hgx; cases hgx
   exact Nat.lt_irrefl _ (h.own.block _ hgk).2
theorem RegSt.put0 {c : Nat} {w : World} {v0 v1 v2 v3 v4 : Value} {lp : List Piece} {lw : List Where} {lh : List Held} {li : List Item} {lr : List Relead} {w1 w2 : World} {v' : Value} {ys : List Piece} (h : RegSt c w v0 v1 v2 v3 v4 lp lw lh li lr) (ho : OwnL encPiece 7 w1 (c + 2) 93 v' (lp ++ ys)) (hg : w.grownBy w1 v0.ownBlock) (hat : v'.ownBlock = v0.ownBlock ∨ v'.ownBlock = some w.heap.size)
  (hys : ∀ p ∈ ys, okPiece (RD c [v0, v1, v2, v3, v4]) w p) (hbx : BoxAt w2 (c + 1) 100 #[v', v1, v2, v3, v4, .slice none 0 0]) (hT : Turn (c + 1) w1 w2) :
  RegSt c w2 v' v1 v2 v3 v4 (lp ++ ys) lw lh li lr ∧ Below c w w2 ∧ (∀ vk ks, KeysAt c w [v0, v1, v2, v3, v4] vk ks → KeysAt c w2 [v', v1, v2, v3, v4] vk ks) := by
 have hlt := h.lt
 have hC : ∀ k, k < w.heap.size → ¬ RD c [v0, v1, v2, v3, v4] k → w2.heap[k]? = w.heap[k]? := fun k hk hn =>
  (hT.block k (fun e => hn (.inl (by omega)))).trans (hg.block k hk (fun e => hn (.inr ⟨v0, by simp, e.symm⟩)))
 have hS : w.heap.size ≤ w2.heap.size := by rw [hT.size]; exact hg.size
 have hD : ∀ k, RD c [v', v1, v2, v3, v4] k → RD c [v0, v1, v2, v3, v4] k ∨ w.heap.size ≤ k := RD.set (vs := [v0, v1, v2, v3, v4]) (i := 0) (v := v0) rfl hat
 have keep : ∀ (j : Nat) (v : Value), j ≠ 0 → [v0, v1, v2, v3, v4][j]? = some v → (∀ g, v.ownBlock = some g → g < w.heap.size) → ∀ g, v.ownBlock = some g → w1.heap[g]? = w.heap[g]? := fun j v hj hv hl g hg' =>
  hg.block g (hl g hg') (fun e => h.sep j 0 v v0 hj hv rfl g hg' e.symm)
 refine ⟨⟨h.box0.of_block ((hT.block c (by omega)).trans (hg.block c (by omega) (fun e => by have := (h.owns v0 (by simp) c e.symm).1; omega))), hbx, ho.turn hT (own_ne ho (by omega)), (h.o1.kept (keep 1 v1 (by decide) rfl (fun g hg' => (h.o1.block g hg').2))).turn hT (own_ne h.o1 (by omega)), (h.o2.kept (keep 2 v2 (by decide) rfl (fun g hg' => (h.o2.block g hg').2))).turn hT (own_ne h.o2 (by omega)), (h.o3.kept (keep 3 v3 (by decide) rfl (fun g hg' => (h.o3.block g hg').2))).turn hT (own_ne h.o3 (by omega)), (h.o4.kept (keep 4 v4 (by decide) rfl (fun g hg' => (h.o4.block g hg').2))).turn hT (own_ne h.o4 (by omega)), Sep.set (vs := [v0, v1, v2, v3, v4]) (i := 0) (v := v0) h.sep rfl hat (fun x hx g hg' => (h.owns x hx g hg').2), fun p hp => (List.mem_append.1 hp).elim (fun hp => okPiece_step (h.k0 p hp) hC hS hD) (fun hp => okPiece_step (hys p hp) hC hS hD), fun p hp => okWhere_step (h.k1 p hp) hC hS hD, fun p hp => okHeld_step (h.k2 p hp) hC hS hD, fun p hp => okItem_step (h.k3 p hp) hC hS hD, fun p hp => okRelead_step (h.k4 p hp) hC hS hD⟩, ⟨hT.os.trans hg.os, hT.tape.trans hg.tape, hT.output.trans hg.output, hS, fun k hk => ?_⟩, fun vk ks hk => KeysAt.step (vs := [v0, v1, v2, v3, v4]) (i := 0) (v := v0) hk rfl hg hat hT⟩
 exact (hT.block k (by omega)).trans (hg.block k (by omega) (fun e => by have := (h.owns v0 (by simp) k e.symm).1; omega))
theorem RegSt.put1 {c : Nat} {w : World} {v0 v1 v2 v3 v4 : Value} {lp : List Piece} {lw : List Where} {lh : List Held} {li : List Item} {lr : List Relead} {w1 w2 : World} {v' : Value} {ys : List Where} (h : RegSt c w v0 v1 v2 v3 v4 lp lw lh li lr) (ho : OwnL encWhere 7 w1 (c + 2) 105 v' (lw ++ ys)) (hg : w.grownBy w1 v1.ownBlock) (hat : v'.ownBlock = v1.ownBlock ∨ v'.ownBlock = some w.heap.size)
  (hys : ∀ p ∈ ys, okWhere (RD c [v0, v1, v2, v3, v4]) w p) (hbx : BoxAt w2 (c + 1) 100 #[v0, v', v2, v3, v4, .slice none 0 0]) (hT : Turn (c + 1) w1 w2) :
  RegSt c w2 v0 v' v2 v3 v4 lp (lw ++ ys) lh li lr ∧ Below c w w2 ∧ (∀ vk ks, KeysAt c w [v0, v1, v2, v3, v4] vk ks → KeysAt c w2 [v0, v', v2, v3, v4] vk ks) := by
 have hlt := h.lt
 have hC : ∀ k, k < w.heap.size → ¬ RD c [v0, v1, v2, v3, v4] k → w2.heap[k]? = w.heap[k]? := fun k hk hn =>
  (hT.block k (fun e => hn (.inl (by omega)))).trans (hg.block k hk (fun e => hn (.inr ⟨v1, by simp, e.symm⟩)))
 have hS : w.heap.size ≤ w2.heap.size := by rw [hT.size]; exact hg.size
 have hD : ∀ k, RD c [v0, v', v2, v3, v4] k → RD c [v0, v1, v2, v3, v4] k ∨ w.heap.size ≤ k := RD.set (vs := [v0, v1, v2, v3, v4]) (i := 1) (v := v1) rfl hat
 have keep : ∀ (j : Nat) (v : Value), j ≠ 1 → [v0, v1, v2, v3, v4][j]? = some v → (∀ g, v.ownBlock = some g → g < w.heap.size) → ∀ g, v.ownBlock = some g → w1.heap[g]? = w.heap[g]? := fun j v hj hv hl g hg' =>
  hg.block g (hl g hg') (fun e => h.sep j 1 v v1 hj hv rfl g hg' e.symm)
 refine ⟨⟨h.box0.of_block ((hT.block c (by omega)).trans (hg.block c (by omega) (fun e => by have := (h.owns v1 (by simp) c e.symm).1; omega))), hbx, (h.o0.kept (keep 0 v0 (by decide) rfl (fun g hg' => (h.o0.block g hg').2))).turn hT (own_ne h.o0 (by omega)), ho.turn hT (own_ne ho (by omega)), (h.o2.kept (keep 2 v2 (by decide) rfl (fun g hg' => (h.o2.block g hg').2))).turn hT (own_ne h.o2 (by omega)), (h.o3.kept (keep 3 v3 (by decide) rfl (fun g hg' => (h.o3.block g hg').2))).turn hT (own_ne h.o3 (by omega)), (h.o4.kept (keep 4 v4 (by decide) rfl (fun g hg' => (h.o4.block g hg').2))).turn hT (own_ne h.o4 (by omega)), Sep.set (vs := [v0, v1, v2, v3, v4]) (i := 1) (v := v1) h.sep rfl hat (fun x hx g hg' => (h.owns x hx g hg').2), fun p hp => okPiece_step (h.k0 p hp) hC hS hD, fun p hp => (List.mem_append.1 hp).elim (fun hp => okWhere_step (h.k1 p hp) hC hS hD) (fun hp => okWhere_step (hys p hp) hC hS hD), fun p hp => okHeld_step (h.k2 p hp) hC hS hD, fun p hp => okItem_step (h.k3 p hp) hC hS hD, fun p hp => okRelead_step (h.k4 p hp) hC hS hD⟩, ⟨hT.os.trans hg.os, hT.tape.trans hg.tape, hT.output.trans hg.output, hS, fun k hk => ?_⟩, fun vk ks hk => KeysAt.step (vs := [v0, v1, v2, v3, v4]) (i := 1) (v := v1) hk rfl hg hat hT⟩
 exact (hT.block k (by omega)).trans (hg.block k (by omega) (fun e => by have := (h.owns v1 (by simp) k e.symm).1; omega))
theorem RegSt.put2 {c : Nat} {w : World} {v0 v1 v2 v3 v4 : Value} {lp : List Piece} {lw : List Where} {lh : List Held} {li : List Item} {lr : List Relead} {w1 w2 : World} {v' : Value} {ys : List Held} (h : RegSt c w v0 v1 v2 v3 v4 lp lw lh li lr) (ho : OwnL encHeld 5 w1 (c + 2) 240 v' (lh ++ ys)) (hg : w.grownBy w1 v2.ownBlock) (hat : v'.ownBlock = v2.ownBlock ∨ v'.ownBlock = some w.heap.size)
  (hys : ∀ p ∈ ys, okHeld (RD c [v0, v1, v2, v3, v4]) w p) (hbx : BoxAt w2 (c + 1) 100 #[v0, v1, v', v3, v4, .slice none 0 0]) (hT : Turn (c + 1) w1 w2) :
  RegSt c w2 v0 v1 v' v3 v4 lp lw (lh ++ ys) li lr ∧ Below c w w2 ∧ (∀ vk ks, KeysAt c w [v0, v1, v2, v3, v4] vk ks → KeysAt c w2 [v0, v1, v', v3, v4] vk ks) := by
 have hlt := h.lt
 have hC : ∀ k, k < w.heap.size → ¬ RD c [v0, v1, v2, v3, v4] k → w2.heap[k]? = w.heap[k]? := fun k hk hn =>
  (hT.block k (fun e => hn (.inl (by omega)))).trans (hg.block k hk (fun e => hn (.inr ⟨v2, by simp, e.symm⟩)))
 have hS : w.heap.size ≤ w2.heap.size := by rw [hT.size]; exact hg.size
 have hD : ∀ k, RD c [v0, v1, v', v3, v4] k → RD c [v0, v1, v2, v3, v4] k ∨ w.heap.size ≤ k := RD.set (vs := [v0, v1, v2, v3, v4]) (i := 2) (v := v2) rfl hat
 have keep : ∀ (j : Nat) (v : Value), j ≠ 2 → [v0, v1, v2, v3, v4][j]? = some v → (∀ g, v.ownBlock = some g → g < w.heap.size) → ∀ g, v.ownBlock = some g → w1.heap[g]? = w.heap[g]? := fun j v hj hv hl g hg' =>
  hg.block g (hl g hg') (fun e => h.sep j 2 v v2 hj hv rfl g hg' e.symm)
 refine ⟨⟨h.box0.of_block ((hT.block c (by omega)).trans (hg.block c (by omega) (fun e => by have := (h.owns v2 (by simp) c e.symm).1; omega))), hbx, (h.o0.kept (keep 0 v0 (by decide) rfl (fun g hg' => (h.o0.block g hg').2))).turn hT (own_ne h.o0 (by omega)), (h.o1.kept (keep 1 v1 (by decide) rfl (fun g hg' => (h.o1.block g hg').2))).turn hT (own_ne h.o1 (by omega)), ho.turn hT (own_ne ho (by omega)), (h.o3.kept (keep 3 v3 (by decide) rfl (fun g hg' => (h.o3.block g hg').2))).turn hT (own_ne h.o3 (by omega)), (h.o4.kept (keep 4 v4 (by decide) rfl (fun g hg' => (h.o4.block g hg').2))).turn hT (own_ne h.o4 (by omega)), Sep.set (vs := [v0, v1, v2, v3, v4]) (i := 2) (v := v2) h.sep rfl hat (fun x hx g hg' => (h.owns x hx g hg').2), fun p hp => okPiece_step (h.k0 p hp) hC hS hD, fun p hp => okWhere_step (h.k1 p hp) hC hS hD, fun p hp => (List.mem_append.1 hp).elim (fun hp => okHeld_step (h.k2 p hp) hC hS hD) (fun hp => okHeld_step (hys p hp) hC hS hD), fun p hp => okItem_step (h.k3 p hp) hC hS hD, fun p hp => okRelead_step (h.k4 p hp) hC hS hD⟩, ⟨hT.os.trans hg.os, hT.tape.trans hg.tape, hT.output.trans hg.output, hS, fun k hk => ?_⟩, fun vk ks hk => KeysAt.step (vs := [v0, v1, v2, v3, v4]) (i := 2) (v := v2) hk rfl hg hat hT⟩
 exact (hT.block k (by omega)).trans (hg.block k (by omega) (fun e => by have := (h.owns v2 (by simp) k e.symm).1; omega))
theorem RegSt.put3 {c : Nat} {w : World} {v0 v1 v2 v3 v4 : Value} {lp : List Piece} {lw : List Where} {lh : List Held} {li : List Item} {lr : List Relead} {w1 w2 : World} {v' : Value} {ys : List Item} (h : RegSt c w v0 v1 v2 v3 v4 lp lw lh li lr) (ho : OwnL encItem 12 w1 (c + 2) 41 v' (li ++ ys)) (hg : w.grownBy w1 v3.ownBlock) (hat : v'.ownBlock = v3.ownBlock ∨ v'.ownBlock = some w.heap.size)
  (hys : ∀ p ∈ ys, okItem (RD c [v0, v1, v2, v3, v4]) w p) (hbx : BoxAt w2 (c + 1) 100 #[v0, v1, v2, v', v4, .slice none 0 0]) (hT : Turn (c + 1) w1 w2) :
  RegSt c w2 v0 v1 v2 v' v4 lp lw lh (li ++ ys) lr ∧ Below c w w2 ∧ (∀ vk ks, KeysAt c w [v0, v1, v2, v3, v4] vk ks → KeysAt c w2 [v0, v1, v2, v', v4] vk ks) := by
 have hlt := h.lt
 have hC : ∀ k, k < w.heap.size → ¬ RD c [v0, v1, v2, v3, v4] k → w2.heap[k]? = w.heap[k]? := fun k hk hn =>
  (hT.block k (fun e => hn (.inl (by omega)))).trans (hg.block k hk (fun e => hn (.inr ⟨v3, by simp, e.symm⟩)))
 have hS : w.heap.size ≤ w2.heap.size := by rw [hT.size]; exact hg.size
 have hD : ∀ k, RD c [v0, v1, v2, v', v4] k → RD c [v0, v1, v2, v3, v4] k ∨ w.heap.size ≤ k := RD.set (vs := [v0, v1, v2, v3, v4]) (i := 3) (v := v3) rfl hat
 have keep : ∀ (j : Nat) (v : Value), j ≠ 3 → [v0, v1, v2, v3, v4][j]? = some v → (∀ g, v.ownBlock = some g → g < w.heap.size) → ∀ g, v.ownBlock = some g → w1.heap[g]? = w.heap[g]? := fun j v hj hv hl g hg' =>
  hg.block g (hl g hg') (fun e => h.sep j 3 v v3 hj hv rfl g hg' e.symm)
 refine ⟨⟨h.box0.of_block ((hT.block c (by omega)).trans (hg.block c (by omega) (fun e => by have := (h.owns v3 (by simp) c e.symm).1; omega))), hbx, (h.o0.kept (keep 0 v0 (by decide) rfl (fun g hg' => (h.o0.block g hg').2))).turn hT (own_ne h.o0 (by omega)), (h.o1.kept (keep 1 v1 (by decide) rfl (fun g hg' => (h.o1.block g hg').2))).turn hT (own_ne h.o1 (by omega)), (h.o2.kept (keep 2 v2 (by decide) rfl (fun g hg' => (h.o2.block g hg').2))).turn hT (own_ne h.o2 (by omega)), ho.turn hT (own_ne ho (by omega)), (h.o4.kept (keep 4 v4 (by decide) rfl (fun g hg' => (h.o4.block g hg').2))).turn hT (own_ne h.o4 (by omega)), Sep.set (vs := [v0, v1, v2, v3, v4]) (i := 3) (v := v3) h.sep rfl hat (fun x hx g hg' => (h.owns x hx g hg').2), fun p hp => okPiece_step (h.k0 p hp) hC hS hD, fun p hp => okWhere_step (h.k1 p hp) hC hS hD, fun p hp => okHeld_step (h.k2 p hp) hC hS hD, fun p hp => (List.mem_append.1 hp).elim (fun hp => okItem_step (h.k3 p hp) hC hS hD) (fun hp => okItem_step (hys p hp) hC hS hD), fun p hp => okRelead_step (h.k4 p hp) hC hS hD⟩, ⟨hT.os.trans hg.os, hT.tape.trans hg.tape, hT.output.trans hg.output, hS, fun k hk => ?_⟩, fun vk ks hk => KeysAt.step (vs := [v0, v1, v2, v3, v4]) (i := 3) (v := v3) hk rfl hg hat hT⟩
 exact (hT.block k (by omega)).trans (hg.block k (by omega) (fun e => by have := (h.owns v3 (by simp) k e.symm).1; omega))
theorem RegSt.put4 {c : Nat} {w : World} {v0 v1 v2 v3 v4 : Value} {lp : List Piece} {lw : List Where} {lh : List Held} {li : List Item} {lr : List Relead} {w1 w2 : World} {v' : Value} {ys : List Relead} (h : RegSt c w v0 v1 v2 v3 v4 lp lw lh li lr) (ho : OwnL encRelead 2 w1 (c + 2) 243 v' (lr ++ ys)) (hg : w.grownBy w1 v4.ownBlock) (hat : v'.ownBlock = v4.ownBlock ∨ v'.ownBlock = some w.heap.size)
  (hys : ∀ p ∈ ys, okRelead (RD c [v0, v1, v2, v3, v4]) w p) (hbx : BoxAt w2 (c + 1) 100 #[v0, v1, v2, v3, v', .slice none 0 0]) (hT : Turn (c + 1) w1 w2) :
  RegSt c w2 v0 v1 v2 v3 v' lp lw lh li (lr ++ ys) ∧ Below c w w2 ∧ (∀ vk ks, KeysAt c w [v0, v1, v2, v3, v4] vk ks → KeysAt c w2 [v0, v1, v2, v3, v'] vk ks) := by
 have hlt := h.lt
 have hC : ∀ k, k < w.heap.size → ¬ RD c [v0, v1, v2, v3, v4] k → w2.heap[k]? = w.heap[k]? := fun k hk hn =>
  (hT.block k (fun e => hn (.inl (by omega)))).trans (hg.block k hk (fun e => hn (.inr ⟨v4, by simp, e.symm⟩)))
 have hS : w.heap.size ≤ w2.heap.size := by rw [hT.size]; exact hg.size
 have hD : ∀ k, RD c [v0, v1, v2, v3, v'] k → RD c [v0, v1, v2, v3, v4] k ∨ w.heap.size ≤ k := RD.set (vs := [v0, v1, v2, v3, v4]) (i := 4) (v := v4) rfl hat
 have keep : ∀ (j : Nat) (v : Value), j ≠ 4 → [v0, v1, v2, v3, v4][j]? = some v → (∀ g, v.ownBlock = some g → g < w.heap.size) → ∀ g, v.ownBlock = some g → w1.heap[g]? = w.heap[g]? := fun j v hj hv hl g hg' =>
  hg.block g (hl g hg') (fun e => h.sep j 4 v v4 hj hv rfl g hg' e.symm)
 refine ⟨⟨h.box0.of_block ((hT.block c (by omega)).trans (hg.block c (by omega) (fun e => by have := (h.owns v4 (by simp) c e.symm).1; omega))), hbx, (h.o0.kept (keep 0 v0 (by decide) rfl (fun g hg' => (h.o0.block g hg').2))).turn hT (own_ne h.o0 (by omega)), (h.o1.kept (keep 1 v1 (by decide) rfl (fun g hg' => (h.o1.block g hg').2))).turn hT (own_ne h.o1 (by omega)), (h.o2.kept (keep 2 v2 (by decide) rfl (fun g hg' => (h.o2.block g hg').2))).turn hT (own_ne h.o2 (by omega)), (h.o3.kept (keep 3 v3 (by decide) rfl (fun g hg' => (h.o3.block g hg').2))).turn hT (own_ne h.o3 (by omega)), ho.turn hT (own_ne ho (by omega)), Sep.set (vs := [v0, v1, v2, v3, v4]) (i := 4) (v := v4) h.sep rfl hat (fun x hx g hg' => (h.owns x hx g hg').2), fun p hp => okPiece_step (h.k0 p hp) hC hS hD, fun p hp => okWhere_step (h.k1 p hp) hC hS hD, fun p hp => okHeld_step (h.k2 p hp) hC hS hD, fun p hp => okItem_step (h.k3 p hp) hC hS hD, fun p hp => (List.mem_append.1 hp).elim (fun hp => okRelead_step (h.k4 p hp) hC hS hD) (fun hp => okRelead_step (hys p hp) hC hS hD)⟩, ⟨hT.os.trans hg.os, hT.tape.trans hg.tape, hT.output.trans hg.output, hS, fun k hk => ?_⟩, fun vk ks hk => KeysAt.step (vs := [v0, v1, v2, v3, v4]) (i := 4) (v := v4) hk rfl hg hat hT⟩
 exact (hT.block k (by omega)).trans (hg.block k (by omega) (fun e => by have := (h.owns v4 (by simp) k e.symm).1; omega))
end Go.Proofs.YtnmgfnpphglphaaGreat
