/-
  A copy of an item: walked.
  A copy of a list of pieces: walked.
  A copy of a note: walked.
-/
import Derived.Test.YtnmgfnpphglphaaGreatClone
import Derived.Test.YtnmgfnpphglphaaGreatOrd
import Derived.Test.YtnmgfnpphglphaaGreatWell
set_option maxHeartbeats 16000000
set_option maxRecDepth 100000
section
set_option linter.unusedVariables false
set_option linter.unusedSimpArgs false
namespace Go.Proofs.YtnmgfnpphglphaaGreat
open Go.RowKit
theorem wp_store_box {P : Program} {w : World} {o : Oper} {a : Act} {K : Act → World → Prop} {Q : Exit → Act → World → Prop} {b off : Nat} {T : TypeId} {cs : Array Value} (hb : BoxAt w b T cs)
  (ty : TypeId) (x y : Operand) (ho : o.op = .store ty x y) (hx : a.eval x = .pointer (some ⟨b, off, none⟩)) (v : Value) (hy : a.eval y = v)
  (hi : (P.info? ty).map (·.size) = some v.cells.size) (hfit : Nat.ble (off + v.cells.size) cs.size = true) (h1 : v.cells.all (·.oneCell') = true)
  (h : ∀ w', BoxAt w' b T (splice cs off v.cells.toList) → Turn b w w' → K (a.put o.dst undef) w') : o.wp P a w K Q := by
 have hfit' := Nat.le_of_ble_eq_true hfit
 have hst := run_storeCells_cells (P := P) b off v.cells.toList 0 w (fun j hj => by
   rw [Nat.add_zero, hb.cell, Array.getElem?_eq_getElem (by simp at hj; omega)]; rfl)
  (fun j _ => hb.frozen _) (fun u hu => (Array.all_eq_true_iff_forall_mem.1 h1) u (by simpa using hu))
 obtain ⟨h2, h3⟩ := setCells_box v.cells.toList off cs w hb
 unfold Oper.wp execOp
 cases hq : P.info? ty with
 | none => simp [hq] at hi
 | some i =>
  have hs : i.size = v.cells.size := by simpa [hq] using hi
  simp only [Nat.add_zero] at hst
  simp [ho, hx, hy, Instr.storeAt, Instr.sureAddr, storeVar, Sem.run_bind, sizeOf, typeInfo, hq, hs, hst, Oper.upon]
  exact h _ h2 h3
theorem OwnL.one {α : Type} {enc : α → Array Value} {sz : Nat} {w : World} {base : Nat} {e : TypeId} {v : Value} {l : List α} (h : OwnL enc sz w base e v l) : v.cells = #[v] ∧ v.oneCell' = true := by
 rcases h.2 with ⟨rfl, _⟩ | ⟨g, cap, cur, rfl, _⟩ <;> exact ⟨rfl, rfl⟩
theorem one_cells {v : Value} (h : v.cells = #[v] ∧ v.oneCell' = true) : v.cells = #[v] := h.1
theorem one_all {v : Value} (h : v.cells = #[v] ∧ v.oneCell' = true) : v.cells.all (·.oneCell') = true := by rw [h.1]; simp [h.2]
theorem splice_size : ∀ (vs : List Value) (cs : Array Value) (o : Nat), (splice cs o vs).size = cs.size
 | [], _, _ => rfl
 | v :: r, cs, o => by rw [splice, splice_size r]; simp
theorem own_ne {α : Type} {enc : α → Array Value} {sz : Nat} {w : World} {base b : Nat} {e : TypeId} {v : Value} {l : List α} (h : OwnL enc sz w base e v l) (hb : b < base) : v.ownBlock ≠ some b := fun he => by
 have := (h.block b he).1; omega
abbrev Old (n : Nat) : Nat → Prop := fun k => k < n
theorem OwnL.slOld {α : Type} {enc : α → Array Value} {sz : Nat} {w : World} {base n : Nat} {e : TypeId} {v : Value} {l : List α} (h : OwnL enc sz w base e v l) (hsz : ∀ x, (enc x).size = sz) (ok : (Nat → Prop) → World → α → Prop) (hn : n ≤ base)
  (hok : ∀ x ∈ l, ok (Old n) w x) (hl : l.length ≤ 4294967296) : ∃ s : Sl α, v = s.v ∧ s.val = l ∧ Sl.OK sz enc ok (Old n) w s := by
 obtain ⟨s, h1, h2, h3, _⟩ := h.sl hsz ok (Old n) hok (fun k hk => by unfold Old; omega) hl
 exact ⟨s, h1, h2, h3⟩
theorem Sl.OK.move {α : Type} {sz : Nat} {e : α → Array Value} {ok : (Nat → Prop) → World → α → Prop} {m n : Nat} {w w' : World} {s : Sl α} (h : Sl.OK sz e ok (Old m) w s) (hx : Ext (Old m) w w') (hn : n ≤ m)
  (hok : ∀ x, ok (Old m) w x → ok (Old n) w' x) : Sl.OK sz e ok (Old n) w' s :=
 ⟨h.le, h.room, h.isNil, fun p hp hl => let ⟨h1, h2, h3⟩ := h.place p hp hl; ⟨h1, fun hd => h2 (Nat.lt_of_lt_of_le hd hn), Nat.lt_of_lt_of_le h3 hx.size⟩, fun x hm => hok x (h.elem x hm), fun b o ha i x hi j hj => by
  obtain ⟨_, h2, h3⟩ := h.place _ ha (pos_of hi)
  rw [hx.cell h3 h2]
  exact h.cell b o ha i x hi j hj⟩
theorem copiedItem_any (D : Nat → Prop) (x : Item) (w : World) (hok : okItem D w x) :
  Calls Tryz.prog 108 #[.agg (encItem x)] w fun e w' => ∃ y : Item, e = .returned (.agg (encItem y)) ∧ y.abs = x.abs ∧ okItem (Old w.heap.size) w' y ∧ Below w.heap.size w w' := by
 have hbA : BoxAt ((w.alloc (.cells (encItem x) 41)).alloc (.cells (encItem zItem) 41)).drew w.heap.size 41 (encItem x) := ((BoxAt.new _ _ _).alloc _).drew
 have hbR : BoxAt ((w.alloc (.cells (encItem x) 41)).alloc (.cells (encItem zItem) 41)).drew (w.heap.size + 1) 41 (encItem zItem) := by have := BoxAt.new (w.alloc (.cells (encItem x) 41)) 41 (encItem zItem); rw [World.size_alloc] at this; exact this.drew
 have hB0 : Below w.heap.size w ((w.alloc (.cells (encItem x) 41)).alloc (.cells (encItem zItem) 41)).drew := (((Below.refl _ _).alloc (Nat.le_refl _) _).alloc (by simp) _).drew
 have hS0 : w.heap.size + 2 ≤ ((w.alloc (.cells (encItem x) 41)).alloc (.cells (encItem zItem) 41)).drew.heap.size := by simp
 have hE := hbA.cell
 have HOK := Lib.hid hok
 have H1 : Hid (∀ W, Below w.heap.size w W → _) := Lib.hid fun W hW => clone_Int D x.panes W ((okItem.ext hok (.of_below hW)).2.2.2.2.2.2.2.2.2.1)
 have H2 : Hid (∀ W, Below w.heap.size w W → _) := Lib.hid fun W hW => clone_Int D x.colours W ((okItem.ext hok (.of_below hW)).2.2.2.2.2.2.2.2.2.2.1)
 have H3 : Hid (∀ W, Below w.heap.size w W → _) := Lib.hid fun W hW => clone_Sight D x.sights W ((okItem.ext hok (.of_below hW)).2.2.2.2.2.2.2.2.2.2.2)
 clear hok
 go_enter Tryz.func108, Tryz.ntmps108
 go_wp2
 refine wp_region_mark 10 [(0, none), (3, none), (6, none), (1, some true), (4, some true), (7, some true), (2, some false), (9, none), (5, some false), (8, some false), (10, some false), (11, none), (12, some false), (13, none), (14, some false)] rfl (by kernel_rfl) (by kernel_rfl) (fun d _ _ _ _ h => by cases d <;> exact h) ?_
 iterate 3 (refine wpC_pure rfl rfl (fun W => by go_simp; with_reducible rfl) ?_; simp only [pTs, pTn, pTz, pTc])
 iterate 3 (refine wpC_fix (v := ?_) rfl rfl ?_ ?_; rotate_left; (focus (intro W hW; have hWc := fun b o => hW.cell (p := ⟨b, o, none⟩); go_simp; try with_reducible rfl)); simp only [pTs, pTn, pTz, pTc])
 refine wpC_act rfl rfl rfl (fun K hK => ?_)
 go_simp
 refine (H1.out _ hB0).mono ?_
 rintro e w1 ⟨v1, rfl, ho1, hn1, hb1⟩
 have hB1 := Below.call hB0 hb1 (Nat.le_refl _)
 have hS1 := Nat.le_trans hS0 hb1.size
 have hbA := hbA.belowAll hb1
 have hbR := hbR.belowAll hb1
 refine hK _ _ hb1 ?_
 clear hK K
 try simp only [pTs, pTn, pTz, pTc]
 refine wpC_pure rfl rfl (fun W => by go_simp; with_reducible rfl) ?_; simp only [pTs, pTn, pTz, pTc]
 refine wpC_act rfl rfl rfl (fun K hK => ?_)
 go_simp
 refine (H2.out _ hB1).mono ?_
 rintro e w2 ⟨v2, rfl, ho2, hn2, hb2⟩
 have hB2 := Below.call hB1 hb2 (Nat.le_refl _)
 have hS2 := Nat.le_trans hS1 hb2.size
 have hbA := hbA.belowAll hb2
 have hbR := hbR.belowAll hb2
 have ho1 := ho1.belowAll hb2
 refine hK _ _ hb2 ?_
 clear hK K
 try simp only [pTs, pTn, pTz, pTc]
 refine wpC_act rfl rfl rfl (fun K hK => ?_)
 go_simp
 refine (H3.out _ hB2).mono ?_
 rintro e w3 ⟨v3, rfl, ho3, hn3, hb3⟩
 have hB3 := Below.call hB2 hb3 (Nat.le_refl _)
 have hS3 := Nat.le_trans hS2 hb3.size
 have hbA := hbA.belowAll hb3
 have hbR := hbR.belowAll hb3
 have ho1 := ho1.belowAll hb3
 have ho2 := ho2.belowAll hb3
 have h1v1 := ho1.one
 have h1v2 := ho2.one
 have h1v3 := ho3.one
 refine hK _ _ hb3 ?_
 clear hK K
 try simp only [pTs, pTn, pTz, pTc]
 refine wpC_mark rfl rfl (fun K hK => ?_)
 refine wp_store_box hbA _ _ _ rfl rfl v1 rfl (by rw [one_cells h1v1]; kernel_rfl) (by rw [one_cells h1v1]; (try simp only [splice_size]); rfl) (one_all h1v1) ?_
 intro w4 hbA hT
 have hB4 := hB3.trans (hT.below (Nat.le_refl _))
 have hbR := hbR.turn hT (Nat.succ_ne_self _)
 have ho1 := ho1.turn hT (own_ne ho1 (by omega))
 have ho2 := ho2.turn hT (own_ne ho2 (by omega))
 have ho3 := ho3.turn hT (own_ne ho3 (by omega))
 clear hT
 refine hK _ _ ?_
 clear hK K
 try simp only [pTs, pTn, pTz, pTc]
 refine wpC_pure rfl rfl (fun W => by go_simp; with_reducible rfl) ?_; simp only [pTs, pTn, pTz, pTc]
 refine wpC_past rfl rfl (fun K hK => ?_)
 refine wp_store_box hbA _ _ _ rfl rfl v2 rfl (by rw [one_cells h1v2]; kernel_rfl) (by rw [one_cells h1v2]; (try simp only [splice_size]); rfl) (one_all h1v2) ?_
 intro w5 hbA hT
 have hB5 := hB4.trans (hT.below (Nat.le_refl _))
 have hbR := hbR.turn hT (Nat.succ_ne_self _)
 have ho1 := ho1.turn hT (own_ne ho1 (by omega))
 have ho2 := ho2.turn hT (own_ne ho2 (by omega))
 have ho3 := ho3.turn hT (own_ne ho3 (by omega))
 clear hT
 refine hK _ _ ?_
 clear hK K
 try simp only [pTs, pTn, pTz, pTc]
 refine wpC_pure rfl rfl (fun W => by go_simp; with_reducible rfl) ?_; simp only [pTs, pTn, pTz, pTc]
 refine wpC_past rfl rfl (fun K hK => ?_)
 refine wp_store_box hbA _ _ _ rfl rfl v3 rfl (by rw [one_cells h1v3]; kernel_rfl) (by rw [one_cells h1v3]; (try simp only [splice_size]); rfl) (one_all h1v3) ?_
 intro w6 hbA hT
 have hB6 := hB5.trans (hT.below (Nat.le_refl _))
 have hbR := hbR.turn hT (Nat.succ_ne_self _)
 have ho1 := ho1.turn hT (own_ne ho1 (by omega))
 have ho2 := ho2.turn hT (own_ne ho2 (by omega))
 have ho3 := ho3.turn hT (own_ne ho3 (by omega))
 clear hT
 refine hK _ _ ?_
 clear hK K
 try simp only [pTs, pTn, pTz, pTc]
 simp only [wpC]
 have hbA7 := hbA.eqv (cs' := #[vi x.id, vi x.kind, vi x.year, vi x.film, vi x.piece, vi x.lead, vi x.slack, v1, v2, vi x.count.lo, vi x.count.hi, v3]) (by rw [one_cells h1v1, one_cells h1v2, one_cells h1v3]; simp [splice, encItem])
 obtain ⟨s1, e1, l1, o1⟩ := ho1.slOld (n := w.heap.size + 2) (fun _ => rfl) okInt (by omega) (fun z hz => HOK.out.2.2.2.2.2.2.2.2.2.1.elem z hz) HOK.out.2.2.2.2.2.2.2.2.2.1.room
 obtain ⟨s2, e2, l2, o2⟩ := ho2.slOld (n := w.heap.size + 2) (fun _ => rfl) okInt (by omega) (fun z hz => HOK.out.2.2.2.2.2.2.2.2.2.2.1.elem z hz) HOK.out.2.2.2.2.2.2.2.2.2.2.1.room
 obtain ⟨s3, e3, l3, o3⟩ := ho3.slOld (n := w.heap.size + 2) (fun _ => rfl) okSight (by omega) (fun z hz => HOK.out.2.2.2.2.2.2.2.2.2.2.2.elem z hz) HOK.out.2.2.2.2.2.2.2.2.2.2.2.room
 have hbA8 : BoxAt w6 w.heap.size 41 (encItem { x with panes := s1, colours := s2, sights := s3 }) := hbA7.eqv (by rw [e1, e2, e3]; rfl)
 clear hbA hbA7 hE
 have HO := Lib.hid (And.intro o1 (And.intro o2 o3))
 clear o1 o2 o3 ho1 ho2 ho3 hn1 hn2 hn3
 subst e1; subst e2; subst e3
 go_wp2_with (first
  | (with_reducible refine at_dst 15 ?_; refine wpList_loadB hbA8 rfl 41 _ rfl rfl (encItem { x with panes := s1, colours := s2, sights := s3 }) (whole_cells _) Tryz.underlying41 rfl (by kernel_rfl) ?_)
  | (with_reducible refine at_store ?_; refine wpList_store_box hbR rfl _ _ _ rfl rfl (.agg (encItem { x with panes := s1, colours := s2, sights := s3 })) rfl (by kernel_rfl) rfl (one_agg (encItem_one _)) ?_; intro w7 hbR hT; have hB7 := hB6.trans (hT.below (Nat.le_succ _))))
 refine bodyPost_ret (results_cell_box (cs := encItem { x with panes := s1, colours := s2, sights := s3 }) (hbR.eqv (by simp [splice, encItem, zItem, Value.cells])) rfl rfl Tryz.underlying41 rfl (by kernel_rfl)) rfl ⟨_, rfl, by simp [Item.abs, l1, l2, l3], ?_, hB7⟩
 have hx : Ext (Old (w.heap.size + 2)) w6 w7 := ⟨Nat.le_of_eq hT.size.symm, fun k hk hd => hT.block k (fun e => by subst e; exact hd (Nat.lt_succ_self _))⟩
 obtain ⟨i1, i2, i3, i4, i5, i6, i7, i8, i9, _, _, _⟩ := HOK.out
 exact ⟨i1, i2, i3, i4, i5, i6, i7, i8, i9, HO.out.1.move hx (by omega) (fun _ h => h), HO.out.2.1.move hx (by omega) (fun _ h => h), HO.out.2.2.move hx (by omega) (fun _ h => h)⟩
end Go.Proofs.YtnmgfnpphglphaaGreat
end
section
set_option linter.unusedVariables false
set_option linter.unusedSimpArgs false
namespace Go.Proofs.YtnmgfnpphglphaaGreat
open Go.RowKit
theorem flat_get {α : Type} {enc : α → Array Value} {sz : Nat} (hsz : ∀ x, (enc x).size = sz) (h0 : 0 < sz) (l : List α) (q : Nat) : (flat enc l)[q]? = (l[q / sz]?).bind fun x => (enc x)[q % sz]? := by
 cases hx : l[q / sz]? with
 | none =>
  have h1 : l.length ≤ q / sz := List.getElem?_eq_none_iff.1 hx
  have : (flat enc l).length ≤ q := by
   rw [flat_length hsz]
   calc l.length * sz ≤ q / sz * sz := Nat.mul_le_mul_right _ h1
    _ ≤ q := Nat.div_mul_le_self _ _
  simp [List.getElem?_eq_none this]
 | some x =>
  have := flat_at (enc := enc) hsz l (q / sz) x hx (q % sz) (Nat.mod_lt _ h0)
  rw [Nat.mul_comm, Nat.div_add_mod] at this
  simpa using this
theorem flat_set_piece {l : List Piece} {k : Nat} {x y : Piece} {v1 v2 : Value} (hx : l[k]? = some x) (hy : (encPiece y) = ((encPiece x).setIfInBounds 5 v1).setIfInBounds 6 v2) :
  ((flat encPiece l).set (k * 7 + 5) v1).set (k * 7 + 6) v2 = flat encPiece (l.set k y) := by
 have hk : k < l.length := (List.getElem?_eq_some_iff.1 hx).1
 have hsz : ∀ x : Piece, (encPiece x).size = 7 := fun _ => rfl
 have hl : (flat encPiece l).length = l.length * 7 := flat_length hsz l
 apply List.ext_getElem?
 intro q
 rw [flat_get hsz (by decide), List.getElem?_set, List.getElem?_set, List.length_set, hl, flat_get hsz (by decide), List.getElem?_set]
 by_cases h6 : k * 7 + 6 = q
 ·have h1 : q / 7 = k := by omega
  have h2 : q % 7 = 6 := by omega
  rw [if_pos h6, if_pos (by omega), h1, if_pos rfl, if_pos hk, h2, Option.bind_some, hy]
  simp [encPiece]
 ·rw [if_neg h6]
  by_cases h5 : k * 7 + 5 = q
  ·have h1 : q / 7 = k := by omega
   have h2 : q % 7 = 5 := by omega
   rw [if_pos h5, if_pos (by omega), h1, if_pos rfl, if_pos hk, h2, Option.bind_some, hy]
   simp [encPiece]
  ·rw [if_neg h5]
   by_cases h1 : k = q / 7
   ·have h2 : q % 7 < 7 := Nat.mod_lt _ (by decide)
    have h3 : q % 7 ≠ 5 := by omega
    have h4 : q % 7 ≠ 6 := by omega
    rw [if_pos h1, if_pos hk, ← h1, hx, Option.bind_some, Option.bind_some, hy]
    rw [Array.getElem?_setIfInBounds_ne (Ne.symm h4), Array.getElem?_setIfInBounds_ne (Ne.symm h3)]
   ·rw [if_neg h1]
theorem okPiece_gauges {D : Nat → Prop} {w : World} {x : Piece} (h : okPiece D w x) : x.gauges.OK 5 encGauge okGauge D w := h.2.2.2.2.2.1
theorem okPiece_marks {D : Nat → Prop} {w : World} {x : Piece} (h : okPiece D w x) : x.marks.OK 3 encMark okMark D w := h.2.2.2.2.2.2
theorem okPiece_move {m n : Nat} {w w' : World} {x : Piece} (h : okPiece (Old m) w x) (hx : Ext (Old m) w w') (hn : n ≤ m) : okPiece (Old n) w' x := by
 obtain ⟨i1, i2, i3, i4, i5, g, k⟩ := h
 exact ⟨i1, i2, i3, i4, i5, g.move hx hn (fun _ h => h), k.move hx hn (fun _ h => h)⟩
theorem copiedPieces_any (D : Nat → Prop) (s : Sl Piece) (w : World) (hs : s.OK 7 encPiece okPiece D w) :
  Calls Tryz.prog 107 #[.slice s.a s.val.length s.cap] w fun e w' => ∃ s' : Sl Piece, e = .returned s'.v ∧ s'.val.map Piece.abs = s.val.map Piece.abs ∧ Sl.OK 7 encPiece okPiece (Old w.heap.size) w' s' ∧ Below w.heap.size w w' := by
 have HC := Lib.hid (clone_Piece D s w hs)
 have HS := Lib.hid hs
 have hroom := hs.room
 clear hs
 go_enter Tryz.func107, Tryz.ntmps107
 go_wp2_with (go_at_call 147; refine HC.out.mono ?_; rintro e w1 ⟨v, rfl, ho, hn, hb1⟩; obtain ⟨s', rfl, hl, hcap⟩ : ∃ s' : Sl Piece, v = s'.v ∧ s'.val = s.val ∧ s'.val.length ≤ s'.cap := (by obtain ⟨s', h1, h2, h3, _⟩ := ho.sl (fun _ => rfl) (fun _ _ _ => True) (fun _ => False) (fun _ _ => trivial) (fun _ _ h => h) hroom; exact ⟨s', h1, h2, h3.le⟩); have HO := Lib.hid ho; clear ho hn)
 obtain ⟨a', cap', val'⟩ := s'
 simp only at hl hcap
 subst hl
 go_loopw [3, 8] (fun _ i wr => ∃ (k : Nat) (ds : List Piece), k ≤ s.val.length ∧ i = .int .i64 k ∧ ds.length = k ∧ Hid (ds.map Piece.abs = (s.val.take k).map Piece.abs) ∧ Hid (∀ d ∈ ds, okPiece (Old w1.heap.size) wr d) ∧ w1.heap.size ≤ wr.heap.size ∧
  Hid (OwnL encPiece 7 wr w.heap.size 93 (.slice a' s.val.length cap') (ds ++ s.val.drop k)) ∧ Below w.heap.size w wr) (fun _ i _ => s.val.length - (intOf i).toNat)
 case atStart => exact ⟨0, [], Nat.zero_le _, rfl, rfl, Lib.hid (by simp), Lib.hid (by simp), Nat.le_refl _, Lib.hid (by have h := HO.out; simpa [Sl.v] using h), hb1⟩
 case round =>
  obtain ⟨k, ds, hk, rfl, hdl, hda, hdo, hw1, how, hB⟩ := hrel
  by_cases hlt : k < s.val.length
  ·obtain ⟨x, hx⟩ : ∃ x, s.val[k]? = some x := ⟨_, List.getElem?_eq_getElem hlt⟩
   have hdrop : s.val.drop k = x :: s.val.drop (k + 1) := by
    rw [List.drop_eq_getElem_cons hlt]; congr 1; have := List.getElem?_eq_getElem hlt; rw [hx] at this; exact (Option.some.inj this).symm
   have hLk : (ds ++ s.val.drop k)[k]? = some x := by rw [List.getElem?_append_right (by omega), hdl, Nat.sub_self, hdrop]; rfl
   have hLl : (ds ++ s.val.drop k).length = s.val.length := by simp; omega
   rcases how.out.2 with ⟨hv0, h0⟩ | ⟨g, cp, cur, hv, hbg, hg, hnc, hcm, hcs, htk⟩
   ·rw [hLl] at h0; omega
   simp only [Value.slice.injEq] at hv
   obtain ⟨rfl, hv2, rfl⟩ := hv
   clear hv2
   rw [hLl] at hnc htk
   have hBox : BoxAt wr g 93 cur := hg
   have hcur : ∀ j, j < 7 → cur[k * 7 + j]? = (encPiece x)[j]? := fun j hj => by
    have h1 := flat_at (enc := encPiece) (fun _ => rfl) _ k x hLk j hj
    rw [← h1, ← htk, List.getElem?_take_of_lt (by omega)]
    simp
   have hc5 : wr.cell? ⟨g, k * 7 + 5, none⟩ = some (.slice x.gauges.a x.gauges.val.length x.gauges.cap) := by
    have := (hBox.cell (k * 7 + 5)).trans (hcur 5 (by decide)); exact this
   have hc6 : wr.cell? ⟨g, k * 7 + 6, none⟩ = some (.slice x.marks.a x.marks.val.length x.marks.cap) := by
    have := (hBox.cell (k * 7 + 6)).trans (hcur 6 (by decide)); exact this
   have hgl : g < wr.heap.size := hBox.lt
   have hokx := HS.out.elem x (List.mem_of_getElem? hx)
   have H1 : Hid (∀ W, Below w.heap.size w W → _) := Lib.hid fun W hW => clone_Gauge D x.gauges W (okPiece_gauges (okPiece.ext hokx (.of_below hW)))
   have H2 : Hid (∀ W, Below w.heap.size w W → _) := Lib.hid fun W hW => clone_Mark D x.marks W (okPiece_marks (okPiece.ext hokx (.of_below hW)))
   have HCUR := Lib.hid hcur
   have HTK := Lib.hid htk
   have HX := Lib.hid hx
   have HOKX := Lib.hid hokx
   have hbA : BoxAt wr.drew g 93 cur := hBox.drew
   have hB0 : Below w.heap.size w wr.drew := hB.drew
   have hi1 : (k : Int) < (s.val.length : Int) := by omega
   have HLK := Lib.hid hLk
   have HDR := Lib.hid hdrop
   have HN2 : Hid (ds.length = k ∧ cur.size = cap' * 7 ∧ s.val.length ≤ cap' ∧ cap' ≤ maxLen ∧ w.heap.size ≤ g) := Lib.hid ⟨hdl, hcs, hnc, hcm, hbg⟩
   clear hx hdrop hLk hokx hcur htk hg hBox hLl hdl hcs hnc hcm hcap hbg
   go_wp2
   have hS0 : w.heap.size ≤ wr.drew.heap.size := hB.size
   have hgl2 : g < wr.drew.heap.size := hgl
   refine wp_region_mark 18 [(0, none), (1, none), (2, none), (3, none), (4, none), (5, none), (6, none), (7, none), (10, none), (11, none), (12, none), (13, none), (8, some true), (14, some true), (9, some false), (15, some false), (16, none), (17, none), (18, some false), (19, none), (20, none), (21, some false)] rfl (by kernel_rfl) (by kernel_rfl) (fun d _ _ _ _ h => by cases d <;> exact h) ?_
   iterate 12 (refine wpC_pure rfl rfl (fun W => by go_simp; with_reducible rfl) ?_; simp only [pTs, pTn, pTz, pTc])
   refine wpC_fix (v := .slice x.gauges.a x.gauges.val.length x.gauges.cap) rfl rfl (fun W hW => by have e : W.cell? ⟨g, k * 7 + 5, none⟩ = _ := (hW.cell (p := ⟨g, k * 7 + 5, none⟩) hgl).trans hc5; go_simp) ?_; simp only [pTs, pTn, pTz, pTc]
   refine wpC_fix (v := .slice x.marks.a x.marks.val.length x.marks.cap) rfl rfl (fun W hW => by have e : W.cell? ⟨g, k * 7 + 6, none⟩ = _ := (hW.cell (p := ⟨g, k * 7 + 6, none⟩) hgl).trans hc6; go_simp) ?_; simp only [pTs, pTn, pTz, pTc]
   refine wpC_act rfl rfl rfl (fun K hK => ?_)
   go_simp
   refine (H1.out _ hB0).mono ?_
   rintro e w11 ⟨v1, rfl, ho1, hn1, hb1⟩
   have hB1 := Below.call hB0 hb1 (Nat.le_refl _)
   have hbA := hbA.belowAll hb1
   have hS1 := hb1.size
   have hb1' := hb1
   refine hK _ _ hb1 ?_
   clear hK K
   try simp only [pTs, pTn, pTz, pTc]
   refine wpC_act rfl rfl rfl (fun K hK => ?_)
   go_simp
   refine (H2.out _ hB1).mono ?_
   rintro e w12 ⟨v2, rfl, ho2, hn2, hb2⟩
   have hB2 := Below.call hB1 hb2 (Nat.le_refl _)
   have hbA := hbA.belowAll hb2
   have hS2 := hb2.size
   have ho1 := ho1.belowAll hb2
   have h1v1 := ho1.one
   have h1v2 := ho2.one
   refine hK _ _ hb2 ?_
   clear hK K
   try simp only [pTs, pTn, pTz, pTc]
   iterate 2 (refine wpC_pure rfl rfl (fun W => by go_simp; with_reducible rfl) ?_; simp only [pTs, pTn, pTz, pTc])
   refine wpC_mark rfl rfl (fun K hK => ?_)
   refine wp_store_box (off := k * 7 + 5) hbA _ _ _ rfl rfl v1 rfl (by rw [one_cells h1v1]; kernel_rfl) (by rw [one_cells h1v1]; (try simp only [splice_size]); exact Nat.ble_eq_true_of_le (by have h1 := HN2.out; simp; omega)) (one_all h1v1) ?_
   intro w3 hbA hT
   have hB3 := hB2.trans (hT.below HN2.out.2.2.2.2)
   have hT3 := hT
   have ho1 := ho1.turn hT (own_ne ho1 (by omega))
   have ho2 := ho2.turn hT (own_ne ho2 (by omega))
   refine hK _ _ ?_
   clear hK K
   try simp only [pTs, pTn, pTz, pTc]
   iterate 2 (refine wpC_pure rfl rfl (fun W => by go_simp; with_reducible rfl) ?_; simp only [pTs, pTn, pTz, pTc])
   refine wpC_past rfl rfl (fun K hK => ?_)
   refine wp_store_box (off := k * 7 + 6) hbA _ _ _ rfl rfl v2 rfl (by rw [one_cells h1v2]; kernel_rfl) (by rw [one_cells h1v2]; (try simp only [splice_size]); exact Nat.ble_eq_true_of_le (by have h1 := HN2.out; simp; omega)) (one_all h1v2) ?_
   intro w4 hbA hT
   have hB4 := hB3.trans (hT.below HN2.out.2.2.2.2)
   have hT4 := hT
   have ho1 := ho1.turn hT (own_ne ho1 (by omega))
   have ho2 := ho2.turn hT (own_ne ho2 (by omega))
   refine hK _ _ ?_
   clear hK K
   try simp only [pTs, pTn, pTz, pTc]
   simp only [wpC]
   go_wp2
   go_roundw
   case rel =>
    obtain ⟨hdl, hcs, hnc, hcm, hbg⟩ := HN2.out
    obtain ⟨s1, e1, l1, o1⟩ := ho1.slOld (n := w1.heap.size) (fun _ => rfl) okGauge hw1 (fun z hz => (okPiece_gauges HOKX.out).elem z hz) (okPiece_gauges HOKX.out).room
    obtain ⟨s2, e2, l2, o2⟩ := ho2.slOld (n := w1.heap.size) (fun _ => rfl) okMark (Nat.le_trans hw1 hS1) (fun z hz => (okPiece_marks HOKX.out).elem z hz) (okPiece_marks HOKX.out).room
    obtain ⟨j1, j2, j3, j4, j5, _, _⟩ := HOKX.out
    have hyok : okPiece (Old w1.heap.size) w4 { x with gauges := s1, marks := s2 } := ⟨j1, j2, j3, j4, j5, o1, o2⟩
    have hg1 : g < w1.heap.size := (HO.out.block g rfl).2
    have hS4 : wr.heap.size ≤ w4.heap.size := by rw [hT4.size, hT3.size]; exact Nat.le_trans hS1 hS2
    have hEX : Ext (Old w1.heap.size) wr w4 := ⟨hS4, fun q hq hd => by
     have hne : q ≠ g := fun e => hd (e ▸ hg1)
     have h1 : q < w11.heap.size := Nat.lt_of_lt_of_le hq hS1
     rw [hT4.block q hne, hT3.block q hne, hb2.block q h1, hb1'.block q hq]; rfl⟩
    refine ⟨k + 1, ds ++ [{ x with gauges := s1, marks := s2 }], by omega, by go_num, by simp [hdl], Lib.hid ?_, Lib.hid ?_, Nat.le_trans hw1 hS4, Lib.hid ?_, hB4⟩
    ·rw [List.take_add_one, HX.out, List.map_append, List.map_append, hda.out]
     simp [Piece.abs, l1, l2]
    ·intro d hd
     rcases List.mem_append.1 hd with hd | hd
     ·exact okPiece_move (hdo.out d hd) hEX (Nat.le_refl _)
     ·simp at hd; subst hd; exact hyok
    ·have hset : ((ds ++ s.val.drop k).set k { x with gauges := s1, marks := s2 }) = ds ++ [{ x with gauges := s1, marks := s2 }] ++ s.val.drop (k + 1) := by
      rw [List.set_append_right _ _ (by omega), hdl, Nat.sub_self, HDR.out]; simp
     have hl2 : (ds ++ [{ x with gauges := s1, marks := s2 }] ++ s.val.drop (k + 1)).length = s.val.length := by simp; omega
     refine ⟨flat_length (enc := encPiece) (sz := 7) (fun _ => rfl) _, .inr ⟨g, cap', _, by rw [hl2], hbg, hbA, by rw [hl2]; exact hnc, hcm, by rw [splice_size, splice_size]; exact hcs, ?_⟩⟩
     rw [hl2, ← hset, ← flat_set_piece (v1 := v1) (v2 := v2) HLK.out (by rw [e1, e2]; simp [encPiece]), ← HTK.out, one_cells h1v1, one_cells h1v2]
     simp [splice, List.take_set]
   case measure => simp [intOf]; omega
  ·have hk' : k = s.val.length := by omega
   have HFIN : Hid (∃ s' : Sl Piece, (.slice a' s.val.length cap' : Value) = s'.v ∧ s'.val.map Piece.abs = s.val.map Piece.abs ∧ Sl.OK 7 encPiece okPiece (Old w.heap.size) wr s') := Lib.hid (by
    have h1 := how.out
    rw [hk', List.drop_length, List.append_nil] at h1
    obtain ⟨s', e, l, o⟩ := h1.slOld (n := w.heap.size) (fun _ => rfl) okPiece (Nat.le_refl _) (fun d hd => okPiece_move (hdo.out d hd) ⟨Nat.le_refl _, fun _ _ _ => rfl⟩ hb1.size) (by rw [hdl, hk']; exact hroom)
    have h2 := hda.out
    rw [hk', List.take_length] at h2
    exact ⟨s', e, by rw [l, h2], o⟩)
   go_wp2
   go_ret
   obtain ⟨s', e, l, o⟩ := HFIN.out
   exact ⟨s', by simp [e], l, o, hB⟩
end Go.Proofs.YtnmgfnpphglphaaGreat
end
section
set_option linter.unusedVariables false
set_option linter.unusedSimpArgs false
namespace Go.Proofs.YtnmgfnpphglphaaGreat
open Go.RowKit
theorem Ext.of_turn {N b : Nat} {w w' : World} (h : Turn b w w') (hb : b < N) : Ext (Old N) w w' := ⟨Nat.le_of_eq h.size.symm, fun k _ hd => h.block k (fun e => hd (e ▸ hb))⟩
theorem okItem_move {m n : Nat} {w w' : World} {x : Item} (h : okItem (Old m) w x) (hx : Ext (Old m) w w') (hn : n ≤ m) : okItem (Old n) w' x := by
 obtain ⟨i1, i2, i3, i4, i5, i6, i7, i8, i9, g, k, l⟩ := h
 exact ⟨i1, i2, i3, i4, i5, i6, i7, i8, i9, g.move hx hn (fun _ h => h), k.move hx hn (fun _ h => h), l.move hx hn (fun _ h => h)⟩
theorem moveI {m : Nat} {w w' : World} {s : Sl Int} (h : Sl.OK 1 encInt okInt (Old m) w s) (hx : Ext (Old m) w w') : Sl.OK 1 encInt okInt (Old m) w' s := h.move hx (Nat.le_refl _) (fun _ h => h)
theorem moveP {m : Nat} {w w' : World} {s : Sl Piece} (h : Sl.OK 7 encPiece okPiece (Old m) w s) (hx : Ext (Old m) w w') : Sl.OK 7 encPiece okPiece (Old m) w' s := h.move hx (Nat.le_refl _) (fun _ h => okPiece_move h hx (Nat.le_refl _))
theorem encNote_set14 (x : Note) (v1 v2 : Value) (s1 s2 : Sl Int) (e1 : v1 = s1.v) (e2 : v2 = s2.v) : ((encNote x).setIfInBounds 14 v1).setIfInBounds 15 v2 = encNote { x with pieces := s1, panes := s2 } := by
 subst e1; subst e2; simp [encNote]
theorem copied_any (D : Nat → Prop) (x : Note) (w : World) (hok : okNote D w x) :
  Calls Tryz.prog 57 #[.agg (encNote x)] w fun e w' => ∃ y : Note, e = .returned (.agg (encNote y)) ∧ y.abs = x.abs ∧ okNote (Old w.heap.size) w' y ∧ Below w.heap.size w w' := by
 have hbA : BoxAt ((w.alloc (.cells (encNote x) 43)).alloc (.cells (encNote zNote) 43)).drew w.heap.size 43 (encNote x) := ((BoxAt.new _ _ _).alloc _).drew
 have hbR : BoxAt ((w.alloc (.cells (encNote x) 43)).alloc (.cells (encNote zNote) 43)).drew (w.heap.size + 1) 43 (encNote zNote) := by have := BoxAt.new (w.alloc (.cells (encNote x) 43)) 43 (encNote zNote); rw [World.size_alloc] at this; exact this.drew
 have hB0 : Below w.heap.size w ((w.alloc (.cells (encNote x) 43)).alloc (.cells (encNote zNote) 43)).drew := (((Below.refl _ _).alloc (Nat.le_refl _) _).alloc (by simp) _).drew
 have hS0 : w.heap.size + 2 ≤ ((w.alloc (.cells (encNote x) 43)).alloc (.cells (encNote zNote) 43)).drew.heap.size := by simp
 have HOK := Lib.hid hok
 have H1 : Hid (∀ W, Below w.heap.size w W → _) := Lib.hid fun W hW => clone_Int D x.pieces W (okNote_pieces (okNote.ext hok (.of_below hW)))
 have H2 : Hid (∀ W, Below w.heap.size w W → _) := Lib.hid fun W hW => clone_Int D x.panes W (okNote_panes (okNote.ext hok (.of_below hW)))
 have H3 : Hid (∀ W, Below w.heap.size w W → _) := Lib.hid fun W hW => copiedPieces_any D x.data W (okNote_data (okNote.ext hok (.of_below hW)))
 have H4 : Hid (∀ W, Below w.heap.size w W → _) := Lib.hid fun W hW => copiedItem_any D x.item W (okNote_item (okNote.ext hok (.of_below hW)))
 clear hok
 go_enter Tryz.func57, Tryz.ntmps57
 go_wp2
 refine wp_region_mark 7 [(0, none), (3, none), (1, some true), (4, some true), (2, some false), (6, none), (5, some false), (7, some false), (8, none), (9, some false)] rfl (by kernel_rfl) (by kernel_rfl) (fun d _ _ _ _ h => by cases d <;> exact h) ?_
 iterate 2 (refine wpC_pure rfl rfl (fun W => by go_simp; with_reducible rfl) ?_; simp only [pTs, pTn, pTz, pTc])
 iterate 2 (refine wpC_fix (v := ?_) rfl rfl ?_ ?_; rotate_left; (focus (intro W hW; have hWc := fun b o => hW.cell (p := ⟨b, o, none⟩); go_simp; try with_reducible rfl)); simp only [pTs, pTn, pTz, pTc])
 refine wpC_act rfl rfl rfl (fun K hK => ?_)
 go_simp
 refine (H1.out _ hB0).mono ?_
 rintro e w1 ⟨v1, rfl, ho1, hn1, hb1⟩
 have hB1 := Below.call hB0 hb1 (Nat.le_refl _)
 have hbA := hbA.belowAll hb1
 have hbR := hbR.belowAll hb1
 have hS1 := Nat.le_trans hS0 hb1.size
 refine hK _ _ hb1 ?_
 clear hK K
 try simp only [pTs, pTn, pTz, pTc]
 refine wpC_pure rfl rfl (fun W => by go_simp; with_reducible rfl) ?_; simp only [pTs, pTn, pTz, pTc]
 refine wpC_act rfl rfl rfl (fun K hK => ?_)
 go_simp
 refine (H2.out _ hB1).mono ?_
 rintro e w2 ⟨v2, rfl, ho2, hn2, hb2⟩
 have hB2 := Below.call hB1 hb2 (Nat.le_refl _)
 have hbA := hbA.belowAll hb2
 have hbR := hbR.belowAll hb2
 have hS2 := Nat.le_trans hS1 hb2.size
 have ho1 := ho1.belowAll hb2
 have h1v1 := ho1.one
 have h1v2 := ho2.one
 refine hK _ _ hb2 ?_
 clear hK K
 try simp only [pTs, pTn, pTz, pTc]
 refine wpC_mark rfl rfl (fun K hK => ?_)
 refine wp_store_box hbA _ _ _ rfl rfl v1 rfl (by rw [one_cells h1v1]; kernel_rfl) (by rw [one_cells h1v1]; (try simp only [splice_size]); rfl) (one_all h1v1) ?_
 intro w3 hbA hT
 have hB3 := hB2.trans (hT.below (Nat.le_refl _))
 have hS3 : w.heap.size + 2 ≤ w3.heap.size := by rw [hT.size]; exact hS2
 have hbR := hbR.turn hT (Nat.succ_ne_self _)
 have ho1 := ho1.turn hT (own_ne ho1 (by omega))
 have ho2 := ho2.turn hT (own_ne ho2 (by omega))
 clear hT
 refine hK _ _ ?_
 clear hK K
 try simp only [pTs, pTn, pTz, pTc]
 refine wpC_pure rfl rfl (fun W => by go_simp; with_reducible rfl) ?_; simp only [pTs, pTn, pTz, pTc]
 refine wpC_past rfl rfl (fun K hK => ?_)
 refine wp_store_box hbA _ _ _ rfl rfl v2 rfl (by rw [one_cells h1v2]; kernel_rfl) (by rw [one_cells h1v2]; (try simp only [splice_size]); rfl) (one_all h1v2) ?_
 intro w4 hbA hT
 have hB4 := hB3.trans (hT.below (Nat.le_refl _))
 have hS4 : w.heap.size + 2 ≤ w4.heap.size := by rw [hT.size]; exact hS3
 have hbR := hbR.turn hT (Nat.succ_ne_self _)
 have ho1 := ho1.turn hT (own_ne ho1 (by omega))
 have ho2 := ho2.turn hT (own_ne ho2 (by omega))
 clear hT
 refine hK _ _ ?_
 clear hK K
 try simp only [pTs, pTn, pTz, pTc]
 simp only [wpC]
 obtain ⟨s1, e1, l1, o1⟩ := ho1.slOld (n := w.heap.size + 2) (fun _ => rfl) okInt (by omega) (fun z hz => (okNote_pieces HOK.out).elem z hz) (okNote_pieces HOK.out).room
 obtain ⟨s2, e2, l2, o2⟩ := ho2.slOld (n := w.heap.size + 2) (fun _ => rfl) okInt (by omega) (fun z hz => (okNote_panes HOK.out).elem z hz) (okNote_panes HOK.out).room
 have hbX := hbA.eqv (cs' := encNote { x with pieces := s1, panes := s2 }) (by rw [one_cells h1v1, one_cells h1v2]; exact encNote_set14 x _ _ _ _ e1 e2)
 clear ho1 ho2 hn1 hn2 h1v1 h1v2 hb1 hb2
 subst e1; subst e2
 have hd16 : w4.cell? ⟨w.heap.size, 16, none⟩ = some (.slice x.data.a x.data.val.length x.data.cap) := (hbX.cell 16).trans (encNote_16 _)
 go_wp2_with (first
  | (go_at_call 107; refine (H3.out _ hB4).mono ?_; rintro e w5 ⟨s3, rfl, l3, o3, hb5⟩; have hx := Ext.of_below (D := Old (w.heap.size + 2)) hb5; have o3 := o3.move (w' := w5) (n := w.heap.size + 2) ⟨Nat.le_refl _, fun _ _ _ => rfl⟩ hS4 (fun _ h => okPiece_move h ⟨Nat.le_refl _, fun _ _ _ => rfl⟩ hS4); have o1 := moveI o1 hx; have o2 := moveI o2 hx; have hB5 := Below.call hB4 hb5 (Nat.le_refl _); have hbX := hbX.belowAll hb5; have hbR := hbR.belowAll hb5; have hS5 := Nat.le_trans hS4 hb5.size; clear hb5 hx)
  | (with_reducible refine at_storeT 36 ?_; refine wpList_store_box hbX rfl _ _ _ rfl rfl (.slice s3.a s3.val.length s3.cap) rfl (by kernel_rfl) rfl (one_slice _ _ _) ?_; intro w6 hbX hT; have hx := Ext.of_turn (N := w.heap.size + 2) hT (by omega); replace hbX := hbX.eqv (cs' := encNote { x with pieces := s1, panes := s2, data := s3 }) (by simp [splice, encNote, Value.cells, Sl.v]); have o1 := moveI o1 hx; have o2 := moveI o2 hx; have o3 := moveP o3 hx; have hB6 := hB5.trans (hT.below (Nat.le_refl _)); have hbR := hbR.turn hT (Nat.succ_ne_self _); have hS6 : w.heap.size + 2 ≤ w6.heap.size := (by rw [hT.size]; exact hS5); clear hT hx)
  | (with_reducible refine at_dst 16 ?_; refine wpList_loadB hbX rfl 41 _ rfl rfl (encItem x.item) (encNote_item { x with pieces := s1, panes := s2, data := s3 }) Tryz.underlying41 rfl (by kernel_rfl) ?_)
  | (go_at_call 108; refine (H4.out _ hB6).mono ?_; rintro e w7 ⟨y4, rfl, l4, o4, hb7⟩; have hx := Ext.of_below (D := Old (w.heap.size + 2)) hb7; have o4 := okItem_move (w' := w7) (n := w.heap.size + 2) o4 ⟨Nat.le_refl _, fun _ _ _ => rfl⟩ hS6; have o1 := moveI o1 hx; have o2 := moveI o2 hx; have o3 := moveP o3 hx; have hB7 := Below.call hB6 hb7 (Nat.le_refl _); have hbX := hbX.belowAll hb7; have hbR := hbR.belowAll hb7; have hS7 := Nat.le_trans hS6 hb7.size; clear hb7 hx)
  | (with_reducible refine at_storeT 41 ?_; refine wpList_store_box hbX rfl _ _ _ rfl rfl (.agg (encItem y4)) rfl (by kernel_rfl) rfl (one_agg (encItem_one _)) ?_; intro w8 hbX hT; have hx := Ext.of_turn (N := w.heap.size + 2) hT (by omega); replace hbX := hbX.eqv (cs' := encNote { x with pieces := s1, panes := s2, data := s3, item := y4 }) (by simp [splice, encNote, encItem, Value.cells]); have o4 := okItem_move o4 hx (Nat.le_refl _); have o1 := moveI o1 hx; have o2 := moveI o2 hx; have o3 := moveP o3 hx; have hB8 := hB7.trans (hT.below (Nat.le_refl _)); have hbR := hbR.turn hT (Nat.succ_ne_self _); clear hT hx)
  | (with_reducible refine at_dst 19 ?_; refine wpList_loadB hbX rfl 43 _ rfl rfl (encNote { x with pieces := s1, panes := s2, data := s3, item := y4 }) (whole_cells _) Tryz.underlying43 rfl (by kernel_rfl) ?_)
  | (with_reducible refine at_storeT 43 ?_; refine wpList_store_box hbR rfl _ _ _ rfl rfl (.agg (encNote { x with pieces := s1, panes := s2, data := s3, item := y4 })) rfl (by kernel_rfl) rfl (one_agg (encNote_one _)) ?_; intro w9 hbR hT; have hx := Ext.of_turn (N := w.heap.size + 2) hT (by omega); have o4 := okItem_move o4 hx (Nat.le_refl _); have o1 := moveI o1 hx; have o2 := moveI o2 hx; have o3 := moveP o3 hx; have hB9 := hB8.trans (hT.below (Nat.le_succ _)); clear hT hx))
 refine bodyPost_ret (results_cell_box (cs := encNote { x with pieces := s1, panes := s2, data := s3, item := y4 }) (hbR.eqv (by simp [splice, encNote, zNote, zItem, Value.cells])) rfl rfl Tryz.underlying43 rfl (by kernel_rfl)) rfl ⟨_, rfl, by simp [Note.abs, l1, l2, l3, l4], ?_, hB9⟩
 have hx0 : Ext (Old (w.heap.size + 2)) w9 w9 := ⟨Nat.le_refl _, fun _ _ _ => rfl⟩
 have o1' := o1.move (n := w.heap.size) hx0 (by omega) (fun _ h => h)
 have o2' := o2.move (n := w.heap.size) hx0 (by omega) (fun _ h => h)
 have o3' := o3.move (n := w.heap.size) hx0 (by omega) (fun _ h => okPiece_move h hx0 (by omega))
 have o4' := okItem_move (n := w.heap.size) o4 hx0 (by omega)
 have h0 := HOK.out
 simp only [okNote] at h0 ⊢
 simp only [okItem] at o4'
 simp only [h0, o1', o2', o3', o4', and_self]
end Go.Proofs.YtnmgfnpphglphaaGreat
end
