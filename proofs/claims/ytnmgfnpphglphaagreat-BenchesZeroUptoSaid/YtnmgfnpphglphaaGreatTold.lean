/-
  told: the register out of the ledger.
-/
import Derived.Test.YtnmgfnpphglphaaGreatVals
import Derived.Test.YtnmgfnpphglphaaGreatOrd
set_option maxHeartbeats 16000000
set_option maxRecDepth 100000
set_option linter.unusedVariables false
set_option linter.unusedSimpArgs false
namespace Go.Proofs.YtnmgfnpphglphaaGreat
open Go.RowKit
theorem OwnL.base_up {α : Type} {enc : α → Array Value} {sz base n : Nat} {w : World} {e : TypeId} {v : Value} {l : List α} (h : OwnL enc sz w base e v l) (hn : n ≤ base) : OwnL enc sz w n e v l := h.base_le hn
def KeysCall (g : FuncId) (T : TypeId) (b c n : Nat) (ks : List Int) (W : World) : Prop :=
 Calls Tryz.prog 164 #[.func (.func g) #[] #[.pointer (some ⟨n, 0, none⟩)]] (W.alloc (.cells #[.map (some b)] T)) fun e w' => ∃ a cp, e = .returned (.slice a ks.length cp) ∧ OwnL encInt 1 w' (c + 2) 3 (.slice a ks.length cp) ks ∧
  (∀ q, (Value.slice a ks.length cp).ownBlock = some q → W.heap.size < q) ∧ Below W.heap.size W w'
theorem keysCall_Piece {ν : Type} {V : ν → Value} {W : World} {b c n : Nat} {m : List (Int × ν)} (h : MapAt vi V I64 W b m) (hl : m.length ≤ 1000000) (hc : c + 2 ≤ W.heap.size) (hn : n = W.heap.size) : KeysCall 194 183 b c n (keysUp m) W := by
 subst hn
 refine (sorted_Piece (w := W.alloc (.cells #[.map (some b)] 183)) (h.alloc _) ((BoxAt.new W _ _).cell 0) (by simp) hl).mono ?_
 rintro e w' ⟨v, rfl, ho, hb⟩
 obtain ⟨a, cp, rfl⟩ := ho.shape
 exact ⟨a, cp, rfl, ho.base_up (by simp; omega), fun q hq => by have := (ho.block q hq).1; simp at this; omega, ((Below.refl _ _).alloc (Nat.le_refl _) _).trans (hb.mono (by simp))⟩
theorem keysCall_Int {ν : Type} {V : ν → Value} {W : World} {b c n : Nat} {m : List (Int × ν)} (h : MapAt vi V I64 W b m) (hl : m.length ≤ 1000000) (hc : c + 2 ≤ W.heap.size) (hn : n = W.heap.size) : KeysCall 195 185 b c n (keysUp m) W := by
 subst hn
 refine (sorted_Int (w := W.alloc (.cells #[.map (some b)] 185)) (h.alloc _) ((BoxAt.new W _ _).cell 0) (by simp) hl).mono ?_
 rintro e w' ⟨v, rfl, ho, hb⟩
 obtain ⟨a, cp, rfl⟩ := ho.shape
 exact ⟨a, cp, rfl, ho.base_up (by simp; omega), fun q hq => by have := (ho.block q hq).1; simp at this; omega, ((Below.refl _ _).alloc (Nat.le_refl _) _).trans (hb.mono (by simp))⟩
theorem keysCall_Item {ν : Type} {V : ν → Value} {W : World} {b c n : Nat} {m : List (Int × ν)} (h : MapAt vi V I64 W b m) (hl : m.length ≤ 1000000) (hc : c + 2 ≤ W.heap.size) (hn : n = W.heap.size) : KeysCall 196 186 b c n (keysUp m) W := by
 subst hn
 refine (sorted_Item (w := W.alloc (.cells #[.map (some b)] 186)) (h.alloc _) ((BoxAt.new W _ _).cell 0) (by simp) hl).mono ?_
 rintro e w' ⟨v, rfl, ho, hb⟩
 obtain ⟨a, cp, rfl⟩ := ho.shape
 exact ⟨a, cp, rfl, ho.base_up (by simp; omega), fun q hq => by have := (ho.block q hq).1; simp at this; omega, ((Below.refl _ _).alloc (Nat.le_refl _) _).trans (hb.mono (by simp))⟩
def pieceAt (L : Led) (k : Int) : Piece := (aget L.pieces k).getD zPiece
def whereAt (L : Led) (k : Int) : Where := (aget L.wher k).getD zWhere
def itemAt (L : Led) (k : Int) : Item := (aget L.items k).getD zItem
def heldAt (L : Led) (k : Int) : Held := ⟨k, 0, (aget L.glass k).getD 0, ⟨0, false⟩⟩
theorem zeroItem (w : World) : (zeroValue 41).run Tryz.prog w = .ok (vItem zItem) w := by kernel_rfl
theorem okPiece_zero (D : Nat → Prop) (w : World) : okPiece D w zPiece := ⟨I64_zero, I64_zero, I64_zero, I64_zero, I64_zero, Sl.OK.nil _ _ _ _ _, Sl.OK.nil _ _ _ _ _⟩
theorem pieceAt_ok {b N : Nat} {w : World} {L : Led} (h : LedAt b N w L) (k : Int) : okPiece (fun _ => False) w (pieceAt L k) := by
 unfold pieceAt
 cases hk : aget L.pieces k with
 | none => exact okPiece_zero _ _
 | some p => exact (h.okP _ (mem_of_aget hk)).mono (fun _ h => h.elim)
theorem itemAt_ok {b N : Nat} {w : World} {L : Led} (h : LedAt b N w L) (k : Int) : okItem (fun _ => False) w (itemAt L k) := by
 unfold itemAt
 cases hk : aget L.items k with
 | none => exact okItem_zero _ _
 | some p => exact (h.okI _ (mem_of_aget hk)).mono (fun _ h => h.elim)
theorem whereAt_ok {b N : Nat} {w W : World} {L : Led} (h : LedAt b N w L) (D : Nat → Prop) (k : Int) : okWhere D W (whereAt L k) := by
 unfold whereAt
 cases hk : aget L.wher k with
 | none => exact ⟨I64_zero, I64_zero, I64_zero, I64_zero, I64_zero, I64_zero⟩
 | some p => exact h.okW _ (mem_of_aget hk)
theorem glassAt_ok {b N : Nat} {w : World} {L : Led} (h : LedAt b N w L) (k : Int) : I64 ((aget L.glass k).getD 0) := by
 cases hk : aget L.glass k with
 | none => exact I64_zero
 | some p => exact h.okG _ (mem_of_aget hk)
theorem keysUp_ok {ν : Type} {V : ν → Value} {w : World} {b : Nat} {m : List (Int × ν)} (h : MapAt vi V I64 w b m) : ∀ k ∈ keysUp m, I64 k := by
 intro k hk
 obtain ⟨p, hp, rfl⟩ := List.mem_map.1 ((sortBy_perm _ _).mem_iff.1 hk)
 exact h.good p hp
theorem keysUp_len {ν : Type} (m : List (Int × ν)) : (keysUp m).length = m.length := by
 rw [show (keysUp m).length = (m.map Prod.fst).length from (sortBy_perm _ _).length_eq]; simp
theorem OwnL.okOld {α : Type} {enc : α → Array Value} {sz base n c : Nat} {w : World} {e : TypeId} {a : Option Addr} {l : List α} (h : OwnL enc sz w base e (.slice a l.length c) l) (hsz : ∀ x, (enc x).size = sz) (ok : (Nat → Prop) → World → α → Prop) (hn : n ≤ base)
  (hok : ∀ x ∈ l, ok (Old n) w x) (hl : l.length ≤ 4294967296) : Sl.OK sz enc ok (Old n) w ⟨a, c, l⟩ := by
 obtain ⟨s, e1, e2, e3⟩ := h.slOld hsz ok hn hok hl
 obtain ⟨sa, sc, sv⟩ := s
 simp only [Sl.v, Value.slice.injEq] at e1 e2
 obtain ⟨h1, _, h3⟩ := e1
 subst h1 h3 e2; exact e3
theorem keysUp_mapV {α β : Type} (f : α → β) (m : List (Int × α)) : keysUp (mapV f m) = keysUp m := by
 unfold keysUp mapV; rw [List.map_map]; rfl
theorem told_abs (L : Led) (R : Register) (h0 : R.pieces.val.map Piece.abs = (keysUp L.pieces).map (fun k => (pieceAt L k).abs)) (h1 : R.wher.val = (keysUp L.pieces).map (whereAt L)) (h2 : R.new_.val = (keysUp L.glass).map (heldAt L))
  (h3 : R.items.val.map Item.abs = (keysUp L.items).map (fun k => (itemAt L k).abs)) (h4 : R.releads.val.map Relead.abs = L.releads.map Relead.abs) (h5 : R.conflicts.val = sortBy ltRef L.conflicts) : R.abs = toldA L.abs := by
 unfold Register.abs toldA
 simp only [h0, h1, h2, h3, h4, h5, Led.abs, keysUp_mapV, aget_mapV]
 have e1 : ∀ k, (pieceAt L k).abs = (Option.map Piece.abs (aget L.pieces k)).getD zPiece.abs := fun k => by unfold pieceAt; cases aget L.pieces k <;> rfl
 have e2 : ∀ k, (itemAt L k).abs = (Option.map Item.abs (aget L.items k)).getD zItem.abs := fun k => by unfold itemAt; cases aget L.items k <;> rfl
 simp only [e1, e2]
 rfl
theorem told_any (b N : Nat) (L : Led) (w : World) (h : LedAt b N w L) (l1 : L.pieces.length ≤ 1000000) (l2 : L.glass.length ≤ 1000000) (l3 : L.items.length ≤ 1000000) (l4 : L.releads.length ≤ 1000000) (l5 : L.conflicts.length ≤ 1000000) :
  Calls Tryz.prog 114 #[.pointer (some ⟨b + 6, 0, none⟩)] w fun e w' => ∃ R : Register, e = .returned (.agg (encRegister R)) ∧ R.abs = toldA L.abs ∧ okRegister (Old w.heap.size) w' R ∧ Below w.heap.size w w' := by
 have hlt7 := h.lt7
 have hKL1 : (keysUp L.pieces).length ≤ 1000000 := by rw [keysUp_len]; exact l1
 have hKL2 : (keysUp L.glass).length ≤ 1000000 := by rw [keysUp_len]; exact l2
 have hKL3 : (keysUp L.items).length ≤ 1000000 := by rw [keysUp_len]; exact l3
 have hB2 : Below w.heap.size w ((w.alloc (.cells #[.slice none 0 0, .slice none 0 0, .slice none 0 0, .slice none 0 0, .slice none 0 0, .slice none 0 0] 100)).alloc (.cells #[.slice none 0 0, .slice none 0 0, .slice none 0 0, .slice none 0 0, .slice none 0 0, .slice none 0 0] 100)) := ((Below.refl _ _).alloc (Nat.le_refl _) _).alloc (by simp) _
 have hR0 : RegSt w.heap.size ((w.alloc (.cells #[.slice none 0 0, .slice none 0 0, .slice none 0 0, .slice none 0 0, .slice none 0 0, .slice none 0 0] 100)).alloc (.cells #[.slice none 0 0, .slice none 0 0, .slice none 0 0, .slice none 0 0, .slice none 0 0, .slice none 0 0] 100)) (.slice none 0 0) (.slice none 0 0) (.slice none 0 0) (.slice none 0 0) (.slice none 0 0) [] [] [] [] [] :=
  ⟨(BoxAt.new _ _ _).alloc _, BoxAt.newN _ _ _ (by simp), OwnL.nil _ _ _ _ _, OwnL.nil _ _ _ _ _, OwnL.nil _ _ _ _ _, OwnL.nil _ _ _ _ _, OwnL.nil _ _ _ _ _,
   fun i j x y _ hx _ g hg => by (have hm := List.mem_of_getElem? hx; simp at hm; subst hm; simp [Value.ownBlock] at hg), by simp, by simp, by simp, by simp, by simp⟩
 have HR0 := Lib.hid hR0
 have H := Lib.hid h
 have HCP : Hid (∀ W, Below w.heap.size w W → W.cell? ⟨b + 6, 0, none⟩ = some (.map (some b))) := Lib.hid fun W hW => (hW.cell (p := ⟨b + 6, 0, none⟩) (by show b + 6 < w.heap.size; omega)).trans H.out.cP
 have HCW : Hid (∀ W, Below w.heap.size w W → W.cell? ⟨b + 6, 1, none⟩ = some (.map (some (b + 1)))) := Lib.hid fun W hW => (hW.cell (p := ⟨b + 6, 1, none⟩) (by show b + 6 < w.heap.size; omega)).trans H.out.cW
 have HCG : Hid (∀ W, Below w.heap.size w W → W.cell? ⟨b + 6, 2, none⟩ = some (.map (some (b + 2)))) := Lib.hid fun W hW => (hW.cell (p := ⟨b + 6, 2, none⟩) (by show b + 6 < w.heap.size; omega)).trans H.out.cG
 have HCI : Hid (∀ W, Below w.heap.size w W → W.cell? ⟨b + 6, 3, none⟩ = some (.map (some (b + 3)))) := Lib.hid fun W hW => (hW.cell (p := ⟨b + 6, 3, none⟩) (by show b + 6 < w.heap.size; omega)).trans H.out.cI
 obtain ⟨vr, vc, hb6, hor, hoc, _⟩ := H.out.box
 obtain ⟨ar, cr, rfl⟩ := hor.shape
 obtain ⟨ac, cc, rfl⟩ := hoc.shape
 have HRL : Hid (Sl.OK 2 encRelead okRelead (fun _ => False) w ⟨ar, cr, L.releads⟩) := Lib.hid (by
  obtain ⟨s, e1, e2, e3, _⟩ := hor.sl (fun _ => rfl) okRelead (fun _ => False) (fun x hx => (H.out.okR x hx).mono (fun _ h => h.elim)) (fun _ _ h => h) (by omega)
  obtain ⟨sa, sc, sv⟩ := s
  simp only [Sl.v, Value.slice.injEq] at e1 e2
  obtain ⟨h1, _, h3⟩ := e1
  subst h1 h3 e2; exact e3)
 have HCL : Hid (Sl.OK 2 encRef okRef (fun _ => False) w ⟨ac, cc, L.conflicts⟩) := Lib.hid (by
  obtain ⟨s, e1, e2, e3, _⟩ := hoc.sl (fun _ => rfl) okRef (fun _ => False) (fun x hx => H.out.okC x hx) (fun _ _ h => h) (by omega)
  obtain ⟨sa, sc, sv⟩ := s
  simp only [Sl.v, Value.slice.injEq] at e1 e2
  obtain ⟨h1, _, h3⟩ := e1
  subst h1 h3 e2; exact e3)
 have HCR : Hid (∀ W, Below w.heap.size w W → W.cell? ⟨b + 6, 4, none⟩ = some (.slice ar L.releads.length cr)) := Lib.hid fun W hW => (hW.cell (p := ⟨b + 6, 4, none⟩) (by show b + 6 < w.heap.size; omega)).trans (hb6.cell 4)
 have HCC : Hid (∀ W, Below w.heap.size w W → W.cell? ⟨b + 6, 5, none⟩ = some (.slice ac L.conflicts.length cc)) := Lib.hid fun W hW => (hW.cell (p := ⟨b + 6, 5, none⟩) (by show b + 6 < w.heap.size; omega)).trans (hb6.cell 5)
 clear hb6 hor hoc
 have hc0 := HCP.out _ hB2
 have HK1 := Lib.hid (keysCall_Piece (c := w.heap.size) (n := w.heap.size + 1 + 1) (H.out.below hB2).pieces l1 hR0.lt (by simp))
 clear h hR0
 go_enter Tryz.func114, Tryz.ntmps114
 go_wp2_with (first
  | (go_at_call 165; refine (keys_Piece _ _).mono ?_; rintro e w1 ⟨rfl, rfl⟩)
  | (go_at_call 164; refine HK1.out.mono ?_; rintro e w2 ⟨ak, ck, rfl, hok, hqk, hb2⟩))
 have hB3 : Below w.heap.size w w2 := hB2.trans (hb2.mono hB2.size)
 have HR3 := Lib.hid (HR0.out.below hb2)
 have HKA : Hid (KeysAt w.heap.size w2 [.slice none 0 0, .slice none 0 0, .slice none 0 0, .slice none 0 0, .slice none 0 0] (.slice ak (keysUp L.pieces).length ck) (keysUp L.pieces)) := Lib.hid ⟨hok, fun x hx g hg => by (simp at hx; subst hx; simp [Value.ownBlock] at hg)⟩
 clear hok hqk hb2 hc0
 go_loopw [5, 19] (fun _ i wr => ∃ (k : Nat) (v0 v1 : Value) (lp : List Piece), k ≤ (keysUp L.pieces).length ∧ i = .int .i64 k ∧ Hid (RegSt w.heap.size wr v0 v1 (.slice none 0 0) (.slice none 0 0) (.slice none 0 0) lp (((keysUp L.pieces).take k).map (whereAt L)) [] [] []) ∧
   Hid (lp.map Piece.abs = ((keysUp L.pieces).take k).map (fun k => (pieceAt L k).abs)) ∧ Hid (KeysAt w.heap.size wr [v0, v1, .slice none 0 0, .slice none 0 0, .slice none 0 0] (.slice ak (keysUp L.pieces).length ck) (keysUp L.pieces)) ∧ Below w.heap.size w wr) (fun _ i _ => (keysUp L.pieces).length - (Go.RowKit.intOf i).toNat)
 case atStart => exact ⟨0, _, _, [], Nat.zero_le _, rfl, HR3, Lib.hid (by simp), HKA, hB3⟩
 case round =>
  obtain ⟨k, v0, v1, lp, hk, rfl, HR, HLP, HKA, hB⟩ := hrel
  by_cases hlt : k < (keysUp L.pieces).length
  ·obtain ⟨x, hx⟩ : ∃ x, (keysUp L.pieces)[k]? = some x := ⟨_, List.getElem?_eq_getElem hlt⟩
   obtain ⟨gk, rfl, hcx⟩ := HKA.out.at hx
   have hi1 : (k : Int) < ((keysUp L.pieces).length : Int) := by omega
   have HX := Lib.hid hx
   have HXI : Hid (I64 x) := Lib.hid (keysUp_ok H.out.pieces x (List.mem_of_getElem? hx))
   have hS := (HR.out.toldS hB).drew
   have hRd := HR.out.below ((Below.refl _ _).drew)
   have hKd := HKA.out.below ((Below.refl _ _).drew)
   have hBd := hB.drew
   obtain ⟨p, hp⟩ : ∃ p, pieceAt L x = p := ⟨_, rfl⟩
   have HP := Lib.hid hp
   have HPO : Hid (okPiece (fun _ => False) w p) := Lib.hid (hp ▸ pieceAt_ok H.out x)
   have hlp : lp.length ≤ 1000000 := by have h1 := congrArg List.length HLP.out; simp at h1; have := keysUp_len L.pieces; omega
   clear hx hp
   go_wp2
   refine wp_region_markS (ToldS w.heap.size w #[v0, v1, .slice none 0 0, .slice none 0 0, .slice none 0 0, .slice none 0 0]) 12 [(0, none), (2, none), (3, none), (4, none), (6, none), (1, some true), (5, some true), (7, some true), (8, some false), (9, some false), (10, some false), (11, none), (12, some false)] rfl (by kernel_rfl) (by kernel_rfl) (fun d _ _ _ _ h => by cases d <;> exact h) hS ?_
   iterate 5 (refine wpE_pure rfl rfl (fun W => by go_simp; with_reducible rfl) ?_; simp only [pTs, pTn, pTz, pTc])
   refine wpE_fix (v := v0) rfl rfl (fun W hW => by have e : W.cell? ⟨w.heap.size + 1, 0, none⟩ = some v0 := (hW.box.cell 0).trans rfl; go_simp) ?_; simp only [pTs, pTn, pTz, pTc]
   refine wpE_fix (v := .map (some b)) rfl rfl (fun W hW => by have e := HCP.out W hW.below; go_simp) ?_; simp only [pTs, pTn, pTz, pTc]
   refine wpE_fix (v := vPiece p) rfl rfl (fun W hW => Eq.trans (run_look intKey Tryz.underlying183 zPiece (zeroPiece _) rfl (H.out.pieces.below hW.below H.out.pieces.lt) x HXI.out rfl) (by rw [show (aget L.pieces x).getD zPiece = p from HP.out]; rfl)) ?_; simp only [pTs, pTn, pTz, pTc]
   refine wpE_act rfl rfl rfl (fun K hK => ?_)
   go_simp
   refine hK _ _ (hS.alloc _) ?_
   clear hK K
   try simp only [pTs, pTn, pTz, pTc]
   refine wpE_act rfl rfl rfl (fun K hK => ?_)
   go_simp
   refine (copiedPieces_any (fun _ => False) ⟨some ⟨wr.heap.size, 0, none⟩, 1, [p]⟩ _ (Sl.OK.one (W := wr.drew) p rfl (buildPiece p) (fun h => h) (HPO.out.ext (.of_below ((hBd.alloc hBd.size _).trans ((Below.refl _ _)))))) ).mono ?_
   rintro e w2 ⟨s2, rfl, l2, o2, hb2⟩
   have hS := (hS.alloc _).under hb2
   have hSb := hS.below
   have hR2 := (hRd.below ((Below.refl _ _).alloc (Nat.le_refl _) _)).below hb2
   have hK2 := (hKd.below ((Below.refl _ _).alloc (Nat.le_refl _) _)).below hb2
   have hal : wr.heap.size ≤ w2.heap.size := Nat.le_trans (by simp) hb2.size
   have hfr : ∀ q ∈ s2.val, okPiece (RD w.heap.size [v0, v1, .slice none 0 0, .slice none 0 0, .slice none 0 0]) w2 q := fun q hq => (o2.elem q hq).mono (hRd.fresh (by simp))
   refine hK _ _ hS ?_
   clear hK K
   try simp only [pTs, pTn, pTz, pTc]
   refine wpE_act rfl rfl rfl (fun K hK => ?_)
   refine wp_append_slAt _ _ 36 rfl (w.heap.size + 2) einfo_Piece (fun _ => rfl) (by decide) encPiece_one (by decide) v0 lp rfl hR2.o0 s2 rfl o2 (by have h1 := congrArg List.length l2; simp at h1; omega) hR2.lt ?_
   intro v3 w3 ho3 hg3 hat3
   have hS := hS.grown hg3 (fun g hg => (hR2.o0.block g hg).1)
   obtain ⟨a3, n3, c3, rfl⟩ := ho3.slice
   refine hK _ _ hS ?_
   clear hK K
   try simp only [pTs, pTn, pTz, pTc]
   refine wpE_pure rfl rfl (fun W => by go_simp; with_reducible rfl) ?_; simp only [pTs, pTn, pTz, pTc]
   refine wpE_mark rfl rfl (fun K hK => ?_)
   refine wp_store_box hS.box _ _ _ rfl rfl (.slice a3 n3 c3) rfl (by kernel_rfl) rfl (one_sl _ _ _) ?_
   intro w4 hb4 hT4
   obtain ⟨hR4, hBr, hK4⟩ := hR2.put0 ho3 hg3 hat3 hfr (hb4.eqv (by simp [splice, Value.cells])) hT4
   have hK4 := hK4 _ _ hK2
   have hB4 : Below w.heap.size w w4 := hSb.trans hBr
   refine hK _ _ ?_
   clear hK K
   try simp only [pTs, pTn, pTz, pTc]
   simp only [wpE]
   have hS6 := (hR4.toldS hB4).drew
   have hRd6 := hR4.below ((Below.refl _ _).drew)
   have hKd6 := hK4.below ((Below.refl _ _).drew)
   have hlw : (((keysUp L.pieces).take k).map (whereAt L)).length ≤ 1000000 := by have := keysUp_len L.pieces; simp; omega
   go_wp2
   refine wp_region_markS (ToldS w.heap.size w #[.slice a3 n3 c3, v1, .slice none 0 0, .slice none 0 0, .slice none 0 0, .slice none 0 0]) 11 [(0, none), (2, none), (3, none), (4, none), (6, none), (1, some true), (5, some true), (7, some true), (8, some false), (9, some false), (10, none), (11, some false)] rfl (by kernel_rfl) (by kernel_rfl) (fun d _ _ _ _ h => by cases d <;> exact h) hS6 ?_
   iterate 5 (refine wpE_pure rfl rfl (fun W => by go_simp; with_reducible rfl) ?_; simp only [pTs, pTn, pTz, pTc])
   refine wpE_fix (v := v1) rfl rfl (fun W hW => by have e : W.cell? ⟨w.heap.size + 1, 1, none⟩ = some v1 := (hW.box.cell 1).trans rfl; go_simp) ?_; simp only [pTs, pTn, pTz, pTc]
   refine wpE_fix (v := .map (some (b + 1))) rfl rfl (fun W hW => by have e := HCW.out W hW.below; go_simp) ?_; simp only [pTs, pTn, pTz, pTc]
   refine wpE_fix (v := vWhere (whereAt L x)) rfl rfl (fun W hW => run_look intKey Tryz.underlying184 zWhere (zeroWhere _) rfl (H.out.wher.below hW.below H.out.wher.lt) x HXI.out rfl) ?_; simp only [pTs, pTn, pTz, pTc]
   refine wpE_act rfl rfl rfl (fun K hK => ?_)
   go_simp
   refine hK _ _ (hS6.alloc _) ?_
   clear hK K
   try simp only [buildWhere, pTs, pTn, pTz, pTc]
   refine wpE_act rfl rfl rfl (fun K hK => ?_)
   refine wp_append_oneAt _ _ 94 rfl (w.heap.size + 2) einfo_Where (fun _ => rfl) (by decide) encWhere_one (by decide) v1 _ rfl (hRd6.below ((Below.refl _ _).alloc (Nat.le_refl _) _)).o1 w4.heap.size 0 1 (whereAt L x) rfl (fun j hj => cells_of_eq (w := w4) (T := 105) (cs := encWhere (whereAt L x)) rfl j hj) (by omega) (Nat.le_trans hRd6.lt (by simp)) ?_
   intro v5 w5 ho5 hg5 hat5
   have hSb := (hS6.alloc (.cells (encWhere (whereAt L x)) 105)).below
   have hg5 : (w4.drew.alloc (.cells (encWhere (whereAt L x)) 105)).grownBy w5 v1.ownBlock := hg5
   have hS := (hS6.alloc (.cells (encWhere (whereAt L x)) 105)).grown hg5 (fun g hg => (hRd6.o1.block g hg).1)
   have hRx := hRd6.below ((Below.refl _ _).alloc (Nat.le_refl _) (.cells (encWhere (whereAt L x)) 105))
   have hKx := hKd6.below ((Below.refl _ _).alloc (Nat.le_refl _) (.cells (encWhere (whereAt L x)) 105))
   obtain ⟨a5, n5, c5, rfl⟩ := ho5.slice
   refine hK _ _ hS ?_
   clear hK K
   try simp only [pTs, pTn, pTz, pTc]
   refine wpE_pure rfl rfl (fun W => by go_simp; with_reducible rfl) ?_; simp only [pTs, pTn, pTz, pTc]
   refine wpE_mark rfl rfl (fun K hK => ?_)
   refine wp_store_box hS.box _ _ _ rfl rfl (.slice a5 n5 c5) rfl (by kernel_rfl) rfl (one_sl _ _ _) ?_
   intro w6 hb6 hT6
   obtain ⟨hR7, hBr, hK7⟩ := RegSt.put1 hRx ho5 hg5 hat5 (fun q hq => by rw [List.mem_singleton.1 hq]; exact whereAt_ok H.out _ x) (hb6.eqv (by simp [splice, Value.cells])) hT6
   have hK7 := hK7 _ _ hKx
   have hB7 : Below w.heap.size w w6 := hSb.trans hBr
   refine hK _ _ ?_
   clear hK K
   try simp only [pTs, pTn, pTz, pTc]
   simp only [wpE]
   go_wp2
   go_roundw
   case rel =>
    refine ⟨k + 1, _, _, lp ++ s2.val, by omega, by go_num, Lib.hid (by rw [take_snoc HX.out, List.map_append]; exact hR7), Lib.hid ?_, Lib.hid hK7, hB7⟩
    rw [List.map_append, HLP.out, l2, take_snoc HX.out, List.map_append]; simp [HP.out]
   case measure => simp [Go.RowKit.intOf]; omega
  ·have hk' : k = (keysUp L.pieces).length := by omega
   have HLP1 : Hid (lp.map Piece.abs = (keysUp L.pieces).map (fun k => (pieceAt L k).abs)) := Lib.hid (by have h1 := HLP.out; rwa [hk', List.take_length] at h1)
   obtain ⟨lw, hlw⟩ : ∃ lw, (keysUp L.pieces).map (whereAt L) = lw := ⟨_, rfl⟩
   have HLW := Lib.hid hlw
   have HR1 : Hid (RegSt w.heap.size wr v0 v1 (.slice none 0 0) (.slice none 0 0) (.slice none 0 0) lp lw [] [] []) := Lib.hid (by have h1 := HR.out; rw [hk', List.take_length, hlw] at h1; exact h1)
   have hc1 := HCG.out _ hB
   have HK2 := Lib.hid (keysCall_Int (c := w.heap.size) (n := wr.heap.size) (H.out.below hB).glass l2 HR1.out.lt rfl)
   have hBf := hB
   clear HLP HKA hlw HR hB
   go_wp2_with (first
    | (go_at_call 166; refine (keys_Int _ _).mono ?_; rintro e w1 ⟨rfl, rfl⟩)
    | (go_at_call 164; refine HK2.out.mono ?_; rintro e w2 ⟨ak2, ck2, rfl, hok, hqk, hb2⟩))
   have hB3 : Below w.heap.size w w2 := hBf.trans (hb2.mono hBf.size)
   have HR3 := Lib.hid (HR1.out.below hb2)
   have HKA : Hid (KeysAt w.heap.size w2 [v0, v1, .slice none 0 0, .slice none 0 0, .slice none 0 0] (.slice ak2 (keysUp L.glass).length ck2) (keysUp L.glass)) := Lib.hid ⟨hok, fun x hx g hg hg2 => by have h1 := (HR1.out.owns x hx g hg).2; have h2 := hqk g hg2; omega⟩
   clear hok hqk hb2 hc1 HK2 HR1 hk hk' hlt
   go_loopw [7, 54] (fun _ i wr => ∃ (k : Nat) (v2 : Value), k ≤ (keysUp L.glass).length ∧ i = .int .i64 k ∧ Hid (RegSt w.heap.size wr v0 v1 v2 (.slice none 0 0) (.slice none 0 0) lp lw (((keysUp L.glass).take k).map (heldAt L)) [] []) ∧
     Hid (KeysAt w.heap.size wr [v0, v1, v2, .slice none 0 0, .slice none 0 0] (.slice ak2 (keysUp L.glass).length ck2) (keysUp L.glass)) ∧ Below w.heap.size w wr) (fun _ i _ => (keysUp L.glass).length - (Go.RowKit.intOf i).toNat)
   case atStart => exact ⟨0, _, Nat.zero_le _, rfl, HR3, HKA, hB3⟩
   case round =>
    obtain ⟨k, v2, hk, rfl, HR, HKA, hB⟩ := hrel
    by_cases hlt : k < (keysUp L.glass).length
    ·obtain ⟨x, hx⟩ : ∃ x, (keysUp L.glass)[k]? = some x := ⟨_, List.getElem?_eq_getElem hlt⟩
     obtain ⟨gk, rfl, hcx⟩ := HKA.out.at hx
     have hi1 : (k : Int) < ((keysUp L.glass).length : Int) := by omega
     have HX := Lib.hid hx
     have HXI : Hid (I64 x) := Lib.hid (keysUp_ok H.out.glass x (List.mem_of_getElem? hx))
     have hS := (HR.out.toldS hB).drew
     have hRd := HR.out.below ((Below.refl _ _).drew)
     have hKd := HKA.out.below ((Below.refl _ _).drew)
     have hlh : (((keysUp L.glass).take k).map (heldAt L)).length ≤ 1000000 := by simp; omega
     clear hx
     go_wp2
     refine wp_region_markS (ToldS w.heap.size w #[v0, v1, v2, .slice none 0 0, .slice none 0 0, .slice none 0 0]) 13 [(0, none), (2, none), (3, none), (4, none), (5, none), (7, none), (1, some true), (6, some true), (8, some true), (9, none), (10, some false), (11, some false), (12, none), (13, some false)] rfl (by kernel_rfl) (by kernel_rfl) (fun d _ _ _ _ h => by cases d <;> exact h) hS ?_
     iterate 6 (refine wpE_pure rfl rfl (fun W => by go_simp; with_reducible rfl) ?_; simp only [pTs, pTn, pTz, pTc])
     refine wpE_fix (v := v2) rfl rfl (fun W hW => by have e : W.cell? ⟨w.heap.size + 1, 2, none⟩ = some v2 := (hW.box.cell 2).trans rfl; go_simp) ?_; simp only [pTs, pTn, pTz, pTc]
     refine wpE_fix (v := .map (some (b + 2))) rfl rfl (fun W hW => by have e := HCG.out W hW.below; go_simp) ?_; simp only [pTs, pTn, pTz, pTc]
     refine wpE_fix (v := vi ((aget L.glass x).getD 0)) rfl rfl (fun W hW => run_look intKey Tryz.underlying185 0 (zeroI _) rfl (H.out.glass.below hW.below H.out.glass.lt) x HXI.out rfl) ?_; simp only [pTs, pTn, pTz, pTc]
     refine wpE_pure (v := .agg (encHeld (heldAt L x))) rfl rfl (fun W => by go_simp; rfl) ?_; simp only [pTs, pTn, pTz, pTc]
     refine wpE_act rfl rfl rfl (fun K hK => ?_)
     go_simp
     refine hK _ _ (hS.alloc _) ?_
     clear hK K
     try simp only [buildHeld, pTs, pTn, pTz, pTc]
     refine wpE_act rfl rfl rfl (fun K hK => ?_)
     refine wp_append_oneAt _ _ 95 rfl (w.heap.size + 2) einfo_Held (fun _ => rfl) (by decide) encHeld_one (by decide) v2 _ rfl (hRd.below ((Below.refl _ _).alloc (Nat.le_refl _) _)).o2 wr.heap.size 0 1 (heldAt L x) rfl (fun j hj => cells_of_eq (w := wr) (T := 240) (cs := encHeld (heldAt L x)) rfl j hj) (by omega) (Nat.le_trans hRd.lt (by simp)) ?_
     intro v5 w5 ho5 hg5 hat5
     have hSb := (hS.alloc (.cells (encHeld (heldAt L x)) 240)).below
     have hg5 : (wr.drew.alloc (.cells (encHeld (heldAt L x)) 240)).grownBy w5 v2.ownBlock := hg5
     have hS := (hS.alloc (.cells (encHeld (heldAt L x)) 240)).grown hg5 (fun g hg => (hRd.o2.block g hg).1)
     have hRx := hRd.below ((Below.refl _ _).alloc (Nat.le_refl _) (.cells (encHeld (heldAt L x)) 240))
     have hKx := hKd.below ((Below.refl _ _).alloc (Nat.le_refl _) (.cells (encHeld (heldAt L x)) 240))
     obtain ⟨a5, n5, c5, rfl⟩ := ho5.slice
     refine hK _ _ hS ?_
     clear hK K
     try simp only [pTs, pTn, pTz, pTc]
     refine wpE_pure rfl rfl (fun W => by go_simp; with_reducible rfl) ?_; simp only [pTs, pTn, pTz, pTc]
     refine wpE_mark rfl rfl (fun K hK => ?_)
     refine wp_store_box hS.box _ _ _ rfl rfl (.slice a5 n5 c5) rfl (by kernel_rfl) rfl (one_sl _ _ _) ?_
     intro w6 hb6 hT6
     obtain ⟨hR7, hBr, hK7⟩ := RegSt.put2 hRx ho5 hg5 hat5 (fun q hq => by rw [List.mem_singleton.1 hq]; exact ⟨HXI.out, I64_zero, glassAt_ok H.out x, I64_zero⟩) (hb6.eqv (by simp [splice, Value.cells])) hT6
     have hK7 := hK7 _ _ hKx
     have hB7 : Below w.heap.size w w6 := hSb.trans hBr
     refine hK _ _ ?_
     clear hK K
     try simp only [pTs, pTn, pTz, pTc]
     simp only [wpE]
     go_wp2
     go_roundw
     case rel => exact ⟨k + 1, _, by omega, by go_num, Lib.hid (by rw [take_snoc HX.out, List.map_append]; exact hR7), Lib.hid hK7, hB7⟩
     case measure => simp [Go.RowKit.intOf]; omega
    ·have hk' : k = (keysUp L.glass).length := by omega
     obtain ⟨lh, hlh⟩ : ∃ lh, (keysUp L.glass).map (heldAt L) = lh := ⟨_, rfl⟩
     have HLH := Lib.hid hlh
     have HR1 : Hid (RegSt w.heap.size wr v0 v1 v2 (.slice none 0 0) (.slice none 0 0) lp lw lh [] []) := Lib.hid (by have h1 := HR.out; rw [hk', List.take_length, hlh] at h1; exact h1)
     have hc1 := HCI.out _ hB
     have HK3 := Lib.hid (keysCall_Item (c := w.heap.size) (n := wr.heap.size) (H.out.below hB).items l3 HR1.out.lt rfl)
     have hBf := hB
     clear HKA hlh HR hB
     go_wp2_with (first
      | (go_at_call 167; refine (keys_Item _ _).mono ?_; rintro e w1 ⟨rfl, rfl⟩)
      | (go_at_call 164; refine HK3.out.mono ?_; rintro e w2 ⟨ak3, ck3, rfl, hok, hqk, hb2⟩))
     have hB3 : Below w.heap.size w w2 := hBf.trans (hb2.mono hBf.size)
     have HR3 := Lib.hid (HR1.out.below hb2)
     have HKA : Hid (KeysAt w.heap.size w2 [v0, v1, v2, .slice none 0 0, .slice none 0 0] (.slice ak3 (keysUp L.items).length ck3) (keysUp L.items)) := Lib.hid ⟨hok, fun x hx g hg hg2 => by have h1 := (HR1.out.owns x hx g hg).2; have h2 := hqk g hg2; omega⟩
     clear hok hqk hb2 hc1 HK3 HR1 hk hk' hlt
     go_loopw [9, 79] (fun _ i wr => ∃ (k : Nat) (v3 : Value) (li : List Item), k ≤ (keysUp L.items).length ∧ i = .int .i64 k ∧ Hid (RegSt w.heap.size wr v0 v1 v2 v3 (.slice none 0 0) lp lw lh li []) ∧ Hid (li.map Item.abs = ((keysUp L.items).take k).map (fun k => (itemAt L k).abs)) ∧
       Hid (KeysAt w.heap.size wr [v0, v1, v2, v3, .slice none 0 0] (.slice ak3 (keysUp L.items).length ck3) (keysUp L.items)) ∧ Below w.heap.size w wr) (fun _ i _ => (keysUp L.items).length - (Go.RowKit.intOf i).toNat)
     case atStart => exact ⟨0, _, [], Nat.zero_le _, rfl, HR3, Lib.hid (by simp), HKA, hB3⟩
     case round =>
      obtain ⟨k, v3, li, hk, rfl, HR, HLI, HKA, hB⟩ := hrel
      by_cases hlt : k < (keysUp L.items).length
      ·obtain ⟨x, hx⟩ : ∃ x, (keysUp L.items)[k]? = some x := ⟨_, List.getElem?_eq_getElem hlt⟩
       obtain ⟨gk, rfl, hcx⟩ := HKA.out.at hx
       have hi1 : (k : Int) < ((keysUp L.items).length : Int) := by omega
       have HX := Lib.hid hx
       have HXI : Hid (I64 x) := Lib.hid (keysUp_ok H.out.items x (List.mem_of_getElem? hx))
       have hS := (HR.out.toldS hB).drew
       have hRd := HR.out.below ((Below.refl _ _).drew)
       have hKd := HKA.out.below ((Below.refl _ _).drew)
       have hBd := hB.drew
       have HPO : Hid (okItem (fun _ => False) w (itemAt L x)) := Lib.hid (itemAt_ok H.out x)
       have hli : li.length ≤ 1000000 := by have h1 := congrArg List.length HLI.out; simp at h1; omega
       clear hx
       go_wp2
       refine wp_region_markS (ToldS w.heap.size w #[v0, v1, v2, v3, .slice none 0 0, .slice none 0 0]) 12 [(0, none), (2, none), (3, none), (4, none), (6, none), (1, some true), (5, some true), (7, some true), (8, some false), (9, some false), (10, some false), (11, none), (12, some false)] rfl (by kernel_rfl) (by kernel_rfl) (fun d _ _ _ _ h => by cases d <;> exact h) hS ?_
       iterate 5 (refine wpE_pure rfl rfl (fun W => by go_simp; with_reducible rfl) ?_; simp only [pTs, pTn, pTz, pTc])
       refine wpE_fix (v := v3) rfl rfl (fun W hW => by have e : W.cell? ⟨w.heap.size + 1, 3, none⟩ = some v3 := (hW.box.cell 3).trans rfl; go_simp) ?_; simp only [pTs, pTn, pTz, pTc]
       refine wpE_fix (v := .map (some (b + 3))) rfl rfl (fun W hW => by have e := HCI.out W hW.below; go_simp) ?_; simp only [pTs, pTn, pTz, pTc]
       refine wpE_fix (v := vItem (itemAt L x)) rfl rfl (fun W hW => run_look intKey Tryz.underlying186 zItem (zeroItem _) rfl (H.out.items.below hW.below H.out.items.lt) x HXI.out rfl) ?_; simp only [pTs, pTn, pTz, pTc]
       refine wpE_act rfl rfl rfl (fun K hK => ?_)
       go_simp
       refine (copiedItem_any (fun _ => False) (itemAt L x) _ (HPO.out.ext (.of_below hBd))).mono ?_
       rintro e w2 ⟨y, rfl, ly, oy, hb2⟩
       have hS := hS.under hb2
       have hR2 := hRd.below hb2
       have hK2 := hKd.below hb2
       refine hK _ _ hS ?_
       clear hK K
       try simp only [pTs, pTn, pTz, pTc]
       refine wpE_act rfl rfl rfl (fun K hK => ?_)
       go_simp
       refine hK _ _ (hS.alloc _) ?_
       clear hK K
       try simp only [buildItem, pTs, pTn, pTz, pTc]
       refine wpE_act rfl rfl rfl (fun K hK => ?_)
       refine wp_append_oneAt _ _ 96 rfl (w.heap.size + 2) einfo_Item (fun _ => rfl) (by decide) encItem_one (by decide) v3 _ rfl (hR2.below ((Below.refl _ _).alloc (Nat.le_refl _) _)).o3 w2.heap.size 0 1 y rfl (fun j hj => cells_of_eq (w := w2) (T := 41) (cs := encItem y) rfl j hj) (by omega) (Nat.le_trans hR2.lt (by simp)) ?_
       intro v5 w5 ho5 hg5 hat5
       have hSb := (hS.alloc (.cells (encItem y) 41)).below
       have hg5 : (w2.alloc (.cells (encItem y) 41)).grownBy w5 v3.ownBlock := hg5
       have hS := (hS.alloc (.cells (encItem y) 41)).grown hg5 (fun g hg => (hR2.o3.block g hg).1)
       have hRx := hR2.below ((Below.refl _ _).alloc (Nat.le_refl _) (.cells (encItem y) 41))
       have hKx := hK2.below ((Below.refl _ _).alloc (Nat.le_refl _) (.cells (encItem y) 41))
       obtain ⟨a5, n5, c5, rfl⟩ := ho5.slice
       have hfr : ∀ q ∈ [y], okItem (RD w.heap.size [v0, v1, v2, v3, .slice none 0 0]) (w2.alloc (.cells (encItem y) 41)) q := fun q hq => by rw [List.mem_singleton.1 hq]; exact okItem.ext (oy.mono (hRd.fresh (Nat.le_refl _))) (.of_below ((Below.refl _ _).alloc (Nat.le_refl _) _))
       refine hK _ _ hS ?_
       clear hK K
       try simp only [pTs, pTn, pTz, pTc]
       refine wpE_pure rfl rfl (fun W => by go_simp; with_reducible rfl) ?_; simp only [pTs, pTn, pTz, pTc]
       refine wpE_mark rfl rfl (fun K hK => ?_)
       refine wp_store_box hS.box _ _ _ rfl rfl (.slice a5 n5 c5) rfl (by kernel_rfl) rfl (one_sl _ _ _) ?_
       intro w6 hb6 hT6
       obtain ⟨hR7, hBr, hK7⟩ := RegSt.put3 hRx ho5 hg5 hat5 hfr (hb6.eqv (by simp [splice, Value.cells])) hT6
       have hK7 := hK7 _ _ hKx
       have hB7 : Below w.heap.size w w6 := hSb.trans hBr
       refine hK _ _ ?_
       clear hK K
       try simp only [pTs, pTn, pTz, pTc]
       simp only [wpE]
       go_wp2
       go_roundw
       case rel =>
        refine ⟨k + 1, _, li ++ [y], by omega, by go_num, Lib.hid hR7, Lib.hid ?_, Lib.hid hK7, hB7⟩
        rw [List.map_append, HLI.out, take_snoc HX.out, List.map_append]; simp [ly]
       case measure => simp [Go.RowKit.intOf]; omega
      ·have hk' : k = (keysUp L.items).length := by omega
       have HLI1 : Hid (li.map Item.abs = (keysUp L.items).map (fun k => (itemAt L k).abs)) := Lib.hid (by have h1 := HLI.out; rwa [hk', List.take_length] at h1)
       have hc1 := HCR.out _ hB
       have HR3 := HR
       have hB3 := hB
       clear HKA HLI HR hB
       go_wp2
       clear hc1 hk hk' hlt
       go_loopw [11, 101] (fun _ i wr => ∃ (k : Nat) (v4 : Value) (lr : List Relead), k ≤ L.releads.length ∧ i = .int .i64 k ∧ Hid (RegSt w.heap.size wr v0 v1 v2 v3 v4 lp lw lh li lr) ∧ Hid (lr.map Relead.abs = (L.releads.take k).map Relead.abs) ∧ Below w.heap.size w wr) (fun _ i _ => L.releads.length - (Go.RowKit.intOf i).toNat)
       case atStart => exact ⟨0, _, [], Nat.zero_le _, rfl, HR3, Lib.hid (by simp), hB3⟩
       case round =>
        obtain ⟨k, v4, lr, hk, rfl, HR, HLR, hB⟩ := hrel
        by_cases hlt : k < L.releads.length
        ·obtain ⟨x, hx⟩ : ∃ x, L.releads[k]? = some x := ⟨_, List.getElem?_eq_getElem hlt⟩
         obtain ⟨bb, o, har, hb, _, hok, hcell⟩ := HRL.out.at hx
         simp only at har
         subst har
         have HC : Hid (∀ j, j < (encRelead x).size → wr.cell? ⟨bb, o + k * 2 + j, none⟩ = (encRelead x)[j]?) := Lib.hid fun j hj => by rw [hB.cell (p := ⟨bb, o + k * 2 + j, none⟩) hb]; exact hcell j hj
         have hi1 : (k : Int) < (L.releads.length : Int) := by omega
         have HX := Lib.hid hx
         have HXO := Lib.hid hok
         have hS : ToldS w.heap.size w #[v0, v1, v2, v3, v4, .slice none 0 0] (wr.alloc (.cells (encRelead x) 243)).drew ∧ BoxAt (wr.alloc (.cells (encRelead x) 243)).drew wr.heap.size 243 (encRelead x) := ⟨((HR.out.toldS hB).alloc _).drew, (BoxAt.new _ _ _).drew⟩
         have hRd := HR.out.below (((Below.refl _ _).alloc (Nat.le_refl _) (.cells (encRelead x) 243)).drew)
         have hBd : Below w.heap.size w (wr.alloc (.cells (encRelead x) 243)).drew := hS.1.below
         have hlr : lr.length ≤ 1000000 := by have h1 := congrArg List.length HLR.out; simp at h1; omega
         clear hx hok hcell hb
         go_wp2_with (first
          | (with_reducible refine at_dst 104 ?_; refine wpList_load_at rfl 243 _ rfl bb (o + k * 2) rfl (encRelead x) _ HC.out Tryz.underlying243 rfl (by kernel_rfl) ?_)
          | (with_reducible refine at_store ?_; refine wpList_store_last (cs := encRelead x) rfl 243 _ _ rfl rfl rfl rfl (by kernel_rfl) rfl (encRelead_one _) ?_))
         refine wp_region_markS (fun W => ToldS w.heap.size w #[v0, v1, v2, v3, v4, .slice none 0 0] W ∧ BoxAt W wr.heap.size 243 (encRelead x)) 11 [(0, none), (2, none), (4, none), (1, some true), (3, some true), (5, some true), (6, some false), (7, none), (8, some false), (9, some false), (10, none), (11, some false)] rfl (by kernel_rfl) (by kernel_rfl) (fun d _ _ _ _ h => by cases d <;> exact h) hS ?_
         iterate 3 (refine wpE_pure rfl rfl (fun W => by go_simp; with_reducible rfl) ?_; simp only [pTs, pTn, pTz, pTc])
         refine wpE_fix (v := v4) rfl rfl (fun W hW => by have e : W.cell? ⟨w.heap.size + 1, 4, none⟩ = some v4 := (hW.1.box.cell 4).trans rfl; go_simp) ?_; simp only [pTs, pTn, pTz, pTc]
         refine wpE_fix (v := vi x.year) rfl rfl (fun W hW => by have e : W.cell? ⟨wr.heap.size, 0, none⟩ = some (vi x.year) := (hW.2.cell 0).trans rfl; go_simp) ?_; simp only [pTs, pTn, pTz, pTc]
         refine wpE_fix (v := .slice x.panes.a x.panes.val.length x.panes.cap) rfl rfl (fun W hW => by have e : W.cell? ⟨wr.heap.size, 1, none⟩ = some (.slice x.panes.a x.panes.val.length x.panes.cap) := (hW.2.cell 1).trans rfl; go_simp) ?_; simp only [pTs, pTn, pTz, pTc]
         refine wpE_act rfl rfl rfl (fun K hK => ?_)
         go_simp
         refine (clone_Int (fun _ => False) x.panes _ (okInts_ext HXO.out.2 (.of_below hBd))).mono ?_
         rintro e w2 ⟨vq, rfl, hoq, hnq, hb2⟩
         obtain ⟨s3, rfl, l3x, o3⟩ := hoq.slOld (n := wr.heap.size) (fun _ => rfl) okInt (by simp) (fun z hz => HXO.out.2.elem z hz) HXO.out.2.room
         have L3X := Lib.hid l3x
         clear l3x
         have hS := And.intro (hS.1.under hb2) (hS.2.belowAll hb2)
         have hR2 := hRd.below hb2
         refine hK _ _ hS ?_
         clear hK K
         try simp only [pTs, pTn, pTz, pTc]
         refine wpE_pure (v := .agg (encRelead ⟨x.year, s3⟩)) rfl rfl (fun W => by go_simp; rfl) ?_; simp only [pTs, pTn, pTz, pTc]
         refine wpE_act rfl rfl rfl (fun K hK => ?_)
         go_simp
         refine hK _ _ ⟨hS.1.alloc _, hS.2.alloc _⟩ ?_
         clear hK K
         try simp only [buildRelead, pTs, pTn, pTz, pTc]
         refine wpE_act rfl rfl rfl (fun K hK => ?_)
         refine wp_append_oneAt _ _ 97 rfl (w.heap.size + 2) einfo_Relead (fun _ => rfl) (by decide) encRelead_one (by decide) v4 _ rfl (hR2.below ((Below.refl _ _).alloc (Nat.le_refl _) _)).o4 w2.heap.size 0 1 (⟨x.year, s3⟩ : Relead) rfl (fun j hj => cells_of_eq (w := w2) (T := 243) (cs := encRelead ⟨x.year, s3⟩) rfl j hj) (by omega) (Nat.le_trans hR2.lt (by simp)) ?_
         intro v5 w5 ho5 hg5 hat5
         have hSb := (hS.1.alloc (.cells (encRelead ⟨x.year, s3⟩) 243)).below
         have hg5 : (w2.alloc (.cells (encRelead ⟨x.year, s3⟩) 243)).grownBy w5 v4.ownBlock := hg5
         have hRx := hR2.below ((Below.refl _ _).alloc (Nat.le_refl _) (.cells (encRelead ⟨x.year, s3⟩) 243))
         have hS := And.intro ((hS.1.alloc (.cells (encRelead ⟨x.year, s3⟩) 243)).grown hg5 (fun g hg => (hR2.o4.block g hg).1)) ((hS.2.alloc (.cells (encRelead ⟨x.year, s3⟩) 243)).of_block (hg5.block _ (hS.2.alloc (.cells (encRelead ⟨x.year, s3⟩) 243)).lt (fun e => by have := (HR.out.o4.block _ e.symm).2; omega)))
         obtain ⟨a5, n5, c5, rfl⟩ := ho5.slice
         have hfr : ∀ q ∈ [(⟨x.year, s3⟩ : Relead)], okRelead (RD w.heap.size [v0, v1, v2, v3, v4]) (w2.alloc (.cells (encRelead ⟨x.year, s3⟩) 243)) q := fun q hq => by rw [List.mem_singleton.1 hq]; exact okRelead.ext (okRelead.mono (D := Old wr.heap.size) ⟨HXO.out.1, o3⟩ (HR.out.fresh (Nat.le_refl _))) (.of_below ((Below.refl _ _).alloc (Nat.le_refl _) _))
         refine hK _ _ hS ?_
         clear hK K
         try simp only [pTs, pTn, pTz, pTc]
         refine wpE_pure rfl rfl (fun W => by go_simp; with_reducible rfl) ?_; simp only [pTs, pTn, pTz, pTc]
         refine wpE_mark rfl rfl (fun K hK => ?_)
         refine wp_store_box hS.1.box _ _ _ rfl rfl (.slice a5 n5 c5) rfl (by kernel_rfl) rfl (one_sl _ _ _) ?_
         intro w6 hb6 hT6
         obtain ⟨hR7, hBr, hK7⟩ := RegSt.put4 hRx ho5 hg5 hat5 hfr (hb6.eqv (by simp [splice, Value.cells])) hT6
         have hB7 : Below w.heap.size w w6 := hSb.trans hBr
         refine hK _ _ ?_
         clear hK K
         try simp only [pTs, pTn, pTz, pTc]
         simp only [wpE]
         go_wp2
         go_roundw
         case rel =>
          refine ⟨k + 1, _, lr ++ [⟨x.year, s3⟩], by omega, by go_num, Lib.hid hR7, Lib.hid ?_, hB7⟩
          rw [List.map_append, HLR.out, take_snoc HX.out, List.map_append]; simp [Relead.abs, L3X.out]
         case measure => simp [Go.RowKit.intOf]; omega
        ·have hk' : k = L.releads.length := by omega
         have HLR1 : Hid (lr.map Relead.abs = L.releads.map Relead.abs) := Lib.hid (by have h1 := HLR.out; rwa [hk', List.take_length] at h1)
         clear HLR
         obtain ⟨a0, c0, rfl⟩ := HR.out.o0.shape
         obtain ⟨a1, c1, rfl⟩ := HR.out.o1.shape
         obtain ⟨a2, c2, rfl⟩ := HR.out.o2.shape
         obtain ⟨a3, c3, rfl⟩ := HR.out.o3.shape
         obtain ⟨a4, c4, rfl⟩ := HR.out.o4.shape
         have hc1 := HCC.out _ hB
         have HSR := Lib.hid (sortedRefs wr.heap.size ⟨ac, cc, L.conflicts⟩ (wr.alloc (.cells #[.slice ac L.conflicts.length cc] 98)) (fun _ => False) (Sl.OK.ext (w := w) (w' := wr.alloc (.cells #[.slice ac L.conflicts.length cc] 98)) (fun _ h => h) HCL.out (.of_below (hB.alloc hB.size _))) (((BoxAt.new wr _ _).cell 0).trans rfl) (by simp) l5)
         have hszr : w.heap.size + 2 ≤ wr.heap.size := HR.out.lt
         go_wp2_with (first
          | (go_at_call 168; refine (values_any .nilFunc _ _ _ _).mono ?_; rintro e w1 ⟨rfl, rfl⟩)
          | (go_at_call 115; refine HSR.out.mono ?_; rintro e w2 ⟨v5, rfl, ho5, hb5⟩; obtain ⟨a5, c5, rfl⟩ := ho5.shape; have hbw : Below wr.heap.size wr w2 := ((Below.refl _ _).alloc (Nat.le_refl _) _).trans (hb5.mono (by simp)); have hR8 := HR.out.below hbw; have hbx8 := hR8.box; have hbx0 := hR8.box0)
          | ((with_reducible refine at_storeT 98 ?_); refine wpList_store_box hbx8 rfl _ _ _ rfl rfl (.slice a5 (sortBy ltRef L.conflicts).length c5) rfl (by kernel_rfl) rfl (one_sl _ _ _) ?_; intro w9 hb9 hT9; have hbx9 := hb9.eqv (cs' := encRegister ⟨⟨a0, c0, lp⟩, ⟨a1, c1, lw⟩, ⟨a2, c2, lh⟩, ⟨a3, c3, li⟩, ⟨a4, c4, lr⟩, ⟨a5, c5, sortBy ltRef L.conflicts⟩⟩) (by simp [splice, encRegister, Value.cells, Sl.v]); have hbx09 := hbx0.turn hT9 (by omega))
          | (with_reducible refine at_dst 124 ?_; refine wpList_loadB hbx9 rfl 100 _ rfl rfl (encRegister ⟨⟨a0, c0, lp⟩, ⟨a1, c1, lw⟩, ⟨a2, c2, lh⟩, ⟨a3, c3, li⟩, ⟨a4, c4, lr⟩, ⟨a5, c5, sortBy ltRef L.conflicts⟩⟩) (whole_cells _) Tryz.underlying100 rfl (by kernel_rfl) ?_)
          | ((with_reducible refine at_storeT 100 ?_); refine wpList_store_box hbx09 rfl _ _ _ rfl rfl (.agg (encRegister ⟨⟨a0, c0, lp⟩, ⟨a1, c1, lw⟩, ⟨a2, c2, lh⟩, ⟨a3, c3, li⟩, ⟨a4, c4, lr⟩, ⟨a5, c5, sortBy ltRef L.conflicts⟩⟩)) rfl (by kernel_rfl) rfl (one_agg (encRegister_one _)) ?_; intro w10 hb10 hT10))
         have hlens : lp.length ≤ 1000000 ∧ lw.length ≤ 1000000 ∧ lh.length ≤ 1000000 ∧ li.length ≤ 1000000 ∧ lr.length ≤ 1000000 := by
          have h1 := congrArg List.length HLP1.out
          have h2 := congrArg List.length HLW.out
          have h3 := congrArg List.length HLH.out
          have h4 := congrArg List.length HLI1.out
          have h5 := congrArg List.length HLR1.out
          simp only [List.length_map] at h1 h2 h3 h4 h5
          omega
         obtain ⟨hn0, hn1, hn2, hn3, hn4⟩ := hlens
         have hrd : ∀ (vs : List Value) k, Old (w.heap.size + 2) k → RD w.heap.size vs k := fun vs k hk => .inl hk
         have hok8 : okRegister (Old (w.heap.size + 2)) w2 ⟨⟨a0, c0, lp⟩, ⟨a1, c1, lw⟩, ⟨a2, c2, lh⟩, ⟨a3, c3, li⟩, ⟨a4, c4, lr⟩, ⟨a5, c5, sortBy ltRef L.conflicts⟩⟩ :=
          ⟨hR8.o0.okOld (fun _ => rfl) okPiece (Nat.le_refl _) (fun x hx => (hR8.k0 x hx).mono (hrd _)) (by omega), hR8.o1.okOld (fun _ => rfl) okWhere (Nat.le_refl _) (fun x hx => hR8.k1 x hx) (by omega),
           hR8.o2.okOld (fun _ => rfl) okHeld (Nat.le_refl _) (fun x hx => hR8.k2 x hx) (by omega), hR8.o3.okOld (fun _ => rfl) okItem (Nat.le_refl _) (fun x hx => (hR8.k3 x hx).mono (hrd _)) (by omega),
           hR8.o4.okOld (fun _ => rfl) okRelead (Nat.le_refl _) (fun x hx => (hR8.k4 x hx).mono (hrd _)) (by omega),
           ho5.okOld (fun _ => rfl) okRef (by simp; omega) (fun x hx => H.out.okC x ((sortBy_perm _ _).mem_iff.1 hx)) (by rw [(sortBy_perm _ _).length_eq]; omega)⟩
         have hx10 : Ext (Old (w.heap.size + 2)) w2 w10 := ⟨by rw [hT10.size, hT9.size]; exact Nat.le_refl _, fun k hk hd => (hT10.block k (fun e => hd (by subst e; show _ < _; omega))).trans (hT9.block k (fun e => hd (by subst e; show _ < _; omega)))⟩
         have hB10 : Below w.heap.size w w10 := ((hB.trans (hbw.mono hB.size)).trans (hT9.below (by omega))).trans (hT10.below (Nat.le_refl _))
         refine bodyPost_ret (results_cell_box (cs := encRegister ⟨⟨a0, c0, lp⟩, ⟨a1, c1, lw⟩, ⟨a2, c2, lh⟩, ⟨a3, c3, li⟩, ⟨a4, c4, lr⟩, ⟨a5, c5, sortBy ltRef L.conflicts⟩⟩) (hb10.eqv (by simp [splice, encRegister, Value.cells])) rfl rfl Tryz.underlying100 rfl (by kernel_rfl)) rfl ⟨_, rfl, ?_, (hok8.ext hx10).mono (fun k hk => by show k < _; have : k < w.heap.size := hk; omega), hB10⟩
         exact told_abs L _ HLP1.out HLW.out.symm HLH.out.symm HLI1.out HLR1.out rfl
end Go.Proofs.YtnmgfnpphglphaaGreat
