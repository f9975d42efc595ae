/-
  The ledger in memory; its first methods, walked.
  The ledger: known, register, holder, walked.
  The ledger: register, walked.
  The ledger's steps on the ledger in memory, and what they are in plain words; no program in sight.
-/
import Derived.Test.YtnmgfnpphglphaaGreatCopyItem
import Derived.Test.YtnmgfnpphglphaaGreatKeys
import Derived.Test.YtnmgfnpphglphaaGreatOrd
import Derived.Test.YtnmgfnpphglphaaGreatEff0
set_option maxHeartbeats 16000000
set_option maxRecDepth 100000
section
set_option linter.unusedVariables false
set_option linter.unusedSimpArgs false
namespace Go.Proofs.YtnmgfnpphglphaaGreat
open Go.RowKit
abbrev vPiece (p : Piece) : Value := .agg (encPiece p)
abbrev vWhere (p : Where) : Value := .agg (encWhere p)
abbrev vItem (p : Item) : Value := .agg (encItem p)
abbrev vInts (s : Sl Int) : Value := s.v
structure Led where
 pieces : List (Int × Piece)
 wher : List (Int × Where)
 glass : List (Int × Int)
 items : List (Int × Item)
 releads : List Relead
 conflicts : List Ref
 trays : List (Ref × Sl Int)
 to_ : List (Ref × Int)
def mapV {κ α β : Type} (f : α → β) (m : List (κ × α)) : List (κ × β) := m.map fun p => (p.1, f p.2)
def Led.abs (L : Led) : LedA := ⟨mapV Piece.abs L.pieces, L.wher, L.glass, mapV Item.abs L.items, L.releads.map Relead.abs, L.conflicts, mapV (fun s => s.val) L.trays, L.to_⟩
theorem aget_mapV {κ α β : Type} [DecidableEq κ] (f : α → β) (m : List (κ × α)) (k : κ) : aget (mapV f m) k = (aget m k).map f := by
 simp only [aget, mapV, List.find?_map, Option.map_map]; rfl
theorem ahas_mapV {κ α β : Type} [DecidableEq κ] (f : α → β) (m : List (κ × α)) (k : κ) : ahas (mapV f m) k = ahas m k := by
 rw [← aget_isSome, aget_mapV, ← aget_isSome]; simp
theorem aput_mapV {κ α β : Type} [DecidableEq κ] (f : α → β) (m : List (κ × α)) (k : κ) (x : α) : aput (mapV f m) k (f x) = mapV f (aput m k x) := by
 unfold aput
 rw [ahas_mapV]
 split
 ·simp only [mapV, List.map_map]
  refine List.map_congr_left fun p _ => ?_
  simp only [Function.comp]
  split <;> simp_all
 ·simp [mapV]
theorem adel_mapV {κ α β : Type} [DecidableEq κ] (f : α → β) (m : List (κ × α)) (k : κ) : adel (mapV f m) k = mapV f (adel m k) := by
 simp only [adel, mapV, List.filter_map]; rfl
def LD (b N : Nat) : Nat → Prop := fun k => (b ≤ k ∧ k < b + 7) ∨ N ≤ k
structure LedAt (b N : Nat) (w : World) (L : Led) : Prop where
 lt : b + 7 ≤ N
 le : N ≤ w.heap.size
 box : ∃ vr vc, BoxAt w (b + 6) 190 #[.map (some b), .map (some (b + 1)), .map (some (b + 2)), .map (some (b + 3)), vr, vc, .map (some (b + 4)), .map (some (b + 5))] ∧
  OwnL encRelead 2 w N 243 vr L.releads ∧ OwnL encRef 2 w N 34 vc L.conflicts ∧ (∀ g, vr.ownBlock = some g → vc.ownBlock ≠ some g)
 pieces : MapAt vi vPiece I64 w b L.pieces
 wher : MapAt vi vWhere I64 w (b + 1) L.wher
 glass : MapAt vi vi I64 w (b + 2) L.glass
 items : MapAt vi vItem I64 w (b + 3) L.items
 trays : MapAt vRef vInts gRef w (b + 4) L.trays
 to_ : MapAt vRef vi gRef w (b + 5) L.to_
 okP : ∀ p ∈ L.pieces, okPiece (LD b N) w p.2
 okW : ∀ p ∈ L.wher, okWhere (LD b N) w p.2
 okG : ∀ p ∈ L.glass, I64 p.2
 okI : ∀ p ∈ L.items, okItem (LD b N) w p.2
 okR : ∀ p ∈ L.releads, okRelead (LD b N) w p
 okC : ∀ p ∈ L.conflicts, okRef (LD b N) w p
 okT : ∀ p ∈ L.trays, Sl.OK 1 encInt okInt (LD b N) w p.2
 okO : ∀ p ∈ L.to_, I64 p.2
structure Chg (b N : Nat) (w w' : World) : Prop where
 os : w'.os = w.os
 tape : w'.tape = w.tape
 output : w'.output = w.output
 size : w.heap.size ≤ w'.heap.size
 block : ∀ k, k < w.heap.size → ¬ LD b N k → w'.heap[k]? = w.heap[k]?
theorem Chg.refl (b N : Nat) (w : World) : Chg b N w w := ⟨rfl, rfl, rfl, Nat.le_refl _, fun _ _ _ => rfl⟩
theorem Chg.weak {b N M : Nat} {w w' : World} (h : Chg b M w w') (hNM : N ≤ M) : Chg b N w w' := ⟨h.os, h.tape, h.output, h.size, fun k hk hn => h.block k hk (fun hd => hn (hd.imp id (fun h => Nat.le_trans hNM h)))⟩
theorem Chg.trans {b N : Nat} {a c d : World} (h : Chg b N a c) (k : Chg b N c d) : Chg b N a d :=
 ⟨k.os.trans h.os, k.tape.trans h.tape, k.output.trans h.output, Nat.le_trans h.size k.size, fun i hi hn => (k.block i (Nat.lt_of_lt_of_le hi h.size) hn).trans (h.block i hi hn)⟩
theorem Chg.ext {b N : Nat} {w w' : World} (h : Chg b N w w') : Ext (LD b N) w w' := ⟨h.size, h.block⟩
theorem Chg.of_below {b N : Nat} {w w' : World} (h : Below w.heap.size w w') : Chg b N w w' := ⟨h.os, h.tape, h.output, h.size, fun k hk _ => h.block k hk⟩
theorem Chg.of_turn {b N c : Nat} {w w' : World} (h : Turn c w w') (hc : LD b N c) : Chg b N w w' := ⟨h.os, h.tape, h.output, Nat.le_of_eq h.size.symm, fun k _ hn => h.block k (fun e => hn (e ▸ hc))⟩
theorem Chg.below {b N n : Nat} {w w' : World} (h : Chg b N w w') (h1 : n ≤ b) (h2 : n ≤ N) (h3 : n ≤ w.heap.size) : Below n w w' :=
 ⟨h.os, h.tape, h.output, h.size, fun k hk => h.block k (Nat.lt_of_lt_of_le hk h3) (fun hd => by unfold LD at hd; omega)⟩
theorem okInts_ext {D : Nat → Prop} {w w' : World} {s : Sl Int} (h : Sl.OK 1 encInt okInt D w s) (hx : Ext D w w') : Sl.OK 1 encInt okInt D w' s := Sl.OK.ext (w := w) (w' := w') (fun _ h => h) h hx
theorem LedAt.below {b N : Nat} {w w' : World} {L : Led} (h : LedAt b N w L) (hb : Below w.heap.size w w') : LedAt b N w' L := by
 obtain ⟨vr, vc, h1, h2, h3, h4⟩ := h.box
 have hx := Ext.of_below (D := LD b N) hb
 exact ⟨h.lt, Nat.le_trans h.le hb.size, ⟨vr, vc, h1.belowAll hb, h2.belowAll hb, h3.belowAll hb, h4⟩, h.pieces.below hb h.pieces.lt, h.wher.below hb h.wher.lt, h.glass.below hb h.glass.lt, h.items.below hb h.items.lt,
  h.trays.below hb h.trays.lt, h.to_.below hb h.to_.lt, fun p hp => okPiece.ext (h.okP p hp) hx, fun p hp => h.okW p hp, h.okG, fun p hp => okItem.ext (h.okI p hp) hx, fun p hp => okRelead.ext (h.okR p hp) hx, fun p hp => h.okC p hp,
  fun p hp => okInts_ext (h.okT p hp) hx, h.okO⟩
theorem LedAt.cP {b N : Nat} {w : World} {L : Led} (h : LedAt b N w L) : w.cell? ⟨b + 6, 0, none⟩ = some (.map (some b)) := by obtain ⟨vr, vc, h1, _⟩ := h.box; exact h1.cell 0
theorem LedAt.cW {b N : Nat} {w : World} {L : Led} (h : LedAt b N w L) : w.cell? ⟨b + 6, 1, none⟩ = some (.map (some (b + 1))) := by obtain ⟨vr, vc, h1, _⟩ := h.box; exact h1.cell 1
theorem LedAt.cG {b N : Nat} {w : World} {L : Led} (h : LedAt b N w L) : w.cell? ⟨b + 6, 2, none⟩ = some (.map (some (b + 2))) := by obtain ⟨vr, vc, h1, _⟩ := h.box; exact h1.cell 2
theorem LedAt.cI {b N : Nat} {w : World} {L : Led} (h : LedAt b N w L) : w.cell? ⟨b + 6, 3, none⟩ = some (.map (some (b + 3))) := by obtain ⟨vr, vc, h1, _⟩ := h.box; exact h1.cell 3
theorem LedAt.cT {b N : Nat} {w : World} {L : Led} (h : LedAt b N w L) : w.cell? ⟨b + 6, 6, none⟩ = some (.map (some (b + 4))) := by obtain ⟨vr, vc, h1, _⟩ := h.box; exact h1.cell 6
theorem LedAt.cO {b N : Nat} {w : World} {L : Led} (h : LedAt b N w L) : w.cell? ⟨b + 6, 7, none⟩ = some (.map (some (b + 5))) := by obtain ⟨vr, vc, h1, _⟩ := h.box; exact h1.cell 7
theorem zeroWhere (w : World) : (zeroValue 105).run Tryz.prog w = .ok (vWhere zWhere) w := by kernel_rfl
theorem LedAt.setW {b N : Nat} {w w' : World} {L : Led} {m : List (Int × Where)} (h : LedAt b N w L) (hm : MapAt vi vWhere I64 w' (b + 1) m) (hT : Turn (b + 1) w w') (hok : ∀ p ∈ m, okWhere (LD b N) w p.2) : LedAt b N w' { L with wher := m } := by
 obtain ⟨vr, vc, h1, h2, h3, h4⟩ := h.box
 have hlt := h.lt
 have hx := (Chg.of_turn (b := b) (N := N) hT (.inl (by omega))).ext
 have ho : ∀ {α : Type} {enc : α → Array Value} {sz : Nat} {e : TypeId} {v : Value} {l : List α}, OwnL enc sz w N e v l → OwnL enc sz w' N e v l := fun hh => hh.turn hT (own_ne hh (by omega))
 exact ⟨h.lt, by rw [hT.size]; exact h.le, ⟨vr, vc, h1.turn hT (by omega), ho h2, ho h3, h4⟩, h.pieces.turn hT (by omega), hm, h.glass.turn hT (by omega), h.items.turn hT (by omega),
  h.trays.turn hT (by omega), h.to_.turn hT (by omega), fun p hp => okPiece.ext (h.okP p hp) hx, fun p hp => hok p hp, h.okG, fun p hp => okItem.ext (h.okI p hp) hx, fun p hp => okRelead.ext (h.okR p hp) hx, fun p hp => h.okC p hp,
  fun p hp => okInts_ext (h.okT p hp) hx, h.okO⟩
theorem at_any (b N : Nat) (L : Led) (piece bench : Int) (w : World) (h : LedAt b N w L) (hp : I64 piece) :
  Calls Tryz.prog 189 #[.pointer (some ⟨b + 6, 0, none⟩), .int .i64 piece, .int .i64 bench] w fun e w' => e = .returned (.bool (atW L.wher piece bench)) ∧ Below w.heap.size w w' := by
 have hc := h.cW
 have HW := Lib.hid h.wher
 have HG := Lib.hid hp
 obtain ⟨x, hx⟩ : ∃ x, (aget L.wher piece).getD zWhere = x := ⟨_, rfl⟩
 have HX := Lib.hid hx
 have HE : Hid (atW L.wher piece bench = (decide (x.kind = 1) && decide (x.at_ = bench))) := Lib.hid (by rw [← hx]; rfl)
 clear h hx hp
 go_enter Tryz.func189, Tryz.ntmps189
 go_wp2_with (first
  | (with_reducible refine at_dst 13 ?_; refine wpList_look rfl _ _ 184 rfl intKey Tryz.underlying184 zWhere (zeroWhere _) rfl HW.out piece HG.out rfl ?_; rw [HX.out])
  | (with_reducible refine at_store ?_; refine wpList_store_last (cs := encWhere x) rfl 105 _ _ rfl rfl rfl rfl (by kernel_rfl) rfl (encWhere_one _) ?_))
 all_goals go_ret
 all_goals exact ⟨by simp [HE.out, *] <;> (rw [Bool.eq_iff_iff]; simp_all), (Below.refl _ _).alloc (Nat.le_refl _) _⟩
theorem put_any (b N : Nat) (L : Led) (piece bench : Int) (w : World) (h : LedAt b N w L) (hp : I64 piece) (hbn : I64 bench) :
  Calls Tryz.prog 190 #[.pointer (some ⟨b + 6, 0, none⟩), .int .i64 piece, .int .i64 bench] w fun e w' => e = .returned (.tuple #[]) ∧ LedAt b N w' { L with wher := putW L.wher piece bench } ∧ Chg b w.heap.size w w' := by
 have hc := h.cW
 have HL := Lib.hid h
 have HG := Lib.hid hp
 have HB := Lib.hid hbn
 clear h hp hbn
 go_enter Tryz.func190, Tryz.ntmps190
 go_wp2_with (at_mapUpdate; refine wpList_store_map rfl _ _ _ 184 rfl intKey Tryz.underlying184 rfl HL.out.wher piece HG.out rfl (benchW piece bench) rfl ?_; intro w1 hm hT)
 go_end0
 refine ⟨rfl, ?_, Chg.of_turn hT (.inl (by omega))⟩
 refine HL.out.setW hm hT fun p hp => ?_
 rcases mem_aput hp with rfl | hp
 ·exact ⟨HG.out, (show I64 1 from by unfold I64; decide), HB.out, I64_zero, I64_zero, I64_zero⟩
 ·exact HL.out.okW p hp
end Go.Proofs.YtnmgfnpphglphaaGreat
end
section
set_option linter.unusedVariables false
set_option linter.unusedSimpArgs false
namespace Go.Proofs.YtnmgfnpphglphaaGreat
open Go.RowKit
theorem run_look {κ ν : Type} [DecidableEq κ] {P : Program} {Km : κ → Value} {V : ν → Value} {good : κ → Prop} {W : World} {b : Nat} {m : List (κ × ν)} {kt et : TypeId} {ev : Operand → Value} {dst : Option Tmp} {ty0 : TypeId} {pos : String} {af : Array Edge} {g : Option (Nat × Bool)}
  {mm x : Operand} {t : TypeId} {c : Bool} (KO : KeyOK P kt Km good) (ht : P.underlying t = some (.map kt et)) (d : ν) (hz : (zeroValue et).run P W = .ok (V d) W)
  (hm : ev mm = .map (some b)) (h : MapAt Km V good W b m) (k : κ) (hk : good k) (hx : ev x = Km k) :
  (execOp ev ⟨dst, .lookup t mm x c, ty0, pos, af, g⟩).run P W = .ok (.value (if c then .tuple #[V ((aget m k).getD d), .bool (ahas m k)] else V ((aget m k).getD d))) W := by
 have hrun := h.look KO ht c d hz hk
 simp [execOp, hm, hx, hrun, Result.andThen]
theorem BoxAt.newN {n : Nat} (w : World) (T : TypeId) (cs : Array Value) (hn : n = w.heap.size) : BoxAt (w.alloc (.cells cs T)) n T cs := hn ▸ BoxAt.new w T cs
theorem zeroPiece (w : World) : (zeroValue 93).run Tryz.prog w = .ok (vPiece zPiece) w := by kernel_rfl
theorem known1_any (b N c : Nat) (L : Led) (p : Piece) (w : World) (h : LedAt b N w L) (hc : BoxAt w c 179 #[.pointer (some ⟨b + 6, 0, none⟩)]) (hp : I64 p.id) :
  Calls Tryz.prog 214 #[.agg (encPiece p), .pointer (some ⟨c, 0, none⟩)] w fun e w' => e = .returned (.bool (ahas L.pieces p.id)) ∧ Below w.heap.size w w' := by
 have hB : Below w.heap.size w (w.alloc (.cells (encPiece p) 93)).drew := ((Below.refl _ _).alloc (Nat.le_refl _) _).drew
 have hbP : BoxAt (w.alloc (.cells (encPiece p) 93)).drew w.heap.size 93 (encPiece p) := (BoxAt.new _ _ _).drew
 have hbC : BoxAt (w.alloc (.cells (encPiece p) 93)).drew c 179 #[.pointer (some ⟨b + 6, 0, none⟩)] := (hc.alloc _).drew
 have hL : LedAt b N (w.alloc (.cells (encPiece p) 93)).drew L := h.below (((Below.refl _ _).alloc (Nat.le_refl _) _).drew)
 have hgl : b + 6 < (w.alloc (.cells (encPiece p) 93)).drew.heap.size := by obtain ⟨vr, vc, h1, _⟩ := hL.box; exact h1.lt
 have HL := Lib.hid hL
 have HG := Lib.hid hp
 obtain ⟨y, hy⟩ : ∃ y, (aget L.pieces p.id).getD zPiece = y := ⟨_, rfl⟩
 have HY := Lib.hid hy
 clear h hc hp hL hy
 go_enter Tryz.func214, Tryz.ntmps214
 go_wp2
 refine wp_region_mark 11 [(4, none), (0, some true), (1, none), (2, none), (3, some true), (5, some true), (6, some true), (7, none), (8, none), (9, none), (10, some false), (11, some false), (12, some false)] rfl (by kernel_rfl) (by kernel_rfl) (fun d _ _ _ _ h => by cases d <;> exact h) ?_
 refine wpC_pure rfl rfl (fun W => by go_simp; with_reducible rfl) ?_; simp only [pTs, pTn, pTz, pTc]
 refine wpC_fix (v := .pointer (some ⟨b + 6, 0, none⟩)) rfl rfl (fun W hW => by have e : W.cell? ⟨c, 0, none⟩ = some (.pointer (some ⟨b + 6, 0, none⟩)) := ((hbC.belowAll hW).cell 0).trans rfl; go_simp) ?_; simp only [pTs, pTn, pTz, pTc]
 iterate 2 (refine wpC_pure rfl rfl (fun W => by go_simp; with_reducible rfl) ?_; simp only [pTs, pTn, pTz, pTc])
 refine wpC_fix (v := .map (some b)) rfl rfl (fun W hW => by have e : W.cell? ⟨b + 6, 0, none⟩ = some (.map (some b)) := (hW.cell (p := ⟨b + 6, 0, none⟩) hgl).trans HL.out.cP; go_simp) ?_; simp only [pTs, pTn, pTz, pTc]
 refine wpC_fix (v := vi p.id) rfl rfl (fun W hW => by have e : W.cell? ⟨w.heap.size, 0, none⟩ = some (vi p.id) := ((hbP.belowAll hW).cell 0).trans rfl; go_simp) ?_; simp only [pTs, pTn, pTz, pTc]
 refine wpC_fix (v := .tuple #[vPiece ((aget L.pieces p.id).getD zPiece), .bool (ahas L.pieces p.id)]) rfl rfl (fun W hW => run_look intKey Tryz.underlying183 zPiece (zeroPiece _) rfl (HL.out.pieces.below hW HL.out.pieces.lt) p.id HG.out rfl) ?_; simp only [pTs, pTn, pTz, pTc]
 iterate 3 (refine wpC_pure rfl rfl (fun W => by go_simp; with_reducible rfl) ?_; simp only [pTs, pTn, pTz, pTc])
 refine wpC_act rfl rfl rfl (fun K hK => ?_)
 go_simp
 refine hK _ _ ((Below.refl _ _).alloc (Nat.le_refl _) _) ?_
 clear hK K
 try simp only [pTs, pTn, pTz, pTc]
 refine wpC_mark rfl rfl (fun K hK => ?_)
 refine wp_store_box (BoxAt.newN (n := w.heap.size + 1) _ _ _ (by simp)) _ _ _ rfl rfl (vPiece ((aget L.pieces p.id).getD zPiece)) rfl (by kernel_rfl) rfl (one_agg (encPiece_one _)) ?_
 intro w1 hb1 hT
 have hB1 : Below w.heap.size w w1 := (hB.alloc (Nat.le_of_lt hbP.lt) _).trans (hT.below (Nat.le_succ _))
 clear hT hb1
 refine hK _ _ ?_
 clear hK K
 try simp only [pTs, pTn, pTz, pTc]
 refine wpC_past rfl rfl (fun K hK => ?_)
 go_simp
 refine hK _ _ ?_
 clear hK K
 try simp only [pTs, pTn, pTz, pTc]
 simp only [wpC]
 go_wp2
 go_ret
 exact ⟨by simp, hB1⟩
theorem index_known (c0 : Value) (D : Nat → Prop) (s : Sl Piece) (w : World) (hs : s.OK 7 encPiece okPiece D w) (p : Piece → Bool)
  (hp : ∀ x, okPiece D w x → ∀ W, Below w.heap.size w W → Calls Tryz.prog 214 #[.agg (encPiece x), c0] W fun e W' => e = .returned (.bool (p x)) ∧ Below W.heap.size W W') :
  Calls Tryz.prog 178 #[.slice s.a s.val.length s.cap, .func (.func 214) #[] #[c0]] w fun e w' => e = .returned (.int .i64 (idxI p s.val)) ∧ Below w.heap.size w w' := by
 have hroom := hs.room
 have HP := Lib.hid hp
 have HS := Lib.hid hs
 clear hp hs
 obtain ⟨a, cap, val⟩ := s
 simp only at hroom
 go_enter Tryz.func178, Tryz.ntmps178
 go_wp2
 go_loopw [5, 8] (fun _ i wr => ∃ k : Nat, k ≤ val.length ∧ i = .int .i64 k ∧ Hid (∀ j y, j < k → val[j]? = some y → p y = false) ∧ Below w.heap.size w wr) (fun _ i _ => val.length - (intOf i).toNat)
 case atStart => exact ⟨0, Nat.zero_le _, rfl, Lib.hid (by omega), Below.refl _ _⟩
 case round =>
  obtain ⟨k, hk, rfl, hn, hB⟩ := hrel
  by_cases hlt : k < val.length
  ·obtain ⟨x, hx⟩ : ∃ x, val[k]? = some x := ⟨_, List.getElem?_eq_getElem hlt⟩
   have HX := Lib.hid hx
   obtain ⟨b, o, rfl, hb, _, hok, hcell⟩ := HS.out.at hx
   have HC : Hid (∀ j, j < (encPiece x).size → wr.cell? ⟨b, o + k * 7 + j, none⟩ = (encPiece x)[j]?) := Lib.hid fun j hj => by
    rw [(Ext.of_below (D := fun _ => False) hB).cell hb id]; exact hcell j hj
   clear hx hcell
   have hcall := HP.out x hok wr hB
   have HCL := Lib.hid hcall
   clear hcall
   by_cases hpx : p x = true
   ·have HPX := Lib.hid hpx
    clear hpx
    go_wp2_with (first
     | (refine wpList_load_at rfl 93 _ rfl b (o + k * 7) rfl (encPiece x) _ HC.out Tryz.underlying93 rfl (by kernel_rfl) ?_)
     | (go_at_call 214; refine HCL.out.mono ?_; rintro e w1 ⟨rfl, hb1⟩; rw [HPX.out]))
    go_ret
    exact ⟨by simp [idxI_hit HX.out hn.out HPX.out], hB.trans (hb1.mono hB.size)⟩
   ·have HPX : Hid (p x = false) := Lib.hid (by simpa using hpx)
    clear hpx
    go_wp2_with (first
     | (refine wpList_load_at rfl 93 _ rfl b (o + k * 7) rfl (encPiece x) _ HC.out Tryz.underlying93 rfl (by kernel_rfl) ?_)
     | (go_at_call 214; refine HCL.out.mono ?_; rintro e w1 ⟨rfl, hb1⟩; rw [HPX.out]))
    go_roundw
    case rel =>
     refine ⟨k + 1, by omega, by go_num, Lib.hid fun j y hj hy => ?_, hB.trans (hb1.mono hB.size)⟩
     rcases Nat.lt_succ_iff_lt_or_eq.1 hj with h | rfl
     ·exact hn.out j y h hy
     ·rw [HX.out] at hy; cases hy; exact HPX.out
    case measure => simp [intOf]; omega
  ·go_wp2
   go_ret
   refine ⟨?_, hB⟩
   rw [idxI_none fun j y hy => hn.out j y (by have := (List.getElem?_eq_some_iff.1 hy).1; omega) hy]
   rfl
theorem contains_known (c0 : Value) (D : Nat → Prop) (s : Sl Piece) (w : World) (hs : s.OK 7 encPiece okPiece D w) (p : Piece → Bool)
  (hp : ∀ x, okPiece D w x → ∀ W, Below w.heap.size w W → Calls Tryz.prog 214 #[.agg (encPiece x), c0] W fun e W' => e = .returned (.bool (p x)) ∧ Below W.heap.size W W') :
  Calls Tryz.prog 134 #[.slice s.a s.val.length s.cap, .func (.func 214) #[] #[c0]] w fun e w' => e = .returned (.bool (s.val.any p)) ∧ Below w.heap.size w w' := by
 have H := Lib.hid (index_known c0 D s w hs p hp)
 have hg := Lib.hid (idxI_ge p s.val)
 clear hp hs
 go_enter Tryz.func134, Tryz.ntmps134
 go_wp2_with (go_at_call 178; refine H.out.mono ?_; rintro e w1 ⟨rfl, hb1⟩)
 go_ret
 exact ⟨by simp [← hg.out], hb1⟩
theorem known_any (b N : Nat) (L : Led) (D : Nat → Prop) (s : Sl Piece) (w : World) (h : LedAt b N w L) (hs : s.OK 7 encPiece okPiece D w) :
  Calls Tryz.prog 185 #[.pointer (some ⟨b + 6, 0, none⟩), .slice s.a s.val.length s.cap] w fun e w' => e = .returned (.bool (s.val.any fun p => ahas L.pieces p.id)) ∧ Below w.heap.size w w' := by
 have hB : Below w.heap.size w (w.alloc (.cells #[.pointer (some ⟨b + 6, 0, none⟩)] 179)) := (Below.refl _ _).alloc (Nat.le_refl _) _
 have HC := Lib.hid (contains_known (.pointer (some ⟨w.heap.size, 0, none⟩)) D s (w.alloc (.cells #[.pointer (some ⟨b + 6, 0, none⟩)] 179)) (hs.ext (fun _ hk => okPiece.ext hk (.of_below hB)) (.of_below hB)) (fun p => ahas L.pieces p.id)
  fun x hx W hW => known1_any b N w.heap.size L x W ((h.below hB).below hW) ((BoxAt.new _ _ _).belowAll hW) hx.1)
 clear h hs
 go_enter Tryz.func185, Tryz.ntmps185
 go_wp2_with (go_at_call 134; refine HC.out.mono ?_; rintro e w1 ⟨rfl, hb1⟩)
 all_goals go_ret
 all_goals exact ⟨by simp, Below.call hB hb1 (Nat.le_refl _)⟩
end Go.Proofs.YtnmgfnpphglphaaGreat
end
section
set_option linter.unusedVariables false
set_option linter.unusedSimpArgs false
namespace Go.Proofs.YtnmgfnpphglphaaGreat
open Go.RowKit
theorem LedAt.setP {b N : Nat} {w w' : World} {L : Led} {m : List (Int × Piece)} (h : LedAt b N w L) (hm : MapAt vi vPiece I64 w' b m) (hT : Turn b w w') (hok : ∀ p ∈ m, okPiece (LD b N) w p.2) : LedAt b N w' { L with pieces := m } := by
 obtain ⟨vr, vc, h1, h2, h3, h4⟩ := h.box
 have hlt := h.lt
 have hx := (Chg.of_turn (b := b) (N := N) hT (.inl (by omega))).ext
 have ho : ∀ {α : Type} {enc : α → Array Value} {sz : Nat} {e : TypeId} {v : Value} {l : List α}, OwnL enc sz w N e v l → OwnL enc sz w' N e v l := fun hh => hh.turn hT (own_ne hh (by omega))
 exact ⟨h.lt, by rw [hT.size]; exact h.le, ⟨vr, vc, h1.turn hT (by omega), ho h2, ho h3, h4⟩, hm, h.wher.turn hT (by omega), h.glass.turn hT (by omega), h.items.turn hT (by omega),
  h.trays.turn hT (by omega), h.to_.turn hT (by omega), fun p hp => okPiece.ext (hok p hp) hx, fun p hp => h.okW p hp, h.okG, fun p hp => okItem.ext (h.okI p hp) hx, fun p hp => okRelead.ext (h.okR p hp) hx, fun p hp => h.okC p hp,
  fun p hp => okInts_ext (h.okT p hp) hx, h.okO⟩
def regL (L : Led) (l : List Piece) (bench : Int) : Led := { L with pieces := l.foldl (fun m p => aput m p.id p) L.pieces, wher := putsW L.wher (l.map (·.id)) bench }
theorem regL_snoc (L : Led) (l : List Piece) (x : Piece) (bench : Int) : regL L (l ++ [x]) bench = { { regL L l bench with pieces := aput (regL L l bench).pieces x.id x } with wher := putW (regL L l bench).wher x.id bench } := by
 simp [regL, putsW]
theorem register_any (b N : Nat) (L : Led) (s : Sl Piece) (bench : Int) (w : World) (h : LedAt b N w L) (hs : s.OK 7 encPiece okPiece (LD b N) w) (hbn : I64 bench) :
  Calls Tryz.prog 186 #[.pointer (some ⟨b + 6, 0, none⟩), .slice s.a s.val.length s.cap, .int .i64 bench] w fun e w' => e = .returned (.tuple #[]) ∧ LedAt b N w' (regL L s.val bench) ∧ Chg b w.heap.size w w' := by
 have hle := h.le
 have hroom := hs.room
 have HS := Lib.hid hs
 have HL0 := Lib.hid h
 have HB := Lib.hid hbn
 clear hs h hbn
 obtain ⟨a, cap, val⟩ := s
 simp only at hroom
 go_enter Tryz.func186, Tryz.ntmps186
 go_wp2
 go_loopw [7, 10] (fun _ i wr => ∃ k : Nat, k ≤ val.length ∧ i = .int .i64 k ∧ Hid (LedAt b N wr (regL L (val.take k) bench)) ∧ Hid (Chg b w.heap.size w wr)) (fun _ i _ => val.length - (intOf i).toNat)
 case atStart => exact ⟨0, Nat.zero_le _, rfl, Lib.hid (by simpa [regL, putsW] using HL0.out), Lib.hid (Chg.refl _ _ _)⟩
 case round =>
  obtain ⟨k, hk, rfl, HL, HCh⟩ := hrel
  by_cases hlt : k < val.length
  ·obtain ⟨x, hx⟩ : ∃ x, val[k]? = some x := ⟨_, List.getElem?_eq_getElem hlt⟩
   obtain ⟨bb, o, rfl, hb, hnd, hok, hcell⟩ := HS.out.at hx
   have HC : Hid (∀ j, j < (encPiece x).size → wr.cell? ⟨bb, o + k * 7 + j, none⟩ = (encPiece x)[j]?) := Lib.hid fun j hj => by
    rw [(HCh.out.weak hle).ext.cell hb hnd]; exact hcell j hj
   have hi1 : (k : Int) < (val.length : Int) := by omega
   have HX := Lib.hid hx
   have HOK : Hid (okPiece (LD b N) wr x) := Lib.hid (okPiece.ext hok (HCh.out.weak hle).ext)
   have HG : Hid (I64 x.id) := Lib.hid hok.1
   have hbel : Below wr.heap.size wr (wr.alloc (.cells (encPiece x) 93)).drew := ((Below.refl _ _).alloc (Nat.le_refl _) _).drew
   have hL1 : LedAt b N (wr.alloc (.cells (encPiece x) 93)).drew (regL L (val.take k) bench) := HL.out.below hbel
   have HL1 := Lib.hid hL1
   have hbX : BoxAt (wr.alloc (.cells (encPiece x) 93)).drew wr.heap.size 93 (encPiece x) := (BoxAt.new _ _ _).drew
   have hne : wr.heap.size ≠ b := by have h1 := HL.out.lt; have h2 := HL.out.le; omega
   have hgl : b + 6 < (wr.alloc (.cells (encPiece x) 93)).drew.heap.size := by obtain ⟨vr, vc, h1, _⟩ := hL1.box; exact h1.lt
   clear hx hok hcell hL1 hnd hb
   go_wp2_with (first
    | (with_reducible refine at_dst 13 ?_; refine wpList_load_at rfl 93 _ rfl bb (o + k * 7) rfl (encPiece x) _ HC.out Tryz.underlying93 rfl (by kernel_rfl) ?_)
    | (with_reducible refine at_store ?_; refine wpList_store_last (cs := encPiece x) rfl 93 _ _ rfl rfl rfl rfl (by kernel_rfl) rfl (encPiece_one _) ?_))
   refine wp_region_mark 7 [(0, none), (1, none), (2, none), (4, none), (3, some true), (5, some true), (6, some true), (7, some false)] rfl (by kernel_rfl) (by kernel_rfl) (fun d _ _ _ _ h => by cases d <;> exact h) ?_
   iterate 4 (refine wpC_pure rfl rfl (fun W => by go_simp; with_reducible rfl) ?_; simp only [pTs, pTn, pTz, pTc])
   refine wpC_fix (v := .map (some b)) rfl rfl (fun W hW => by have e : W.cell? ⟨b + 6, 0, none⟩ = some (.map (some b)) := (hW.cell (p := ⟨b + 6, 0, none⟩) hgl).trans HL1.out.cP; go_simp) ?_; simp only [pTs, pTn, pTz, pTc]
   refine wpC_fix (v := vi x.id) rfl rfl (fun W hW => by have e : W.cell? ⟨wr.heap.size, 0, none⟩ = some (vi x.id) := ((hbX.belowAll hW).cell 0).trans rfl; go_simp) ?_; simp only [pTs, pTn, pTz, pTc]
   refine wpC_fix (v := .agg (encPiece x)) rfl rfl (fun W hW => run_load_box (encPiece x) (hbX.belowAll hW) rfl (whole_cells _) Tryz.underlying93 rfl (by kernel_rfl)) ?_; simp only [pTs, pTn, pTz, pTc]
   refine wpC_mark rfl rfl (fun K hK => ?_)
   refine wp_store_map _ _ _ 183 rfl intKey Tryz.underlying183 rfl HL1.out.pieces x.id HG.out rfl x rfl ?_
   intro w1 hm hT
   have HL2 : Hid (LedAt b N w1 { regL L (val.take k) bench with pieces := aput (regL L (val.take k) bench).pieces x.id x }) := Lib.hid (HL1.out.setP hm hT (fun p hp => by rcases mem_aput hp with rfl | hp; exact okPiece.ext HOK.out (.of_below hbel); exact HL1.out.okP p hp))
   have hcx : w1.cell? ⟨wr.heap.size, 0, none⟩ = some (vi x.id) := ((hbX.turn hT hne).cell 0).trans rfl
   have HC1 : Hid (Chg b w.heap.size w w1) := Lib.hid (HCh.out.trans ((Chg.of_below hbel).trans (Chg.of_turn hT (.inl (by omega)))))
   clear hT hm
   refine hK _ _ ?_
   clear hK K
   try simp only [pTs, pTn, pTz, pTc]
   simp only [wpC]
   go_wp2_with (go_at_call 190; refine (put_any b N _ x.id bench _ HL2.out HG.out HB.out).mono ?_; rintro e w2 ⟨rfl, hL3, hC3⟩)
   go_roundw
   case rel => exact ⟨k + 1, by omega, by go_num, Lib.hid (by rw [take_snoc HX.out, regL_snoc]; exact hL3), Lib.hid (HC1.out.trans (hC3.weak HC1.out.size))⟩
   case measure => simp [intOf]; omega
  ·have hk' : k = val.length := by omega
   have HF : Hid (LedAt b N wr (regL L val bench)) := Lib.hid (by have h := HL.out; rwa [hk', List.take_length] at h)
   go_wp2
   go_end0
   exact ⟨rfl, HF.out, HCh.out⟩
end Go.Proofs.YtnmgfnpphglphaaGreat
end
section
set_option linter.unusedVariables false
set_option linter.unusedSimpArgs false
namespace Go.Proofs.YtnmgfnpphglphaaGreat
open Go.RowKit
theorem foldl_aput_mapV (f : Piece → PieceA) (hf : ∀ p, (f p).id = p.id) : ∀ (l : List Piece) (m : List (Int × Piece)), mapV f (l.foldl (fun m p => aput m p.id p) m) = (l.map f).foldl (fun m p => aput m p.id p) (mapV f m)
 | [], _ => rfl
 | p :: l, m => by
  simp only [List.foldl_cons, List.map_cons]
  rw [foldl_aput_mapV f hf l, ← aput_mapV, hf]
theorem regL_abs (L : Led) (l : List Piece) (bench : Int) : (regL L l bench).abs = registerA L.abs (l.map Piece.abs) bench := by
 simp only [regL, registerA, Led.abs, foldl_aput_mapV Piece.abs (fun _ => rfl), List.map_map]
 rfl
theorem knownA_abs (L : Led) (l : List Piece) : knownA L.abs (l.map Piece.abs) = l.any fun p => ahas L.pieces p.id := by
 simp only [knownA, List.any_map, Led.abs]
 congr 1
 funext p
 simp only [Function.comp, ahas_mapV]; rfl
def sendL (L : Led) (n : Note) : Led := { L with wher := sendW L.wher n.pieces.val (refN n), trays := aput L.trays (refN n) n.pieces, to_ := aput L.to_ (refN n) n.to }
def sendNo (L : Led) (n : Note) : Bool := decide (n.to = n.bench) || n.pieces.val.any fun p => !atW L.wher p n.bench
theorem sendL_abs (L : Led) (n : Note) : (if sendNo L n = true then (L.abs, false) else ((sendL L n).abs, true)) = sendA L.abs n.abs := by
 unfold sendA sendL
 simp only [Led.abs]
 rw [← aput_mapV]
 rfl
def unpackNo (L : Led) (n : Note) : Bool := !ahas L.trays n.ref || !decide ((aget L.to_ n.ref).getD 0 = n.bench)
def unpackL (L : Led) (n : Note) : Led := { L with wher := putsW L.wher ((aget L.trays n.ref).getD Sl.nil).val n.bench, trays := adel L.trays n.ref }
theorem unpackL_abs (L : Led) (n : Note) : (if unpackNo L n = true then (L.abs, false) else ((unpackL L n).abs, true)) = unpackA L.abs n.abs := by
 unfold unpackA unpackL unpackNo
 simp only [Led.abs, ahas_mapV, aget_mapV]
 rw [← adel_mapV]
 have : ((aget L.trays n.ref).getD Sl.nil).val = (Option.map (fun s : Sl Int => s.val) (aget L.trays n.ref)).getD [] := by cases aget L.trays n.ref <;> rfl
 rw [this]
 rfl
def findNo (L : Led) (n : Note) : Bool := n.data.val.any fun p => ahas L.pieces p.id
theorem findL_abs (L : Led) (n : Note) : (if findNo L n = true then (L.abs, false) else ((regL L n.data.val n.bench).abs, true)) = findA L.abs n.abs := by
 unfold findA
 rw [regL_abs, show n.abs.data = n.data.val.map Piece.abs from rfl, knownA_abs]
 rfl
def setL (L : Led) (n : Note) : Led × Bool :=
 if n.piece = 0 then ({ L with glass := aput L.glass n.pane n.colour }, true)
 else if (!atW L.wher n.piece 1) = true then (L, false)
 else ({ L with wher := aput L.wher n.piece ⟨n.piece, 3, n.pane, n.setting, ⟨0, 0⟩⟩ }, true)
def Does (f : FuncId) (act : LedA → NoteA → LedA × Bool) (I : LedA → NoteA → Prop) : Prop :=
 ∀ (b N : Nat) (L : Led) (n : Note) (w0 w : World), LedAt b N w0 L → Below w0.heap.size w0 w → okNote (LD b N) w n → I L.abs n.abs →
  Calls Tryz.prog f #[.pointer (some ⟨b + 6, 0, none⟩), .agg (encNote n)] w fun e w' => ∃ L', e = .returned (.bool (act L.abs n.abs).2) ∧ L'.abs = (act L.abs n.abs).1 ∧ LedAt b N w' L' ∧ Chg b N w w' ∧
   (∀ k, w0.heap.size ≤ k → k < w.heap.size → w'.heap[k]? = w.heap[k]?)
def DoesS (f : FuncId) (act : LedA → NoteA → LedA × Bool) (I : LedA → NoteA → Prop) : Prop :=
 ∀ (b N : Nat) (L : Led) (n : Note) (w : World), LedAt b N w L → okNote (LD b N) w n → I L.abs n.abs →
  Calls Tryz.prog f #[.pointer (some ⟨b + 6, 0, none⟩), .agg (encNote n)] w fun e w' => ∃ L', e = .returned (.bool (act L.abs n.abs).2) ∧ L'.abs = (act L.abs n.abs).1 ∧ LedAt b N w' L' ∧ Chg b w.heap.size w w'
theorem DoesS.does {f : FuncId} {act : LedA → NoteA → LedA × Bool} {I : LedA → NoteA → Prop} (h : DoesS f act I) : Does f act I := by
 intro b N L n w0 w h0 hB hn hI
 have hL := h0.below hB
 refine (h b N L n w hL hn hI).mono ?_
 rintro e w' ⟨L', e1, e2, h1, h2⟩
 refine ⟨L', e1, e2, h1, h2.weak hL.le, fun k hk hk2 => h2.block k hk2 (fun hd => ?_)⟩
 have := h0.lt; have := h0.le
 unfold LD at hd; omega
end Go.Proofs.YtnmgfnpphglphaaGreat
end
