/-
  The ledger: find, unpack, walked.
-/
import Derived.Test.YtnmgfnpphglphaaGreatLed
import Derived.Test.YtnmgfnpphglphaaGreatMaps
set_option maxHeartbeats 16000000
set_option maxRecDepth 100000
set_option linter.unusedVariables false
set_option linter.unusedSimpArgs false
namespace Go.Proofs.YtnmgfnpphglphaaGreat
open Go.RowKit
theorem note_ref (n : Note) : ∀ j, j < (encRef n.ref).size → (encNote n)[12 + j]? = (encRef n.ref)[j]? := fun j hj => by
 have hj : j < 2 := hj
 rcases j with _ | _ | j
 ·rfl
 ·rfl
 ·omega
theorem LedAt.lt7 {b N : Nat} {w : World} {L : Led} (h : LedAt b N w L) : b + 7 ≤ w.heap.size := Nat.le_trans h.lt h.le
theorem Does.of_no {act : LedA → NoteA → LedA × Bool} {L L' : Led} {n : Note} {no : Bool} (h : (if no = true then (L.abs, false) else (L'.abs, true)) = act L.abs n.abs) (hn : no = true) : (act L.abs n.abs).2 = false ∧ L.abs = (act L.abs n.abs).1 := by
 rw [if_pos hn] at h; rw [← h]; exact ⟨rfl, rfl⟩
theorem Does.of_yes {act : LedA → NoteA → LedA × Bool} {L L' : Led} {n : Note} {no : Bool} (h : (if no = true then (L.abs, false) else (L'.abs, true)) = act L.abs n.abs) (hn : ¬ no = true) : (act L.abs n.abs).2 = true ∧ L'.abs = (act L.abs n.abs).1 := by
 rw [if_neg hn] at h; rw [← h]; exact ⟨rfl, rfl⟩
theorem find_does : DoesS 156 findA fun _ _ => True := by
 intro b N L n w h hn _
 have hB0 : Below w.heap.size w (w.alloc (.cells (encNote n) 43)) := (Below.refl _ _).alloc (Nat.le_refl _) _
 have hbx : BoxAt (w.alloc (.cells (encNote n) 43)) w.heap.size 43 (encNote n) := BoxAt.new _ _ _
 have hL0 : LedAt b N (w.alloc (.cells (encNote n) 43)) L := h.below hB0
 have hn0 : okNote (LD b N) (w.alloc (.cells (encNote n) 43)) n := okNote.ext hn (.of_below hB0)
 have HL := Lib.hid h
 have HKN := Lib.hid (known_any b N L (LD b N) n.data _ hL0 (okNote_data hn0))
 have HRG : Hid (∀ W, Below (w.alloc (.cells (encNote n) 43)).heap.size (w.alloc (.cells (encNote n) 43)) W → _) := Lib.hid fun W hW => register_any b N L n.data n.bench W (hL0.below hW) (okNote_data (okNote.ext hn0 (.of_below hW))) hn.1
 clear h hn hL0 hn0
 by_cases hno : findNo L n = true
 ·obtain ⟨e1, e2⟩ := Does.of_no (findL_abs L n) hno
  have E1 := Lib.hid e1
  have E2 := Lib.hid e2
  have HN : Hid ((n.data.val.any fun p => ahas L.pieces p.id) = true) := Lib.hid hno
  clear e1 e2 hno
  go_enter Tryz.func156, Tryz.ntmps156
  go_wp2_with (go_at_call 185; refine HKN.out.mono ?_; rintro e w1 ⟨rfl, hb1⟩; rw [HN.out])
  go_ret
  exact ⟨L, by rw [E1.out]; rfl, E2.out, HL.out.below (hB0.trans (hb1.mono hB0.size)), .of_below (hB0.trans (hb1.mono hB0.size))⟩
 ·obtain ⟨e1, e2⟩ := Does.of_yes (findL_abs L n) hno
  have E1 := Lib.hid e1
  have E2 := Lib.hid e2
  have HN : Hid ((n.data.val.any fun p => ahas L.pieces p.id) = false) := Lib.hid (by simpa [findNo] using hno)
  clear e1 e2 hno
  go_enter Tryz.func156, Tryz.ntmps156
  go_wp2_with (first
   | (go_at_call 185; refine HKN.out.mono ?_; rintro e w1 ⟨rfl, hb1⟩; rw [HN.out]; have hbx1 := hbx.belowAll hb1; have hcd : w1.cell? ⟨w.heap.size, 16, none⟩ = some n.data.v := (hbx1.cell 16).trans rfl; have hcb : w1.cell? ⟨w.heap.size, 0, none⟩ = some (vi n.bench) := (hbx1.cell 0).trans rfl; clear hbx1)
   | (go_at_call 186; refine (HRG.out _ hb1).mono ?_; rintro e w2 ⟨rfl, hL2, hC2⟩))
  go_ret
  exact ⟨regL L n.data.val n.bench, by rw [E1.out]; rfl, E2.out, hL2, (Chg.of_below (hB0.trans (hb1.mono hB0.size))).trans (hC2.weak (hB0.trans (hb1.mono hB0.size)).size)⟩
theorem LedAt.setT {b N : Nat} {w w' : World} {L : Led} {m : List (Ref × Sl Int)} (h : LedAt b N w L) (hm : MapAt vRef vInts gRef w' (b + 4) m) (hT : Turn (b + 4) w w') (hok : ∀ p ∈ m, Sl.OK 1 encInt okInt (LD b N) w p.2) : LedAt b N w' { L with trays := m } := by
 obtain ⟨vr, vc, h1, h2, h3, h4⟩ := h.box
 have hlt := h.lt
 have hx := (Chg.of_turn (b := b) (N := N) hT (.inl (by omega))).ext
 have ho : ∀ {α : Type} {enc : α → Array Value} {sz : Nat} {e : TypeId} {v : Value} {l : List α}, OwnL enc sz w N e v l → OwnL enc sz w' N e v l := fun hh => hh.turn hT (own_ne hh (by omega))
 exact ⟨h.lt, by rw [hT.size]; exact h.le, ⟨vr, vc, h1.turn hT (by omega), ho h2, ho h3, h4⟩, h.pieces.turn hT (by omega), h.wher.turn hT (by omega), h.glass.turn hT (by omega), h.items.turn hT (by omega), hm, h.to_.turn hT (by omega), fun p hp => okPiece.ext (h.okP p hp) hx, fun p hp => h.okW p hp, h.okG, fun p hp => okItem.ext (h.okI p hp) hx, fun p hp => okRelead.ext (h.okR p hp) hx, fun p hp => h.okC p hp, fun p hp => okInts_ext (hok p hp) hx, h.okO⟩
theorem LedAt.setO {b N : Nat} {w w' : World} {L : Led} {m : List (Ref × Int)} (h : LedAt b N w L) (hm : MapAt vRef vi gRef w' (b + 5) m) (hT : Turn (b + 5) w w') (hok : ∀ p ∈ m, I64 p.2) : LedAt b N w' { L with to_ := m } := by
 obtain ⟨vr, vc, h1, h2, h3, h4⟩ := h.box
 have hlt := h.lt
 have hx := (Chg.of_turn (b := b) (N := N) hT (.inl (by omega))).ext
 have ho : ∀ {α : Type} {enc : α → Array Value} {sz : Nat} {e : TypeId} {v : Value} {l : List α}, OwnL enc sz w N e v l → OwnL enc sz w' N e v l := fun hh => hh.turn hT (own_ne hh (by omega))
 exact ⟨h.lt, by rw [hT.size]; exact h.le, ⟨vr, vc, h1.turn hT (by omega), ho h2, ho h3, h4⟩, h.pieces.turn hT (by omega), h.wher.turn hT (by omega), h.glass.turn hT (by omega), h.items.turn hT (by omega), h.trays.turn hT (by omega), hm, fun p hp => okPiece.ext (h.okP p hp) hx, fun p hp => h.okW p hp, h.okG, fun p hp => okItem.ext (h.okI p hp) hx, fun p hp => okRelead.ext (h.okR p hp) hx, fun p hp => h.okC p hp, fun p hp => okInts_ext (h.okT p hp) hx, hok⟩
theorem zeroInts (w : World) : (zeroValue 35).run Tryz.prog w = .ok (vInts Sl.nil) w := by kernel_rfl
theorem zeroI (w : World) : (zeroValue 3).run Tryz.prog w = .ok (vi 0) w := by kernel_rfl
theorem LedAt.drew {b N : Nat} {w : World} {L : Led} (h : LedAt b N w L) : LedAt b N w.drew L := h.below ((Below.refl _ _).drew)
theorem putsW_snoc (m : List (Int × Where)) (l : List Int) (x bench : Int) : putsW m (l ++ [x]) bench = putW (putsW m l bench) x bench := by simp [putsW]
theorem put_turn (b N : Nat) (L : Led) (piece bench : Int) (w : World) (h : LedAt b N w L) (hp : I64 piece) (hbn : I64 bench) :
  Calls Tryz.prog 190 #[.pointer (some ⟨b + 6, 0, none⟩), .int .i64 piece, .int .i64 bench] w fun e w' => e = .returned (.tuple #[]) ∧ LedAt b N w' { L with wher := putW L.wher piece bench } ∧ Turn (b + 1) w w' := by
 have hc := h.cW
 have HL := Lib.hid h
 have HG := Lib.hid hp
 have HB := Lib.hid hbn
 clear h hp hbn
 go_enter Tryz.func190, Tryz.ntmps190
 go_wp2_with (at_mapUpdate; refine wpList_store_map rfl _ _ _ 184 rfl intKey Tryz.underlying184 rfl HL.out.wher piece HG.out rfl (benchW piece bench) rfl ?_; intro w1 hm hT)
 go_end0
 refine ⟨rfl, ?_, hT⟩
 refine HL.out.setW hm hT fun p hp => ?_
 rcases mem_aput hp with rfl | hp
 ·exact ⟨HG.out, (show I64 1 from by unfold I64; decide), HB.out, I64_zero, I64_zero, I64_zero⟩
 ·exact HL.out.okW p hp
theorem unpack_does : DoesS 160 unpackA fun _ _ => True := by
 intro b N L n w h hn _
 have hL1 : LedAt b N (w.alloc (.cells (encNote n) 43)) L := h.below ((Below.refl _ _).alloc (Nat.le_refl _) _)
 have hbx1 : BoxAt (w.alloc (.cells (encNote n) 43)) w.heap.size 43 (encNote n) := BoxAt.new _ _ _
 have hB1 : Below w.heap.size w (w.alloc (.cells (encNote n) 43)) := (Below.refl _ _).alloc (Nat.le_refl _) _
 have hbx2 : BoxAt (w.alloc (.cells (encNote n) 43)).drew w.heap.size 43 (encNote n) := hbx1.drew
 have hbx3 : BoxAt (w.alloc (.cells (encNote n) 43)).drew.drew w.heap.size 43 (encNote n) := hbx2.drew
 have hB3 : Below w.heap.size w (w.alloc (.cells (encNote n) 43)).drew.drew := hB1.drew.drew
 have hgl2 : b + 6 < (w.alloc (.cells (encNote n) 43)).drew.heap.size := by have := hL1.drew.lt7; omega
 have hgl3 : b + 6 < (w.alloc (.cells (encNote n) 43)).drew.drew.heap.size := by have := hL1.drew.drew.lt7; omega
 have HL2 : Hid (LedAt b N (w.alloc (.cells (encNote n) 43)).drew L) := Lib.hid hL1.drew
 have HL3 : Hid (LedAt b N (w.alloc (.cells (encNote n) 43)).drew.drew L) := Lib.hid hL1.drew.drew
 have HREF := Lib.hid (okNote_ref hn)
 have HBN : Hid (I64 n.bench) := Lib.hid hn.1
 have hne : w.heap.size ≠ b + 4 := by have := h.lt7; omega
 have hne1 : w.heap.size ≠ b + 1 := by have := h.lt7; omega
 obtain ⟨tr, htr⟩ : ∃ tr, (aget L.trays n.ref).getD Sl.nil = tr := ⟨_, rfl⟩
 have HTR := Lib.hid htr
 have HOKT : Hid (∀ p ∈ L.trays, Sl.OK 1 encInt okInt (LD b N) (w.alloc (.cells (encNote n) 43)).drew.drew p.2) := Lib.hid hL1.drew.drew.okT
 clear h hn hL1 htr
 by_cases hhas : ahas L.trays n.ref = true
 rotate_left
 ·have hhas' : ahas L.trays n.ref = false := by simpa using hhas
  have HHAS := Lib.hid hhas'
  clear hhas hhas'
  go_enter Tryz.func160, Tryz.ntmps160
  go_wp2
  refine wp_region_ord [(0, true), (1, true), (2, true), (3, true), (4, true), (5, true), (6, true), (7, true), (8, true), (9, true), (10, true), (11, true)] rfl (by kernel_rfl) (by kernel_rfl) (fun d _ _ _ _ h => by cases d <;> exact h) ?_
  iterate 3 (refine wpB_fix rfl rfl (fun W hW => by go_simp; with_reducible rfl) ?_; simp only [pTs, pTn, pTz, pTc])
  refine wpB_fix (v := .map (some (b + 4))) rfl rfl (fun W hW => by have e : W.cell? ⟨b + 6, 6, none⟩ = some (.map (some (b + 4))) := (hW.cell (p := ⟨b + 6, 6, none⟩) hgl2).trans HL2.out.cT; go_simp) ?_; simp only [pTs, pTn, pTz, pTc]
  refine wpB_fix rfl rfl (fun W hW => by go_simp; with_reducible rfl) ?_; simp only [pTs, pTn, pTz, pTc]
  refine wpB_fix (v := vRef n.ref) rfl rfl (fun W hW => run_load_box (encRef n.ref) (hbx2.belowAll hW) rfl (note_ref n) Tryz.underlying34 rfl (by kernel_rfl)) ?_; simp only [pTs, pTn, pTz, pTc]
  refine wpB_fix (v := .tuple #[.slice tr.a tr.val.length tr.cap, .bool false]) rfl rfl (fun W hW => Eq.trans (run_look refKey Tryz.underlying187 Sl.nil (zeroInts _) rfl (HL2.out.trays.below hW HL2.out.trays.lt) n.ref HREF.out rfl) (by rw [HHAS.out, HTR.out]; rfl)) ?_; simp only [pTs, pTn, pTz, pTc]
  iterate 5 (refine wpB_fix rfl rfl (fun W hW => by go_simp; with_reducible rfl) ?_; simp only [pTs, pTn, pTz, pTc])
  simp only [wpB]
  go_wp2
  refine wp_region_ord [(0, true), (1, true), (2, true), (3, true), (4, true), (5, true), (6, true), (7, true), (8, true), (9, true), (10, true), (11, true), (12, true), (13, true)] rfl (by kernel_rfl) (by kernel_rfl) (fun d _ _ _ _ h => by cases d <;> exact h) ?_
  iterate 3 (refine wpB_fix rfl rfl (fun W hW => by go_simp; with_reducible rfl) ?_; simp only [pTs, pTn, pTz, pTc])
  iterate 10 (refine wpB_skip rfl rfl ?_; simp only [pTs, pTn, pTz, pTc])
  refine wpB_fix rfl rfl (fun W hW => by go_simp; with_reducible rfl) ?_; simp only [pTs, pTn, pTz, pTc]
  simp only [wpB]
  go_wp2
  go_ret
  obtain ⟨e1, e2⟩ := Does.of_no (unpackL_abs L n) (by simp [unpackNo, HHAS.out])
  exact ⟨L, by rw [e1]; rfl, e2, HL3.out, .of_below hB3⟩
 have HHAS := Lib.hid hhas
 have HTM : Hid (Sl.OK 1 encInt okInt (LD b N) (w.alloc (.cells (encNote n) 43)).drew.drew tr) := Lib.hid (by
  have h1 : (aget L.trays n.ref).isSome = true := by rw [aget_isSome]; exact hhas
  obtain ⟨t, ht⟩ := Option.isSome_iff_exists.1 h1
  have h2 := HTR.out
  rw [ht] at h2
  simp only [Option.getD_some] at h2
  rw [← h2]
  exact HOKT.out _ (mem_of_aget ht))
 clear hhas
 obtain ⟨to, hto⟩ : ∃ to, (aget L.to_ n.ref).getD 0 = to := ⟨_, rfl⟩
 have HTO := Lib.hid hto
 clear hto
 by_cases heq : to = n.bench
 rotate_left
 ·go_enter Tryz.func160, Tryz.ntmps160
  go_wp2
  refine wp_region_ord [(0, true), (1, true), (2, true), (3, true), (4, true), (5, true), (6, true), (7, true), (8, true), (9, true), (10, true), (11, true)] rfl (by kernel_rfl) (by kernel_rfl) (fun d _ _ _ _ h => by cases d <;> exact h) ?_
  iterate 3 (refine wpB_fix rfl rfl (fun W hW => by go_simp; with_reducible rfl) ?_; simp only [pTs, pTn, pTz, pTc])
  refine wpB_fix (v := .map (some (b + 4))) rfl rfl (fun W hW => by have e : W.cell? ⟨b + 6, 6, none⟩ = some (.map (some (b + 4))) := (hW.cell (p := ⟨b + 6, 6, none⟩) hgl2).trans HL2.out.cT; go_simp) ?_; simp only [pTs, pTn, pTz, pTc]
  refine wpB_fix rfl rfl (fun W hW => by go_simp; with_reducible rfl) ?_; simp only [pTs, pTn, pTz, pTc]
  refine wpB_fix (v := vRef n.ref) rfl rfl (fun W hW => run_load_box (encRef n.ref) (hbx2.belowAll hW) rfl (note_ref n) Tryz.underlying34 rfl (by kernel_rfl)) ?_; simp only [pTs, pTn, pTz, pTc]
  refine wpB_fix (v := .tuple #[.slice tr.a tr.val.length tr.cap, .bool true]) rfl rfl (fun W hW => Eq.trans (run_look refKey Tryz.underlying187 Sl.nil (zeroInts _) rfl (HL2.out.trays.below hW HL2.out.trays.lt) n.ref HREF.out rfl) (by rw [HHAS.out, HTR.out]; rfl)) ?_; simp only [pTs, pTn, pTz, pTc]
  iterate 5 (refine wpB_fix rfl rfl (fun W hW => by go_simp; with_reducible rfl) ?_; simp only [pTs, pTn, pTz, pTc])
  simp only [wpB]
  go_wp2
  refine wp_region_ord [(0, true), (1, true), (2, true), (3, true), (4, true), (5, true), (6, true), (7, true), (8, true), (9, true), (10, true), (11, true), (12, true), (13, true)] rfl (by kernel_rfl) (by kernel_rfl) (fun d _ _ _ _ h => by cases d <;> exact h) ?_
  iterate 6 (refine wpB_fix rfl rfl (fun W hW => by go_simp; with_reducible rfl) ?_; simp only [pTs, pTn, pTz, pTc])
  refine wpB_fix (v := .map (some (b + 5))) rfl rfl (fun W hW => by have e : W.cell? ⟨b + 6, 7, none⟩ = some (.map (some (b + 5))) := (hW.cell (p := ⟨b + 6, 7, none⟩) hgl3).trans HL3.out.cO; go_simp) ?_; simp only [pTs, pTn, pTz, pTc]
  refine wpB_fix rfl rfl (fun W hW => by go_simp; with_reducible rfl) ?_; simp only [pTs, pTn, pTz, pTc]
  refine wpB_fix (v := vRef n.ref) rfl rfl (fun W hW => run_load_box (encRef n.ref) (hbx3.belowAll hW) rfl (note_ref n) Tryz.underlying34 rfl (by kernel_rfl)) ?_; simp only [pTs, pTn, pTz, pTc]
  refine wpB_fix (v := vi to) rfl rfl (fun W hW => Eq.trans (run_look refKey Tryz.underlying188 0 (zeroI _) rfl (HL3.out.to_.below hW HL3.out.to_.lt) n.ref HREF.out rfl) (by rw [HTO.out]; rfl)) ?_; simp only [pTs, pTn, pTz, pTc]
  refine wpB_fix rfl rfl (fun W hW => by go_simp; with_reducible rfl) ?_; simp only [pTs, pTn, pTz, pTc]
  refine wpB_fix (v := vi n.bench) rfl rfl (fun W hW => by have e : W.cell? ⟨w.heap.size, 0, none⟩ = some (vi n.bench) := ((hbx3.belowAll hW).cell 0).trans rfl; go_simp) ?_; simp only [pTs, pTn, pTz, pTc]
  iterate 2 (refine wpB_fix rfl rfl (fun W hW => by go_simp; with_reducible rfl) ?_; simp only [pTs, pTn, pTz, pTc])
  simp only [wpB]
  go_wp2
  go_ret
  obtain ⟨e1, e2⟩ := Does.of_no (unpackL_abs L n) (by simp [unpackNo, HHAS.out, HTO.out, heq])
  exact ⟨L, by rw [e1]; rfl, e2, HL3.out, .of_below hB3⟩
 have HNE : Hid (unpackNo L n = false) := Lib.hid (by simp [unpackNo, HHAS.out, HTO.out, heq])
 obtain ⟨a, cap, val⟩ := tr
 have hroom := HTM.out.room
 simp only at hroom
 subst heq
 go_enter Tryz.func160, Tryz.ntmps160
 go_wp2
 refine wp_region_ord [(0, true), (1, true), (2, true), (3, true), (4, true), (5, true), (6, true), (7, true), (8, true), (9, true), (10, true), (11, true)] rfl (by kernel_rfl) (by kernel_rfl) (fun d _ _ _ _ h => by cases d <;> exact h) ?_
 iterate 3 (refine wpB_fix rfl rfl (fun W hW => by go_simp; with_reducible rfl) ?_; simp only [pTs, pTn, pTz, pTc])
 refine wpB_fix (v := .map (some (b + 4))) rfl rfl (fun W hW => by have e : W.cell? ⟨b + 6, 6, none⟩ = some (.map (some (b + 4))) := (hW.cell (p := ⟨b + 6, 6, none⟩) hgl2).trans HL2.out.cT; go_simp) ?_; simp only [pTs, pTn, pTz, pTc]
 refine wpB_fix rfl rfl (fun W hW => by go_simp; with_reducible rfl) ?_; simp only [pTs, pTn, pTz, pTc]
 refine wpB_fix (v := vRef n.ref) rfl rfl (fun W hW => run_load_box (encRef n.ref) (hbx2.belowAll hW) rfl (note_ref n) Tryz.underlying34 rfl (by kernel_rfl)) ?_; simp only [pTs, pTn, pTz, pTc]
 refine wpB_fix (v := .tuple #[.slice a val.length cap, .bool true]) rfl rfl (fun W hW => Eq.trans (run_look refKey Tryz.underlying187 Sl.nil (zeroInts _) rfl (HL2.out.trays.below hW HL2.out.trays.lt) n.ref HREF.out rfl) (by rw [HHAS.out, HTR.out]; rfl)) ?_; simp only [pTs, pTn, pTz, pTc]
 iterate 5 (refine wpB_fix rfl rfl (fun W hW => by go_simp; with_reducible rfl) ?_; simp only [pTs, pTn, pTz, pTc])
 simp only [wpB]
 go_wp2
 refine wp_region_ord [(0, true), (1, true), (2, true), (3, true), (4, true), (5, true), (6, true), (7, true), (8, true), (9, true), (10, true), (11, true), (12, true), (13, true)] rfl (by kernel_rfl) (by kernel_rfl) (fun d _ _ _ _ h => by cases d <;> exact h) ?_
 iterate 6 (refine wpB_fix rfl rfl (fun W hW => by go_simp; with_reducible rfl) ?_; simp only [pTs, pTn, pTz, pTc])
 refine wpB_fix (v := .map (some (b + 5))) rfl rfl (fun W hW => by have e : W.cell? ⟨b + 6, 7, none⟩ = some (.map (some (b + 5))) := (hW.cell (p := ⟨b + 6, 7, none⟩) hgl3).trans HL3.out.cO; go_simp) ?_; simp only [pTs, pTn, pTz, pTc]
 refine wpB_fix rfl rfl (fun W hW => by go_simp; with_reducible rfl) ?_; simp only [pTs, pTn, pTz, pTc]
 refine wpB_fix (v := vRef n.ref) rfl rfl (fun W hW => run_load_box (encRef n.ref) (hbx3.belowAll hW) rfl (note_ref n) Tryz.underlying34 rfl (by kernel_rfl)) ?_; simp only [pTs, pTn, pTz, pTc]
 refine wpB_fix (v := vi n.bench) rfl rfl (fun W hW => Eq.trans (run_look refKey Tryz.underlying188 0 (zeroI _) rfl (HL3.out.to_.below hW HL3.out.to_.lt) n.ref HREF.out rfl) (by rw [HTO.out]; rfl)) ?_; simp only [pTs, pTn, pTz, pTc]
 refine wpB_fix rfl rfl (fun W hW => by go_simp; with_reducible rfl) ?_; simp only [pTs, pTn, pTz, pTc]
 refine wpB_fix (v := vi n.bench) rfl rfl (fun W hW => by have e : W.cell? ⟨w.heap.size, 0, none⟩ = some (vi n.bench) := ((hbx3.belowAll hW).cell 0).trans rfl; go_simp) ?_; simp only [pTs, pTn, pTz, pTc]
 iterate 2 (refine wpB_fix rfl rfl (fun W hW => by go_simp; with_reducible rfl) ?_; simp only [pTs, pTn, pTz, pTc])
 simp only [wpB]
 go_wp2
 go_loopw [8, 35] (fun _ i wr => ∃ k : Nat, k ≤ val.length ∧ i = .int .i64 k ∧ Hid (LedAt b N wr { L with wher := putsW L.wher (val.take k) n.bench }) ∧ Hid (Turn (b + 1) (w.alloc (.cells (encNote n) 43)).drew.drew wr)) (fun _ i _ => val.length - (intOf i).toNat)
 case atStart => exact ⟨0, Nat.zero_le _, rfl, Lib.hid (by simpa [putsW] using HL3.out), Lib.hid (Turn.refl _ _)⟩
 case round =>
  obtain ⟨k, hk, rfl, HL, HT⟩ := hrel
  by_cases hlt : k < val.length
  ·obtain ⟨x, hx⟩ : ∃ x, val[k]? = some x := ⟨_, List.getElem?_eq_getElem hlt⟩
   obtain ⟨bb, o, rfl, hb, hnd, hok, hcell⟩ := HTM.out.at hx
   have hcx : wr.cell? ⟨bb, o + k, none⟩ = some (vi x) := by
    have h1 := hcell 0 (by decide)
    rw [World.cell?_of_block (HT.out.block bb (fun e => hnd (.inl (by omega))))]
    simpa [encInt] using h1
   have hi1 : (k : Int) < (val.length : Int) := by omega
   have hcb : wr.cell? ⟨w.heap.size, 0, none⟩ = some (vi n.bench) := ((hbx3.turn HT.out hne1).cell 0).trans rfl
   have HX := Lib.hid hx
   have HOK : Hid (I64 x) := Lib.hid hok
   clear hx hok hcell hnd hb
   go_wp2_with (go_at_call 190; refine (put_turn b N _ x n.bench _ HL.out HOK.out HBN.out).mono ?_; rintro e w2 ⟨rfl, hL3, hT3⟩)
   go_roundw
   case rel => exact ⟨k + 1, by omega, by go_num, Lib.hid (by rw [take_snoc HX.out, putsW_snoc]; exact hL3), Lib.hid (HT.out.trans hT3)⟩
   case measure => simp [intOf]; omega
  ·have hk' : k = val.length := by omega
   have hLF : LedAt b N wr { L with wher := putsW L.wher val n.bench } := by have h := HL.out; rwa [hk', List.take_length] at h
   have HLF : Hid (LedAt b N wr.drew { L with wher := putsW L.wher val n.bench }) := Lib.hid hLF.drew
   have hbx4 : BoxAt wr.drew w.heap.size 43 (encNote n) := (hbx3.turn HT.out hne1).drew
   have hgl4 : b + 6 < wr.drew.heap.size := by have := hLF.drew.lt7; omega
   have HC4 : Hid (Chg b w.heap.size w wr.drew) := Lib.hid (((Chg.of_below hB3).trans (Chg.of_turn HT.out (.inl (by omega)))).trans (.of_below ((Below.refl _ _).drew)))
   clear hLF
   go_wp2
   refine wp_region_mark 6 [(0, none), (1, none), (2, none), (4, none), (3, some true), (5, some true), (6, some false)] rfl (by kernel_rfl) (by kernel_rfl) (fun d _ _ _ _ h => by cases d <;> exact h) ?_
   iterate 4 (refine wpC_pure rfl rfl (fun W => by go_simp; with_reducible rfl) ?_; simp only [pTs, pTn, pTz, pTc])
   refine wpC_fix (v := .map (some (b + 4))) rfl rfl (fun W hW => by have e : W.cell? ⟨b + 6, 6, none⟩ = some (.map (some (b + 4))) := (hW.cell (p := ⟨b + 6, 6, none⟩) hgl4).trans HLF.out.cT; go_simp) ?_; simp only [pTs, pTn, pTz, pTc]
   refine wpC_fix (v := vRef n.ref) rfl rfl (fun W hW => run_load_box (encRef n.ref) (hbx4.belowAll hW) rfl (note_ref n) Tryz.underlying34 rfl (by kernel_rfl)) ?_; simp only [pTs, pTn, pTz, pTc]
   refine wpC_mark rfl rfl (fun K hK => ?_)
   refine wp_map_drop _ _ 187 rfl refKey Tryz.underlying187 rfl HLF.out.trays n.ref HREF.out rfl ?_
   intro w5 hm hT
   refine hK _ _ ?_
   clear hK K
   try simp only [pTs, pTn, pTz, pTc]
   simp only [wpC]
   go_wp2
   go_ret
   obtain ⟨e1, e2⟩ := Does.of_yes (unpackL_abs L n) (by rw [HNE.out]; simp)
   refine ⟨by rw [e1]; rfl, unpackL L n, e2, ?_, HC4.out.trans (Chg.of_turn hT (.inl (by omega)))⟩
   have h5 := HLF.out.setT hm hT (fun p hp => HLF.out.okT p (List.mem_filter.1 hp).1)
   have e3 : unpackL L n = { { L with wher := putsW L.wher val n.bench } with trays := adel L.trays n.ref } := by simp only [unpackL, HTR.out]
   rw [e3]; exact h5
end Go.Proofs.YtnmgfnpphglphaaGreat
