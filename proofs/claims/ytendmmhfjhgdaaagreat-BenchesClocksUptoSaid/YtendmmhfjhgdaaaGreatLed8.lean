/-
  The ledger: split, record, walked.
  The ledger: record, relead, walked.
  The ledger: holder, walked.
-/
import Derived.Test.YtendmmhfjhgdaaaGreatLed6
section
set_option linter.unusedVariables false
set_option linter.unusedSimpArgs false
namespace Go.Proofs.YtendmmhfjhgdaaaGreat
open Go.RowKit

def brokenW (x : Int) : Where := ⟨x, 4, 0, ⟨0, false⟩, ⟨0, 0⟩⟩
set_option maxRecDepth 20000 in
set_option maxHeartbeats 4000000 in
theorem split_does : DoesS 92 splitA fun _ _ => True := by
  intro b N L n w h hn _
  have hB0 : Below w.heap.size w (w.alloc (.cells (encNote n) 40)) := (Below.refl _ _).alloc (Nat.le_refl _) _
  have hbx : BoxAt (w.alloc (.cells (encNote n) 40)) w.heap.size 40 (encNote n) := BoxAt.new _ _ _
  have hL0 : LedAt b N (w.alloc (.cells (encNote n) 40)) L := h.below hB0
  have hlt := h.lt7
  have HNW : Hid (N ≤ w.heap.size) := Lib.hid h.le
  have HL0 := Lib.hid hL0
  have HN2 := Lib.hid hn
  have HBN : Hid (I64 n.bench) := Lib.hid hn.1
  have HPI : Hid (I64 n.piece) := Lib.hid (by have := hn; simp only [okNote] at this; exact this.2.2.2.2.2.2.1)
  have HAT := Lib.hid (at_any b N L n.piece n.bench (w.alloc (.cells (encNote n) 40)) hL0 HPI.out)
  have HKN : Hid (∀ W, Below (w.alloc (.cells (encNote n) 40)).heap.size (w.alloc (.cells (encNote n) 40)) W → Calls Tryz.prog 137 #[.pointer (some ⟨b + 6, 0, none⟩), .slice n.data.a n.data.val.length n.data.cap] W fun e w' => e = .returned (.bool (n.data.val.any fun p => ahas L.pieces p.id)) ∧ Below W.heap.size W w') := Lib.hid fun W hW =>
    known_any b N L (LD b N) n.data W (hL0.below hW) (okNote_data (okNote.ext hn (.of_below (hB0.trans (hW.mono hB0.size)))))
  clear hn hL0
  by_cases ha : atW L.wher n.piece n.bench = true
  rotate_left
  · have ha' : atW L.wher n.piece n.bench = false := by simpa using ha
    obtain ⟨e1, e2⟩ := Does.of_no (splitL_abs L n) (show splitNo L n = true by simp [splitNo, ha'])
    have E1 := Lib.hid e1
    have E2 := Lib.hid e2
    rw [ha'] at HAT
    clear e1 e2 ha ha' h
    go_enter Tryz.func92, Tryz.ntmps92
    go_wp2_with (go_at_call 141; refine HAT.out.mono ?_; rintro e w1 ⟨rfl, hb1⟩)
    go_ret
    exact ⟨L, by rw [E1.out]; rfl, E2.out, HL0.out.below hb1, .of_below (Below.call hB0 hb1 (Nat.le_refl _))⟩
  rw [ha] at HAT
  have ARM : True := trivial
  by_cases hk : (n.data.val.any fun p => ahas L.pieces p.id) = true
  · obtain ⟨e1, e2⟩ := Does.of_no (splitL_abs L n) (show splitNo L n = true by simp only [splitNo, ha, hk]; rfl)
    have E1 := Lib.hid e1
    have E2 := Lib.hid e2
    simp only [hk] at HKN
    clear e1 e2 ha hk h
    go_enter Tryz.func92, Tryz.ntmps92
    go_wp2_with (first
      | (go_at_call 141; refine HAT.out.mono ?_; rintro e w1 ⟨rfl, hb1⟩; have hcd1 : w1.cell? ⟨w.heap.size, 16, none⟩ = some n.data.v := ((hbx.belowAll hb1).cell 16).trans rfl)
      | (go_at_call 137; refine (HKN.out _ hb1).mono ?_; rintro e w2 ⟨rfl, hb2⟩; have hB2 := Below.call (Below.call hB0 hb1 (Nat.le_refl _)) hb2 (Nat.le_refl _)))
    go_ret
    exact ⟨L, by rw [E1.out]; rfl, E2.out, (HL0.out.below hb1).below hb2, .of_below hB2⟩
  have hk' : (n.data.val.any fun p => ahas L.pieces p.id) = false := by simpa using hk
  obtain ⟨e1, e2⟩ := Does.of_yes (splitL_abs L n) (show ¬ splitNo L n = true by simp only [splitNo, ha, hk']; simp)
  have E1 := Lib.hid e1
  have E2 := Lib.hid e2
  simp only [hk'] at HKN
  clear e1 e2 ha hk hk' h
  go_enter Tryz.func92, Tryz.ntmps92
  go_wp2_with (first
    | (go_at_call 141; refine HAT.out.mono ?_; rintro e w1 ⟨rfl, hb1⟩; have hcd1 : w1.cell? ⟨w.heap.size, 16, none⟩ = some n.data.v := ((hbx.belowAll hb1).cell 16).trans rfl)
    | (go_at_call 137; refine (HKN.out _ hb1).mono ?_; rintro e w2 ⟨rfl, hb2⟩; have hB2 := Below.call (Below.call hB0 hb1 (Nat.le_refl _)) hb2 (Nat.le_refl _); have hbd := ((hbx.belowAll hb1).belowAll hb2).drew; have HLd := Lib.hid ((HL0.out.below hb1).below hb2).drew; have hgl : b + 6 < w2.drew.heap.size := (by have := HLd.out.lt7; omega); clear hcd1))
  refine wp_region_mark 9 [(0, none), (1, none), (2, none), (4, none), (6, none), (3, some true), (5, some true), (7, some true), (8, none), (9, some false)] rfl (by kernel_rfl) (by kernel_rfl) (fun d _ _ _ _ h => by cases d <;> exact h) ?_
  iterate 5 (refine wpC_pure rfl rfl (fun W => by go_simp; with_reducible rfl) ?_; simp only [pTs, pTn, pTz, pTc])
  refine wpC_fix (v := .map (some (b + 1))) rfl rfl (fun W hW => by have e : W.cell? ⟨b + 6, 1, none⟩ = some (.map (some (b + 1))) := (hW.cell (p := ⟨b + 6, 1, none⟩) hgl).trans HLd.out.cW; go_simp) ?_; simp only [pTs, pTn, pTz, pTc]
  iterate 2 (refine wpC_fix (v := vi n.piece) rfl rfl (fun W hW => by have e : W.cell? ⟨w.heap.size, 6, none⟩ = some (vi n.piece) := ((hbd.belowAll hW).cell 6).trans rfl; go_simp) ?_; simp only [pTs, pTn, pTz, pTc])
  refine wpC_pure rfl rfl (fun W => by go_simp; with_reducible rfl) ?_; simp only [pTs, pTn, pTz, pTc]
  refine wpC_mark rfl rfl (fun K hK => ?_)
  refine wp_store_map _ _ _ 95 rfl intKey Tryz.underlying95 rfl HLd.out.wher n.piece HPI.out rfl (brokenW n.piece) rfl ?_
  intro w3 hm hT
  have hL3 := HLd.out.setW hm hT (fun p hp => by rcases mem_aput hp with rfl | hp; exact ⟨HPI.out, (show I64 4 from by unfold I64; decide), I64_zero, I64_zero, I64_zero, I64_zero⟩; exact HLd.out.okW p hp)
  have hb3 := hbd.turn hT (by omega)
  have hC3 : Chg b w.heap.size w w3 := (Chg.of_below hB2.drew).trans (Chg.of_turn hT (.inl (by omega)))
  have hcd : w3.cell? ⟨w.heap.size, 16, none⟩ = some n.data.v := (hb3.cell 16).trans rfl
  have hcb : w3.cell? ⟨w.heap.size, 0, none⟩ = some (vi n.bench) := (hb3.cell 0).trans rfl
  have HRG := Lib.hid (register_any b N _ n.data n.bench w3 hL3 (okNote_data (HN2.out.ext (hC3.weak HNW.out).ext)) HBN.out)
  clear hT hm hL3 hb3
  refine hK _ _ ?_
  clear hK K
  try simp only [pTs, pTn, pTz, pTc]
  simp only [wpC]
  go_wp2_with (go_at_call 138; refine HRG.out.mono ?_; rintro e w4 ⟨rfl, hL4, hC4⟩)
  go_ret
  exact ⟨splitL L n, by rw [E1.out]; rfl, E2.out, hL4, hC3.trans (hC4.weak hC3.size)⟩
end Go.Proofs.YtendmmhfjhgdaaaGreat
end
section
set_option linter.unusedVariables false
set_option linter.unusedSimpArgs false
namespace Go.Proofs.YtendmmhfjhgdaaaGreat
open Go.RowKit

theorem zeroItem8 (w : World) : (zeroValue 38).run Tryz.prog w = .ok (vItem zItem) w := by kernel_rfl
theorem note_item (n : Note) : ∀ j, j < (encItem n.item).size → (encNote n)[17 + j]? = (encItem n.item)[j]? := fun j hj => by
  have hj : j < 12 := hj
  iterate 12 (rcases j with _ | j; · rfl)
  omega
set_option maxRecDepth 20000 in
set_option maxHeartbeats 4000000 in
theorem record_does : DoesS 86 recordA fun _ _ => True := by
  intro b N L n w h hn _
  have hB0 : Below w.heap.size w (w.alloc (.cells (encNote n) 40)) := (Below.refl _ _).alloc (Nat.le_refl _) _
  have hbd : BoxAt (w.alloc (.cells (encNote n) 40)).drew w.heap.size 40 (encNote n) := (BoxAt.new _ _ _).drew
  have hL0 : LedAt b N (w.alloc (.cells (encNote n) 40)).drew L := h.below hB0.drew
  have hlt := h.lt7
  have hgl : b + 6 < (w.alloc (.cells (encNote n) 40)).drew.heap.size := (by have := hL0.lt7; omega)
  have HNW : Hid (N ≤ w.heap.size) := Lib.hid h.le
  have HLd := Lib.hid hL0
  have HOI : Hid (okItem (LD b N) w n.item) := Lib.hid (okNote_item hn)
  have HID : Hid (I64 n.item.id) := Lib.hid (by have h := HOI.out; simp only [okItem] at h; exact h.1)
  obtain ⟨y, hy⟩ : ∃ y, (aget L.items n.item.id).getD zItem = y := ⟨_, rfl⟩
  have HY := Lib.hid hy
  clear hn hL0 hy h
  by_cases hno : recordNo L n = true
  · obtain ⟨e1, e2⟩ := Does.of_no (recordL_abs L n) hno
    have E1 := Lib.hid e1
    have E2 := Lib.hid e2
    have HAS : Hid (ahas L.items n.item.id = true) := Lib.hid hno
    clear e1 e2 hno
    go_enter Tryz.func86, Tryz.ntmps86
    go_wp2
    refine wp_region_mark 12 [(0, none), (1, none), (2, none), (4, none), (5, none), (3, some true), (6, some true), (7, some true), (8, none), (9, none), (10, none), (11, some false), (12, some false), (13, some false)] rfl (by kernel_rfl) (by kernel_rfl) (fun d _ _ _ _ h => by cases d <;> exact h) ?_
    iterate 5 (refine wpC_pure rfl rfl (fun W => by go_simp; with_reducible rfl) ?_; simp only [pTs, pTn, pTz, pTc])
    refine wpC_fix (v := .map (some (b + 3))) rfl rfl (fun W hW => by have e : W.cell? ⟨b + 6, 3, none⟩ = some (.map (some (b + 3))) := (hW.cell (p := ⟨b + 6, 3, none⟩) hgl).trans HLd.out.cI; go_simp) ?_; simp only [pTs, pTn, pTz, pTc]
    refine wpC_fix (v := vi n.item.id) rfl rfl (fun W hW => by have e : W.cell? ⟨w.heap.size, 17, none⟩ = some (vi n.item.id) := ((hbd.belowAll hW).cell 17).trans rfl; go_simp) ?_; simp only [pTs, pTn, pTz, pTc]
    refine wpC_fix (v := .tuple #[vItem y, .bool true]) rfl rfl (fun W hW => Eq.trans (run_look intKey Tryz.underlying97 zItem (zeroItem8 _) rfl (HLd.out.items.below hW HLd.out.items.lt) n.item.id HID.out rfl) (by rw [HY.out, HAS.out]; rfl)) ?_; simp only [pTs, pTn, pTz, pTc]
    iterate 3 (refine wpC_pure rfl rfl (fun W => by go_simp; with_reducible rfl) ?_; simp only [pTs, pTn, pTz, pTc])
    refine wpC_act rfl rfl rfl (fun K hK => ?_)
    go_simp
    refine hK _ _ ((Below.refl _ _).alloc (Nat.le_refl _) _) ?_
    clear hK K
    try simp only [pTs, pTn, pTz, pTc]
    refine wpC_mark rfl rfl (fun K hK => ?_)
    refine wp_store_box (BoxAt.newN (n := w.heap.size + 1) _ _ _ (by simp)) _ _ _ rfl rfl (vItem y) rfl (by kernel_rfl) rfl (one_agg (encItem_one _)) ?_
    intro w1 hb1 hT
    have hB1 : Below (w.heap.size + 1) (w.alloc (.cells (encNote n) 40)).drew w1 := ((Below.refl _ _).alloc (by simp) _).trans (hT.below (Nat.le_refl _))
    clear hT hb1
    refine hK _ _ ?_
    clear hK K
    try simp only [pTs, pTn, pTz, pTc]
    refine wpC_past rfl rfl (fun K hK => ?_)
    go_simp
    refine hK _ _ ?_
    clear hK K
    try simp only [pTs, pTn, pTz, pTc]
    simp only [wpC]
    go_wp2
    go_ret
    have hB2 : Below w.heap.size (w.alloc (.cells (encNote n) 40)).drew w1 := hB1.mono (Nat.le_succ _)
    exact ⟨L, by rw [E1.out]; rfl, E2.out, HLd.out.below (hB1.mono (by simp)), .of_below (hB0.drew.trans hB2)⟩
  · obtain ⟨e1, e2⟩ := Does.of_yes (recordL_abs L n) hno
    have E1 := Lib.hid e1
    have E2 := Lib.hid e2
    have HAS : Hid (ahas L.items n.item.id = false) := Lib.hid (by simpa [recordNo] using hno)
    clear e1 e2 hno
    go_enter Tryz.func86, Tryz.ntmps86
    go_wp2
    refine wp_region_mark 12 [(0, none), (1, none), (2, none), (4, none), (5, none), (3, some true), (6, some true), (7, some true), (8, none), (9, none), (10, none), (11, some false), (12, some false), (13, some false)] rfl (by kernel_rfl) (by kernel_rfl) (fun d _ _ _ _ h => by cases d <;> exact h) ?_
    iterate 5 (refine wpC_pure rfl rfl (fun W => by go_simp; with_reducible rfl) ?_; simp only [pTs, pTn, pTz, pTc])
    refine wpC_fix (v := .map (some (b + 3))) rfl rfl (fun W hW => by have e : W.cell? ⟨b + 6, 3, none⟩ = some (.map (some (b + 3))) := (hW.cell (p := ⟨b + 6, 3, none⟩) hgl).trans HLd.out.cI; go_simp) ?_; simp only [pTs, pTn, pTz, pTc]
    refine wpC_fix (v := vi n.item.id) rfl rfl (fun W hW => by have e : W.cell? ⟨w.heap.size, 17, none⟩ = some (vi n.item.id) := ((hbd.belowAll hW).cell 17).trans rfl; go_simp) ?_; simp only [pTs, pTn, pTz, pTc]
    refine wpC_fix (v := .tuple #[vItem y, .bool false]) rfl rfl (fun W hW => Eq.trans (run_look intKey Tryz.underlying97 zItem (zeroItem8 _) rfl (HLd.out.items.below hW HLd.out.items.lt) n.item.id HID.out rfl) (by rw [HY.out, HAS.out]; rfl)) ?_; simp only [pTs, pTn, pTz, pTc]
    iterate 3 (refine wpC_pure rfl rfl (fun W => by go_simp; with_reducible rfl) ?_; simp only [pTs, pTn, pTz, pTc])
    refine wpC_act rfl rfl rfl (fun K hK => ?_)
    go_simp
    refine hK _ _ ((Below.refl _ _).alloc (Nat.le_refl _) _) ?_
    clear hK K
    try simp only [pTs, pTn, pTz, pTc]
    refine wpC_mark rfl rfl (fun K hK => ?_)
    refine wp_store_box (BoxAt.newN (n := w.heap.size + 1) _ _ _ (by simp)) _ _ _ rfl rfl (vItem y) rfl (by kernel_rfl) rfl (one_agg (encItem_one _)) ?_
    intro w1 hb1 hT
    have hB1 : Below (w.heap.size + 1) (w.alloc (.cells (encNote n) 40)).drew w1 := ((Below.refl _ _).alloc (by simp) _).trans (hT.below (Nat.le_refl _))
    clear hT hb1
    refine hK _ _ ?_
    clear hK K
    try simp only [pTs, pTn, pTz, pTc]
    refine wpC_past rfl rfl (fun K hK => ?_)
    go_simp
    refine hK _ _ ?_
    clear hK K
    try simp only [pTs, pTn, pTz, pTc]
    simp only [wpC]
    have HL2 := Lib.hid (HLd.out.below (hB1.mono (by simp))).drew
    have hb2 := (hbd.belowAll (hB1.mono (by simp))).drew
    have hgl2 : b + 6 < w1.drew.heap.size := (by have := HL2.out.lt7; omega)
    have hBd : Below w.heap.size w w1.drew := (hB0.drew.trans (hB1.mono (Nat.le_succ _))).drew
    have hB2 := hBd
    go_wp2
    refine wp_region_mark 9 [(0, none), (1, none), (2, none), (4, none), (5, none), (7, none), (3, some true), (6, some true), (8, some true), (9, some false)] rfl (by kernel_rfl) (by kernel_rfl) (fun d _ _ _ _ h => by cases d <;> exact h) ?_
    iterate 6 (refine wpC_pure rfl rfl (fun W => by go_simp; with_reducible rfl) ?_; simp only [pTs, pTn, pTz, pTc])
    refine wpC_fix (v := .map (some (b + 3))) rfl rfl (fun W hW => by have e : W.cell? ⟨b + 6, 3, none⟩ = some (.map (some (b + 3))) := (hW.cell (p := ⟨b + 6, 3, none⟩) hgl2).trans HL2.out.cI; go_simp) ?_; simp only [pTs, pTn, pTz, pTc]
    refine wpC_fix (v := vi n.item.id) rfl rfl (fun W hW => by have e : W.cell? ⟨w.heap.size, 17, none⟩ = some (vi n.item.id) := ((hb2.belowAll hW).cell 17).trans rfl; go_simp) ?_; simp only [pTs, pTn, pTz, pTc]
    refine wpC_fix (v := vItem n.item) rfl rfl (fun W hW => run_load_box (encItem n.item) (hb2.belowAll hW) rfl (note_item n) Tryz.underlying38 rfl (by kernel_rfl)) ?_; simp only [pTs, pTn, pTz, pTc]
    refine wpC_mark rfl rfl (fun K hK => ?_)
    refine wp_store_map _ _ _ 97 rfl intKey Tryz.underlying97 rfl HL2.out.items n.item.id HID.out rfl n.item rfl ?_
    intro w3 hm hT
    have hL3 := HL2.out.setI hm hT (fun p hp => by rcases mem_aput hp with rfl | hp; exact okItem.ext HOI.out (.of_below hBd); exact HL2.out.okI p hp)
    have hC3 : Chg b w.heap.size w w3 := (Chg.of_below hB2).trans (Chg.of_turn hT (.inl (by omega)))
    clear hT hm
    refine hK _ _ ?_
    clear hK K
    try simp only [pTs, pTn, pTz, pTc]
    simp only [wpC]
    go_wp2
    go_ret
    exact ⟨recordL L n, by rw [E1.out]; rfl, E2.out, hL3, hC3⟩

theorem buildRelead8 (y : Int) (s : Sl Int) : Array.foldl (fun cs (x : Value × Nat) => cs.setIfInBounds x.snd x.fst) #[Value.int .i64 0, Value.slice none 0 0] (encRelead ⟨y, s⟩).zipIdx 0 2 = encRelead ⟨y, s⟩ := rfl
theorem cells_of_eqN {w : World} {cs ds : Array Value} {T : TypeId} {k : Nat} (hk : k = w.heap.size) (h : cs = ds) : ∀ j, j < ds.size → (w.alloc (.cells cs T)).cell? ⟨k, 0 + j, none⟩ = ds[j]? := by subst hk; exact cells_of_eq h
theorem LedAt.relead {b N : Nat} {w w1 w2 : World} {L : Led} {vr vr' vc : Value} (h : LedAt b N w L) (hor : OwnL encRelead 2 w N 117 vr L.releads) (hoc : OwnL encRef 2 w N 31 vc L.conflicts)
    (hne : ∀ g, vr.ownBlock = some g → vc.ownBlock ≠ some g) {l' : List Relead} (ho' : OwnL encRelead 2 w1 N 117 vr' l') (hg : w.grownBy w1 vr.ownBlock) (hat : vr'.ownBlock = vr.ownBlock ∨ vr'.ownBlock = some w.heap.size) (hr : ∀ r ∈ l', okRelead (LD b N) w r)
    (hbx : BoxAt w2 (b + 6) 101 #[.map (some b), .map (some (b + 1)), .map (some (b + 2)), .map (some (b + 3)), vr', vc, .map (some (b + 4)), .map (some (b + 5))]) (hT : Turn (b + 6) w1 w2) : LedAt b N w2 { L with releads := l' } ∧ Chg b N w w2 := by
  have hlt := h.lt
  have hle := h.le
  have hown : ∀ k, k < N → vr.ownBlock ≠ some k := fun k hk e => by have := (hor.block k e).1; omega
  have hk1 : ∀ k, k < N → w1.heap[k]? = w.heap[k]? := fun k hk => hg.block k (by omega) (Ne.symm (hown k hk))
  have hC1 : Chg b N w w1 := ⟨hg.os, hg.tape, hg.output, hg.size, fun k hk hn => hg.block k hk (fun e => hn (.inr (hor.block k e.symm).1))⟩
  have hC2 : Chg b N w w2 := hC1.trans (Chg.of_turn hT (.inl (by omega)))
  have hkm : ∀ k, k < b + 6 → w2.heap[k]? = w.heap[k]? := fun k hk => (hT.block k (by omega)).trans (hk1 k (by omega))
  have hx := hC2.ext
  refine ⟨⟨h.lt, Nat.le_trans h.le hC2.size, ⟨vr', vc, hbx, ho'.turn hT (own_ne ho' (by omega)), (hoc.kept fun g hg' => hg.block g (hoc.block g hg').2 (fun e => hne g e.symm hg')).turn hT (own_ne hoc (by omega)), fun g hg' e => ?_⟩,
    h.pieces.of_block (hkm _ (by omega)), h.wher.of_block (hkm _ (by omega)), h.glass.of_block (hkm _ (by omega)), h.items.of_block (hkm _ (by omega)), h.trays.of_block (hkm _ (by omega)), h.to_.of_block (hkm _ (by omega)),
    fun p hp => okPiece.ext (h.okP p hp) hx, fun p hp => h.okW p hp, h.okG, fun p hp => okItem.ext (h.okI p hp) hx, fun p hp => okRelead.ext (hr p hp) hx, fun p hp => h.okC p hp,
    fun p hp => okInts_ext (h.okT p hp) hx, h.okO⟩, hC2⟩
  rcases hat with h' | h'
  · exact hne g (h'.symm.trans hg') e
  · rw [h'] at hg'; cases hg'; have := (hoc.block _ e).2; omega
set_option maxRecDepth 20000 in
set_option maxHeartbeats 4000000 in
theorem relead_does : Does 87 releadA fun A _ => A.releads.length ≤ 1000000 := by
  intro b N L n w0 w h0 hw0 hn hI
  have h : LedAt b N w L := h0.below hw0
  have hB0 : Below w.heap.size w (w.alloc (.cells (encNote n) 40)) := (Below.refl _ _).alloc (Nat.le_refl _) _
  have hbd : BoxAt (w.alloc (.cells (encNote n) 40)).drew w.heap.size 40 (encNote n) := (BoxAt.new _ _ _).drew
  have hLd : LedAt b N (w.alloc (.cells (encNote n) 40)).drew L := h.below hB0.drew
  have hlen : L.releads.length ≤ 1000000 := by simpa [Led.abs] using hI
  obtain ⟨vr0, vc0, g1, g2, g3, g4⟩ := h0.box
  obtain ⟨vr, vc, hb6, hor, hoc, hne⟩ := hLd.box
  have HKO : Hid (∀ k, w0.heap.size ≤ k → vr.ownBlock ≠ some k) := Lib.hid fun k hk e => by
    have e1 : vr0 = vr := by
      have h1 := (g1.belowAll hw0).belowAll hB0.drew
      have h2 := (h1.cell 4).symm.trans (hb6.cell 4)
      simpa using h2
    rw [← e1] at e
    have := (g2.block k e).2; omega
  have HOR : Hid (okRelead (LD b N) w ⟨n.year, n.panes⟩) := Lib.hid (by have := hn; simp only [okNote] at this; exact ⟨this.2.2.2.1, okNote_panes hn⟩)
  have HL0 := Lib.hid h0
  have e1 := releadL_abs L n
  have E1 : Hid ((releadA L.abs n.abs).2 = true) := Lib.hid (by rw [← e1])
  have E2 : Hid ((releadL L n).abs = (releadA L.abs n.abs).1) := Lib.hid (by rw [← e1])
  clear hn hI e1 g1 g2 g3 g4 h0 h hw0
  go_enter Tryz.func87, Tryz.ntmps87
  go_wp2
  refine wp_region_mark 11 [(0, none), (1, none), (2, none), (3, none), (5, none), (7, none), (4, some true), (6, some true), (8, some true), (9, none), (10, some false), (11, some false), (12, none), (13, none), (14, some false)] rfl (by kernel_rfl) (by kernel_rfl) (fun d _ _ _ _ h => by cases d <;> exact h) ?_
  iterate 6 (refine wpC_pure rfl rfl (fun W => by go_simp; with_reducible rfl) ?_; simp only [pTs, pTn, pTz, pTc])
  refine wpC_fix (v := vr) rfl rfl (fun W hW => by have e : W.cell? ⟨b + 6, 4, none⟩ = some vr := ((hb6.belowAll hW).cell 4).trans rfl; go_simp) ?_; simp only [pTs, pTn, pTz, pTc]
  refine wpC_fix (v := vi n.year) rfl rfl (fun W hW => by have e : W.cell? ⟨w.heap.size, 3, none⟩ = some (vi n.year) := ((hbd.belowAll hW).cell 3).trans rfl; go_simp) ?_; simp only [pTs, pTn, pTz, pTc]
  refine wpC_fix (v := n.panes.v) rfl rfl (fun W hW => by have e : W.cell? ⟨w.heap.size, 15, none⟩ = some n.panes.v := ((hbd.belowAll hW).cell 15).trans rfl; go_simp) ?_; simp only [pTs, pTn, pTz, pTc]
  refine wpC_pure rfl rfl (fun W => by go_simp; with_reducible rfl) ?_; simp only [pTs, pTn, pTz, pTc]
  refine wpC_act rfl rfl rfl (fun K hK => ?_)
  go_simp
  refine hK _ _ ((Below.refl _ _).alloc (Nat.le_refl _) _) ?_
  clear hK K
  try simp only [pTs, pTn, pTz, pTc]
  refine wpC_mark rfl rfl (fun K hK => ?_)
  refine wp_append_oneAt _ _ 55 rfl N einfo_Relead (fun _ => rfl) (by decide) encRelead_one (by decide) vr L.releads rfl (hor.belowAll ((Below.refl _ _).alloc (Nat.le_refl _) _)) (w.heap.size + 1) 0 1 ⟨n.year, n.panes⟩ rfl (cells_of_eqN (by simp) (buildRelead8 n.year n.panes)) (by omega) (Nat.le_trans hLd.le (by simp)) ?_
  intro v3 w3 ho3 hg3 hat3
  have hal : Below (w.alloc (.cells (encNote n) 40)).drew.heap.size (w.alloc (.cells (encNote n) 40)).drew ((w.alloc (.cells (encNote n) 40)).drew.alloc (.cells (encRelead ⟨n.year, n.panes⟩) 117)) := (Below.refl _ _).alloc (Nat.le_refl _) _
  have hg3 : ((w.alloc (.cells (encNote n) 40)).drew.alloc (.cells (encRelead ⟨n.year, n.panes⟩) 117)).grownBy w3 vr.ownBlock := hg3
  have hb63 : BoxAt w3 (b + 6) 101 #[.map (some b), .map (some (b + 1)), .map (some (b + 2)), .map (some (b + 3)), vr, vc, .map (some (b + 4)), .map (some (b + 5))] := (hb6.belowAll hal).of_block (hg3.block _ (hb6.belowAll hal).lt (fun e => by have := (hor.block _ e.symm).1; have := hLd.lt; omega))
  obtain ⟨a3, n3, c3, rfl⟩ := ho3.slice
  refine hK _ _ ?_
  clear hK K
  try simp only [pTs, pTn, pTz, pTc]
  iterate 2 (refine wpC_pure rfl rfl (fun W => by go_simp; with_reducible rfl) ?_; simp only [pTs, pTn, pTz, pTc])
  refine wpC_past rfl rfl (fun K hK => ?_)
  refine wp_store_box hb63 _ _ _ rfl rfl (.slice a3 n3 c3) rfl (by kernel_rfl) rfl (one_sl _ _ _) ?_
  intro w4 hb64 hT4
  have hb65 := hb64.eqv (cs' := #[.map (some b), .map (some (b + 1)), .map (some (b + 2)), .map (some (b + 3)), .slice a3 n3 c3, vc, .map (some (b + 4)), .map (some (b + 5))]) (by simp [splice, Value.cells])
  obtain ⟨hL5, hC5⟩ := (hLd.below hal).relead (hor.belowAll hal) (hoc.belowAll hal) hne ho3 hg3 hat3 (fun q hq => by rcases List.mem_append.1 hq with hq | hq; exact okRelead.ext (hLd.okR q hq) (.of_below hal); rw [List.mem_singleton.1 hq]; exact okRelead.ext HOR.out (.of_below (hB0.drew.trans (hal.mono hB0.drew.size)))) hb65 hT4
  have hkeep : ∀ k, w0.heap.size ≤ k → k < w.heap.size → w4.heap[k]? = w.heap[k]? := fun k h1 h2 => by rw [hT4.block k (by have := HL0.out.lt7; omega), hg3.block k (Nat.lt_of_lt_of_le h2 (hB0.drew.trans (hal.mono hB0.drew.size)).size) (fun e => HKO.out k h1 e.symm), hal.block k (Nat.lt_of_lt_of_le h2 hB0.drew.size)]; exact hB0.drew.block k h2
  refine hK _ _ ?_
  clear hK K
  try simp only [pTs, pTn, pTz, pTc]
  simp only [wpC]
  go_wp2
  go_ret
  exact ⟨releadL L n, by rw [E1.out]; rfl, E2.out, hL5, (Chg.of_below (hB0.drew.trans (hal.mono hB0.drew.size))).trans hC5, hkeep⟩
end Go.Proofs.YtendmmhfjhgdaaaGreat
end
section
set_option linter.unusedVariables false
set_option linter.unusedSimpArgs false
namespace Go.Proofs.YtendmmhfjhgdaaaGreat
open Go.RowKit

/-- no two pieces lie in one pane -/
def OneW (m : List (Int × Where)) (pane : Int) : Prop := ∀ p ∈ m, ∀ q ∈ m, inPane pane p.2 = true → inPane pane q.2 = true → p.1 = q.1
theorem holder_none {m : List (Int × Where)} {pane : Int} (h : ∀ p ∈ m, inPane pane p.2 = false) : holderW m pane = none := by
  have e : m.find? (fun p => inPane pane p.2) = none := List.find?_eq_none.2 fun p hp => by rw [h p hp]; simp
  unfold holderW; rw [e]; rfl
theorem holder_some {m : List (Int × Where)} {pane : Int} (h1 : OneW m pane) {p : Int × Where} (hp : p ∈ m) (hi : inPane pane p.2 = true) : holderW m pane = some p.1 := by
  unfold holderW
  cases hq : m.find? (fun p => inPane pane p.2) with
  | none => have := List.find?_eq_none.1 hq p hp; rw [hi] at this; simp at this
  | some q => simp only [Option.map_some]; rw [h1 q (List.mem_of_find?_eq_some hq) p hp (by have h := List.find?_some (p := fun p : Int × Where => inPane pane p.2) hq; exact h) hi]
set_option maxRecDepth 20000 in
set_option maxHeartbeats 4000000 in
theorem holder_any (b N : Nat) (L : Led) (pane : Int) (w : World) (h : LedAt b N w L) (h1 : OneW L.wher pane) :
    Calls Tryz.prog 143 #[.pointer (some ⟨b + 6, 0, none⟩), .int .i64 pane] w fun e w' => e = .returned (.tuple #[.int .i64 ((holderW L.wher pane).getD 0), .bool (holderW L.wher pane).isSome]) ∧ Below w.heap.size w w' := by
  have hc := h.cW
  have hlt := h.wher.lt
  have H1 := Lib.hid h1
  obtain ⟨hrun, hR0⟩ := h.wher.range (P := Tryz.prog) Tryz.underlying95
  generalize hob : Obj.mapIter (some (b + 1)) h.wher.raw.choose_spec.choose #[] h.wher.raw.choose_spec.choose = ob at hrun hR0
  clear hob
  have hB0 : Below w.heap.size w (w.alloc ob) := (Below.refl _ _).alloc (Nat.le_refl _) _
  have HR0 := Lib.hid hR0
  clear hR0 h h1
  go_enter Tryz.func143, Tryz.ntmps143
  go_wp2
  go_loopw [6, 7] (fun _ _ wr => ∃ done left, (done ++ left).Perm L.wher ∧ Hid (RangeAt vi vWhere I64 wr (b + 1) w.heap.size L.wher left) ∧ Hid (∀ p ∈ done, inPane pane p.2 = false) ∧ Below w.heap.size w wr) (fun _ _ wr => leftCount wr (b + 1) w.heap.size)
  case atStart => exact ⟨[], L.wher, .refl _, HR0, Lib.hid (by simp), hB0⟩
  case round =>
    obtain ⟨done, left, hp, hR, HD, hB⟩ := hrel
    have HP := Lib.hid hp
    have hcount := hR.out.count
    rcases hR.out.next (P := Tryz.prog) (by omega) 0 with ⟨hl0, hnx⟩ | ⟨l1, p, l2, w', hl, hnx, hR', hT, hen⟩
    · have HN : Hid (holderW L.wher pane = none) := Lib.hid (holder_none fun p hp => HD.out p (by rw [hl0] at hR HP; simpa using HP.out.mem_iff.2 hp))
      clear hp hl0
      go_wp2
      refine bodyPost_ret (v := .tuple #[.int .i64 0, .bool false]) (by simp [results, Tryz.results143, go_sem]) rfl ?_
      exact ⟨by rw [HN.out]; rfl, hB⟩
    · obtain ⟨r, x⟩ := p
      simp only at hnx hen
      have HL := Lib.hid hl
      have hmem : (r, x) ∈ L.wher := HP.out.mem_iff.1 (by rw [hl]; simp)
      have hHR' := Lib.hid hR'
      have hB' := hB.trans (hT.below (Nat.le_refl _))
      clear hR' hp hl
      by_cases hin : inPane pane x = true
      · have HS : Hid (holderW L.wher pane = some r) := Lib.hid (holder_some H1.out hmem hin)
        have hx1 : x.kind = 3 := by simp only [inPane, Bool.and_eq_true, decide_eq_true_eq] at hin; exact hin.1
        have hx2 : x.at_ = pane := by simp only [inPane, Bool.and_eq_true, decide_eq_true_eq] at hin; exact hin.2
        clear hin hmem
        go_wp2_with (with_reducible refine at_store ?_; refine wpList_store_last (cs := encWhere x) rfl 66 _ _ rfl rfl rfl rfl (by kernel_rfl) rfl (encWhere_one _) ?_)
        refine bodyPost_ret (v := .tuple #[.int .i64 r, .bool true]) (by simp [results, Tryz.results143, go_sem]) rfl ?_
        exact ⟨by rw [HS.out]; rfl, hB'.alloc hB'.size _⟩
      · have HX : Hid (inPane pane x = false) := Lib.hid (by simpa using hin)
        have HIN : x.kind = 3 → ¬ x.at_ = pane := fun h1 h2 => hin (by simp [inPane, h1, h2])
        have hcc := hHR'.out.below ((Below.refl _ _).alloc (Nat.le_refl _) (.cells (encWhere x) 66)) hHR'.out.map.lt hHR'.out.lt
        have HCC := Lib.hid hcc
        have hc3 := hcc.count
        have hB2 := hB'.alloc hB'.size (.cells (encWhere x) 66)
        clear hin hmem hcc
        by_cases hk : x.kind = 3
        · have ha := HIN hk
          clear HIN
          go_wp2_with (with_reducible refine at_store ?_; refine wpList_store_last (cs := encWhere x) rfl 66 _ _ rfl rfl rfl rfl (by kernel_rfl) rfl (encWhere_one _) ?_)
          go_roundw
          case rel => exact ⟨done ++ [(r, x)], l1 ++ l2, by
              refine List.Perm.trans ?_ HP.out
              rw [HL.out, List.append_assoc]
              exact (List.perm_append_left_iff done).2 (by simpa using (List.perm_middle (a := (r, x)) (l₁ := l1) (l₂ := l2)).symm), HCC, Lib.hid (fun p hp => by rcases List.mem_append.1 hp with hp | hp; exact HD.out p hp; rw [List.mem_singleton.1 hp]; exact HX.out), hB2⟩
          case measure => rw [hc3, hcount, HL.out]; simp
        · clear HIN
          go_wp2_with (with_reducible refine at_store ?_; refine wpList_store_last (cs := encWhere x) rfl 66 _ _ rfl rfl rfl rfl (by kernel_rfl) rfl (encWhere_one _) ?_)
          go_roundw
          case rel => exact ⟨done ++ [(r, x)], l1 ++ l2, by
              refine List.Perm.trans ?_ HP.out
              rw [HL.out, List.append_assoc]
              exact (List.perm_append_left_iff done).2 (by simpa using (List.perm_middle (a := (r, x)) (l₁ := l1) (l₂ := l2)).symm), HCC, Lib.hid (fun p hp => by rcases List.mem_append.1 hp with hp | hp; exact HD.out p hp; rw [List.mem_singleton.1 hp]; exact HX.out), hB2⟩
          case measure => rw [hc3, hcount, HL.out]; simp

theorem note_setting (n : Note) : ∀ j, j < (encSetting n.setting).size → (encNote n)[10 + j]? = (encSetting n.setting)[j]? := fun j hj => by
  have hj : j < 2 := hj
  iterate 2 (rcases j with _ | j; · rfl)
  omega
def paneOne (L : LedA) (n : NoteA) : Prop := OneW L.wher n.pane
set_option maxRecDepth 20000 in
set_option maxHeartbeats 4000000 in
theorem set_does : DoesS 90 setA paneOne := by
  intro b N L n w h hn hI
  have hB0 : Below w.heap.size w (w.alloc (.cells (encNote n) 40)) := (Below.refl _ _).alloc (Nat.le_refl _) _
  have hbx : BoxAt (w.alloc (.cells (encNote n) 40)) w.heap.size 40 (encNote n) := BoxAt.new _ _ _
  have hL0 : LedAt b N (w.alloc (.cells (encNote n) 40)) L := h.below hB0
  have hlt := h.lt7
  have HNW : Hid (N ≤ w.heap.size) := Lib.hid h.le
  have HL0 := Lib.hid hL0
  have HH := Lib.hid (holder_any b N L n.pane (w.alloc (.cells (encNote n) 40)) hL0 hI)
  have HPI : Hid (I64 n.piece) := Lib.hid (by have := hn; simp only [okNote] at this; exact this.2.2.2.2.2.2.1)
  have HPA : Hid (I64 n.pane) := Lib.hid (by have := hn; simp only [okNote] at this; exact this.2.2.2.2.2.2.2.1)
  have HCO : Hid (I64 n.colour) := Lib.hid (by have := hn; simp only [okNote] at this; exact this.2.2.2.2.2.2.2.2.1)
  have HSH : Hid (I64 n.setting.shift) := Lib.hid (by have := hn; simp only [okNote] at this; exact this.2.2.2.2.2.2.2.2.2.2.1)
  obtain ⟨y, hy⟩ : ∃ y, (aget L.glass n.pane).getD 0 = y := ⟨_, rfl⟩
  obtain ⟨has, has'⟩ : ∃ has, ahas L.glass n.pane = has := ⟨_, rfl⟩
  obtain ⟨hp, hhp⟩ : ∃ hp, holderW L.wher n.pane = hp := ⟨_, rfl⟩
  have HY := Lib.hid hy
  have HAS := Lib.hid has'
  have HHP := Lib.hid hhp
  rw [hhp] at HH
  by_cases hno : setNo L n = true
  · have e0 := setL_abs L n
    rw [if_pos hno] at e0
    have E1 : Hid ((setA L.abs n.abs).2 = false) := Lib.hid (by rw [← e0])
    have E2 : Hid (L.abs = (setA L.abs n.abs).1) := Lib.hid (by rw [← e0])
    have hc : ¬ n.bench = 1 ∨ (n.bench = 1 ∧ hp.isSome = true) ∨ (n.bench = 1 ∧ hp.isSome = false ∧ has = true) := by
      simp only [setNo, hhp, has', Bool.or_eq_true, Bool.not_eq_true', decide_eq_false_iff_not] at hno
      by_cases h1 : n.bench = 1
      · cases h2 : hp.isSome
        · exact .inr (.inr ⟨h1, rfl, by simpa [h1, h2] using hno⟩)
        · exact .inr (.inl ⟨h1, rfl⟩)
      · exact .inl h1
    generalize hp.isSome = held at hc HH
    clear hno e0 h hn hI hy has' hhp hL0
    rcases hc with hc1 | ⟨hc1, hc2⟩ | ⟨hc1, hc2, hc3⟩
    all_goals
      go_enter Tryz.func90, Tryz.ntmps90
      go_wp2_with (go_at_call 143; refine HH.out.mono ?_; rintro e w1 ⟨rfl, hb1⟩; have hbd := (hbx.belowAll hb1).drew; have HLd := Lib.hid (HL0.out.below hb1).drew; have hgl : b + 6 < w1.drew.heap.size := (by have := HLd.out.lt7; omega); have hB1 := (Below.call hB0 hb1 (Nat.le_refl _)).drew; have hcb : w1.drew.cell? ⟨w.heap.size, 0, none⟩ = some (vi n.bench) := (hbd.cell 0).trans rfl; have hcp : w1.drew.cell? ⟨w.heap.size, 6, none⟩ = some (vi n.piece) := (hbd.cell 6).trans rfl)
      refine wp_region_ord [(0, true), (1, true), (2, true), (3, true), (4, true), (5, true), (6, true), (7, true), (8, true), (9, true), (10, true), (11, true)] rfl (by kernel_rfl) (by kernel_rfl) (fun d _ _ _ _ h => by cases d <;> exact h) ?_
      iterate 3 (refine wpB_fix rfl rfl (fun W hW => by go_simp; with_reducible rfl) ?_; simp only [pTs, pTn, pTz, pTc])
      refine wpB_fix (v := .map (some (b + 2))) rfl rfl (fun W hW => by have e : W.cell? ⟨b + 6, 2, none⟩ = some (.map (some (b + 2))) := (hW.cell (p := ⟨b + 6, 2, none⟩) hgl).trans HLd.out.cG; go_simp) ?_; simp only [pTs, pTn, pTz, pTc]
      refine wpB_fix rfl rfl (fun W hW => by go_simp; with_reducible rfl) ?_; simp only [pTs, pTn, pTz, pTc]
      refine wpB_fix (v := vi n.pane) rfl rfl (fun W hW => by have e : W.cell? ⟨w.heap.size, 7, none⟩ = some (vi n.pane) := ((hbd.belowAll hW).cell 7).trans rfl; go_simp) ?_; simp only [pTs, pTn, pTz, pTc]
      refine wpB_fix (v := .tuple #[vi y, .bool has]) rfl rfl (fun W hW => Eq.trans (run_look intKey Tryz.underlying96 0 (zeroI _) rfl (HLd.out.glass.below hW HLd.out.glass.lt) n.pane HPA.out rfl) (by rw [HY.out, HAS.out]; rfl)) ?_; simp only [pTs, pTn, pTz, pTc]
      iterate 5 (refine wpB_fix rfl rfl (fun W hW => by go_simp; with_reducible rfl) ?_; simp only [pTs, pTn, pTz, pTc])
      simp only [wpB]
      go_wp2
      go_ret
      exact ⟨L, by rw [E1.out]; rfl, E2.out, HLd.out, .of_below hB1⟩
  have e0 := setL_abs L n
  rw [if_neg hno] at e0
  have E1 : Hid ((setA L.abs n.abs).2 = (setL L n).2) := Lib.hid (by rw [← e0])
  have E2 : Hid ((setL L n).1.abs = (setA L.abs n.abs).1) := Lib.hid (by rw [← e0])
  obtain ⟨hc1, hc2, hc3⟩ : n.bench = 1 ∧ hp = none ∧ has = false := by
    simp only [setNo, hhp, has', Bool.or_eq_true, Bool.not_eq_true', decide_eq_false_iff_not, not_or, Bool.not_eq_true] at hno
    exact ⟨by simpa using hno.1.1, by simpa using hno.1.2, hno.2⟩
  subst hc2
  simp only [Option.getD_none, Option.isSome_none] at HH
  have HAT := Lib.hid (fun W hW => at_any b N L n.piece 1 W (hL0.below (w' := W) hW) HPI.out)
  clear hno e0 h hn hI hy has' hhp hL0
  by_cases hpz : n.piece = 0
  · have E3 : Hid (setL L n = ({ L with glass := aput L.glass n.pane n.colour }, true)) := Lib.hid (by unfold setL; rw [if_pos hpz])
    go_enter Tryz.func90, Tryz.ntmps90
    go_wp2_with (go_at_call 143; refine HH.out.mono ?_; rintro e w1 ⟨rfl, hb1⟩; have hbd := (hbx.belowAll hb1).drew; have HLd := Lib.hid (HL0.out.below hb1).drew; have hgl : b + 6 < w1.drew.heap.size := (by have := HLd.out.lt7; omega); have hB1 := (Below.call hB0 hb1 (Nat.le_refl _)).drew; have hcb : w1.drew.cell? ⟨w.heap.size, 0, none⟩ = some (vi n.bench) := (hbd.cell 0).trans rfl; have hcp : w1.drew.cell? ⟨w.heap.size, 6, none⟩ = some (vi n.piece) := (hbd.cell 6).trans rfl)
    refine wp_region_ord [(0, true), (1, true), (2, true), (3, true), (4, true), (5, true), (6, true), (7, true), (8, true), (9, true), (10, true), (11, true)] rfl (by kernel_rfl) (by kernel_rfl) (fun d _ _ _ _ h => by cases d <;> exact h) ?_
    iterate 3 (refine wpB_fix rfl rfl (fun W hW => by go_simp; with_reducible rfl) ?_; simp only [pTs, pTn, pTz, pTc])
    refine wpB_fix (v := .map (some (b + 2))) rfl rfl (fun W hW => by have e : W.cell? ⟨b + 6, 2, none⟩ = some (.map (some (b + 2))) := (hW.cell (p := ⟨b + 6, 2, none⟩) hgl).trans HLd.out.cG; go_simp) ?_; simp only [pTs, pTn, pTz, pTc]
    refine wpB_fix rfl rfl (fun W hW => by go_simp; with_reducible rfl) ?_; simp only [pTs, pTn, pTz, pTc]
    refine wpB_fix (v := vi n.pane) rfl rfl (fun W hW => by have e : W.cell? ⟨w.heap.size, 7, none⟩ = some (vi n.pane) := ((hbd.belowAll hW).cell 7).trans rfl; go_simp) ?_; simp only [pTs, pTn, pTz, pTc]
    refine wpB_fix (v := .tuple #[vi y, .bool has]) rfl rfl (fun W hW => Eq.trans (run_look intKey Tryz.underlying96 0 (zeroI _) rfl (HLd.out.glass.below hW HLd.out.glass.lt) n.pane HPA.out rfl) (by rw [HY.out, HAS.out]; rfl)) ?_; simp only [pTs, pTn, pTz, pTc]
    iterate 5 (refine wpB_fix rfl rfl (fun W hW => by go_simp; with_reducible rfl) ?_; simp only [pTs, pTn, pTz, pTc])
    simp only [wpB]
    go_wp2
    have HL2 := Lib.hid HLd.out.drew
    have hb2 := hbd.drew
    have hgl2 : b + 6 < w1.drew.drew.heap.size := (by have := HL2.out.lt7; omega)
    refine wp_region_mark 8 [(0, none), (1, none), (2, none), (4, none), (6, none), (3, some true), (5, some true), (7, some true), (8, some false)] rfl (by kernel_rfl) (by kernel_rfl) (fun d _ _ _ _ h => by cases d <;> exact h) ?_
    iterate 5 (refine wpC_pure rfl rfl (fun W => by go_simp; with_reducible rfl) ?_; simp only [pTs, pTn, pTz, pTc])
    refine wpC_fix (v := .map (some (b + 2))) rfl rfl (fun W hW => by have e : W.cell? ⟨b + 6, 2, none⟩ = some (.map (some (b + 2))) := (hW.cell (p := ⟨b + 6, 2, none⟩) hgl2).trans HL2.out.cG; go_simp) ?_; simp only [pTs, pTn, pTz, pTc]
    refine wpC_fix (v := vi n.pane) rfl rfl (fun W hW => by have e : W.cell? ⟨w.heap.size, 7, none⟩ = some (vi n.pane) := ((hb2.belowAll hW).cell 7).trans rfl; go_simp) ?_; simp only [pTs, pTn, pTz, pTc]
    refine wpC_fix (v := vi n.colour) rfl rfl (fun W hW => by have e : W.cell? ⟨w.heap.size, 8, none⟩ = some (vi n.colour) := ((hb2.belowAll hW).cell 8).trans rfl; go_simp) ?_; simp only [pTs, pTn, pTz, pTc]
    refine wpC_mark rfl rfl (fun K hK => ?_)
    refine wp_store_map _ _ _ 96 rfl intKey Tryz.underlying96 rfl HL2.out.glass n.pane HPA.out rfl n.colour rfl ?_
    intro w3 hm hT
    have hL3 := HL2.out.setG hm hT (fun p hp => by rcases mem_aput hp with rfl | hp; exact HCO.out; exact HL2.out.okG p hp)
    have hC3 : Chg b w.heap.size w w3 := (Chg.of_below hB1.drew).trans (Chg.of_turn hT (.inl (by omega)))
    clear hT hm
    refine hK _ _ ?_
    clear hK K
    try simp only [pTs, pTn, pTz, pTc]
    simp only [wpC]
    go_wp2
    go_ret
    exact ⟨_, by rw [E1.out, E3.out]; rfl, by rw [← E2.out, E3.out], hL3, hC3⟩
  rcases hat : atW L.wher n.piece 1
  · have E3 : Hid (setL L n = (L, false)) := Lib.hid (by unfold setL; rw [if_neg hpz, hat]; rfl)
    rw [hat] at HAT
    clear hat
    go_enter Tryz.func90, Tryz.ntmps90
    go_wp2_with (go_at_call 143; refine HH.out.mono ?_; rintro e w1 ⟨rfl, hb1⟩; have hbd := (hbx.belowAll hb1).drew; have HLd := Lib.hid (HL0.out.below hb1).drew; have hgl : b + 6 < w1.drew.heap.size := (by have := HLd.out.lt7; omega); have hB1 := (Below.call hB0 hb1 (Nat.le_refl _)).drew; have hcb : w1.drew.cell? ⟨w.heap.size, 0, none⟩ = some (vi n.bench) := (hbd.cell 0).trans rfl; have hcp : w1.drew.cell? ⟨w.heap.size, 6, none⟩ = some (vi n.piece) := (hbd.cell 6).trans rfl)
    refine wp_region_ord [(0, true), (1, true), (2, true), (3, true), (4, true), (5, true), (6, true), (7, true), (8, true), (9, true), (10, true), (11, true)] rfl (by kernel_rfl) (by kernel_rfl) (fun d _ _ _ _ h => by cases d <;> exact h) ?_
    iterate 3 (refine wpB_fix rfl rfl (fun W hW => by go_simp; with_reducible rfl) ?_; simp only [pTs, pTn, pTz, pTc])
    refine wpB_fix (v := .map (some (b + 2))) rfl rfl (fun W hW => by have e : W.cell? ⟨b + 6, 2, none⟩ = some (.map (some (b + 2))) := (hW.cell (p := ⟨b + 6, 2, none⟩) hgl).trans HLd.out.cG; go_simp) ?_; simp only [pTs, pTn, pTz, pTc]
    refine wpB_fix rfl rfl (fun W hW => by go_simp; with_reducible rfl) ?_; simp only [pTs, pTn, pTz, pTc]
    refine wpB_fix (v := vi n.pane) rfl rfl (fun W hW => by have e : W.cell? ⟨w.heap.size, 7, none⟩ = some (vi n.pane) := ((hbd.belowAll hW).cell 7).trans rfl; go_simp) ?_; simp only [pTs, pTn, pTz, pTc]
    refine wpB_fix (v := .tuple #[vi y, .bool has]) rfl rfl (fun W hW => Eq.trans (run_look intKey Tryz.underlying96 0 (zeroI _) rfl (HLd.out.glass.below hW HLd.out.glass.lt) n.pane HPA.out rfl) (by rw [HY.out, HAS.out]; rfl)) ?_; simp only [pTs, pTn, pTz, pTc]
    iterate 5 (refine wpB_fix rfl rfl (fun W hW => by go_simp; with_reducible rfl) ?_; simp only [pTs, pTn, pTz, pTc])
    simp only [wpB]
    go_wp2_with (go_at_call 141; refine (HAT.out _ (hb1.drew)).mono ?_; rintro e w2 ⟨rfl, hb2⟩)
    go_ret
    exact ⟨L, by rw [E1.out, E3.out]; rfl, by rw [← E2.out, E3.out], HLd.out.below hb2, .of_below (Below.call hB1 hb2 (Nat.le_refl _))⟩
  · have E3 : Hid (setL L n = ({ L with wher := aput L.wher n.piece ⟨n.piece, 3, n.pane, n.setting, ⟨0, 0⟩⟩ }, true)) := Lib.hid (by unfold setL; rw [if_neg hpz, hat]; rfl)
    rw [hat] at HAT
    clear hat
    go_enter Tryz.func90, Tryz.ntmps90
    go_wp2_with (go_at_call 143; refine HH.out.mono ?_; rintro e w1 ⟨rfl, hb1⟩; have hbd := (hbx.belowAll hb1).drew; have HLd := Lib.hid (HL0.out.below hb1).drew; have hgl : b + 6 < w1.drew.heap.size := (by have := HLd.out.lt7; omega); have hB1 := (Below.call hB0 hb1 (Nat.le_refl _)).drew; have hcb : w1.drew.cell? ⟨w.heap.size, 0, none⟩ = some (vi n.bench) := (hbd.cell 0).trans rfl; have hcp : w1.drew.cell? ⟨w.heap.size, 6, none⟩ = some (vi n.piece) := (hbd.cell 6).trans rfl)
    refine wp_region_ord [(0, true), (1, true), (2, true), (3, true), (4, true), (5, true), (6, true), (7, true), (8, true), (9, true), (10, true), (11, true)] rfl (by kernel_rfl) (by kernel_rfl) (fun d _ _ _ _ h => by cases d <;> exact h) ?_
    iterate 3 (refine wpB_fix rfl rfl (fun W hW => by go_simp; with_reducible rfl) ?_; simp only [pTs, pTn, pTz, pTc])
    refine wpB_fix (v := .map (some (b + 2))) rfl rfl (fun W hW => by have e : W.cell? ⟨b + 6, 2, none⟩ = some (.map (some (b + 2))) := (hW.cell (p := ⟨b + 6, 2, none⟩) hgl).trans HLd.out.cG; go_simp) ?_; simp only [pTs, pTn, pTz, pTc]
    refine wpB_fix rfl rfl (fun W hW => by go_simp; with_reducible rfl) ?_; simp only [pTs, pTn, pTz, pTc]
    refine wpB_fix (v := vi n.pane) rfl rfl (fun W hW => by have e : W.cell? ⟨w.heap.size, 7, none⟩ = some (vi n.pane) := ((hbd.belowAll hW).cell 7).trans rfl; go_simp) ?_; simp only [pTs, pTn, pTz, pTc]
    refine wpB_fix (v := .tuple #[vi y, .bool has]) rfl rfl (fun W hW => Eq.trans (run_look intKey Tryz.underlying96 0 (zeroI _) rfl (HLd.out.glass.below hW HLd.out.glass.lt) n.pane HPA.out rfl) (by rw [HY.out, HAS.out]; rfl)) ?_; simp only [pTs, pTn, pTz, pTc]
    iterate 5 (refine wpB_fix rfl rfl (fun W hW => by go_simp; with_reducible rfl) ?_; simp only [pTs, pTn, pTz, pTc])
    simp only [wpB]
    go_wp2_with (go_at_call 141; refine (HAT.out _ (hb1.drew)).mono ?_; rintro e w2 ⟨rfl, hb2⟩; have HL2 := Lib.hid (HLd.out.below hb2).drew; have hb3 := (hbd.belowAll hb2).drew; have hgl2 : b + 6 < w2.drew.heap.size := (by have := HL2.out.lt7; omega); have hB2 := Below.call hB1 hb2 (Nat.le_refl _))
    refine wp_region_mark 13 [(0, none), (1, none), (2, none), (4, none), (6, none), (8, none), (10, none), (3, some true), (5, some true), (7, some true), (9, some true), (11, some true), (12, none), (13, some false)] rfl (by kernel_rfl) (by kernel_rfl) (fun d _ _ _ _ h => by cases d <;> exact h) ?_
    iterate 7 (refine wpC_pure rfl rfl (fun W => by go_simp; with_reducible rfl) ?_; simp only [pTs, pTn, pTz, pTc])
    refine wpC_fix (v := .map (some (b + 1))) rfl rfl (fun W hW => by have e : W.cell? ⟨b + 6, 1, none⟩ = some (.map (some (b + 1))) := (hW.cell (p := ⟨b + 6, 1, none⟩) hgl2).trans HL2.out.cW; go_simp) ?_; simp only [pTs, pTn, pTz, pTc]
    iterate 2 (refine wpC_fix (v := vi n.piece) rfl rfl (fun W hW => by have e : W.cell? ⟨w.heap.size, 6, none⟩ = some (vi n.piece) := ((hb3.belowAll hW).cell 6).trans rfl; go_simp) ?_; simp only [pTs, pTn, pTz, pTc])
    refine wpC_fix (v := vi n.pane) rfl rfl (fun W hW => by have e : W.cell? ⟨w.heap.size, 7, none⟩ = some (vi n.pane) := ((hb3.belowAll hW).cell 7).trans rfl; go_simp) ?_; simp only [pTs, pTn, pTz, pTc]
    refine wpC_fix (v := .agg (encSetting n.setting)) rfl rfl (fun W hW => run_load_box (encSetting n.setting) (hb3.belowAll hW) rfl (note_setting n) Tryz.underlying29 rfl (by kernel_rfl)) ?_; simp only [pTs, pTn, pTz, pTc]
    refine wpC_pure rfl rfl (fun W => by go_simp; with_reducible rfl) ?_; simp only [pTs, pTn, pTz, pTc]
    refine wpC_mark rfl rfl (fun K hK => ?_)
    refine wp_store_map _ _ _ 95 rfl intKey Tryz.underlying95 rfl HL2.out.wher n.piece HPI.out rfl ⟨n.piece, 3, n.pane, n.setting, ⟨0, 0⟩⟩ rfl ?_
    intro w3 hm hT
    have hL3 := HL2.out.setW hm hT (fun p hp => by rcases mem_aput hp with rfl | hp; exact ⟨HPI.out, (show I64 3 from by unfold I64; decide), HPA.out, HSH.out, I64_zero, I64_zero⟩; exact HL2.out.okW p hp)
    have hC3 : Chg b w.heap.size w w3 := (Chg.of_below hB2.drew).trans (Chg.of_turn hT (.inl (by omega)))
    clear hT hm
    refine hK _ _ ?_
    clear hK K
    try simp only [pTs, pTn, pTz, pTc]
    simp only [wpC]
    go_wp2
    go_ret
    exact ⟨_, by rw [E1.out, E3.out]; rfl, by rw [← E2.out, E3.out], hL3, hC3⟩

theorem holder_mem {m : List (Int × Where)} {pane p : Int} (h : holderW m pane = some p) : ∃ x, (p, x) ∈ m ∧ inPane pane x = true := by
  unfold holderW at h
  cases hq : m.find? (fun p => inPane pane p.2) with
  | none => rw [hq] at h; cases h
  | some q => rw [hq] at h; simp only [Option.map_some, Option.some.injEq] at h; subst h; exact ⟨q.2, List.mem_of_find?_eq_some hq, by have h := List.find?_some (p := fun p : Int × Where => inPane pane p.2) hq; exact h⟩
set_option maxRecDepth 20000 in
set_option maxHeartbeats 4000000 in
theorem take_does : DoesS 91 takeA paneOne := by
  intro b N L n w h hn hI
  have hB0 : Below w.heap.size w (w.alloc (.cells (encNote n) 40)) := (Below.refl _ _).alloc (Nat.le_refl _) _
  have hbx : BoxAt (w.alloc (.cells (encNote n) 40)) w.heap.size 40 (encNote n) := BoxAt.new _ _ _
  have hL0 : LedAt b N (w.alloc (.cells (encNote n) 40)) L := h.below hB0
  have hlt := h.lt7
  have HNW : Hid (N ≤ w.heap.size) := Lib.hid h.le
  have HL0 := Lib.hid hL0
  have HH := Lib.hid (holder_any b N L n.pane (w.alloc (.cells (encNote n) 40)) hL0 hI)
  have HPI : Hid (I64 n.piece) := Lib.hid (by have := hn; simp only [okNote] at this; exact this.2.2.2.2.2.2.1)
  have HPA : Hid (I64 n.pane) := Lib.hid (by have := hn; simp only [okNote] at this; exact this.2.2.2.2.2.2.2.1)
  have HCO : Hid (I64 n.colour) := Lib.hid (by have := hn; simp only [okNote] at this; exact this.2.2.2.2.2.2.2.2.1)
  have HSH : Hid (I64 n.setting.shift) := Lib.hid (by have := hn; simp only [okNote] at this; exact this.2.2.2.2.2.2.2.2.2.2.1)
  obtain ⟨y, hy⟩ : ∃ y, (aget L.glass n.pane).getD 0 = y := ⟨_, rfl⟩
  obtain ⟨has, has'⟩ : ∃ has, ahas L.glass n.pane = has := ⟨_, rfl⟩
  obtain ⟨hp, hhp⟩ : ∃ hp, holderW L.wher n.pane = hp := ⟨_, rfl⟩
  have HY := Lib.hid hy
  have HAS := Lib.hid has'
  have HHP := Lib.hid hhp
  rw [hhp] at HH
  have e0 := takeL_abs L n
  by_cases hno : takeNo L n = true
  · rw [if_pos hno] at e0
    have E1 : Hid ((takeA L.abs n.abs).2 = false) := Lib.hid (by rw [← e0])
    have E2 : Hid (L.abs = (takeA L.abs n.abs).1) := Lib.hid (by rw [← e0])
    have hc : ¬ n.bench = 1 ∨ (n.bench = 1 ∧ hp.isSome = false ∧ has = false) := by
      simp only [takeNo, hhp, has', Bool.or_eq_true, Bool.and_eq_true, Bool.not_eq_true', decide_eq_false_iff_not] at hno
      by_cases h1 : n.bench = 1
      · exact .inr ⟨h1, by simpa [h1] using hno⟩
      · exact .inl h1
    generalize hp.isSome = held at hc HH
    clear hno e0 h hn hI hy has' hhp hL0
    rcases hc with hc1 | ⟨hc1, hc2, hc3⟩
    all_goals
      go_enter Tryz.func91, Tryz.ntmps91
      go_wp2_with (go_at_call 143; refine HH.out.mono ?_; rintro e w1 ⟨rfl, hb1⟩; have hbd := (hbx.belowAll hb1).drew; have HLd := Lib.hid (HL0.out.below hb1).drew; have hgl : b + 6 < w1.drew.heap.size := (by have := HLd.out.lt7; omega); have hB1 := (Below.call hB0 hb1 (Nat.le_refl _)).drew; have hcb : w1.drew.cell? ⟨w.heap.size, 0, none⟩ = some (vi n.bench) := (hbd.cell 0).trans rfl; have hcp : w1.drew.cell? ⟨w.heap.size, 6, none⟩ = some (vi n.piece) := (hbd.cell 6).trans rfl)
      refine wp_region_ord [(0, true), (1, true), (2, true), (3, true), (4, true), (5, true), (6, true), (7, true), (8, true), (9, true), (10, true), (11, true)] rfl (by kernel_rfl) (by kernel_rfl) (fun d _ _ _ _ h => by cases d <;> exact h) ?_
      iterate 3 (refine wpB_fix rfl rfl (fun W hW => by go_simp; with_reducible rfl) ?_; simp only [pTs, pTn, pTz, pTc])
      refine wpB_fix (v := .map (some (b + 2))) rfl rfl (fun W hW => by have e : W.cell? ⟨b + 6, 2, none⟩ = some (.map (some (b + 2))) := (hW.cell (p := ⟨b + 6, 2, none⟩) hgl).trans HLd.out.cG; go_simp) ?_; simp only [pTs, pTn, pTz, pTc]
      refine wpB_fix rfl rfl (fun W hW => by go_simp; with_reducible rfl) ?_; simp only [pTs, pTn, pTz, pTc]
      refine wpB_fix (v := vi n.pane) rfl rfl (fun W hW => by have e : W.cell? ⟨w.heap.size, 7, none⟩ = some (vi n.pane) := ((hbd.belowAll hW).cell 7).trans rfl; go_simp) ?_; simp only [pTs, pTn, pTz, pTc]
      refine wpB_fix (v := .tuple #[vi y, .bool has]) rfl rfl (fun W hW => Eq.trans (run_look intKey Tryz.underlying96 0 (zeroI _) rfl (HLd.out.glass.below hW HLd.out.glass.lt) n.pane HPA.out rfl) (by rw [HY.out, HAS.out]; rfl)) ?_; simp only [pTs, pTn, pTz, pTc]
      iterate 5 (refine wpB_fix rfl rfl (fun W hW => by go_simp; with_reducible rfl) ?_; simp only [pTs, pTn, pTz, pTc])
      simp only [wpB]
      go_wp2
      go_ret
      exact ⟨L, by rw [E1.out]; rfl, E2.out, HLd.out, .of_below hB1⟩
  rw [if_neg hno] at e0
  have E1 : Hid ((takeA L.abs n.abs).2 = true) := Lib.hid (by rw [← e0])
  have E2 : Hid ((takeL L n).abs = (takeA L.abs n.abs).1) := Lib.hid (by rw [← e0])
  obtain ⟨hc1, hc2⟩ : n.bench = 1 ∧ (hp.isSome = false → has = true) := by
    simp only [takeNo, hhp, has', Bool.or_eq_true, Bool.and_eq_true, Bool.not_eq_true', decide_eq_false_iff_not, not_or, Decidable.not_not] at hno
    exact ⟨hno.1, fun h2 => by cases has; exact absurd ⟨h2, rfl⟩ hno.2; rfl⟩
  cases hp with
  | none =>
    have hc3 : has = true := hc2 rfl
    have E3 : Hid (takeL L n = { L with glass := adel L.glass n.pane }) := Lib.hid (by unfold takeL; rw [hhp])
    simp only [Option.getD_none, Option.isSome_none] at HH
    clear hno e0 h hn hI hy has' hhp hL0 hc2
    go_enter Tryz.func91, Tryz.ntmps91
    go_wp2_with (go_at_call 143; refine HH.out.mono ?_; rintro e w1 ⟨rfl, hb1⟩; have hbd := (hbx.belowAll hb1).drew; have HLd := Lib.hid (HL0.out.below hb1).drew; have hgl : b + 6 < w1.drew.heap.size := (by have := HLd.out.lt7; omega); have hB1 := (Below.call hB0 hb1 (Nat.le_refl _)).drew; have hcb : w1.drew.cell? ⟨w.heap.size, 0, none⟩ = some (vi n.bench) := (hbd.cell 0).trans rfl; have hcp : w1.drew.cell? ⟨w.heap.size, 6, none⟩ = some (vi n.piece) := (hbd.cell 6).trans rfl)
    refine wp_region_ord [(0, true), (1, true), (2, true), (3, true), (4, true), (5, true), (6, true), (7, true), (8, true), (9, true), (10, true), (11, true)] rfl (by kernel_rfl) (by kernel_rfl) (fun d _ _ _ _ h => by cases d <;> exact h) ?_
    iterate 3 (refine wpB_fix rfl rfl (fun W hW => by go_simp; with_reducible rfl) ?_; simp only [pTs, pTn, pTz, pTc])
    refine wpB_fix (v := .map (some (b + 2))) rfl rfl (fun W hW => by have e : W.cell? ⟨b + 6, 2, none⟩ = some (.map (some (b + 2))) := (hW.cell (p := ⟨b + 6, 2, none⟩) hgl).trans HLd.out.cG; go_simp) ?_; simp only [pTs, pTn, pTz, pTc]
    refine wpB_fix rfl rfl (fun W hW => by go_simp; with_reducible rfl) ?_; simp only [pTs, pTn, pTz, pTc]
    refine wpB_fix (v := vi n.pane) rfl rfl (fun W hW => by have e : W.cell? ⟨w.heap.size, 7, none⟩ = some (vi n.pane) := ((hbd.belowAll hW).cell 7).trans rfl; go_simp) ?_; simp only [pTs, pTn, pTz, pTc]
    refine wpB_fix (v := .tuple #[vi y, .bool has]) rfl rfl (fun W hW => Eq.trans (run_look intKey Tryz.underlying96 0 (zeroI _) rfl (HLd.out.glass.below hW HLd.out.glass.lt) n.pane HPA.out rfl) (by rw [HY.out, HAS.out]; rfl)) ?_; simp only [pTs, pTn, pTz, pTc]
    iterate 5 (refine wpB_fix rfl rfl (fun W hW => by go_simp; with_reducible rfl) ?_; simp only [pTs, pTn, pTz, pTc])
    simp only [wpB]
    go_wp2
    have HL2 := Lib.hid HLd.out.drew
    have hb2 := hbd.drew
    have hgl2 : b + 6 < w1.drew.drew.heap.size := (by have := HL2.out.lt7; omega)
    refine wp_region_mark 6 [(0, none), (1, none), (2, none), (4, none), (3, some true), (5, some true), (6, some false)] rfl (by kernel_rfl) (by kernel_rfl) (fun d _ _ _ _ h => by cases d <;> exact h) ?_
    iterate 4 (refine wpC_pure rfl rfl (fun W => by go_simp; with_reducible rfl) ?_; simp only [pTs, pTn, pTz, pTc])
    refine wpC_fix (v := .map (some (b + 2))) rfl rfl (fun W hW => by have e : W.cell? ⟨b + 6, 2, none⟩ = some (.map (some (b + 2))) := (hW.cell (p := ⟨b + 6, 2, none⟩) hgl2).trans HL2.out.cG; go_simp) ?_; simp only [pTs, pTn, pTz, pTc]
    refine wpC_fix (v := vi n.pane) rfl rfl (fun W hW => by have e : W.cell? ⟨w.heap.size, 7, none⟩ = some (vi n.pane) := ((hb2.belowAll hW).cell 7).trans rfl; go_simp) ?_; simp only [pTs, pTn, pTz, pTc]
    refine wpC_mark rfl rfl (fun K hK => ?_)
    refine wp_map_drop _ _ 96 rfl intKey Tryz.underlying96 rfl HL2.out.glass n.pane HPA.out rfl ?_
    intro w3 hm hT
    have hL3 := HL2.out.setG hm hT (fun p hp => HL2.out.okG p (List.mem_filter.1 hp).1)
    have hC3 : Chg b w.heap.size w w3 := (Chg.of_below hB1.drew).trans (Chg.of_turn hT (.inl (by omega)))
    clear hT hm
    refine hK _ _ ?_
    clear hK K
    try simp only [pTs, pTn, pTz, pTc]
    simp only [wpC]
    go_wp2
    go_ret
    exact ⟨_, by rw [E1.out]; rfl, by rw [← E2.out, E3.out], hL3, hC3⟩
  | some p =>
    have E3 : Hid (takeL L n = { { L with glass := adel L.glass n.pane } with wher := putW L.wher p 1 }) := Lib.hid (by unfold takeL; rw [hhp])
    have HPG : Hid (I64 p) := Lib.hid (by obtain ⟨x, hx, _⟩ := holder_mem hhp; exact hL0.wher.good _ hx)
    simp only [Option.getD_some, Option.isSome_some] at HH
    clear hno e0 h hn hI hy has' hhp hL0 hc2
    go_enter Tryz.func91, Tryz.ntmps91
    go_wp2_with (go_at_call 143; refine HH.out.mono ?_; rintro e w1 ⟨rfl, hb1⟩; have hbd := (hbx.belowAll hb1).drew; have HLd := Lib.hid (HL0.out.below hb1).drew; have hgl : b + 6 < w1.drew.heap.size := (by have := HLd.out.lt7; omega); have hB1 := (Below.call hB0 hb1 (Nat.le_refl _)).drew; have hcb : w1.drew.cell? ⟨w.heap.size, 0, none⟩ = some (vi n.bench) := (hbd.cell 0).trans rfl; have hcp : w1.drew.cell? ⟨w.heap.size, 6, none⟩ = some (vi n.piece) := (hbd.cell 6).trans rfl)
    refine wp_region_ord [(0, true), (1, true), (2, true), (3, true), (4, true), (5, true), (6, true), (7, true), (8, true), (9, true), (10, true), (11, true)] rfl (by kernel_rfl) (by kernel_rfl) (fun d _ _ _ _ h => by cases d <;> exact h) ?_
    iterate 3 (refine wpB_fix rfl rfl (fun W hW => by go_simp; with_reducible rfl) ?_; simp only [pTs, pTn, pTz, pTc])
    refine wpB_fix (v := .map (some (b + 2))) rfl rfl (fun W hW => by have e : W.cell? ⟨b + 6, 2, none⟩ = some (.map (some (b + 2))) := (hW.cell (p := ⟨b + 6, 2, none⟩) hgl).trans HLd.out.cG; go_simp) ?_; simp only [pTs, pTn, pTz, pTc]
    refine wpB_fix rfl rfl (fun W hW => by go_simp; with_reducible rfl) ?_; simp only [pTs, pTn, pTz, pTc]
    refine wpB_fix (v := vi n.pane) rfl rfl (fun W hW => by have e : W.cell? ⟨w.heap.size, 7, none⟩ = some (vi n.pane) := ((hbd.belowAll hW).cell 7).trans rfl; go_simp) ?_; simp only [pTs, pTn, pTz, pTc]
    refine wpB_fix (v := .tuple #[vi y, .bool has]) rfl rfl (fun W hW => Eq.trans (run_look intKey Tryz.underlying96 0 (zeroI _) rfl (HLd.out.glass.below hW HLd.out.glass.lt) n.pane HPA.out rfl) (by rw [HY.out, HAS.out]; rfl)) ?_; simp only [pTs, pTn, pTz, pTc]
    iterate 5 (refine wpB_fix rfl rfl (fun W hW => by go_simp; with_reducible rfl) ?_; simp only [pTs, pTn, pTz, pTc])
    simp only [wpB]
    go_wp2
    have HL2 := Lib.hid HLd.out.drew
    have hb2 := hbd.drew
    have hgl2 : b + 6 < w1.drew.drew.heap.size := (by have := HL2.out.lt7; omega)
    refine wp_region_mark 6 [(0, none), (1, none), (2, none), (4, none), (3, some true), (5, some true), (6, some false)] rfl (by kernel_rfl) (by kernel_rfl) (fun d _ _ _ _ h => by cases d <;> exact h) ?_
    iterate 4 (refine wpC_pure rfl rfl (fun W => by go_simp; with_reducible rfl) ?_; simp only [pTs, pTn, pTz, pTc])
    refine wpC_fix (v := .map (some (b + 2))) rfl rfl (fun W hW => by have e : W.cell? ⟨b + 6, 2, none⟩ = some (.map (some (b + 2))) := (hW.cell (p := ⟨b + 6, 2, none⟩) hgl2).trans HL2.out.cG; go_simp) ?_; simp only [pTs, pTn, pTz, pTc]
    refine wpC_fix (v := vi n.pane) rfl rfl (fun W hW => by have e : W.cell? ⟨w.heap.size, 7, none⟩ = some (vi n.pane) := ((hb2.belowAll hW).cell 7).trans rfl; go_simp) ?_; simp only [pTs, pTn, pTz, pTc]
    refine wpC_mark rfl rfl (fun K hK => ?_)
    refine wp_map_drop _ _ 96 rfl intKey Tryz.underlying96 rfl HL2.out.glass n.pane HPA.out rfl ?_
    intro w3 hm hT
    have hL3 := HL2.out.setG hm hT (fun p hp => HL2.out.okG p (List.mem_filter.1 hp).1)
    have hC3 : Chg b w.heap.size w w3 := (Chg.of_below hB1.drew).trans (Chg.of_turn hT (.inl (by omega)))
    clear hT hm
    refine hK _ _ ?_
    clear hK K
    try simp only [pTs, pTn, pTz, pTc]
    simp only [wpC]
    have HPT := Lib.hid (put_any b N _ p 1 _ hL3 HPG.out (by unfold I64; decide))
    go_wp2_with (go_at_call 142; refine HPT.out.mono ?_; rintro e w4 ⟨rfl, hL4, hC4⟩)
    go_ret
    exact ⟨_, by rw [E1.out]; rfl, by rw [← E2.out, E3.out], hL4, hC3.trans (hC4.weak hC3.size)⟩
end Go.Proofs.YtendmmhfjhgdaaaGreat
end
