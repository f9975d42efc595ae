/-
  What the content of a kind uses, as the reference lays it out: walked.
-/
import Derived.Test.YtendmmhfjhgdaaaGreatRefSame
import Derived.Test.YtendmmhfjhgdaaaGreatRef3
set_option maxHeartbeats 16000000
set_option maxRecDepth 100000
set_option linter.unusedVariables false
set_option linter.unusedSimpArgs false
namespace Go.Proofs.YtendmmhfjhgdaaaGreat
open Go.RowKit
def usedN (kind : Int) (n : Note) : Note :=
 if kind = 1 then { zNote with data := n.data }
 else if kind = 2 then { zNote with item := n.item }
 else if kind = 3 then { zNote with panes := n.panes }
 else if kind = 4 then { zNote with pieces := n.pieces, to := n.to }
 else if kind = 5 then { zNote with ref := n.ref }
 else if kind = 6 then { zNote with pane := n.pane, piece := n.piece, colour := n.colour, setting := n.setting }
 else if kind = 7 then { zNote with pane := n.pane }
 else if kind = 8 then { zNote with piece := n.piece, data := n.data }
 else zNote
theorem whole_of {cs ds : Array Value} (h : cs = ds) : ∀ j, j < ds.size → cs[0 + j]? = ds[j]? := by subst h; exact whole_cells cs
theorem used9_1 (kind : Int) (n : Note) (w : World) (hk : kind = 1) :
  Calls Tryz.prog 128 #[.agg (encNote n), .int .i64 kind] w fun e w' => e = .returned (.agg (encNote ({ zNote with data := n.data }))) ∧ Below w.heap.size w w' := by
 subst hk
 have hbA : BoxAt (((w.alloc (.cells (encNote n) 40)).alloc (.cells (encNote zNote) 40)).alloc (.cells (encNote zNote) 40)) w.heap.size 40 (encNote n) := ((BoxAt.new _ _ _).alloc _).alloc _
 have hbR : BoxAt (((w.alloc (.cells (encNote n) 40)).alloc (.cells (encNote zNote) 40)).alloc (.cells (encNote zNote) 40)) (w.heap.size + 1) 40 (encNote zNote) := by have h := (BoxAt.new (w.alloc (.cells (encNote n) 40)) 40 (encNote zNote)).alloc (.cells (encNote zNote) 40); rwa [World.size_alloc] at h
 have hbO : BoxAt (((w.alloc (.cells (encNote n) 40)).alloc (.cells (encNote zNote) 40)).alloc (.cells (encNote zNote) 40)) (w.heap.size + 1 + 1) 40 (encNote zNote) := by have h := BoxAt.new ((w.alloc (.cells (encNote n) 40)).alloc (.cells (encNote zNote) 40)) 40 (encNote zNote); rwa [World.size_alloc, World.size_alloc] at h
 have hB : Below w.heap.size w (((w.alloc (.cells (encNote n) 40)).alloc (.cells (encNote zNote) 40)).alloc (.cells (encNote zNote) 40)) := (((Below.refl _ _).alloc (Nat.le_refl _) _).alloc (by simp) _).alloc (by simp; omega) _
 go_enter Tryz.func128, Tryz.ntmps128
 go_wp2_with (first
  | ((with_reducible refine at_storeT 33 ?_); refine wpList_store_box hbO rfl _ _ _ rfl rfl (.slice n.data.a n.data.val.length n.data.cap) rfl (by kernel_rfl) rfl (one_slice _ _ _) ?_; intro w1 hbO1 hT; replace hbA := hbA.turn hT (by omega); replace hbR := hbR.turn hT (by omega); replace hB := hB.trans (hT.below (by omega)); replace hbO := hbO1; have hcA : ∀ o, w1.cell? ⟨w.heap.size, o, none⟩ = (encNote n)[o]? := fun o => hbA.cell o)
  | ((with_reducible refine at_dst 62 ?_); refine wpList_loadB hbO rfl 40 _ rfl rfl (encNote ({ zNote with data := n.data })) (whole_of (by simp [splice, encNote, zNote, zItem, Value.cells, Sl.v, Sl.nil, encItem, encRef, encSetting])) Tryz.underlying40 rfl (by kernel_rfl) ?_)
  | ((with_reducible refine at_storeT 40 ?_); refine wpList_store_box hbR rfl _ _ _ rfl rfl (.agg (encNote ({ zNote with data := n.data }))) rfl (by kernel_rfl) rfl (one_agg (encNote_one _)) ?_; intro w2 hbR1 hT; replace hB := hB.trans (hT.below (by omega)); clear hT))
 exact bodyPost_ret (results_cell_box (cs := encNote ({ zNote with data := n.data })) (hbR1.eqv (by simp [splice, encNote, zNote, zItem, Value.cells, Sl.v, Sl.nil])) rfl rfl Tryz.underlying40 rfl (by kernel_rfl)) rfl ⟨rfl, hB⟩
theorem used9_2 (kind : Int) (n : Note) (w : World) (hk : kind = 2) :
  Calls Tryz.prog 128 #[.agg (encNote n), .int .i64 kind] w fun e w' => e = .returned (.agg (encNote ({ zNote with item := n.item }))) ∧ Below w.heap.size w w' := by
 subst hk
 have hbA : BoxAt (((w.alloc (.cells (encNote n) 40)).alloc (.cells (encNote zNote) 40)).alloc (.cells (encNote zNote) 40)) w.heap.size 40 (encNote n) := ((BoxAt.new _ _ _).alloc _).alloc _
 have hbR : BoxAt (((w.alloc (.cells (encNote n) 40)).alloc (.cells (encNote zNote) 40)).alloc (.cells (encNote zNote) 40)) (w.heap.size + 1) 40 (encNote zNote) := by have h := (BoxAt.new (w.alloc (.cells (encNote n) 40)) 40 (encNote zNote)).alloc (.cells (encNote zNote) 40); rwa [World.size_alloc] at h
 have hbO : BoxAt (((w.alloc (.cells (encNote n) 40)).alloc (.cells (encNote zNote) 40)).alloc (.cells (encNote zNote) 40)) (w.heap.size + 1 + 1) 40 (encNote zNote) := by have h := BoxAt.new ((w.alloc (.cells (encNote n) 40)).alloc (.cells (encNote zNote) 40)) 40 (encNote zNote); rwa [World.size_alloc, World.size_alloc] at h
 have hB : Below w.heap.size w (((w.alloc (.cells (encNote n) 40)).alloc (.cells (encNote zNote) 40)).alloc (.cells (encNote zNote) 40)) := (((Below.refl _ _).alloc (Nat.le_refl _) _).alloc (by simp) _).alloc (by simp; omega) _
 go_enter Tryz.func128, Tryz.ntmps128
 go_wp2_with (first
  | ((with_reducible refine at_storeT 38 ?_); refine wpList_store_box hbO rfl _ _ _ rfl rfl (.agg (encItem n.item)) rfl (by kernel_rfl) rfl (one_agg (encItem_one _)) ?_; intro w1 hbO1 hT; replace hbA := hbA.turn hT (by omega); replace hbR := hbR.turn hT (by omega); replace hB := hB.trans (hT.below (by omega)); replace hbO := hbO1; have hcA : ∀ o, w1.cell? ⟨w.heap.size, o, none⟩ = (encNote n)[o]? := fun o => hbA.cell o)
  | ((with_reducible refine at_dst 15 ?_); refine wpList_loadB hbA rfl 38 _ rfl rfl (encItem n.item) (encNote_item n) Tryz.underlying38 rfl (by kernel_rfl) ?_)
  | ((with_reducible refine at_dst 62 ?_); refine wpList_loadB hbO rfl 40 _ rfl rfl (encNote ({ zNote with item := n.item })) (whole_of (by simp [splice, encNote, zNote, zItem, Value.cells, Sl.v, Sl.nil, encItem, encRef, encSetting])) Tryz.underlying40 rfl (by kernel_rfl) ?_)
  | ((with_reducible refine at_storeT 40 ?_); refine wpList_store_box hbR rfl _ _ _ rfl rfl (.agg (encNote ({ zNote with item := n.item }))) rfl (by kernel_rfl) rfl (one_agg (encNote_one _)) ?_; intro w2 hbR1 hT; replace hB := hB.trans (hT.below (by omega)); clear hT))
 exact bodyPost_ret (results_cell_box (cs := encNote ({ zNote with item := n.item })) (hbR1.eqv (by simp [splice, encNote, zNote, zItem, Value.cells, Sl.v, Sl.nil])) rfl rfl Tryz.underlying40 rfl (by kernel_rfl)) rfl ⟨rfl, hB⟩
theorem used9_3 (kind : Int) (n : Note) (w : World) (hk : kind = 3) :
  Calls Tryz.prog 128 #[.agg (encNote n), .int .i64 kind] w fun e w' => e = .returned (.agg (encNote ({ zNote with panes := n.panes }))) ∧ Below w.heap.size w w' := by
 subst hk
 have hbA : BoxAt (((w.alloc (.cells (encNote n) 40)).alloc (.cells (encNote zNote) 40)).alloc (.cells (encNote zNote) 40)) w.heap.size 40 (encNote n) := ((BoxAt.new _ _ _).alloc _).alloc _
 have hbR : BoxAt (((w.alloc (.cells (encNote n) 40)).alloc (.cells (encNote zNote) 40)).alloc (.cells (encNote zNote) 40)) (w.heap.size + 1) 40 (encNote zNote) := by have h := (BoxAt.new (w.alloc (.cells (encNote n) 40)) 40 (encNote zNote)).alloc (.cells (encNote zNote) 40); rwa [World.size_alloc] at h
 have hbO : BoxAt (((w.alloc (.cells (encNote n) 40)).alloc (.cells (encNote zNote) 40)).alloc (.cells (encNote zNote) 40)) (w.heap.size + 1 + 1) 40 (encNote zNote) := by have h := BoxAt.new ((w.alloc (.cells (encNote n) 40)).alloc (.cells (encNote zNote) 40)) 40 (encNote zNote); rwa [World.size_alloc, World.size_alloc] at h
 have hB : Below w.heap.size w (((w.alloc (.cells (encNote n) 40)).alloc (.cells (encNote zNote) 40)).alloc (.cells (encNote zNote) 40)) := (((Below.refl _ _).alloc (Nat.le_refl _) _).alloc (by simp) _).alloc (by simp; omega) _
 go_enter Tryz.func128, Tryz.ntmps128
 go_wp2_with (first
  | ((with_reducible refine at_storeT 32 ?_); refine wpList_store_box hbO rfl _ _ _ rfl rfl (.slice n.panes.a n.panes.val.length n.panes.cap) rfl (by kernel_rfl) rfl (one_slice _ _ _) ?_; intro w1 hbO1 hT; replace hbA := hbA.turn hT (by omega); replace hbR := hbR.turn hT (by omega); replace hB := hB.trans (hT.below (by omega)); replace hbO := hbO1; have hcA : ∀ o, w1.cell? ⟨w.heap.size, o, none⟩ = (encNote n)[o]? := fun o => hbA.cell o)
  | ((with_reducible refine at_dst 62 ?_); refine wpList_loadB hbO rfl 40 _ rfl rfl (encNote ({ zNote with panes := n.panes })) (whole_of (by simp [splice, encNote, zNote, zItem, Value.cells, Sl.v, Sl.nil, encItem, encRef, encSetting])) Tryz.underlying40 rfl (by kernel_rfl) ?_)
  | ((with_reducible refine at_storeT 40 ?_); refine wpList_store_box hbR rfl _ _ _ rfl rfl (.agg (encNote ({ zNote with panes := n.panes }))) rfl (by kernel_rfl) rfl (one_agg (encNote_one _)) ?_; intro w2 hbR1 hT; replace hB := hB.trans (hT.below (by omega)); clear hT))
 exact bodyPost_ret (results_cell_box (cs := encNote ({ zNote with panes := n.panes })) (hbR1.eqv (by simp [splice, encNote, zNote, zItem, Value.cells, Sl.v, Sl.nil])) rfl rfl Tryz.underlying40 rfl (by kernel_rfl)) rfl ⟨rfl, hB⟩
theorem used9_4 (kind : Int) (n : Note) (w : World) (hk : kind = 4) :
  Calls Tryz.prog 128 #[.agg (encNote n), .int .i64 kind] w fun e w' => e = .returned (.agg (encNote ({ zNote with pieces := n.pieces, to := n.to }))) ∧ Below w.heap.size w w' := by
 subst hk
 have hbA : BoxAt (((w.alloc (.cells (encNote n) 40)).alloc (.cells (encNote zNote) 40)).alloc (.cells (encNote zNote) 40)) w.heap.size 40 (encNote n) := ((BoxAt.new _ _ _).alloc _).alloc _
 have hbR : BoxAt (((w.alloc (.cells (encNote n) 40)).alloc (.cells (encNote zNote) 40)).alloc (.cells (encNote zNote) 40)) (w.heap.size + 1) 40 (encNote zNote) := by have h := (BoxAt.new (w.alloc (.cells (encNote n) 40)) 40 (encNote zNote)).alloc (.cells (encNote zNote) 40); rwa [World.size_alloc] at h
 have hbO : BoxAt (((w.alloc (.cells (encNote n) 40)).alloc (.cells (encNote zNote) 40)).alloc (.cells (encNote zNote) 40)) (w.heap.size + 1 + 1) 40 (encNote zNote) := by have h := BoxAt.new ((w.alloc (.cells (encNote n) 40)).alloc (.cells (encNote zNote) 40)) 40 (encNote zNote); rwa [World.size_alloc, World.size_alloc] at h
 have hB : Below w.heap.size w (((w.alloc (.cells (encNote n) 40)).alloc (.cells (encNote zNote) 40)).alloc (.cells (encNote zNote) 40)) := (((Below.refl _ _).alloc (Nat.le_refl _) _).alloc (by simp) _).alloc (by simp; omega) _
 go_enter Tryz.func128, Tryz.ntmps128
 go_wp2_with (first
  | ((with_reducible refine at_storeT 32 ?_); refine wpList_store_box hbO rfl _ _ _ rfl rfl (.slice n.pieces.a n.pieces.val.length n.pieces.cap) rfl (by kernel_rfl) rfl (one_slice _ _ _) ?_; intro w1 hbO1 hT; replace hbA := hbA.turn hT (by omega); replace hbR := hbR.turn hT (by omega); replace hB := hB.trans (hT.below (by omega)); replace hbO := hbO1; have hcA : ∀ o, w1.cell? ⟨w.heap.size, o, none⟩ = (encNote n)[o]? := fun o => hbA.cell o)
  | ((with_reducible refine at_storeT 3 ?_); refine wpList_store_box hbO rfl _ _ _ rfl rfl (vi n.to) rfl (by kernel_rfl) rfl (one_vi _) ?_; intro w1 hbO1 hT; replace hbA := hbA.turn hT (by omega); replace hbR := hbR.turn hT (by omega); replace hB := hB.trans (hT.below (by omega)); replace hbO := hbO1; have hcA : ∀ o, w1.cell? ⟨w.heap.size, o, none⟩ = (encNote n)[o]? := fun o => hbA.cell o)
  | ((with_reducible refine at_dst 62 ?_); refine wpList_loadB hbO rfl 40 _ rfl rfl (encNote ({ zNote with pieces := n.pieces, to := n.to })) (whole_of (by simp [splice, encNote, zNote, zItem, Value.cells, Sl.v, Sl.nil, encItem, encRef, encSetting])) Tryz.underlying40 rfl (by kernel_rfl) ?_)
  | ((with_reducible refine at_storeT 40 ?_); refine wpList_store_box hbR rfl _ _ _ rfl rfl (.agg (encNote ({ zNote with pieces := n.pieces, to := n.to }))) rfl (by kernel_rfl) rfl (one_agg (encNote_one _)) ?_; intro w2 hbR1 hT; replace hB := hB.trans (hT.below (by omega)); clear hT))
 exact bodyPost_ret (results_cell_box (cs := encNote ({ zNote with pieces := n.pieces, to := n.to })) (hbR1.eqv (by simp [splice, encNote, zNote, zItem, Value.cells, Sl.v, Sl.nil])) rfl rfl Tryz.underlying40 rfl (by kernel_rfl)) rfl ⟨rfl, hB⟩
theorem used9_5 (kind : Int) (n : Note) (w : World) (hk : kind = 5) :
  Calls Tryz.prog 128 #[.agg (encNote n), .int .i64 kind] w fun e w' => e = .returned (.agg (encNote ({ zNote with ref := n.ref }))) ∧ Below w.heap.size w w' := by
 subst hk
 have hbA : BoxAt (((w.alloc (.cells (encNote n) 40)).alloc (.cells (encNote zNote) 40)).alloc (.cells (encNote zNote) 40)) w.heap.size 40 (encNote n) := ((BoxAt.new _ _ _).alloc _).alloc _
 have hbR : BoxAt (((w.alloc (.cells (encNote n) 40)).alloc (.cells (encNote zNote) 40)).alloc (.cells (encNote zNote) 40)) (w.heap.size + 1) 40 (encNote zNote) := by have h := (BoxAt.new (w.alloc (.cells (encNote n) 40)) 40 (encNote zNote)).alloc (.cells (encNote zNote) 40); rwa [World.size_alloc] at h
 have hbO : BoxAt (((w.alloc (.cells (encNote n) 40)).alloc (.cells (encNote zNote) 40)).alloc (.cells (encNote zNote) 40)) (w.heap.size + 1 + 1) 40 (encNote zNote) := by have h := BoxAt.new ((w.alloc (.cells (encNote n) 40)).alloc (.cells (encNote zNote) 40)) 40 (encNote zNote); rwa [World.size_alloc, World.size_alloc] at h
 have hB : Below w.heap.size w (((w.alloc (.cells (encNote n) 40)).alloc (.cells (encNote zNote) 40)).alloc (.cells (encNote zNote) 40)) := (((Below.refl _ _).alloc (Nat.le_refl _) _).alloc (by simp) _).alloc (by simp; omega) _
 go_enter Tryz.func128, Tryz.ntmps128
 go_wp2_with (first
  | ((with_reducible refine at_storeT 31 ?_); refine wpList_store_box hbO rfl _ _ _ rfl rfl (.agg (encRef n.ref)) rfl (by kernel_rfl) rfl (one_agg (encRef_one _)) ?_; intro w1 hbO1 hT; replace hbA := hbA.turn hT (by omega); replace hbR := hbR.turn hT (by omega); replace hB := hB.trans (hT.below (by omega)); replace hbO := hbO1; have hcA : ∀ o, w1.cell? ⟨w.heap.size, o, none⟩ = (encNote n)[o]? := fun o => hbA.cell o)
  | ((with_reducible refine at_dst 33 ?_); refine wpList_loadB hbA rfl 31 _ rfl rfl (encRef n.ref) (encNote_ref n) Tryz.underlying31 rfl (by kernel_rfl) ?_)
  | ((with_reducible refine at_dst 62 ?_); refine wpList_loadB hbO rfl 40 _ rfl rfl (encNote ({ zNote with ref := n.ref })) (whole_of (by simp [splice, encNote, zNote, zItem, Value.cells, Sl.v, Sl.nil, encItem, encRef, encSetting])) Tryz.underlying40 rfl (by kernel_rfl) ?_)
  | ((with_reducible refine at_storeT 40 ?_); refine wpList_store_box hbR rfl _ _ _ rfl rfl (.agg (encNote ({ zNote with ref := n.ref }))) rfl (by kernel_rfl) rfl (one_agg (encNote_one _)) ?_; intro w2 hbR1 hT; replace hB := hB.trans (hT.below (by omega)); clear hT))
 exact bodyPost_ret (results_cell_box (cs := encNote ({ zNote with ref := n.ref })) (hbR1.eqv (by simp [splice, encNote, zNote, zItem, Value.cells, Sl.v, Sl.nil])) rfl rfl Tryz.underlying40 rfl (by kernel_rfl)) rfl ⟨rfl, hB⟩
theorem used9_6 (kind : Int) (n : Note) (w : World) (hk : kind = 6) :
  Calls Tryz.prog 128 #[.agg (encNote n), .int .i64 kind] w fun e w' => e = .returned (.agg (encNote ({ zNote with pane := n.pane, piece := n.piece, colour := n.colour, setting := n.setting }))) ∧ Below w.heap.size w w' := by
 subst hk
 have hbA : BoxAt (((w.alloc (.cells (encNote n) 40)).alloc (.cells (encNote zNote) 40)).alloc (.cells (encNote zNote) 40)) w.heap.size 40 (encNote n) := ((BoxAt.new _ _ _).alloc _).alloc _
 have hbR : BoxAt (((w.alloc (.cells (encNote n) 40)).alloc (.cells (encNote zNote) 40)).alloc (.cells (encNote zNote) 40)) (w.heap.size + 1) 40 (encNote zNote) := by have h := (BoxAt.new (w.alloc (.cells (encNote n) 40)) 40 (encNote zNote)).alloc (.cells (encNote zNote) 40); rwa [World.size_alloc] at h
 have hbO : BoxAt (((w.alloc (.cells (encNote n) 40)).alloc (.cells (encNote zNote) 40)).alloc (.cells (encNote zNote) 40)) (w.heap.size + 1 + 1) 40 (encNote zNote) := by have h := BoxAt.new ((w.alloc (.cells (encNote n) 40)).alloc (.cells (encNote zNote) 40)) 40 (encNote zNote); rwa [World.size_alloc, World.size_alloc] at h
 have hB : Below w.heap.size w (((w.alloc (.cells (encNote n) 40)).alloc (.cells (encNote zNote) 40)).alloc (.cells (encNote zNote) 40)) := (((Below.refl _ _).alloc (Nat.le_refl _) _).alloc (by simp) _).alloc (by simp; omega) _
 go_enter Tryz.func128, Tryz.ntmps128
 go_wp2_with (first
  | ((with_reducible refine at_storeT 3 ?_); refine wpList_store_box hbO rfl _ _ _ rfl rfl (vi n.pane) rfl (by kernel_rfl) rfl (one_vi _) ?_; intro w1 hbO1 hT; replace hbA := hbA.turn hT (by omega); replace hbR := hbR.turn hT (by omega); replace hB := hB.trans (hT.below (by omega)); replace hbO := hbO1; have hcA : ∀ o, w1.cell? ⟨w.heap.size, o, none⟩ = (encNote n)[o]? := fun o => hbA.cell o)
  | ((with_reducible refine at_storeT 3 ?_); refine wpList_store_box hbO rfl _ _ _ rfl rfl (vi n.piece) rfl (by kernel_rfl) rfl (one_vi _) ?_; intro w1 hbO1 hT; replace hbA := hbA.turn hT (by omega); replace hbR := hbR.turn hT (by omega); replace hB := hB.trans (hT.below (by omega)); replace hbO := hbO1; have hcA : ∀ o, w1.cell? ⟨w.heap.size, o, none⟩ = (encNote n)[o]? := fun o => hbA.cell o)
  | ((with_reducible refine at_storeT 3 ?_); refine wpList_store_box hbO rfl _ _ _ rfl rfl (vi n.colour) rfl (by kernel_rfl) rfl (one_vi _) ?_; intro w1 hbO1 hT; replace hbA := hbA.turn hT (by omega); replace hbR := hbR.turn hT (by omega); replace hB := hB.trans (hT.below (by omega)); replace hbO := hbO1; have hcA : ∀ o, w1.cell? ⟨w.heap.size, o, none⟩ = (encNote n)[o]? := fun o => hbA.cell o)
  | ((with_reducible refine at_storeT 29 ?_); refine wpList_store_box hbO rfl _ _ _ rfl rfl (.agg (encSetting n.setting)) rfl (by kernel_rfl) rfl (one_agg (encSetting_one _)) ?_; intro w1 hbO1 hT; replace hbA := hbA.turn hT (by omega); replace hbR := hbR.turn hT (by omega); replace hB := hB.trans (hT.below (by omega)); replace hbO := hbO1; have hcA : ∀ o, w1.cell? ⟨w.heap.size, o, none⟩ = (encNote n)[o]? := fun o => hbA.cell o)
  | ((with_reducible refine at_dst 47 ?_); refine wpList_loadB hbA rfl 29 _ rfl rfl (encSetting n.setting) (encNote_setting n) Tryz.underlying29 rfl (by kernel_rfl) ?_)
  | ((with_reducible refine at_dst 62 ?_); refine wpList_loadB hbO rfl 40 _ rfl rfl (encNote ({ zNote with pane := n.pane, piece := n.piece, colour := n.colour, setting := n.setting })) (whole_of (by simp [splice, encNote, zNote, zItem, Value.cells, Sl.v, Sl.nil, encItem, encRef, encSetting])) Tryz.underlying40 rfl (by kernel_rfl) ?_)
  | ((with_reducible refine at_storeT 40 ?_); refine wpList_store_box hbR rfl _ _ _ rfl rfl (.agg (encNote ({ zNote with pane := n.pane, piece := n.piece, colour := n.colour, setting := n.setting }))) rfl (by kernel_rfl) rfl (one_agg (encNote_one _)) ?_; intro w2 hbR1 hT; replace hB := hB.trans (hT.below (by omega)); clear hT))
 exact bodyPost_ret (results_cell_box (cs := encNote ({ zNote with pane := n.pane, piece := n.piece, colour := n.colour, setting := n.setting })) (hbR1.eqv (by simp [splice, encNote, zNote, zItem, Value.cells, Sl.v, Sl.nil])) rfl rfl Tryz.underlying40 rfl (by kernel_rfl)) rfl ⟨rfl, hB⟩
theorem used9_7 (kind : Int) (n : Note) (w : World) (hk : kind = 7) :
  Calls Tryz.prog 128 #[.agg (encNote n), .int .i64 kind] w fun e w' => e = .returned (.agg (encNote ({ zNote with pane := n.pane }))) ∧ Below w.heap.size w w' := by
 subst hk
 have hbA : BoxAt (((w.alloc (.cells (encNote n) 40)).alloc (.cells (encNote zNote) 40)).alloc (.cells (encNote zNote) 40)) w.heap.size 40 (encNote n) := ((BoxAt.new _ _ _).alloc _).alloc _
 have hbR : BoxAt (((w.alloc (.cells (encNote n) 40)).alloc (.cells (encNote zNote) 40)).alloc (.cells (encNote zNote) 40)) (w.heap.size + 1) 40 (encNote zNote) := by have h := (BoxAt.new (w.alloc (.cells (encNote n) 40)) 40 (encNote zNote)).alloc (.cells (encNote zNote) 40); rwa [World.size_alloc] at h
 have hbO : BoxAt (((w.alloc (.cells (encNote n) 40)).alloc (.cells (encNote zNote) 40)).alloc (.cells (encNote zNote) 40)) (w.heap.size + 1 + 1) 40 (encNote zNote) := by have h := BoxAt.new ((w.alloc (.cells (encNote n) 40)).alloc (.cells (encNote zNote) 40)) 40 (encNote zNote); rwa [World.size_alloc, World.size_alloc] at h
 have hB : Below w.heap.size w (((w.alloc (.cells (encNote n) 40)).alloc (.cells (encNote zNote) 40)).alloc (.cells (encNote zNote) 40)) := (((Below.refl _ _).alloc (Nat.le_refl _) _).alloc (by simp) _).alloc (by simp; omega) _
 go_enter Tryz.func128, Tryz.ntmps128
 go_wp2_with (first
  | ((with_reducible refine at_storeT 3 ?_); refine wpList_store_box hbO rfl _ _ _ rfl rfl (vi n.pane) rfl (by kernel_rfl) rfl (one_vi _) ?_; intro w1 hbO1 hT; replace hbA := hbA.turn hT (by omega); replace hbR := hbR.turn hT (by omega); replace hB := hB.trans (hT.below (by omega)); replace hbO := hbO1; have hcA : ∀ o, w1.cell? ⟨w.heap.size, o, none⟩ = (encNote n)[o]? := fun o => hbA.cell o)
  | ((with_reducible refine at_dst 62 ?_); refine wpList_loadB hbO rfl 40 _ rfl rfl (encNote ({ zNote with pane := n.pane })) (whole_of (by simp [splice, encNote, zNote, zItem, Value.cells, Sl.v, Sl.nil, encItem, encRef, encSetting])) Tryz.underlying40 rfl (by kernel_rfl) ?_)
  | ((with_reducible refine at_storeT 40 ?_); refine wpList_store_box hbR rfl _ _ _ rfl rfl (.agg (encNote ({ zNote with pane := n.pane }))) rfl (by kernel_rfl) rfl (one_agg (encNote_one _)) ?_; intro w2 hbR1 hT; replace hB := hB.trans (hT.below (by omega)); clear hT))
 exact bodyPost_ret (results_cell_box (cs := encNote ({ zNote with pane := n.pane })) (hbR1.eqv (by simp [splice, encNote, zNote, zItem, Value.cells, Sl.v, Sl.nil])) rfl rfl Tryz.underlying40 rfl (by kernel_rfl)) rfl ⟨rfl, hB⟩
theorem used9_8 (kind : Int) (n : Note) (w : World) (hk : kind = 8) :
  Calls Tryz.prog 128 #[.agg (encNote n), .int .i64 kind] w fun e w' => e = .returned (.agg (encNote ({ zNote with piece := n.piece, data := n.data }))) ∧ Below w.heap.size w w' := by
 subst hk
 have hbA : BoxAt (((w.alloc (.cells (encNote n) 40)).alloc (.cells (encNote zNote) 40)).alloc (.cells (encNote zNote) 40)) w.heap.size 40 (encNote n) := ((BoxAt.new _ _ _).alloc _).alloc _
 have hbR : BoxAt (((w.alloc (.cells (encNote n) 40)).alloc (.cells (encNote zNote) 40)).alloc (.cells (encNote zNote) 40)) (w.heap.size + 1) 40 (encNote zNote) := by have h := (BoxAt.new (w.alloc (.cells (encNote n) 40)) 40 (encNote zNote)).alloc (.cells (encNote zNote) 40); rwa [World.size_alloc] at h
 have hbO : BoxAt (((w.alloc (.cells (encNote n) 40)).alloc (.cells (encNote zNote) 40)).alloc (.cells (encNote zNote) 40)) (w.heap.size + 1 + 1) 40 (encNote zNote) := by have h := BoxAt.new ((w.alloc (.cells (encNote n) 40)).alloc (.cells (encNote zNote) 40)) 40 (encNote zNote); rwa [World.size_alloc, World.size_alloc] at h
 have hB : Below w.heap.size w (((w.alloc (.cells (encNote n) 40)).alloc (.cells (encNote zNote) 40)).alloc (.cells (encNote zNote) 40)) := (((Below.refl _ _).alloc (Nat.le_refl _) _).alloc (by simp) _).alloc (by simp; omega) _
 go_enter Tryz.func128, Tryz.ntmps128
 go_wp2_with (first
  | ((with_reducible refine at_storeT 3 ?_); refine wpList_store_box hbO rfl _ _ _ rfl rfl (vi n.piece) rfl (by kernel_rfl) rfl (one_vi _) ?_; intro w1 hbO1 hT; replace hbA := hbA.turn hT (by omega); replace hbR := hbR.turn hT (by omega); replace hB := hB.trans (hT.below (by omega)); replace hbO := hbO1; have hcA : ∀ o, w1.cell? ⟨w.heap.size, o, none⟩ = (encNote n)[o]? := fun o => hbA.cell o)
  | ((with_reducible refine at_storeT 33 ?_); refine wpList_store_box hbO rfl _ _ _ rfl rfl (.slice n.data.a n.data.val.length n.data.cap) rfl (by kernel_rfl) rfl (one_slice _ _ _) ?_; intro w1 hbO1 hT; replace hbA := hbA.turn hT (by omega); replace hbR := hbR.turn hT (by omega); replace hB := hB.trans (hT.below (by omega)); replace hbO := hbO1; have hcA : ∀ o, w1.cell? ⟨w.heap.size, o, none⟩ = (encNote n)[o]? := fun o => hbA.cell o)
  | ((with_reducible refine at_dst 62 ?_); refine wpList_loadB hbO rfl 40 _ rfl rfl (encNote ({ zNote with piece := n.piece, data := n.data })) (whole_of (by simp [splice, encNote, zNote, zItem, Value.cells, Sl.v, Sl.nil, encItem, encRef, encSetting])) Tryz.underlying40 rfl (by kernel_rfl) ?_)
  | ((with_reducible refine at_storeT 40 ?_); refine wpList_store_box hbR rfl _ _ _ rfl rfl (.agg (encNote ({ zNote with piece := n.piece, data := n.data }))) rfl (by kernel_rfl) rfl (one_agg (encNote_one _)) ?_; intro w2 hbR1 hT; replace hB := hB.trans (hT.below (by omega)); clear hT))
 exact bodyPost_ret (results_cell_box (cs := encNote ({ zNote with piece := n.piece, data := n.data })) (hbR1.eqv (by simp [splice, encNote, zNote, zItem, Value.cells, Sl.v, Sl.nil])) rfl rfl Tryz.underlying40 rfl (by kernel_rfl)) rfl ⟨rfl, hB⟩
theorem used9_no (kind : Int) (n : Note) (w : World) (h1 : ¬ kind = 1) (h2 : ¬ kind = 2) (h3 : ¬ kind = 3) (h4 : ¬ kind = 4) (h5 : ¬ kind = 5) (h6 : ¬ kind = 6) (h7 : ¬ kind = 7) (h8 : ¬ kind = 8) :
  Calls Tryz.prog 128 #[.agg (encNote n), .int .i64 kind] w fun e w' => e = .returned (.agg (encNote (zNote))) ∧ Below w.heap.size w w' := by
 have hbA : BoxAt (((w.alloc (.cells (encNote n) 40)).alloc (.cells (encNote zNote) 40)).alloc (.cells (encNote zNote) 40)) w.heap.size 40 (encNote n) := ((BoxAt.new _ _ _).alloc _).alloc _
 have hbR : BoxAt (((w.alloc (.cells (encNote n) 40)).alloc (.cells (encNote zNote) 40)).alloc (.cells (encNote zNote) 40)) (w.heap.size + 1) 40 (encNote zNote) := by have h := (BoxAt.new (w.alloc (.cells (encNote n) 40)) 40 (encNote zNote)).alloc (.cells (encNote zNote) 40); rwa [World.size_alloc] at h
 have hbO : BoxAt (((w.alloc (.cells (encNote n) 40)).alloc (.cells (encNote zNote) 40)).alloc (.cells (encNote zNote) 40)) (w.heap.size + 1 + 1) 40 (encNote zNote) := by have h := BoxAt.new ((w.alloc (.cells (encNote n) 40)).alloc (.cells (encNote zNote) 40)) 40 (encNote zNote); rwa [World.size_alloc, World.size_alloc] at h
 have hB : Below w.heap.size w (((w.alloc (.cells (encNote n) 40)).alloc (.cells (encNote zNote) 40)).alloc (.cells (encNote zNote) 40)) := (((Below.refl _ _).alloc (Nat.le_refl _) _).alloc (by simp) _).alloc (by simp; omega) _
 go_enter Tryz.func128, Tryz.ntmps128
 go_wp2_with (first
  | ((with_reducible refine at_dst 62 ?_); refine wpList_loadB hbO rfl 40 _ rfl rfl (encNote (zNote)) (whole_of (by simp [splice, encNote, zNote, zItem, Value.cells, Sl.v, Sl.nil, encItem, encRef, encSetting])) Tryz.underlying40 rfl (by kernel_rfl) ?_)
  | ((with_reducible refine at_storeT 40 ?_); refine wpList_store_box hbR rfl _ _ _ rfl rfl (.agg (encNote (zNote))) rfl (by kernel_rfl) rfl (one_agg (encNote_one _)) ?_; intro w2 hbR1 hT; replace hB := hB.trans (hT.below (by omega)); clear hT))
 exact bodyPost_ret (results_cell_box (cs := encNote (zNote)) (hbR1.eqv (by simp [splice, encNote, zNote, zItem, Value.cells, Sl.v, Sl.nil])) rfl rfl Tryz.underlying40 rfl (by kernel_rfl)) rfl ⟨rfl, hB⟩
theorem used_ref (kind : Int) (n : Note) (w : World) :
  Calls Tryz.prog 128 #[.agg (encNote n), .int .i64 kind] w fun e w' => e = .returned (.agg (encNote (usedN kind n))) ∧ Below w.heap.size w w' := by
 by_cases h1 : kind = 1
 ·have e : usedN kind n = { zNote with data := n.data } := by subst h1; rfl
  rw [e]; exact used9_1 kind n w h1
 by_cases h2 : kind = 2
 ·have e : usedN kind n = { zNote with item := n.item } := by subst h2; rfl
  rw [e]; exact used9_2 kind n w h2
 by_cases h3 : kind = 3
 ·have e : usedN kind n = { zNote with panes := n.panes } := by subst h3; rfl
  rw [e]; exact used9_3 kind n w h3
 by_cases h4 : kind = 4
 ·have e : usedN kind n = { zNote with pieces := n.pieces, to := n.to } := by subst h4; rfl
  rw [e]; exact used9_4 kind n w h4
 by_cases h5 : kind = 5
 ·have e : usedN kind n = { zNote with ref := n.ref } := by subst h5; rfl
  rw [e]; exact used9_5 kind n w h5
 by_cases h6 : kind = 6
 ·have e : usedN kind n = { zNote with pane := n.pane, piece := n.piece, colour := n.colour, setting := n.setting } := by subst h6; rfl
  rw [e]; exact used9_6 kind n w h6
 by_cases h7 : kind = 7
 ·have e : usedN kind n = { zNote with pane := n.pane } := by subst h7; rfl
  rw [e]; exact used9_7 kind n w h7
 by_cases h8 : kind = 8
 ·have e : usedN kind n = { zNote with piece := n.piece, data := n.data } := by subst h8; rfl
  rw [e]; exact used9_8 kind n w h8
 have e : usedN kind n = zNote := by simp [usedN, h1, h2, h3, h4, h5, h6, h7, h8]
 rw [e]; exact used9_no kind n w h1 h2 h3 h4 h5 h6 h7 h8
end Go.Proofs.YtendmmhfjhgdaaaGreat
