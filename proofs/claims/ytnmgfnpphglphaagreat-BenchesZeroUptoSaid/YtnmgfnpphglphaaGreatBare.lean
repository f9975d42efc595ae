/-
  The content of a note without the fields that its kind uses: walked.
-/
import Derived.Test.YtnmgfnpphglphaaGreatBox
import Derived.Test.YtnmgfnpphglphaaGreatSpec
set_option maxHeartbeats 16000000
set_option maxRecDepth 100000
set_option linter.unusedVariables false
set_option linter.unusedSimpArgs false
namespace Go.Proofs.YtnmgfnpphglphaaGreat
open Go.RowKit
def blankN (n : Note) : Note := { n with bench := 0, num := 0, clock := 0, year := 0, kind := 0, fix := 0 }
def bareN (kind : Int) (n : Note) : Note :=
 if kind = 1 then { blankN n with data := Sl.nil }
 else if kind = 2 then { blankN n with item := zItem }
 else if kind = 3 then { blankN n with panes := Sl.nil }
 else if kind = 4 then { blankN n with pieces := Sl.nil, to := 0 }
 else if kind = 5 ∨ kind = 10 then { blankN n with ref := ⟨0, 0⟩ }
 else if kind = 6 then { blankN n with pane := 0, piece := 0, colour := 0, setting := ⟨0, false⟩ }
 else if kind = 7 then { blankN n with pane := 0 }
 else if kind = 8 then { blankN n with piece := 0, data := Sl.nil }
 else blankN n
theorem one_agg {cs : Array Value} (h : cs.all (·.oneCell') = true) : (Value.agg cs).cells.all (·.oneCell') = true := h
theorem one_vi (x : Int) : (vi x).cells.all (·.oneCell') = true := by simp [Value.cells, Value.oneCell']
theorem one_slice (p : Option Addr) (n c : Nat) : (Value.slice p n c).cells.all (·.oneCell') = true := by simp [Value.cells, Value.oneCell']
theorem results_cell_box {P : Program} {fn : Func} {a : Act} {w : World} {t : Tmp} {ty : TypeId} {b : Nat} {T : TypeId} {cs : Array Value} {d : TypeDesc} (hb : BoxAt w b T cs) (hr : fn.results = #[.cell t ty])
  (hp : a.tmps.getD t undef = .pointer (some ⟨b, 0, none⟩)) (hu : P.underlying ty = some d) (hd : (match d with | .struct _ | .array _ _ => true | _ => false) = true) (hi : (P.info? ty).map (·.size) = some cs.size) :
  (results fn a.tmps).run P w = .ok (.agg cs) w := by
 have hl := run_loadVar_at (P := P) w b 0 ty cs d hb.cells hu hd hi
 have hp' : a.tmps[t]?.getD undef = .pointer (some ⟨b, 0, none⟩) := by rw [← hp]; simp
 simp [results, hr, hp', asAddr, hl]
theorem bare_1 (kind : Int) (n : Note) (w : World) (hk : kind = 1) :
  Calls Tryz.prog 137 #[.int .i64 kind, .agg (encNote n)] w fun e w' => e = .returned (.agg (encNote ({ blankN n with data := Sl.nil }))) ∧ Below w.heap.size w w' := by
 have hbA0 : ∀ ob, BoxAt ((w.alloc (.cells (encNote n) 43)).alloc ob) w.heap.size 43 (encNote n) := fun ob => (BoxAt.new _ _ _).alloc _
 have hbR0 : ∀ ob cs, BoxAt ((w.alloc ob).alloc (.cells cs 43)) (w.heap.size + 1) 43 cs := fun ob cs => by have := BoxAt.new (w.alloc ob) 43 cs; rwa [World.size_alloc] at this
 have hB0 : ∀ ob1 ob2, Below w.heap.size w ((w.alloc ob1).alloc ob2) := fun _ _ => ((Below.refl _ _).alloc (Nat.le_refl _) _).alloc (by simp) _
 subst hk
 go_enter Tryz.func137, Tryz.ntmps137
 go_wp2_with (first
    | (with_reducible refine at_storeT 3 ?_; refine wpList_store_box (hbA0 _) rfl _ _ _ rfl rfl (vi 0) rfl (by kernel_rfl) rfl (one_vi _) ?_; intro w1 hbA hT; have hbR := (hbR0 _ _).turn hT (Nat.succ_ne_self _); have hB := (hB0 _ _).trans (hT.below (Nat.le_refl _)); clear hT)
    | (with_reducible refine at_storeT 3 ?_; refine wpList_store_box hbA rfl _ _ _ rfl rfl (vi 0) rfl (by kernel_rfl) rfl (one_vi _) ?_; intro w1 hbA hT; have hbR := hbR.turn hT (Nat.succ_ne_self _); have hB := hB.trans (hT.below (Nat.le_refl _)); clear hT)
    | (with_reducible refine at_storeT 36 ?_; refine wpList_store_box hbA rfl _ _ _ rfl rfl (.slice none 0 0) rfl (by kernel_rfl) rfl (one_slice _ _ _) ?_; intro w1 hbA hT; have hbR := hbR.turn hT (Nat.succ_ne_self _); have hB := hB.trans (hT.below (Nat.le_refl _)); clear hT)
    | (with_reducible refine at_dst 45 ?_; refine wpList_load_at rfl 43 _ rfl w.heap.size 0 rfl (encNote ({ blankN n with data := Sl.nil })) _ (hbA.eqv (cs' := encNote ({ blankN n with data := Sl.nil })) (by simp [splice, encNote, blankN, Value.cells, Sl.v, Sl.nil, encItem, zItem, encRef, encSetting])).cells Tryz.underlying43 rfl (by kernel_rfl) ?_)
    | (with_reducible refine at_storeT 43 ?_; refine wpList_store_box hbR rfl _ _ _ rfl rfl (.agg (encNote ({ blankN n with data := Sl.nil }))) rfl (by kernel_rfl) rfl (one_agg (encNote_one _)) ?_; intro w1 hbR hT; have hB := hB.trans (hT.below (Nat.le_succ _)); clear hT))
 exact bodyPost_ret (results_cell_box (cs := encNote ({ blankN n with data := Sl.nil })) (hbR.eqv (by simp [splice, encNote, Value.cells])) rfl rfl Tryz.underlying43 rfl (by kernel_rfl)) rfl ⟨rfl, hB⟩
theorem bare_2 (kind : Int) (n : Note) (w : World) (hk : kind = 2) :
  Calls Tryz.prog 137 #[.int .i64 kind, .agg (encNote n)] w fun e w' => e = .returned (.agg (encNote ({ blankN n with item := zItem }))) ∧ Below w.heap.size w w' := by
 have hbA0 : ∀ ob, BoxAt ((w.alloc (.cells (encNote n) 43)).alloc ob) w.heap.size 43 (encNote n) := fun ob => (BoxAt.new _ _ _).alloc _
 have hbR0 : ∀ ob cs, BoxAt ((w.alloc ob).alloc (.cells cs 43)) (w.heap.size + 1) 43 cs := fun ob cs => by have := BoxAt.new (w.alloc ob) 43 cs; rwa [World.size_alloc] at this
 have hB0 : ∀ ob1 ob2, Below w.heap.size w ((w.alloc ob1).alloc ob2) := fun _ _ => ((Below.refl _ _).alloc (Nat.le_refl _) _).alloc (by simp) _
 subst hk
 go_enter Tryz.func137, Tryz.ntmps137
 go_wp2_with (first
    | (with_reducible refine at_storeT 3 ?_; refine wpList_store_box (hbA0 _) rfl _ _ _ rfl rfl (vi 0) rfl (by kernel_rfl) rfl (one_vi _) ?_; intro w1 hbA hT; have hbR := (hbR0 _ _).turn hT (Nat.succ_ne_self _); have hB := (hB0 _ _).trans (hT.below (Nat.le_refl _)); clear hT)
    | (with_reducible refine at_storeT 3 ?_; refine wpList_store_box hbA rfl _ _ _ rfl rfl (vi 0) rfl (by kernel_rfl) rfl (one_vi _) ?_; intro w1 hbA hT; have hbR := hbR.turn hT (Nat.succ_ne_self _); have hB := hB.trans (hT.below (Nat.le_refl _)); clear hT)
    | (with_reducible refine at_storeT 41 ?_; refine wpList_store_box hbA rfl _ _ _ rfl rfl (.agg (encItem zItem)) rfl (by kernel_rfl) rfl (one_agg (encItem_one _)) ?_; intro w1 hbA hT; have hbR := hbR.turn hT (Nat.succ_ne_self _); have hB := hB.trans (hT.below (Nat.le_refl _)); clear hT)
    | (with_reducible refine at_dst 45 ?_; refine wpList_load_at rfl 43 _ rfl w.heap.size 0 rfl (encNote ({ blankN n with item := zItem })) _ (hbA.eqv (cs' := encNote ({ blankN n with item := zItem })) (by simp [splice, encNote, blankN, Value.cells, Sl.v, Sl.nil, encItem, zItem, encRef, encSetting])).cells Tryz.underlying43 rfl (by kernel_rfl) ?_)
    | (with_reducible refine at_storeT 43 ?_; refine wpList_store_box hbR rfl _ _ _ rfl rfl (.agg (encNote ({ blankN n with item := zItem }))) rfl (by kernel_rfl) rfl (one_agg (encNote_one _)) ?_; intro w1 hbR hT; have hB := hB.trans (hT.below (Nat.le_succ _)); clear hT))
 exact bodyPost_ret (results_cell_box (cs := encNote ({ blankN n with item := zItem })) (hbR.eqv (by simp [splice, encNote, Value.cells])) rfl rfl Tryz.underlying43 rfl (by kernel_rfl)) rfl ⟨rfl, hB⟩
theorem bare_3 (kind : Int) (n : Note) (w : World) (hk : kind = 3) :
  Calls Tryz.prog 137 #[.int .i64 kind, .agg (encNote n)] w fun e w' => e = .returned (.agg (encNote ({ blankN n with panes := Sl.nil }))) ∧ Below w.heap.size w w' := by
 have hbA0 : ∀ ob, BoxAt ((w.alloc (.cells (encNote n) 43)).alloc ob) w.heap.size 43 (encNote n) := fun ob => (BoxAt.new _ _ _).alloc _
 have hbR0 : ∀ ob cs, BoxAt ((w.alloc ob).alloc (.cells cs 43)) (w.heap.size + 1) 43 cs := fun ob cs => by have := BoxAt.new (w.alloc ob) 43 cs; rwa [World.size_alloc] at this
 have hB0 : ∀ ob1 ob2, Below w.heap.size w ((w.alloc ob1).alloc ob2) := fun _ _ => ((Below.refl _ _).alloc (Nat.le_refl _) _).alloc (by simp) _
 subst hk
 go_enter Tryz.func137, Tryz.ntmps137
 go_wp2_with (first
    | (with_reducible refine at_storeT 3 ?_; refine wpList_store_box (hbA0 _) rfl _ _ _ rfl rfl (vi 0) rfl (by kernel_rfl) rfl (one_vi _) ?_; intro w1 hbA hT; have hbR := (hbR0 _ _).turn hT (Nat.succ_ne_self _); have hB := (hB0 _ _).trans (hT.below (Nat.le_refl _)); clear hT)
    | (with_reducible refine at_storeT 3 ?_; refine wpList_store_box hbA rfl _ _ _ rfl rfl (vi 0) rfl (by kernel_rfl) rfl (one_vi _) ?_; intro w1 hbA hT; have hbR := hbR.turn hT (Nat.succ_ne_self _); have hB := hB.trans (hT.below (Nat.le_refl _)); clear hT)
    | (with_reducible refine at_storeT 35 ?_; refine wpList_store_box hbA rfl _ _ _ rfl rfl (.slice none 0 0) rfl (by kernel_rfl) rfl (one_slice _ _ _) ?_; intro w1 hbA hT; have hbR := hbR.turn hT (Nat.succ_ne_self _); have hB := hB.trans (hT.below (Nat.le_refl _)); clear hT)
    | (with_reducible refine at_dst 45 ?_; refine wpList_load_at rfl 43 _ rfl w.heap.size 0 rfl (encNote ({ blankN n with panes := Sl.nil })) _ (hbA.eqv (cs' := encNote ({ blankN n with panes := Sl.nil })) (by simp [splice, encNote, blankN, Value.cells, Sl.v, Sl.nil, encItem, zItem, encRef, encSetting])).cells Tryz.underlying43 rfl (by kernel_rfl) ?_)
    | (with_reducible refine at_storeT 43 ?_; refine wpList_store_box hbR rfl _ _ _ rfl rfl (.agg (encNote ({ blankN n with panes := Sl.nil }))) rfl (by kernel_rfl) rfl (one_agg (encNote_one _)) ?_; intro w1 hbR hT; have hB := hB.trans (hT.below (Nat.le_succ _)); clear hT))
 exact bodyPost_ret (results_cell_box (cs := encNote ({ blankN n with panes := Sl.nil })) (hbR.eqv (by simp [splice, encNote, Value.cells])) rfl rfl Tryz.underlying43 rfl (by kernel_rfl)) rfl ⟨rfl, hB⟩
theorem bare_4 (kind : Int) (n : Note) (w : World) (hk : kind = 4) :
  Calls Tryz.prog 137 #[.int .i64 kind, .agg (encNote n)] w fun e w' => e = .returned (.agg (encNote ({ blankN n with pieces := Sl.nil, to := 0 }))) ∧ Below w.heap.size w w' := by
 have hbA0 : ∀ ob, BoxAt ((w.alloc (.cells (encNote n) 43)).alloc ob) w.heap.size 43 (encNote n) := fun ob => (BoxAt.new _ _ _).alloc _
 have hbR0 : ∀ ob cs, BoxAt ((w.alloc ob).alloc (.cells cs 43)) (w.heap.size + 1) 43 cs := fun ob cs => by have := BoxAt.new (w.alloc ob) 43 cs; rwa [World.size_alloc] at this
 have hB0 : ∀ ob1 ob2, Below w.heap.size w ((w.alloc ob1).alloc ob2) := fun _ _ => ((Below.refl _ _).alloc (Nat.le_refl _) _).alloc (by simp) _
 subst hk
 go_enter Tryz.func137, Tryz.ntmps137
 go_wp2_with (first
    | (with_reducible refine at_storeT 3 ?_; refine wpList_store_box (hbA0 _) rfl _ _ _ rfl rfl (vi 0) rfl (by kernel_rfl) rfl (one_vi _) ?_; intro w1 hbA hT; have hbR := (hbR0 _ _).turn hT (Nat.succ_ne_self _); have hB := (hB0 _ _).trans (hT.below (Nat.le_refl _)); clear hT)
    | (with_reducible refine at_storeT 3 ?_; refine wpList_store_box hbA rfl _ _ _ rfl rfl (vi 0) rfl (by kernel_rfl) rfl (one_vi _) ?_; intro w1 hbA hT; have hbR := hbR.turn hT (Nat.succ_ne_self _); have hB := hB.trans (hT.below (Nat.le_refl _)); clear hT)
    | (with_reducible refine at_storeT 35 ?_; refine wpList_store_box hbA rfl _ _ _ rfl rfl (.slice none 0 0) rfl (by kernel_rfl) rfl (one_slice _ _ _) ?_; intro w1 hbA hT; have hbR := hbR.turn hT (Nat.succ_ne_self _); have hB := hB.trans (hT.below (Nat.le_refl _)); clear hT)
    | (with_reducible refine at_dst 45 ?_; refine wpList_load_at rfl 43 _ rfl w.heap.size 0 rfl (encNote ({ blankN n with pieces := Sl.nil, to := 0 })) _ (hbA.eqv (cs' := encNote ({ blankN n with pieces := Sl.nil, to := 0 })) (by simp [splice, encNote, blankN, Value.cells, Sl.v, Sl.nil, encItem, zItem, encRef, encSetting])).cells Tryz.underlying43 rfl (by kernel_rfl) ?_)
    | (with_reducible refine at_storeT 43 ?_; refine wpList_store_box hbR rfl _ _ _ rfl rfl (.agg (encNote ({ blankN n with pieces := Sl.nil, to := 0 }))) rfl (by kernel_rfl) rfl (one_agg (encNote_one _)) ?_; intro w1 hbR hT; have hB := hB.trans (hT.below (Nat.le_succ _)); clear hT))
 exact bodyPost_ret (results_cell_box (cs := encNote ({ blankN n with pieces := Sl.nil, to := 0 })) (hbR.eqv (by simp [splice, encNote, Value.cells])) rfl rfl Tryz.underlying43 rfl (by kernel_rfl)) rfl ⟨rfl, hB⟩
theorem bare_5 (kind : Int) (n : Note) (w : World) (hk : kind = 5) :
  Calls Tryz.prog 137 #[.int .i64 kind, .agg (encNote n)] w fun e w' => e = .returned (.agg (encNote ({ blankN n with ref := ⟨0, 0⟩ }))) ∧ Below w.heap.size w w' := by
 have hbA0 : ∀ ob, BoxAt ((w.alloc (.cells (encNote n) 43)).alloc ob) w.heap.size 43 (encNote n) := fun ob => (BoxAt.new _ _ _).alloc _
 have hbR0 : ∀ ob cs, BoxAt ((w.alloc ob).alloc (.cells cs 43)) (w.heap.size + 1) 43 cs := fun ob cs => by have := BoxAt.new (w.alloc ob) 43 cs; rwa [World.size_alloc] at this
 have hB0 : ∀ ob1 ob2, Below w.heap.size w ((w.alloc ob1).alloc ob2) := fun _ _ => ((Below.refl _ _).alloc (Nat.le_refl _) _).alloc (by simp) _
 subst hk
 go_enter Tryz.func137, Tryz.ntmps137
 go_wp2_with (first
    | (with_reducible refine at_storeT 3 ?_; refine wpList_store_box (hbA0 _) rfl _ _ _ rfl rfl (vi 0) rfl (by kernel_rfl) rfl (one_vi _) ?_; intro w1 hbA hT; have hbR := (hbR0 _ _).turn hT (Nat.succ_ne_self _); have hB := (hB0 _ _).trans (hT.below (Nat.le_refl _)); clear hT)
    | (with_reducible refine at_storeT 3 ?_; refine wpList_store_box hbA rfl _ _ _ rfl rfl (vi 0) rfl (by kernel_rfl) rfl (one_vi _) ?_; intro w1 hbA hT; have hbR := hbR.turn hT (Nat.succ_ne_self _); have hB := hB.trans (hT.below (Nat.le_refl _)); clear hT)
    | (with_reducible refine at_storeT 34 ?_; refine wpList_store_box hbA rfl _ _ _ rfl rfl (.agg (encRef ⟨0, 0⟩)) rfl (by kernel_rfl) rfl (one_agg (encRef_one _)) ?_; intro w1 hbA hT; have hbR := hbR.turn hT (Nat.succ_ne_self _); have hB := hB.trans (hT.below (Nat.le_refl _)); clear hT)
    | (with_reducible refine at_dst 45 ?_; refine wpList_load_at rfl 43 _ rfl w.heap.size 0 rfl (encNote ({ blankN n with ref := ⟨0, 0⟩ })) _ (hbA.eqv (cs' := encNote ({ blankN n with ref := ⟨0, 0⟩ })) (by simp [splice, encNote, blankN, Value.cells, Sl.v, Sl.nil, encItem, zItem, encRef, encSetting])).cells Tryz.underlying43 rfl (by kernel_rfl) ?_)
    | (with_reducible refine at_storeT 43 ?_; refine wpList_store_box hbR rfl _ _ _ rfl rfl (.agg (encNote ({ blankN n with ref := ⟨0, 0⟩ }))) rfl (by kernel_rfl) rfl (one_agg (encNote_one _)) ?_; intro w1 hbR hT; have hB := hB.trans (hT.below (Nat.le_succ _)); clear hT))
 exact bodyPost_ret (results_cell_box (cs := encNote ({ blankN n with ref := ⟨0, 0⟩ })) (hbR.eqv (by simp [splice, encNote, Value.cells])) rfl rfl Tryz.underlying43 rfl (by kernel_rfl)) rfl ⟨rfl, hB⟩
theorem bare_10 (kind : Int) (n : Note) (w : World) (hk : kind = 10) :
  Calls Tryz.prog 137 #[.int .i64 kind, .agg (encNote n)] w fun e w' => e = .returned (.agg (encNote ({ blankN n with ref := ⟨0, 0⟩ }))) ∧ Below w.heap.size w w' := by
 have hbA0 : ∀ ob, BoxAt ((w.alloc (.cells (encNote n) 43)).alloc ob) w.heap.size 43 (encNote n) := fun ob => (BoxAt.new _ _ _).alloc _
 have hbR0 : ∀ ob cs, BoxAt ((w.alloc ob).alloc (.cells cs 43)) (w.heap.size + 1) 43 cs := fun ob cs => by have := BoxAt.new (w.alloc ob) 43 cs; rwa [World.size_alloc] at this
 have hB0 : ∀ ob1 ob2, Below w.heap.size w ((w.alloc ob1).alloc ob2) := fun _ _ => ((Below.refl _ _).alloc (Nat.le_refl _) _).alloc (by simp) _
 subst hk
 go_enter Tryz.func137, Tryz.ntmps137
 go_wp2_with (first
    | (with_reducible refine at_storeT 3 ?_; refine wpList_store_box (hbA0 _) rfl _ _ _ rfl rfl (vi 0) rfl (by kernel_rfl) rfl (one_vi _) ?_; intro w1 hbA hT; have hbR := (hbR0 _ _).turn hT (Nat.succ_ne_self _); have hB := (hB0 _ _).trans (hT.below (Nat.le_refl _)); clear hT)
    | (with_reducible refine at_storeT 3 ?_; refine wpList_store_box hbA rfl _ _ _ rfl rfl (vi 0) rfl (by kernel_rfl) rfl (one_vi _) ?_; intro w1 hbA hT; have hbR := hbR.turn hT (Nat.succ_ne_self _); have hB := hB.trans (hT.below (Nat.le_refl _)); clear hT)
    | (with_reducible refine at_storeT 34 ?_; refine wpList_store_box hbA rfl _ _ _ rfl rfl (.agg (encRef ⟨0, 0⟩)) rfl (by kernel_rfl) rfl (one_agg (encRef_one _)) ?_; intro w1 hbA hT; have hbR := hbR.turn hT (Nat.succ_ne_self _); have hB := hB.trans (hT.below (Nat.le_refl _)); clear hT)
    | (with_reducible refine at_dst 45 ?_; refine wpList_load_at rfl 43 _ rfl w.heap.size 0 rfl (encNote ({ blankN n with ref := ⟨0, 0⟩ })) _ (hbA.eqv (cs' := encNote ({ blankN n with ref := ⟨0, 0⟩ })) (by simp [splice, encNote, blankN, Value.cells, Sl.v, Sl.nil, encItem, zItem, encRef, encSetting])).cells Tryz.underlying43 rfl (by kernel_rfl) ?_)
    | (with_reducible refine at_storeT 43 ?_; refine wpList_store_box hbR rfl _ _ _ rfl rfl (.agg (encNote ({ blankN n with ref := ⟨0, 0⟩ }))) rfl (by kernel_rfl) rfl (one_agg (encNote_one _)) ?_; intro w1 hbR hT; have hB := hB.trans (hT.below (Nat.le_succ _)); clear hT))
 exact bodyPost_ret (results_cell_box (cs := encNote ({ blankN n with ref := ⟨0, 0⟩ })) (hbR.eqv (by simp [splice, encNote, Value.cells])) rfl rfl Tryz.underlying43 rfl (by kernel_rfl)) rfl ⟨rfl, hB⟩
theorem bare_6 (kind : Int) (n : Note) (w : World) (hk : kind = 6) :
  Calls Tryz.prog 137 #[.int .i64 kind, .agg (encNote n)] w fun e w' => e = .returned (.agg (encNote ({ blankN n with pane := 0, piece := 0, colour := 0, setting := ⟨0, false⟩ }))) ∧ Below w.heap.size w w' := by
 have hbA0 : ∀ ob, BoxAt ((w.alloc (.cells (encNote n) 43)).alloc ob) w.heap.size 43 (encNote n) := fun ob => (BoxAt.new _ _ _).alloc _
 have hbR0 : ∀ ob cs, BoxAt ((w.alloc ob).alloc (.cells cs 43)) (w.heap.size + 1) 43 cs := fun ob cs => by have := BoxAt.new (w.alloc ob) 43 cs; rwa [World.size_alloc] at this
 have hB0 : ∀ ob1 ob2, Below w.heap.size w ((w.alloc ob1).alloc ob2) := fun _ _ => ((Below.refl _ _).alloc (Nat.le_refl _) _).alloc (by simp) _
 subst hk
 go_enter Tryz.func137, Tryz.ntmps137
 go_wp2_with (first
    | (with_reducible refine at_storeT 3 ?_; refine wpList_store_box (hbA0 _) rfl _ _ _ rfl rfl (vi 0) rfl (by kernel_rfl) rfl (one_vi _) ?_; intro w1 hbA hT; have hbR := (hbR0 _ _).turn hT (Nat.succ_ne_self _); have hB := (hB0 _ _).trans (hT.below (Nat.le_refl _)); clear hT)
    | (with_reducible refine at_storeT 3 ?_; refine wpList_store_box hbA rfl _ _ _ rfl rfl (vi 0) rfl (by kernel_rfl) rfl (one_vi _) ?_; intro w1 hbA hT; have hbR := hbR.turn hT (Nat.succ_ne_self _); have hB := hB.trans (hT.below (Nat.le_refl _)); clear hT)
    | (with_reducible refine at_storeT 32 ?_; refine wpList_store_box hbA rfl _ _ _ rfl rfl (.agg (encSetting ⟨0, false⟩)) rfl (by kernel_rfl) rfl (one_agg (encSetting_one _)) ?_; intro w1 hbA hT; have hbR := hbR.turn hT (Nat.succ_ne_self _); have hB := hB.trans (hT.below (Nat.le_refl _)); clear hT)
    | (with_reducible refine at_dst 45 ?_; refine wpList_load_at rfl 43 _ rfl w.heap.size 0 rfl (encNote ({ blankN n with pane := 0, piece := 0, colour := 0, setting := ⟨0, false⟩ })) _ (hbA.eqv (cs' := encNote ({ blankN n with pane := 0, piece := 0, colour := 0, setting := ⟨0, false⟩ })) (by simp [splice, encNote, blankN, Value.cells, Sl.v, Sl.nil, encItem, zItem, encRef, encSetting])).cells Tryz.underlying43 rfl (by kernel_rfl) ?_)
    | (with_reducible refine at_storeT 43 ?_; refine wpList_store_box hbR rfl _ _ _ rfl rfl (.agg (encNote ({ blankN n with pane := 0, piece := 0, colour := 0, setting := ⟨0, false⟩ }))) rfl (by kernel_rfl) rfl (one_agg (encNote_one _)) ?_; intro w1 hbR hT; have hB := hB.trans (hT.below (Nat.le_succ _)); clear hT))
 exact bodyPost_ret (results_cell_box (cs := encNote ({ blankN n with pane := 0, piece := 0, colour := 0, setting := ⟨0, false⟩ })) (hbR.eqv (by simp [splice, encNote, Value.cells])) rfl rfl Tryz.underlying43 rfl (by kernel_rfl)) rfl ⟨rfl, hB⟩
theorem bare_7 (kind : Int) (n : Note) (w : World) (hk : kind = 7) :
  Calls Tryz.prog 137 #[.int .i64 kind, .agg (encNote n)] w fun e w' => e = .returned (.agg (encNote ({ blankN n with pane := 0 }))) ∧ Below w.heap.size w w' := by
 have hbA0 : ∀ ob, BoxAt ((w.alloc (.cells (encNote n) 43)).alloc ob) w.heap.size 43 (encNote n) := fun ob => (BoxAt.new _ _ _).alloc _
 have hbR0 : ∀ ob cs, BoxAt ((w.alloc ob).alloc (.cells cs 43)) (w.heap.size + 1) 43 cs := fun ob cs => by have := BoxAt.new (w.alloc ob) 43 cs; rwa [World.size_alloc] at this
 have hB0 : ∀ ob1 ob2, Below w.heap.size w ((w.alloc ob1).alloc ob2) := fun _ _ => ((Below.refl _ _).alloc (Nat.le_refl _) _).alloc (by simp) _
 subst hk
 go_enter Tryz.func137, Tryz.ntmps137
 go_wp2_with (first
    | (with_reducible refine at_storeT 3 ?_; refine wpList_store_box (hbA0 _) rfl _ _ _ rfl rfl (vi 0) rfl (by kernel_rfl) rfl (one_vi _) ?_; intro w1 hbA hT; have hbR := (hbR0 _ _).turn hT (Nat.succ_ne_self _); have hB := (hB0 _ _).trans (hT.below (Nat.le_refl _)); clear hT)
    | (with_reducible refine at_storeT 3 ?_; refine wpList_store_box hbA rfl _ _ _ rfl rfl (vi 0) rfl (by kernel_rfl) rfl (one_vi _) ?_; intro w1 hbA hT; have hbR := hbR.turn hT (Nat.succ_ne_self _); have hB := hB.trans (hT.below (Nat.le_refl _)); clear hT)
    | (with_reducible refine at_dst 45 ?_; refine wpList_load_at rfl 43 _ rfl w.heap.size 0 rfl (encNote ({ blankN n with pane := 0 })) _ (hbA.eqv (cs' := encNote ({ blankN n with pane := 0 })) (by simp [splice, encNote, blankN, Value.cells, Sl.v, Sl.nil, encItem, zItem, encRef, encSetting])).cells Tryz.underlying43 rfl (by kernel_rfl) ?_)
    | (with_reducible refine at_storeT 43 ?_; refine wpList_store_box hbR rfl _ _ _ rfl rfl (.agg (encNote ({ blankN n with pane := 0 }))) rfl (by kernel_rfl) rfl (one_agg (encNote_one _)) ?_; intro w1 hbR hT; have hB := hB.trans (hT.below (Nat.le_succ _)); clear hT))
 exact bodyPost_ret (results_cell_box (cs := encNote ({ blankN n with pane := 0 })) (hbR.eqv (by simp [splice, encNote, Value.cells])) rfl rfl Tryz.underlying43 rfl (by kernel_rfl)) rfl ⟨rfl, hB⟩
theorem bare_8 (kind : Int) (n : Note) (w : World) (hk : kind = 8) :
  Calls Tryz.prog 137 #[.int .i64 kind, .agg (encNote n)] w fun e w' => e = .returned (.agg (encNote ({ blankN n with piece := 0, data := Sl.nil }))) ∧ Below w.heap.size w w' := by
 have hbA0 : ∀ ob, BoxAt ((w.alloc (.cells (encNote n) 43)).alloc ob) w.heap.size 43 (encNote n) := fun ob => (BoxAt.new _ _ _).alloc _
 have hbR0 : ∀ ob cs, BoxAt ((w.alloc ob).alloc (.cells cs 43)) (w.heap.size + 1) 43 cs := fun ob cs => by have := BoxAt.new (w.alloc ob) 43 cs; rwa [World.size_alloc] at this
 have hB0 : ∀ ob1 ob2, Below w.heap.size w ((w.alloc ob1).alloc ob2) := fun _ _ => ((Below.refl _ _).alloc (Nat.le_refl _) _).alloc (by simp) _
 subst hk
 go_enter Tryz.func137, Tryz.ntmps137
 go_wp2_with (first
    | (with_reducible refine at_storeT 3 ?_; refine wpList_store_box (hbA0 _) rfl _ _ _ rfl rfl (vi 0) rfl (by kernel_rfl) rfl (one_vi _) ?_; intro w1 hbA hT; have hbR := (hbR0 _ _).turn hT (Nat.succ_ne_self _); have hB := (hB0 _ _).trans (hT.below (Nat.le_refl _)); clear hT)
    | (with_reducible refine at_storeT 3 ?_; refine wpList_store_box hbA rfl _ _ _ rfl rfl (vi 0) rfl (by kernel_rfl) rfl (one_vi _) ?_; intro w1 hbA hT; have hbR := hbR.turn hT (Nat.succ_ne_self _); have hB := hB.trans (hT.below (Nat.le_refl _)); clear hT)
    | (with_reducible refine at_storeT 36 ?_; refine wpList_store_box hbA rfl _ _ _ rfl rfl (.slice none 0 0) rfl (by kernel_rfl) rfl (one_slice _ _ _) ?_; intro w1 hbA hT; have hbR := hbR.turn hT (Nat.succ_ne_self _); have hB := hB.trans (hT.below (Nat.le_refl _)); clear hT)
    | (with_reducible refine at_dst 45 ?_; refine wpList_load_at rfl 43 _ rfl w.heap.size 0 rfl (encNote ({ blankN n with piece := 0, data := Sl.nil })) _ (hbA.eqv (cs' := encNote ({ blankN n with piece := 0, data := Sl.nil })) (by simp [splice, encNote, blankN, Value.cells, Sl.v, Sl.nil, encItem, zItem, encRef, encSetting])).cells Tryz.underlying43 rfl (by kernel_rfl) ?_)
    | (with_reducible refine at_storeT 43 ?_; refine wpList_store_box hbR rfl _ _ _ rfl rfl (.agg (encNote ({ blankN n with piece := 0, data := Sl.nil }))) rfl (by kernel_rfl) rfl (one_agg (encNote_one _)) ?_; intro w1 hbR hT; have hB := hB.trans (hT.below (Nat.le_succ _)); clear hT))
 exact bodyPost_ret (results_cell_box (cs := encNote ({ blankN n with piece := 0, data := Sl.nil })) (hbR.eqv (by simp [splice, encNote, Value.cells])) rfl rfl Tryz.underlying43 rfl (by kernel_rfl)) rfl ⟨rfl, hB⟩
theorem bare_no (kind : Int) (n : Note) (w : World) (h1 : ¬ kind = 1) (h2 : ¬ kind = 2) (h3 : ¬ kind = 3) (h4 : ¬ kind = 4) (h5 : ¬ kind = 5) (h10 : ¬ kind = 10) (h6 : ¬ kind = 6) (h7 : ¬ kind = 7) (h8 : ¬ kind = 8) :
  Calls Tryz.prog 137 #[.int .i64 kind, .agg (encNote n)] w fun e w' => e = .returned (.agg (encNote (blankN n))) ∧ Below w.heap.size w w' := by
 have hbA0 : ∀ ob, BoxAt ((w.alloc (.cells (encNote n) 43)).alloc ob) w.heap.size 43 (encNote n) := fun ob => (BoxAt.new _ _ _).alloc _
 have hbR0 : ∀ ob cs, BoxAt ((w.alloc ob).alloc (.cells cs 43)) (w.heap.size + 1) 43 cs := fun ob cs => by have := BoxAt.new (w.alloc ob) 43 cs; rwa [World.size_alloc] at this
 have hB0 : ∀ ob1 ob2, Below w.heap.size w ((w.alloc ob1).alloc ob2) := fun _ _ => ((Below.refl _ _).alloc (Nat.le_refl _) _).alloc (by simp) _
 go_enter Tryz.func137, Tryz.ntmps137
 go_wp2_with (first
    | (with_reducible refine at_storeT 3 ?_; refine wpList_store_box (hbA0 _) rfl _ _ _ rfl rfl (vi 0) rfl (by kernel_rfl) rfl (one_vi _) ?_; intro w1 hbA hT; have hbR := (hbR0 _ _).turn hT (Nat.succ_ne_self _); have hB := (hB0 _ _).trans (hT.below (Nat.le_refl _)); clear hT)
    | (with_reducible refine at_storeT 3 ?_; refine wpList_store_box hbA rfl _ _ _ rfl rfl (vi 0) rfl (by kernel_rfl) rfl (one_vi _) ?_; intro w1 hbA hT; have hbR := hbR.turn hT (Nat.succ_ne_self _); have hB := hB.trans (hT.below (Nat.le_refl _)); clear hT)
    | (with_reducible refine at_dst 45 ?_; refine wpList_load_at rfl 43 _ rfl w.heap.size 0 rfl (encNote (blankN n)) _ (hbA.eqv (cs' := encNote (blankN n)) (by simp [splice, encNote, blankN, Value.cells, Sl.v, Sl.nil, encItem, zItem, encRef, encSetting])).cells Tryz.underlying43 rfl (by kernel_rfl) ?_)
    | (with_reducible refine at_storeT 43 ?_; refine wpList_store_box hbR rfl _ _ _ rfl rfl (.agg (encNote (blankN n))) rfl (by kernel_rfl) rfl (one_agg (encNote_one _)) ?_; intro w1 hbR hT; have hB := hB.trans (hT.below (Nat.le_succ _)); clear hT))
 exact bodyPost_ret (results_cell_box (cs := encNote (blankN n)) (hbR.eqv (by simp [splice, encNote, Value.cells])) rfl rfl Tryz.underlying43 rfl (by kernel_rfl)) rfl ⟨rfl, hB⟩
theorem bare_any (kind : Int) (n : Note) (w : World) :
  Calls Tryz.prog 137 #[.int .i64 kind, .agg (encNote n)] w fun e w' => e = .returned (.agg (encNote (bareN kind n))) ∧ Below w.heap.size w w' := by
 by_cases h1 : kind = 1
 ·have e : bareN kind n = { blankN n with data := Sl.nil } := by subst h1; rfl
  rw [e]; exact bare_1 kind n w h1
 by_cases h2 : kind = 2
 ·have e : bareN kind n = { blankN n with item := zItem } := by subst h2; rfl
  rw [e]; exact bare_2 kind n w h2
 by_cases h3 : kind = 3
 ·have e : bareN kind n = { blankN n with panes := Sl.nil } := by subst h3; rfl
  rw [e]; exact bare_3 kind n w h3
 by_cases h4 : kind = 4
 ·have e : bareN kind n = { blankN n with pieces := Sl.nil, to := 0 } := by subst h4; rfl
  rw [e]; exact bare_4 kind n w h4
 by_cases h5 : kind = 5
 ·have e : bareN kind n = { blankN n with ref := ⟨0, 0⟩ } := by subst h5; rfl
  rw [e]; exact bare_5 kind n w h5
 by_cases h10 : kind = 10
 ·have e : bareN kind n = { blankN n with ref := ⟨0, 0⟩ } := by subst h10; rfl
  rw [e]; exact bare_10 kind n w h10
 by_cases h6 : kind = 6
 ·have e : bareN kind n = { blankN n with pane := 0, piece := 0, colour := 0, setting := ⟨0, false⟩ } := by subst h6; rfl
  rw [e]; exact bare_6 kind n w h6
 by_cases h7 : kind = 7
 ·have e : bareN kind n = { blankN n with pane := 0 } := by subst h7; rfl
  rw [e]; exact bare_7 kind n w h7
 by_cases h8 : kind = 8
 ·have e : bareN kind n = { blankN n with piece := 0, data := Sl.nil } := by subst h8; rfl
  rw [e]; exact bare_8 kind n w h8
 have e : bareN kind n = blankN n := by simp [bareN, h1, h2, h3, h4, h5, h10, h6, h7, h8]
 rw [e]; exact bare_no kind n w h1 h2 h3 h4 h5 h10 h6 h7 h8
end Go.Proofs.YtnmgfnpphglphaaGreat
