/-
  Methods of nil pointers, and of benches and worlds that nobody made: walked.
-/
import Derived.Test.YtnmgfnpphglphaaGreatFolded
import Derived.Test.YtnmgfnpphglphaaGreatOwn
import Derived.Test.YtnmgfnpphglphaaGreatBox
set_option maxHeartbeats 16000000
set_option maxRecDepth 100000
set_option linter.unusedVariables false
set_option linter.unusedSimpArgs false
namespace Go.Proofs.YtnmgfnpphglphaaGreat
open Go.RowKit
theorem diskSync_nil (w : World)  :
  Calls Tryz.prog 12 #[.pointer none] w fun e w' => e = .returned (.tuple #[]) ∧ w = w' := by
 go_enter Tryz.func12, Tryz.ntmps12
 go_wp2
 go_end0
 exact ⟨rfl, rfl⟩
theorem diskWrite_nil (w : World) (a : Option Addr) (n c : Nat) :
  Calls Tryz.prog 10 #[.pointer none, .slice a n c] w fun e w' => e = .returned (.int .i64 1) ∧ w = w' := by
 go_enter Tryz.func10, Tryz.ntmps10
 go_wp2
 go_ret
 exact ⟨rfl, rfl⟩
theorem diskRead_nil (w : World)  :
  Calls Tryz.prog 18 #[.pointer none] w fun e w' => e = .returned (.slice none 0 0) ∧ w = w' := by
 go_enter Tryz.func18, Tryz.ntmps18
 go_wp2
 go_ret
 exact ⟨rfl, rfl⟩
theorem diskPending_nil (w : World)  :
  Calls Tryz.prog 16 #[.pointer none] w fun e w' => e = .returned (.int .i64 0) ∧ w = w' := by
 go_enter Tryz.func16, Tryz.ntmps16
 go_wp2
 go_ret
 exact ⟨rfl, rfl⟩
theorem diskCrash_nil (w : World) (i j : Int) :
  Calls Tryz.prog 14 #[.pointer none, .int .i64 i, .int .i64 j] w fun e w' => e = .returned (.int .i64 1) ∧ w = w' := by
 go_enter Tryz.func14, Tryz.ntmps14
 go_wp2
 go_ret
 exact ⟨rfl, rfl⟩
theorem made_nil (w : World)  :
  Calls Tryz.prog 56 #[.pointer none] w fun e w' => e = .returned (.bool false) ∧ w = w' := by
 go_enter Tryz.func56, Tryz.ntmps56
 go_wp2
 go_ret
 exact ⟨rfl, rfl⟩
theorem madeB_nil (w : World)  : Calls Tryz.prog 56 #[.pointer none] w fun e w' => e = .returned (.bool false) ∧ Below w.heap.size w w' := (made_nil w).mono fun e w' h => ⟨h.1, h.2 ▸ Below.refl _ _⟩
theorem benchSync_nil (w : World)  :
  Calls Tryz.prog 25 #[.pointer none] w fun e w' => e = .returned (.tuple #[]) ∧ w = w' := by
 go_enter Tryz.func25, Tryz.ntmps25
 go_wp2_with (go_at_call 56; (with_reducible refine (made_nil _).mono ?_); rintro e w1 ⟨rfl, rfl⟩)
 go_end0
 exact ⟨rfl, rfl⟩
theorem benchHear_nil (w : World) (a : Option Addr) (n c : Nat)  :
  Calls Tryz.prog 27 #[.pointer none, .slice a n c] w fun e w' => e = .returned (.tuple #[.int .i64 0, .int .i64 1]) ∧ w = w' := by
 go_enter Tryz.func27, Tryz.ntmps27
 go_wp2_with (go_at_call 56; (with_reducible refine (made_nil _).mono ?_); rintro e w1 ⟨rfl, rfl⟩)
 go_ret2
 exact ⟨rfl, rfl⟩
theorem benchCrash_nil (w : World) (i j : Int)  :
  Calls Tryz.prog 28 #[.pointer none, .int .i64 i, .int .i64 j] w fun e w' => e = .returned (.int .i64 1) ∧ w = w' := by
 go_enter Tryz.func28, Tryz.ntmps28
 go_wp2_with (go_at_call 56; (with_reducible refine (made_nil _).mono ?_); rintro e w1 ⟨rfl, rfl⟩)
 go_ret
 exact ⟨rfl, rfl⟩
theorem benchNotes_nil (w : World)  :
  Calls Tryz.prog 29 #[.pointer none] w fun e w' => e = .returned (.slice none 0 0) ∧ w = w' := by
 go_enter Tryz.func29, Tryz.ntmps29
 go_wp2_with (go_at_call 56; (with_reducible refine (made_nil _).mono ?_); rintro e w1 ⟨rfl, rfl⟩)
 go_ret
 exact ⟨rfl, rfl⟩
theorem benchCounts_nil (w : World)  :
  Calls Tryz.prog 30 #[.pointer none] w fun e w' => e = .returned (.slice none 0 0) ∧ w = w' := by
 go_enter Tryz.func30, Tryz.ntmps30
 go_wp2_with (go_at_call 56; (with_reducible refine (made_nil _).mono ?_); rintro e w1 ⟨rfl, rfl⟩)
 go_ret
 exact ⟨rfl, rfl⟩
theorem benchMissing_nil (w : World) (a : Option Addr) (n c : Nat)  :
  Calls Tryz.prog 31 #[.pointer none, .slice a n c] w fun e w' => e = .returned (.slice none 0 0) ∧ Below w.heap.size w w' := by
 go_enter Tryz.func31, Tryz.ntmps31
 go_wp2_with (go_at_call 56; (with_reducible refine (made_nil _).mono ?_); rintro e w1 ⟨rfl, rfl⟩)
 go_ret
 exact ⟨rfl, (Below.refl _ _).alloc (Nat.le_refl _) _⟩
theorem benchDo_nil (w : World) (n : Note)  :
  Calls Tryz.prog 26 #[.pointer none, .agg (encNote n)] w fun e w' => e = .returned (.tuple #[.agg (encNote zNote), .int .i64 1]) ∧ Below w.heap.size w w' := by
 go_enter Tryz.func26, Tryz.ntmps26
 go_wp2_with (first
  | (go_at_call 56; refine (madeB_nil _).mono ?_; rintro e w1 ⟨rfl, hb1⟩; have hB : Below w.heap.size w w1 := (((Below.refl w.heap.size w).alloc (Nat.le_refl _) _).alloc (by simp) _).trans (hb1.mono (by simp; omega)); have hbR := (BoxAt.new (w.alloc (.cells (encNote n) 43)) 43 (encNote zNote)).belowAll hb1; rw [World.size_alloc] at hbR; clear hb1)
  | ((with_reducible refine at_store ?_); refine wpList_store_box hbR rfl _ _ _ rfl rfl (.agg (encNote zNote)) rfl (by kernel_rfl) rfl (encNote_one _) ?_; intro w2 hb2 hT2))
 exact bodyPost_ret (results_cell_tmp (cs := encNote zNote) (.int .i64 1) (hb2.eqv (by rfl)) rfl rfl rfl Tryz.underlying43 rfl (by kernel_rfl)) rfl ⟨rfl, hB.trans (hT2.below (by omega))⟩
theorem made_zero (w : World) (b : Nat) (hc : w.cell? ⟨b, 11, none⟩ = some (.pointer none)) :
  Calls Tryz.prog 56 #[.pointer (some ⟨b, 0, none⟩)] w fun e w' => e = .returned (.bool false) ∧ w = w' := by
 go_enter Tryz.func56, Tryz.ntmps56
 go_wp2
 go_ret
 exact ⟨rfl, rfl⟩
theorem madeB_zero (w : World) (b : Nat) (hc : w.cell? ⟨b, 11, none⟩ = some (.pointer none)) : Calls Tryz.prog 56 #[.pointer (some ⟨b, 0, none⟩)] w fun e w' => e = .returned (.bool false) ∧ Below w.heap.size w w' := (made_zero w b hc).mono fun e w' h => ⟨h.1, h.2 ▸ Below.refl _ _⟩
theorem benchSync_zero (w : World) (b : Nat) (hc : w.cell? ⟨b, 11, none⟩ = some (.pointer none)) :
  Calls Tryz.prog 25 #[.pointer (some ⟨b, 0, none⟩)] w fun e w' => e = .returned (.tuple #[]) ∧ w = w' := by
 go_enter Tryz.func25, Tryz.ntmps25
 go_wp2_with (go_at_call 56; (with_reducible refine (made_zero _ _ hc).mono ?_); rintro e w1 ⟨rfl, rfl⟩)
 go_end0
 exact ⟨rfl, rfl⟩
theorem benchHear_zero (w : World) (b : Nat) (a : Option Addr) (n c : Nat) (hc : w.cell? ⟨b, 11, none⟩ = some (.pointer none)) :
  Calls Tryz.prog 27 #[.pointer (some ⟨b, 0, none⟩), .slice a n c] w fun e w' => e = .returned (.tuple #[.int .i64 0, .int .i64 1]) ∧ w = w' := by
 go_enter Tryz.func27, Tryz.ntmps27
 go_wp2_with (go_at_call 56; (with_reducible refine (made_zero _ _ hc).mono ?_); rintro e w1 ⟨rfl, rfl⟩)
 go_ret2
 exact ⟨rfl, rfl⟩
theorem benchCrash_zero (w : World) (b : Nat) (i j : Int) (hc : w.cell? ⟨b, 11, none⟩ = some (.pointer none)) :
  Calls Tryz.prog 28 #[.pointer (some ⟨b, 0, none⟩), .int .i64 i, .int .i64 j] w fun e w' => e = .returned (.int .i64 1) ∧ w = w' := by
 go_enter Tryz.func28, Tryz.ntmps28
 go_wp2_with (go_at_call 56; (with_reducible refine (made_zero _ _ hc).mono ?_); rintro e w1 ⟨rfl, rfl⟩)
 go_ret
 exact ⟨rfl, rfl⟩
theorem benchNotes_zero (w : World) (b : Nat) (hc : w.cell? ⟨b, 11, none⟩ = some (.pointer none)) :
  Calls Tryz.prog 29 #[.pointer (some ⟨b, 0, none⟩)] w fun e w' => e = .returned (.slice none 0 0) ∧ w = w' := by
 go_enter Tryz.func29, Tryz.ntmps29
 go_wp2_with (go_at_call 56; (with_reducible refine (made_zero _ _ hc).mono ?_); rintro e w1 ⟨rfl, rfl⟩)
 go_ret
 exact ⟨rfl, rfl⟩
theorem benchCounts_zero (w : World) (b : Nat) (hc : w.cell? ⟨b, 11, none⟩ = some (.pointer none)) :
  Calls Tryz.prog 30 #[.pointer (some ⟨b, 0, none⟩)] w fun e w' => e = .returned (.slice none 0 0) ∧ w = w' := by
 go_enter Tryz.func30, Tryz.ntmps30
 go_wp2_with (go_at_call 56; (with_reducible refine (made_zero _ _ hc).mono ?_); rintro e w1 ⟨rfl, rfl⟩)
 go_ret
 exact ⟨rfl, rfl⟩
theorem benchMissing_zero (w : World) (b : Nat) (a : Option Addr) (n c : Nat) (hl : b < w.heap.size) (hc : w.cell? ⟨b, 11, none⟩ = some (.pointer none)) :
  Calls Tryz.prog 31 #[.pointer (some ⟨b, 0, none⟩), .slice a n c] w fun e w' => e = .returned (.slice none 0 0) ∧ Below w.heap.size w w' := by
 have hc1 := ((Below.refl w.heap.size w).alloc (Nat.le_refl _) (.cells #[.slice a n c] 35)).cell (p := ⟨b, 11, none⟩) hl
 rw [hc] at hc1
 go_enter Tryz.func31, Tryz.ntmps31
 go_wp2_with (go_at_call 56; (with_reducible refine (made_zero _ _ hc1).mono ?_); rintro e w1 ⟨rfl, rfl⟩)
 go_ret
 exact ⟨rfl, (Below.refl _ _).alloc (Nat.le_refl _) _⟩
theorem benchDo_zero (w : World) (b : Nat) (n : Note) (hl : b < w.heap.size) (hc : w.cell? ⟨b, 11, none⟩ = some (.pointer none)) :
  Calls Tryz.prog 26 #[.pointer (some ⟨b, 0, none⟩), .agg (encNote n)] w fun e w' => e = .returned (.tuple #[.agg (encNote zNote), .int .i64 1]) ∧ Below w.heap.size w w' := by
 have HC : Hid (∀ W, Below w.heap.size w W → W.cell? ⟨b, 11, none⟩ = some (.pointer none)) := Lib.hid fun W hW => (hW.cell (p := ⟨b, 11, none⟩) hl).trans hc
 clear hc
 go_enter Tryz.func26, Tryz.ntmps26
 go_wp2_with (first
  | (go_at_call 56; refine (madeB_zero _ b (HC.out _ (((Below.refl w.heap.size w).alloc (Nat.le_refl _) _).alloc (by simp) _))).mono ?_; rintro e w1 ⟨rfl, hb1⟩; have hB : Below w.heap.size w w1 := (((Below.refl w.heap.size w).alloc (Nat.le_refl _) _).alloc (by simp) _).trans (hb1.mono (by simp; omega)); have hbR := (BoxAt.new (w.alloc (.cells (encNote n) 43)) 43 (encNote zNote)).belowAll hb1; rw [World.size_alloc] at hbR; clear hb1)
  | ((with_reducible refine at_store ?_); refine wpList_store_box hbR rfl _ _ _ rfl rfl (.agg (encNote zNote)) rfl (by kernel_rfl) rfl (encNote_one _) ?_; intro w2 hb2 hT2))
 exact bodyPost_ret (results_cell_tmp (cs := encNote zNote) (.int .i64 1) (hb2.eqv (by rfl)) rfl rfl rfl Tryz.underlying43 rfl (by kernel_rfl)) rfl ⟨rfl, hB.trans (hT2.below (by omega))⟩
def encEv (k b t i p f : Int) (n : Note) : Array Value := #[vi k, vi b, vi t, vi i, vi p, vi f] ++ encNote n
theorem worldMade_nil (w : World)  :
  Calls Tryz.prog 72 #[.pointer none] w fun e w' => e = .returned (.bool false) ∧ w = w' := by
 go_enter Tryz.func72, Tryz.ntmps72
 go_wp2
 go_ret
 exact ⟨rfl, rfl⟩
theorem worldNotes_nil (w : World) (i : Int)  :
  Calls Tryz.prog 32 #[.pointer none, .int .i64 i] w fun e w' => e = .returned (.tuple #[.slice none 0 0, .int .i64 1]) ∧ w = w' := by
 go_enter Tryz.func32, Tryz.ntmps32
 go_wp2_with (go_at_call 72; (with_reducible refine (worldMade_nil _).mono ?_); rintro e w1 ⟨rfl, rfl⟩)
 go_ret2
 exact ⟨rfl, rfl⟩
theorem worldSettle_nil (w : World)  :
  Calls Tryz.prog 34 #[.pointer none] w fun e w' => e = .returned (.int .i64 1) ∧ w = w' := by
 go_enter Tryz.func34, Tryz.ntmps34
 go_wp2_with (go_at_call 72; (with_reducible refine (worldMade_nil _).mono ?_); rintro e w1 ⟨rfl, rfl⟩)
 go_ret
 exact ⟨rfl, rfl⟩
theorem worldStep_nil (w : World) (cs : Array Value)  :
  Calls Tryz.prog 33 #[.pointer none, .agg cs] w fun e w' => e = .returned (.int .i64 1) ∧ Below w.heap.size w w' := by
 go_enter Tryz.func33, Tryz.ntmps33
 go_wp2_with (go_at_call 72; (with_reducible refine (worldMade_nil _).mono ?_); rintro e w1 ⟨rfl, rfl⟩)
 go_ret
 exact ⟨rfl, (Below.refl _ _).alloc (Nat.le_refl _) _⟩
theorem worldMails_nil (w : World)  :
  Calls Tryz.prog 35 #[.pointer none] w fun e w' => e = .returned (.slice none 0 0) ∧ w = w' := by
 go_enter Tryz.func35, Tryz.ntmps35
 go_wp2
 go_ret
 exact ⟨rfl, rfl⟩
theorem worldTrays_nil (w : World)  :
  Calls Tryz.prog 36 #[.pointer none] w fun e w' => e = .returned (.slice none 0 0) ∧ w = w' := by
 go_enter Tryz.func36, Tryz.ntmps36
 go_wp2
 go_ret
 exact ⟨rfl, rfl⟩
theorem worldMade_zero (w : World) (b : Nat) (hc : BoxAt w b 78 #[.slice none 0 0, .slice none 0 0, .slice none 0 0]) :
  Calls Tryz.prog 72 #[.pointer (some ⟨b, 0, none⟩)] w fun e w' => e = .returned (.bool false) ∧ w = w' := by
 have hc0 : w.cell? ⟨b, 0, none⟩ = some (.slice none 0 0) := (hc.cell 0).trans rfl
 have hc1 : w.cell? ⟨b, 1, none⟩ = some (.slice none 0 0) := (hc.cell 1).trans rfl
 have hc2 : w.cell? ⟨b, 2, none⟩ = some (.slice none 0 0) := (hc.cell 2).trans rfl
 go_enter Tryz.func72, Tryz.ntmps72
 go_wp2
 go_ret
 exact ⟨rfl, rfl⟩
theorem worldNotes_zero (w : World) (b : Nat) (i : Int) (hc : BoxAt w b 78 #[.slice none 0 0, .slice none 0 0, .slice none 0 0]) :
  Calls Tryz.prog 32 #[.pointer (some ⟨b, 0, none⟩), .int .i64 i] w fun e w' => e = .returned (.tuple #[.slice none 0 0, .int .i64 1]) ∧ w = w' := by
 go_enter Tryz.func32, Tryz.ntmps32
 go_wp2_with (go_at_call 72; (with_reducible refine (worldMade_zero _ _ hc).mono ?_); rintro e w1 ⟨rfl, rfl⟩)
 go_ret2
 exact ⟨rfl, rfl⟩
theorem worldSettle_zero (w : World) (b : Nat) (hc : BoxAt w b 78 #[.slice none 0 0, .slice none 0 0, .slice none 0 0]) :
  Calls Tryz.prog 34 #[.pointer (some ⟨b, 0, none⟩)] w fun e w' => e = .returned (.int .i64 1) ∧ w = w' := by
 go_enter Tryz.func34, Tryz.ntmps34
 go_wp2_with (go_at_call 72; (with_reducible refine (worldMade_zero _ _ hc).mono ?_); rintro e w1 ⟨rfl, rfl⟩)
 go_ret
 exact ⟨rfl, rfl⟩
theorem worldStep_zero (w : World) (b : Nat) (cs : Array Value) (hc : BoxAt w b 78 #[.slice none 0 0, .slice none 0 0, .slice none 0 0]) :
  Calls Tryz.prog 33 #[.pointer (some ⟨b, 0, none⟩), .agg cs] w fun e w' => e = .returned (.int .i64 1) ∧ Below w.heap.size w w' := by
 go_enter Tryz.func33, Tryz.ntmps33
 go_wp2_with (go_at_call 72; (with_reducible refine (worldMade_zero _ _ (hc.alloc _)).mono ?_); rintro e w1 ⟨rfl, rfl⟩)
 go_ret
 exact ⟨rfl, (Below.refl _ _).alloc (Nat.le_refl _) _⟩
@[go_sem] theorem eqGuardS_Mail : Tryz.prog.eqGuardType Tryz.prog.depth 75 = false := by kernel_rfl
@[go_sem high] theorem eqlS_Mail (w : World) (a : Option Addr) (l c : Nat) : (binOp .eql 75 (.slice a l c) (.slice none 0 0)).run Tryz.prog w = .ok (.bool a.isNone) w := run_eql_slice_nil w _ _ a l c Tryz.underlying75
theorem mailsClone_nil (w : World)  :
  Calls Tryz.prog 83 #[.slice none 0 0] w fun e w' => e = .returned (.slice none 0 0) ∧ w = w' := by
 go_enter Tryz.func83, Tryz.ntmps83
 go_wp2
 go_ret
 exact ⟨rfl, rfl⟩
theorem worldMails_zero (w : World) (b : Nat) (hc : BoxAt w b 78 #[.slice none 0 0, .slice none 0 0, .slice none 0 0]) :
  Calls Tryz.prog 35 #[.pointer (some ⟨b, 0, none⟩)] w fun e w' => e = .returned (.slice none 0 0) ∧ w = w' := by
 have hc0 : w.cell? ⟨b, 0, none⟩ = some (.slice none 0 0) := (hc.cell 0).trans rfl
 have hc1 : w.cell? ⟨b, 1, none⟩ = some (.slice none 0 0) := (hc.cell 1).trans rfl
 have hc2 : w.cell? ⟨b, 2, none⟩ = some (.slice none 0 0) := (hc.cell 2).trans rfl
 go_enter Tryz.func35, Tryz.ntmps35
 go_wp2_with (go_at_call 83; (with_reducible refine (mailsClone_nil _).mono ?_); rintro e w1 ⟨rfl, rfl⟩)
 go_loop [14] (fun i => i = .int .i64 0) (fun _ => 0)
 case atStart => rfl
 case round =>
  obtain rfl := hrel
  go_wp2
  go_ret
  exact ⟨rfl, rfl⟩
theorem worldTrays_zero (w : World) (b : Nat) (hc : BoxAt w b 78 #[.slice none 0 0, .slice none 0 0, .slice none 0 0]) :
  Calls Tryz.prog 36 #[.pointer (some ⟨b, 0, none⟩)] w fun e w' => e = .returned (.slice none 0 0) ∧ w = w' := by
 have hc0 : w.cell? ⟨b, 0, none⟩ = some (.slice none 0 0) := (hc.cell 0).trans rfl
 have hc1 : w.cell? ⟨b, 1, none⟩ = some (.slice none 0 0) := (hc.cell 1).trans rfl
 have hc2 : w.cell? ⟨b, 2, none⟩ = some (.slice none 0 0) := (hc.cell 2).trans rfl
 go_enter Tryz.func36, Tryz.ntmps36
 go_wp2
 go_loop [3, 13] (fun v i => v = .slice none 0 0 ∧ i = .int .i64 0) (fun _ _ => 0)
 case atStart => exact ⟨rfl, rfl⟩
 case round =>
  obtain ⟨rfl, rfl⟩ := hrel
  go_wp2
  go_ret
  exact ⟨rfl, rfl⟩
end Go.Proofs.YtnmgfnpphglphaaGreat
