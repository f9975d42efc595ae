/-
  The order of names and of notes, walked: what the calls lay is known to the block.
-/
import Derived.Test.YtnmgfnpphglphaaGreatNotes1
import Derived.Test.YtnmgfnpphglphaaGreatOrd
import Derived.Test.YtnmgfnpphglphaaGreatBox
import Derived.Test.YtnmgfnpphglphaaGreatSpec
import Derived.Sort.Grow
set_option maxHeartbeats 16000000
set_option maxRecDepth 100000
set_option linter.unusedVariables false
set_option linter.unusedSimpArgs false
namespace Go.Proofs.YtnmgfnpphglphaaGreat
open Go.RowKit
open Go.Sort (grow alloc_eq_grow)
def Lays (w w' : World) : Prop := ∃ q os, w' = grow (w.drewN q) os
theorem Lays.refl (w : World) : Lays w w := ⟨0, #[], by simp [grow, World.drewN]⟩
theorem Lays.trans {a b c : World} (h : Lays a b) (k : Lays b c) : Lays a c := by
 obtain ⟨q, os, rfl⟩ := h
 obtain ⟨q', os', rfl⟩ := k
 exact ⟨q + q', os ++ os', by simp [grow, World.drewN, Array.append_assoc, Nat.add_assoc]⟩
theorem Lays.alloc {w w' : World} (h : Lays w w') (o : Obj) : Lays w (w'.alloc o) := h.trans ⟨0, #[o], by rw [alloc_eq_grow]; simp [World.drewN]⟩
theorem Lays.drew {w w' : World} (h : Lays w w') : Lays w w'.drew := h.trans ⟨1, #[], by rw [Go.Sort.grow_empty]; rfl⟩
theorem Lays.below {w w' : World} {n : Nat} (h : Lays w w') (hn : n ≤ w.heap.size) : Below n w w' := by
 obtain ⟨q, os, rfl⟩ := h
 refine ⟨rfl, rfl, rfl, by simp [grow, World.drewN], fun k hk => ?_⟩
 simp only [grow, World.drewN]
 rw [Array.getElem?_append_left (by omega)]
theorem refOf_lays (n : Note) (w : World) :
  Calls Tryz.prog 59 #[.agg (encNote n)] w fun e w' => e = .returned (.agg (encRef (refN n))) ∧ Lays w w' := by
 go_enter Tryz.func59, Tryz.ntmps59
 go_wp2
 exact bodyPost_ret (v := .agg (encRef (refN n))) (by simp [results, Tryz.results59, go_sem, encRef, refN]) rfl ⟨rfl, ((Lays.refl _).alloc _).alloc _⟩
theorem compareRefs_lays (a b : Ref) (w : World) :
  Calls Tryz.prog 117 #[.agg (encRef a), .agg (encRef b)] w fun e w' => e = .returned (.int .i64 (compareRefsI a b)) ∧ Lays w w' := by
 go_enter Tryz.func117, Tryz.ntmps117
 go_wp2
 refine wp_region_ord [(0, true), (1, true), (2, true), (3, true), (5, true), (6, true), (7, true), (8, true), (4, false), (9, false), (10, false), (11, false), (12, true)] rfl (by kernel_rfl) (by kernel_rfl) (fun d _ _ _ _ h => by cases d <;> exact h) ?_
 refine wpB_fix rfl rfl (fun W hW => by go_simp; with_reducible rfl) ?_; simp only [pTs, pTn, pTz, pTc]
 refine wpB_fix (v := ?_) rfl rfl ?_ ?_; rotate_left; (focus (intro W hW; have hWc := fun b o => hW.cell (p := ⟨b, o, none⟩); go_simp; try with_reducible rfl)); simp only [pTs, pTn, pTz, pTc]
 refine wpB_fix rfl rfl (fun W hW => by go_simp; with_reducible rfl) ?_; simp only [pTs, pTn, pTz, pTc]
 refine wpB_fix (v := ?_) rfl rfl ?_ ?_; rotate_left; (focus (intro W hW; have hWc := fun b o => hW.cell (p := ⟨b, o, none⟩); go_simp; try with_reducible rfl)); simp only [pTs, pTn, pTz, pTc]
 refine wpB_fix rfl rfl (fun W hW => by go_simp; with_reducible rfl) ?_; simp only [pTs, pTn, pTz, pTc]
 refine wpB_fix (v := ?_) rfl rfl ?_ ?_; rotate_left; (focus (intro W hW; have hWc := fun b o => hW.cell (p := ⟨b, o, none⟩); go_simp; try with_reducible rfl)); simp only [pTs, pTn, pTz, pTc]
 refine wpB_fix rfl rfl (fun W hW => by go_simp; with_reducible rfl) ?_; simp only [pTs, pTn, pTz, pTc]
 refine wpB_fix (v := ?_) rfl rfl ?_ ?_; rotate_left; (focus (intro W hW; have hWc := fun b o => hW.cell (p := ⟨b, o, none⟩); go_simp; try with_reducible rfl)); simp only [pTs, pTn, pTz, pTc]
 refine wpB_act rfl rfl (fun K hK => ?_)
 go_simp
 refine (cmp_any _ _ _).mono ?_
 rintro e w1 ⟨rfl, rfl⟩
 refine hK _ _ (Below.refl _ _) ?_
 clear hK K
 try simp only [pTs, pTn, pTz, pTc]
 refine wpB_act rfl rfl (fun K hK => ?_)
 go_simp
 refine (cmp_any _ _ _).mono ?_
 rintro e w1 ⟨rfl, rfl⟩
 refine hK _ _ (Below.refl _ _) ?_
 clear hK K
 try simp only [pTs, pTn, pTz, pTc]
 refine wpB_act rfl rfl (fun K hK => ?_)
 go_simp
 refine hK _ _ ((Below.refl _ _).alloc (Nat.le_refl _) _) ?_
 clear hK K
 try simp only [pTs, pTn, pTz, pTc]
 refine wpB_act rfl rfl (fun K hK => ?_)
 go_simp
 refine (or_any (w.heap.size + 2) 0 2 2 [cmpI a.bench b.bench, cmpI a.num b.num] _ rfl (by decide) ?_).mono ?_
 ·rintro (_ | _ | k) x hk <;> simp at hk <;> subst hk <;> simp [go_sem]
 rintro e w1 ⟨rfl, rfl⟩
 refine hK _ _ (Below.refl _ _) ?_
 clear hK K
 try simp only [pTs, pTn, pTz, pTc]
 refine wpB_fix rfl rfl (fun W hW => by go_simp; with_reducible rfl) ?_; simp only [pTs, pTn, pTz, pTc]
 simp only [wpB]
 go_wp2
 go_ret
 exact ⟨by simp [compareRefsI], ((((Lays.refl _).alloc _).alloc _).drew).alloc _⟩
theorem when_lays (a b : Note) (w : World) :
  Calls Tryz.prog 155 #[.agg (encNote a), .agg (encNote b)] w fun e w' => e = .returned (.int .i64 (whenI a.abs b.abs)) ∧ Lays w w' := by
 have hA0 : BoxAt ((w.alloc (.cells (encNote a) 43)).alloc (.cells (encNote b) 43)).drew w.heap.size 43 (encNote a) := ((BoxAt.new _ _ _).alloc _).drew
 have hA1 : BoxAt ((w.alloc (.cells (encNote a) 43)).alloc (.cells (encNote b) 43)).drew (w.heap.size + 1) 43 (encNote b) := by have := BoxAt.new (w.alloc (.cells (encNote a) 43)) 43 (encNote b); rw [World.size_alloc] at this; exact this.drew
 go_enter Tryz.func155, Tryz.ntmps155
 go_wp2
 refine wp_region_ord [(0, true), (1, true), (2, true), (3, true), (5, true), (6, true), (7, true), (8, true), (10, true), (12, true), (4, false), (9, false), (11, false), (13, false), (14, false), (15, false), (16, false), (17, true)] rfl (by kernel_rfl) (by kernel_rfl) (fun d _ _ _ _ h => by cases d <;> exact h) ?_
 refine wpB_fix rfl rfl (fun W hW => by go_simp; with_reducible rfl) ?_; simp only [pTs, pTn, pTz, pTc]
 refine wpB_fix (v := ?_) rfl rfl ?_ ?_; rotate_left; (focus (intro W hW; have hWc := fun b o => hW.cell (p := ⟨b, o, none⟩); go_simp; try with_reducible rfl)); simp only [pTs, pTn, pTz, pTc]
 refine wpB_fix rfl rfl (fun W hW => by go_simp; with_reducible rfl) ?_; simp only [pTs, pTn, pTz, pTc]
 refine wpB_fix (v := ?_) rfl rfl ?_ ?_; rotate_left; (focus (intro W hW; have hWc := fun b o => hW.cell (p := ⟨b, o, none⟩); go_simp; try with_reducible rfl)); simp only [pTs, pTn, pTz, pTc]
 refine wpB_fix rfl rfl (fun W hW => by go_simp; with_reducible rfl) ?_; simp only [pTs, pTn, pTz, pTc]
 refine wpB_fix (v := ?_) rfl rfl ?_ ?_; rotate_left; (focus (intro W hW; have hWc := fun b o => hW.cell (p := ⟨b, o, none⟩); go_simp; try with_reducible rfl)); simp only [pTs, pTn, pTz, pTc]
 refine wpB_fix rfl rfl (fun W hW => by go_simp; with_reducible rfl) ?_; simp only [pTs, pTn, pTz, pTc]
 refine wpB_fix (v := ?_) rfl rfl ?_ ?_; rotate_left; (focus (intro W hW; have hWc := fun b o => hW.cell (p := ⟨b, o, none⟩); go_simp; try with_reducible rfl)); simp only [pTs, pTn, pTz, pTc]
 refine wpB_fix (v := .agg (encNote a)) rfl rfl (fun W hW => run_load_box (encNote a) (hA0.belowAll hW) rfl (whole_cells _) Tryz.underlying43 rfl (by kernel_rfl)) ?_; simp only [pTs, pTn, pTz, pTc]
 refine wpB_fix (v := .agg (encNote b)) rfl rfl (fun W hW => run_load_box (encNote b) (hA1.belowAll hW) rfl (whole_cells _) Tryz.underlying43 rfl (by kernel_rfl)) ?_; simp only [pTs, pTn, pTz, pTc]
 refine wpB_act rfl rfl (fun K hK => ?_)
 go_simp
 refine (cmp_any _ _ _).mono ?_
 rintro e w1 ⟨rfl, rfl⟩
 refine hK _ _ (Below.refl _ _) ?_
 clear hK K
 try simp only [pTs, pTn, pTz, pTc]
 refine wpB_act rfl rfl (fun K hK => ?_)
 go_simp
 refine (cmp_any _ _ _).mono ?_
 rintro e w1 ⟨rfl, rfl⟩
 refine hK _ _ (Below.refl _ _) ?_
 clear hK K
 try simp only [pTs, pTn, pTz, pTc]
 refine wpB_act rfl rfl (fun K hK => ?_)
 go_simp
 refine (refOf_lays a _).mono ?_
 rintro e w1 ⟨rfl, hl1⟩
 have hL1 := (((Lays.refl _).alloc _).alloc _).drew.trans hl1
 refine hK _ _ (hl1.below (Nat.le_refl _)) ?_
 clear hK K
 try simp only [pTs, pTn, pTz, pTc]
 refine wpB_act rfl rfl (fun K hK => ?_)
 go_simp
 refine (refOf_lays b _).mono ?_
 rintro e w2 ⟨rfl, hl2⟩
 have hL2 := hL1.trans hl2
 refine hK _ _ (hl2.below (Nat.le_refl _)) ?_
 clear hK K
 try simp only [pTs, pTn, pTz, pTc]
 refine wpB_act rfl rfl (fun K hK => ?_)
 go_simp
 refine (compareRefs_lays (refN a) (refN b) _).mono ?_
 rintro e w3 ⟨rfl, hl3⟩
 have hL3 := hL2.trans hl3
 refine hK _ _ (hl3.below (Nat.le_refl _)) ?_
 clear hK K
 try simp only [pTs, pTn, pTz, pTc]
 refine wpB_act rfl rfl (fun K hK => ?_)
 go_simp
 refine hK _ _ ((Below.refl _ _).alloc (Nat.le_refl _) _) ?_
 clear hK K
 try simp only [pTs, pTn, pTz, pTc]
 refine wpB_act rfl rfl (fun K hK => ?_)
 go_simp
 refine (or_any w3.heap.size 0 3 3 [cmpI a.year b.year, cmpI a.clock b.clock, compareRefsI (refN a) (refN b)] _ rfl (by decide) ?_).mono ?_
 ·rintro (_ | _ | _ | k) x hk <;> simp at hk <;> subst hk <;> simp [go_sem]
 rintro e w4 ⟨rfl, rfl⟩
 refine hK _ _ (Below.refl _ _) ?_
 clear hK K
 try simp only [pTs, pTn, pTz, pTc]
 refine wpB_fix rfl rfl (fun W hW => by go_simp; with_reducible rfl) ?_; simp only [pTs, pTn, pTz, pTc]
 simp only [wpB]
 go_wp2
 go_ret
 exact ⟨by simp [whenI, Note.abs, NoteA.name, refN], hL3.alloc _⟩
end Go.Proofs.YtnmgfnpphglphaaGreat
