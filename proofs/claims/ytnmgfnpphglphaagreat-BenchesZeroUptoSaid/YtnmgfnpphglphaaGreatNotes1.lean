/-
  Small functions of package benches on notes, walked.
-/
import Derived.Test.YtnmgfnpphglphaaGreatGlass
import Derived.Test.YtnmgfnpphglphaaGreatEqual
set_option maxHeartbeats 16000000
set_option maxRecDepth 100000
set_option linter.unusedVariables false
set_option linter.unusedSimpArgs false
namespace Go.Proofs.YtnmgfnpphglphaaGreat
open Go.RowKit
def refN (n : Note) : Ref := ⟨n.bench, n.num⟩
def compareRefsI (a b : Ref) : Int := orI [cmpI a.bench b.bench, cmpI a.num b.num]
def validRefB (r : Ref) : Bool := inB r.bench 1 8 && inB r.num 1 400
def risingB (l : List Int) (most : Int) : Bool := l.all (fun n => inB n 1 most) && chainB (fun a b => decide (a < b)) l
def piecesUpB (l : List Piece) : Bool := l.all validPieceB && chainB (fun a b => decide (a.id < b.id)) l
def validPiecesB (l : List Piece) (most : Int) : Bool := piecesUpB l && inB l.length 1 most
theorem risingB_false {l : List Int} {most : Int} {k : Nat} (h : risingB (l.take k) most = false) : risingB l most = false := by
 simp only [risingB, Bool.and_eq_false_iff] at h ⊢
 rcases h with h | h
 ·refine .inl ?_
  rw [List.all_eq_false] at h ⊢
  obtain ⟨z, hz, hz2⟩ := h
  exact ⟨z, List.mem_of_mem_take hz, hz2⟩
 ·exact .inr (chainB_false _ h)
theorem within_any (n lo hi : Int) (w : World) :
  Calls Tryz.prog 39 #[.int .i64 n, .int .i64 lo, .int .i64 hi] w fun e w' => e = .returned (.bool (inB n lo hi)) ∧ w = w' := by
 go_enter Tryz.func39, Tryz.ntmps39
 go_wp2
 all_goals go_ret
 all_goals exact ⟨by simp [inB, *]; try omega, rfl⟩
theorem refOf_any (n : Note) (w : World) :
  Calls Tryz.prog 59 #[.agg (encNote n)] w fun e w' => e = .returned (.agg (encRef (refN n))) ∧ Below w.heap.size w w' := by
 go_enter Tryz.func59, Tryz.ntmps59
 go_wp2
 exact bodyPost_ret (v := .agg (encRef (refN n))) (by simp [results, Tryz.results59, go_sem, encRef, refN]) rfl ⟨rfl, by repeat (first | exact Below.refl _ _ | assumption | refine Below.drew ?_ | refine Below.alloc ?_ (by simp; try omega) _)⟩
theorem compareRefs_any (a b : Ref) (w : World) :
  Calls Tryz.prog 117 #[.agg (encRef a), .agg (encRef b)] w fun e w' =>
   e = .returned (.int .i64 (compareRefsI a b)) ∧ Below w.heap.size w w' := by
 go_enter Tryz.func117, Tryz.ntmps117
 go_wp2
 go_region_held3 (fun W => W.cell? ⟨w.heap.size, 0, none⟩ = some (vi a.bench) ∧ W.cell? ⟨w.heap.size, 1, none⟩ = some (vi a.num) ∧ W.cell? ⟨w.heap.size + 1, 0, none⟩ = some (vi b.bench) ∧ W.cell? ⟨w.heap.size + 1, 1, none⟩ = some (vi b.num)) (simp [go_sem, *, World.cell?_alloc_some])
  (first
   | (go_at_call 153; refine (cmp_any _ _ _).mono ?_; rintro e w' ⟨rfl, rfl⟩)
   | (go_at_call 152; refine (or_any (w.heap.size + 2) 0 2 2 [cmpI a.bench b.bench, cmpI a.num b.num] _ rfl (by decide) ?_).mono ?_; (rintro (_ | _ | k) x hk <;> simp at hk <;> subst hk <;> simp [go_sem]); rintro e w' ⟨rfl, rfl⟩))
 go_wp2
 go_ret
 exact ⟨by simp [compareRefsI], by repeat (first | exact Below.refl _ _ | assumption | refine Below.drew ?_ | refine Below.alloc ?_ (by simp; try omega) _)⟩
theorem validRef_any (r : Ref) (w : World) :
  Calls Tryz.prog 88 #[.agg (encRef r)] w fun e w' => e = .returned (.bool (validRefB r)) ∧ Below w.heap.size w w' := by
 go_enter Tryz.func88, Tryz.ntmps88
 go_wp2_with (go_at_call 39; refine (within_any _ _ _ _).mono ?_; rintro e w1 ⟨rfl, rfl⟩)
 all_goals go_ret
 all_goals exact ⟨by simp [validRefB, *], by repeat (first | exact Below.refl _ _ | assumption | refine Below.drew ?_ | refine Below.alloc ?_ (by simp; try omega) _)⟩
theorem rising_any (D : Nat → Prop) (s : Sl Int) (most : Int) (w : World) (hs : s.OK 1 encInt okInt D w) :
  Calls Tryz.prog 180 #[.slice s.a s.val.length s.cap, .int .i64 most] w fun e w' => e = .returned (.bool (risingB s.val most)) ∧ Below w.heap.size w w' := by
 have hroom := hs.room
 have HS := Lib.hid hs
 clear hs
 obtain ⟨a, cap, val⟩ := s
 simp only at hroom
 go_enter Tryz.func180, Tryz.ntmps180
 go_wp2
 go_loopw [5, 6, 9] (fun _ _ i wr => ∃ k : Nat, k ≤ val.length ∧ i = .int .i64 k ∧ Hid (risingB (val.take k) most = true) ∧ Below w.heap.size w wr) (fun _ _ i _ => val.length - (intOf i).toNat)
 case atStart => exact ⟨0, Nat.zero_le _, rfl, Lib.hid (by simp [risingB, chainB]), Below.refl _ _⟩
 case round =>
  obtain ⟨k, hk, rfl, hn, hB⟩ := hrel
  by_cases hlt : k < val.length
  ·obtain ⟨y, hy⟩ : ∃ y, val[k]? = some y := ⟨_, List.getElem?_eq_getElem hlt⟩
   obtain ⟨b, o, rfl, hb, _, _, hcell⟩ := HS.out.at hy
   have hBB := Ext.of_below (D := fun _ => False) hB
   have hc0 : wr.cell? ⟨b, o + k, none⟩ = some (vi y) := by
    rw [hBB.cell hb id]; exact (by simpa [go_sem] using hcell 0 (by decide))
   have hi1 : (k : Int) < (val.length : Int) := by omega
   have HY := Lib.hid hy
   have hnotin : Hid (inB y 1 most = false → risingB val most = false) := Lib.hid fun h => by
    have : val.all (fun n => inB n 1 most) = false := by
     rw [List.all_eq_false]; exact ⟨y, List.mem_of_getElem? hy, by simp [h]⟩
    simp [risingB, this]
   have hstep : Hid (∀ m, k = m + 1 → ∀ x, val[m]? = some x → risingB (val.take (k + 1)) most = (inB y 1 most && decide (x < y))) := Lib.hid fun m hm x hx => by
    subst hm
    have h1 := hn.out
    simp only [risingB, Bool.and_eq_true] at h1 ⊢
    rw [chainB_take _ hx hy, h1.2, List.take_add_one, hy]
    simp only [Option.toList, List.all_append, h1.1, List.all_cons, List.all_nil, Bool.true_and, Bool.and_true]
   clear hy hcell
   by_cases hin : inB y 1 most = true
   ·cases k with
    | zero =>
     have hd : decide ((0 : Int) < 0) = false := by simp
     simp only [Nat.add_zero] at hc0
     go_wp2_with (go_at_call 39; refine (within_any _ _ _ _).mono ?_; rintro e w1 ⟨rfl, rfl⟩)
     go_roundw
     case rel =>
      refine ⟨1, by omega, by go_num, Lib.hid ?_, hB⟩
      have h1 := HY.out
      rw [List.take_add_one, h1]; simp [risingB, chainB, hin]
     case measure => simp [intOf]; omega
    | succ m =>
     obtain ⟨x, hx⟩ : ∃ x, val[m]? = some x := ⟨_, List.getElem?_eq_getElem (by omega)⟩
     have hcell2 := HS.out.cell b o rfl _ _ hx
     have hc1 : wr.cell? ⟨b, o + m, none⟩ = some (vi x) := by
      rw [hBB.cell hb id]; exact (by simpa [go_sem] using hcell2 0 (by decide))
     have HST := Lib.hid (hstep.out m rfl x hx)
     clear hx hcell2 hBB
     have h1 : IntKind.i64.wrap (m : Int) = m := IntWalk.i64_in _ (by omega)
     have h2 : (m : Int) < (val.length : Int) := by omega
     have h6 : (0 : Int) < (m : Int) + 1 := by omega
     have h3 : (m : Int) + 1 < (val.length : Int) := by omega
     have h4 : (0 : Int) ≤ (m : Int) + 1 := by omega
     have h5 : ((m : Int) + 1).toNat = m + 1 := by omega
     by_cases hxy : x < y
     ·have hd : decide (y ≤ x) = false := by simp; omega
      go_wp2_with (go_at_call 39; refine (within_any _ _ _ _).mono ?_; rintro e w1 ⟨rfl, rfl⟩)
      all_goals try (exfalso; omega)
      go_roundw
      case rel => exact ⟨m + 2, by omega, by go_num, Lib.hid (by rw [HST.out]; simp [hin, hxy]), hB⟩
      case measure => simp [intOf]; omega
     ·have hd : decide (y ≤ x) = true := by simp; omega
      have HF : Hid (risingB val most = false) := Lib.hid (risingB_false (k := m + 1 + 1) (by rw [HST.out, decide_eq_false hxy, Bool.and_false]))
      go_wp2_with (go_at_call 39; refine (within_any _ _ _ _).mono ?_; rintro e w1 ⟨rfl, rfl⟩)
      all_goals try (exfalso; omega)
      go_ret
      exact ⟨by simp [HF.out], hB⟩
   ·have hin' : inB y 1 most = false := by simpa using hin
    clear hin hBB
    go_wp2_with (go_at_call 39; refine (within_any _ _ _ _).mono ?_; rintro e w1 ⟨rfl, rfl⟩)
    go_ret
    exact ⟨by simp [hnotin.out hin'], hB⟩
  ·go_wp2
   go_ret
   refine ⟨?_, hB⟩
   have : k = val.length := by omega
   have hh := hn.out
   rw [this, List.take_length] at hh
   simp [hh]
end Go.Proofs.YtnmgfnpphglphaaGreat
