/-
  holding, and Found, of the reference.
-/
import Derived.Test.YtendmmhfjhgdaaaGreatReads
set_option linter.unusedVariables false
set_option linter.unusedSimpArgs false
namespace Go.Proofs.YtendmmhfjhgdaaaGreat
open Go.RowKit

theorem holdingR_skip (h : Held) : ∀ (p q : List Held), (∀ y ∈ p, y.pane < h.pane) → holdingR (p ++ q) h = p ++ holdingR q h
  | [], _, _ => rfl
  | y :: p, q, hp => by
    simp only [List.cons_append]
    rw [holdingR, if_pos (hp y (by simp)), holdingR_skip h p q (fun z hz => hp z (List.mem_cons_of_mem _ hz))]
theorem lit_own {W : World} {base : Nat} (hb : base ≤ W.heap.size) : OwnL encHeld 5 (W.alloc (.cells #[] 114)) base 114 (.slice (some ⟨W.heap.size, 0, none⟩) 0 0) [] :=
  ⟨rfl, .inr ⟨W.heap.size, 0, #[], rfl, hb, heap_alloc_new W _, Nat.le_refl _, Nat.zero_le _, rfl, rfl⟩⟩
theorem Sl.OK.part {D : Nat → Prop} {w : World} {b o c : Nat} {t1 t2 : List Held} {ok : (Nat → Prop) → World → Held → Prop} (h : Sl.OK 5 encHeld ok D w ⟨some ⟨b, o, none⟩, c, t1 ++ t2⟩) :
    Sl.OK 5 encHeld ok D w ⟨some ⟨b, o, none⟩, c, t1⟩ ∧ Sl.OK 5 encHeld ok D w ⟨some ⟨b, o + t1.length * 5, none⟩, c - t1.length, t2⟩ := by
  have hle := h.le
  have hr := h.room
  simp only [List.length_append] at hle hr
  have hpl := h.place _ rfl
  refine ⟨⟨by simp only; omega, by simp only; omega, by simp, fun p hp h0 => by simp at hp; subst hp; have hq := hpl (by simp only [List.length_append] at h0 ⊢; omega); exact ⟨rfl, hq.2.1, hq.2.2⟩, fun x hx => h.elem x (List.mem_append_left _ hx), fun b' o' ha i x hi j hj => ?_⟩,
    ⟨by simp only; omega, by simp only; omega, by simp, fun p hp h0 => by simp at hp; subst hp; have hq := hpl (by simp only [List.length_append] at h0 ⊢; omega); exact ⟨rfl, hq.2.1, hq.2.2⟩, fun x hx => h.elem x (List.mem_append_right _ hx), fun b' o' ha i x hi j hj => ?_⟩⟩
  · simp at ha; obtain ⟨rfl, rfl⟩ := ha
    exact h.cell _ _ rfl i x (by rw [List.getElem?_append_left (List.getElem?_eq_some_iff.1 hi).1]; exact hi) j hj
  · simp at ha; obtain ⟨rfl, rfl⟩ := ha
    have := h.cell _ _ rfl (t1.length + i) x (by rw [List.getElem?_append_right (by omega)]; simpa using hi) j hj
    rw [Nat.add_mul] at this
    rw [← this]; congr 2; omega

theorem Sl.OK.none_of {D : Nat → Prop} {w : World} {b o c : Nat} {l : List Held} {ok : (Nat → Prop) → World → Held → Prop} (h : Sl.OK 5 encHeld ok D w ⟨some ⟨b, o, none⟩, c, l⟩) :
    Sl.OK 5 encHeld ok D w ⟨some ⟨b, o, none⟩, 0, []⟩ := by
  exact ⟨Nat.zero_le _, by simp, by simp, fun p hp h0 => by simp at h0, fun x hx => (by simp at hx), fun b' o' ha i x hi j hj => (by simp at hi)⟩

set_option maxRecDepth 20000 in
set_option maxHeartbeats 2000000 in
theorem holding_any (base b o c : Nat) (l : List Held) (h : Held) (w : World) (hown : OwnL encHeld 5 w base 114 (.slice (some ⟨b, o, none⟩) l.length c) l) (hbase : base ≤ w.heap.size) (hlen : l.length ≤ 2000) :
    Calls Tryz.prog 72 #[.slice (some ⟨b, o, none⟩) l.length c, .agg (encHeld h)] w fun e w' => ∃ v, e = .returned v ∧ OwnL encHeld 5 w' base 114 v (holdingR l h) ∧ Below w.heap.size w w' := by
  have hB1 : Below w.heap.size w (w.alloc (.cells (encHeld h) 114)) := (Below.refl _ _).alloc (Nat.le_refl _) _
  have hbh : BoxAt (w.alloc (.cells (encHeld h) 114)) w.heap.size 114 (encHeld h) := BoxAt.new _ _ _
  have HO := Lib.hid hown
  have HS : Hid (Sl.OK 5 encHeld (fun _ _ _ => True) (fun _ => False) w ⟨some ⟨b, o, none⟩, c, l⟩) := Lib.hid (by
    obtain ⟨s, e1, e2, e3, _⟩ := hown.sl (fun _ => rfl) (fun _ _ _ => True) (fun _ => False) (fun _ _ => trivial) (fun _ _ h => h) (by omega)
    obtain ⟨sa, sc, sv⟩ := s
    simp only [Sl.v, Value.slice.injEq] at e1 e2
    obtain ⟨h1, _, h3⟩ := e1
    subst h1 h3 e2; exact e3)
  clear hown
  go_enter Tryz.func72, Tryz.ntmps72
  go_wp2
  go_loopw [5] (fun i wr => ∃ k : Nat, k ≤ l.length ∧ i = .int .i64 k ∧ Hid (∀ j y, j < k → l[j]? = some y → y.pane < h.pane) ∧ BoxAt wr w.heap.size 114 (encHeld h) ∧ Below w.heap.size w wr) (fun i _ => l.length - (Go.RowKit.intOf i).toNat)
  case atStart => exact ⟨0, Nat.zero_le _, rfl, Lib.hid (by omega), hbh, hB1⟩
  case round =>
    obtain ⟨k, hk, rfl, hn, hbx, hB⟩ := hrel
    have hbd := hbx.drew
    by_cases hlt : k < l.length
    · obtain ⟨x, hx⟩ : ∃ x, l[k]? = some x := ⟨_, List.getElem?_eq_getElem hlt⟩
      obtain ⟨bb, oo, ha, hb, _, _, hcell⟩ := HS.out.at hx
      simp only [Option.some.injEq, Addr.mk.injEq, and_true] at ha
      obtain ⟨rfl, rfl⟩ := ha
      have hcx : wr.cell? ⟨b, o + k * 5, none⟩ = some (vi x.pane) := (hB.cell (p := ⟨b, o + k * 5, none⟩) hb).trans (hcell 0 (by decide))
      have hbl : b < wr.heap.size := Nat.lt_of_lt_of_le hb hB.size
      have hi1 : (k : Int) < (l.length : Int) := by omega
      have HX := Lib.hid hx
      clear hx hcell hb
      by_cases hp : x.pane < h.pane
      · go_wp2
        refine wp_region_ord [(0, true), (1, true), (2, true), (3, true), (4, true), (5, true), (6, true), (7, true), (8, true), (9, true), (10, true), (11, true), (12, true), (13, true)] rfl (by kernel_rfl) (by kernel_rfl) (fun d _ _ _ _ h => by cases d <;> exact h) ?_
        refine wpB_fix (v := ?_) rfl rfl ?_ ?_; rotate_left; focus (intro W hW; go_simp; with_reducible rfl)
        simp only [Act.put, List.setIfInBounds_toArray, List.set_cons_zero, List.set_cons_succ]
        refine wpB_fix (v := ?_) rfl rfl ?_ ?_; rotate_left; focus (intro W hW; go_simp; with_reducible rfl)
        simp only [Act.put, List.setIfInBounds_toArray, List.set_cons_zero, List.set_cons_succ]
        refine wpB_fix (v := ?_) rfl rfl ?_ ?_; rotate_left; focus (intro W hW; go_simp; with_reducible rfl)
        simp only [Act.put, List.setIfInBounds_toArray, List.set_cons_zero, List.set_cons_succ]
        refine wpB_fix (v := ?_) rfl rfl ?_ ?_; rotate_left; focus (intro W hW; go_simp; with_reducible rfl)
        simp only [Act.put, List.setIfInBounds_toArray, List.set_cons_zero, List.set_cons_succ]
        refine wpB_fix (v := ?_) rfl rfl ?_ ?_; rotate_left; focus (intro W hW; go_simp; with_reducible rfl)
        simp only [Act.put, List.setIfInBounds_toArray, List.set_cons_zero, List.set_cons_succ]
        refine wpB_fix (v := ?_) rfl rfl ?_ ?_; rotate_left; focus (intro W hW; go_simp; with_reducible rfl)
        simp only [Act.put, List.setIfInBounds_toArray, List.set_cons_zero, List.set_cons_succ]
        refine wpB_fix (v := ?_) rfl rfl ?_ ?_; rotate_left; focus (intro W hW; go_simp; with_reducible rfl)
        simp only [Act.put, List.setIfInBounds_toArray, List.set_cons_zero, List.set_cons_succ]
        refine wpB_fix (v := ?_) rfl rfl ?_ ?_; rotate_left; focus (intro W hW; go_simp; with_reducible rfl)
        simp only [Act.put, List.setIfInBounds_toArray, List.set_cons_zero, List.set_cons_succ]
        refine wpB_fix (v := ?_) rfl rfl ?_ ?_; rotate_left; focus (intro W hW; go_simp; with_reducible rfl)
        simp only [Act.put, List.setIfInBounds_toArray, List.set_cons_zero, List.set_cons_succ]
        refine wpB_fix (v := vi x.pane) rfl rfl (fun W hW => by have e : W.cell? ⟨b, o + k * 5, none⟩ = some (vi x.pane) := (hW.cell (p := ⟨b, o + k * 5, none⟩) hbl).trans hcx; go_simp) ?_
        simp only [Act.put, List.setIfInBounds_toArray, List.set_cons_zero, List.set_cons_succ]
        refine wpB_fix (v := ?_) rfl rfl ?_ ?_; rotate_left; focus (intro W hW; go_simp; with_reducible rfl)
        simp only [Act.put, List.setIfInBounds_toArray, List.set_cons_zero, List.set_cons_succ]
        refine wpB_fix (v := vi h.pane) rfl rfl (fun W hW => by have e : W.cell? ⟨w.heap.size, 0, none⟩ = some (vi h.pane) := ((hbd.belowAll hW).cell 0).trans rfl; go_simp) ?_
        simp only [Act.put, List.setIfInBounds_toArray, List.set_cons_zero, List.set_cons_succ]
        refine wpB_fix (v := ?_) rfl rfl ?_ ?_; rotate_left; focus (intro W hW; go_simp; with_reducible rfl)
        simp only [Act.put, List.setIfInBounds_toArray, List.set_cons_zero, List.set_cons_succ]
        refine wpB_fix (v := ?_) rfl rfl ?_ ?_; rotate_left; focus (intro W hW; go_simp; with_reducible rfl)
        simp only [Act.put, List.setIfInBounds_toArray, List.set_cons_zero, List.set_cons_succ]
        simp only [wpB]
        go_wp2
        go_roundw
        case rel =>
          refine ⟨k + 1, by omega, by go_num, Lib.hid fun j y hj hy => ?_, hbd, hB.drew⟩
          rcases Nat.lt_succ_iff_lt_or_eq.1 hj with h' | rfl
          · exact hn.out j y h' hy
          · rw [HX.out] at hy; cases hy; exact hp
        case measure => simp [Go.RowKit.intOf]; omega
      · go_wp2
        refine wp_region_ord [(0, true), (1, true), (2, true), (3, true), (4, true), (5, true), (6, true), (7, true), (8, true), (9, true), (10, true), (11, true), (12, true), (13, true)] rfl (by kernel_rfl) (by kernel_rfl) (fun d _ _ _ _ h => by cases d <;> exact h) ?_
        refine wpB_fix (v := ?_) rfl rfl ?_ ?_; rotate_left; focus (intro W hW; go_simp; with_reducible rfl)
        simp only [Act.put, List.setIfInBounds_toArray, List.set_cons_zero, List.set_cons_succ]
        refine wpB_fix (v := ?_) rfl rfl ?_ ?_; rotate_left; focus (intro W hW; go_simp; with_reducible rfl)
        simp only [Act.put, List.setIfInBounds_toArray, List.set_cons_zero, List.set_cons_succ]
        refine wpB_fix (v := ?_) rfl rfl ?_ ?_; rotate_left; focus (intro W hW; go_simp; with_reducible rfl)
        simp only [Act.put, List.setIfInBounds_toArray, List.set_cons_zero, List.set_cons_succ]
        refine wpB_fix (v := ?_) rfl rfl ?_ ?_; rotate_left; focus (intro W hW; go_simp; with_reducible rfl)
        simp only [Act.put, List.setIfInBounds_toArray, List.set_cons_zero, List.set_cons_succ]
        refine wpB_fix (v := ?_) rfl rfl ?_ ?_; rotate_left; focus (intro W hW; go_simp; with_reducible rfl)
        simp only [Act.put, List.setIfInBounds_toArray, List.set_cons_zero, List.set_cons_succ]
        refine wpB_fix (v := ?_) rfl rfl ?_ ?_; rotate_left; focus (intro W hW; go_simp; with_reducible rfl)
        simp only [Act.put, List.setIfInBounds_toArray, List.set_cons_zero, List.set_cons_succ]
        refine wpB_fix (v := ?_) rfl rfl ?_ ?_; rotate_left; focus (intro W hW; go_simp; with_reducible rfl)
        simp only [Act.put, List.setIfInBounds_toArray, List.set_cons_zero, List.set_cons_succ]
        refine wpB_fix (v := ?_) rfl rfl ?_ ?_; rotate_left; focus (intro W hW; go_simp; with_reducible rfl)
        simp only [Act.put, List.setIfInBounds_toArray, List.set_cons_zero, List.set_cons_succ]
        refine wpB_fix (v := ?_) rfl rfl ?_ ?_; rotate_left; focus (intro W hW; go_simp; with_reducible rfl)
        simp only [Act.put, List.setIfInBounds_toArray, List.set_cons_zero, List.set_cons_succ]
        refine wpB_fix (v := vi x.pane) rfl rfl (fun W hW => by have e : W.cell? ⟨b, o + k * 5, none⟩ = some (vi x.pane) := (hW.cell (p := ⟨b, o + k * 5, none⟩) hbl).trans hcx; go_simp) ?_
        simp only [Act.put, List.setIfInBounds_toArray, List.set_cons_zero, List.set_cons_succ]
        refine wpB_fix (v := ?_) rfl rfl ?_ ?_; rotate_left; focus (intro W hW; go_simp; with_reducible rfl)
        simp only [Act.put, List.setIfInBounds_toArray, List.set_cons_zero, List.set_cons_succ]
        refine wpB_fix (v := vi h.pane) rfl rfl (fun W hW => by have e : W.cell? ⟨w.heap.size, 0, none⟩ = some (vi h.pane) := ((hbd.belowAll hW).cell 0).trans rfl; go_simp) ?_
        simp only [Act.put, List.setIfInBounds_toArray, List.set_cons_zero, List.set_cons_succ]
        refine wpB_fix (v := ?_) rfl rfl ?_ ?_; rotate_left; focus (intro W hW; go_simp; with_reducible rfl)
        simp only [Act.put, List.setIfInBounds_toArray, List.set_cons_zero, List.set_cons_succ]
        refine wpB_fix (v := ?_) rfl rfl ?_ ?_; rotate_left; focus (intro W hW; go_simp; with_reducible rfl)
        simp only [Act.put, List.setIfInBounds_toArray, List.set_cons_zero, List.set_cons_succ]
        simp only [wpB]
        have hbdd := hbd.drew
        have hBdd := hB.drew.drew
        have hszd : w.heap.size ≤ wr.drew.drew.heap.size := hBdd.size
        obtain ⟨t1, t2, hl, hk1⟩ : ∃ t1 t2, l = t1 ++ t2 ∧ k = t1.length := ⟨l.take k, l.drop k, (List.take_append_drop k l).symm, by simp; omega⟩
        have hpre : ∀ y ∈ t1, y.pane < h.pane := fun y hy => by
          obtain ⟨j, hj, rfl⟩ := List.getElem_of_mem hy
          exact hn.out j t1[j] (by omega) (by rw [hl, List.getElem?_append_left hj]; exact List.getElem?_eq_getElem hj)
        obtain ⟨t3, rfl⟩ : ∃ t3, t2 = x :: t3 := by
          have hx2 := HX.out
          rw [hl, hk1, List.getElem?_append_right (Nat.le_refl _), Nat.sub_self] at hx2
          cases t2 with
          | nil => simp at hx2
          | cons y t3 => simp at hx2; subst hx2; exact ⟨t3, rfl⟩
        have HPRE := Lib.hid hpre
        have HL := Lib.hid hl
        have HK1 := Lib.hid hk1.symm
        have HLEN : Hid (l.length = k + (t3.length + 1)) := Lib.hid (by rw [hl, hk1]; simp)
        clear hpre hn hl hk1
        by_cases hq : x.pane = h.pane
        · go_wp2
          refine wp_region_ord [(0, true), (1, true), (2, true), (3, true), (4, true), (5, true), (6, true), (7, true), (8, true), (9, true), (10, true), (11, true), (12, true), (13, true)] rfl (by kernel_rfl) (by kernel_rfl) (fun d _ _ _ _ h => by cases d <;> exact h) ?_
          refine wpB_fix (v := ?_) rfl rfl ?_ ?_; rotate_left; focus (intro W hW; go_simp; with_reducible rfl)
          simp only [Act.put, List.setIfInBounds_toArray, List.set_cons_zero, List.set_cons_succ]
          refine wpB_fix (v := ?_) rfl rfl ?_ ?_; rotate_left; focus (intro W hW; go_simp; with_reducible rfl)
          simp only [Act.put, List.setIfInBounds_toArray, List.set_cons_zero, List.set_cons_succ]
          refine wpB_fix (v := ?_) rfl rfl ?_ ?_; rotate_left; focus (intro W hW; go_simp; with_reducible rfl)
          simp only [Act.put, List.setIfInBounds_toArray, List.set_cons_zero, List.set_cons_succ]
          refine wpB_fix (v := ?_) rfl rfl ?_ ?_; rotate_left; focus (intro W hW; go_simp; with_reducible rfl)
          simp only [Act.put, List.setIfInBounds_toArray, List.set_cons_zero, List.set_cons_succ]
          refine wpB_fix (v := ?_) rfl rfl ?_ ?_; rotate_left; focus (intro W hW; go_simp; with_reducible rfl)
          simp only [Act.put, List.setIfInBounds_toArray, List.set_cons_zero, List.set_cons_succ]
          refine wpB_fix (v := ?_) rfl rfl ?_ ?_; rotate_left; focus (intro W hW; go_simp; with_reducible rfl)
          simp only [Act.put, List.setIfInBounds_toArray, List.set_cons_zero, List.set_cons_succ]
          refine wpB_fix (v := ?_) rfl rfl ?_ ?_; rotate_left; focus (intro W hW; go_simp; with_reducible rfl)
          simp only [Act.put, List.setIfInBounds_toArray, List.set_cons_zero, List.set_cons_succ]
          refine wpB_fix (v := ?_) rfl rfl ?_ ?_; rotate_left; focus (intro W hW; go_simp; with_reducible rfl)
          simp only [Act.put, List.setIfInBounds_toArray, List.set_cons_zero, List.set_cons_succ]
          refine wpB_fix (v := ?_) rfl rfl ?_ ?_; rotate_left; focus (intro W hW; go_simp; with_reducible rfl)
          simp only [Act.put, List.setIfInBounds_toArray, List.set_cons_zero, List.set_cons_succ]
          refine wpB_fix (v := vi x.pane) rfl rfl (fun W hW => by have e : W.cell? ⟨b, o + k * 5, none⟩ = some (vi x.pane) := (hW.cell (p := ⟨b, o + k * 5, none⟩) hbl).trans hcx; go_simp) ?_
          simp only [Act.put, List.setIfInBounds_toArray, List.set_cons_zero, List.set_cons_succ]
          refine wpB_fix (v := ?_) rfl rfl ?_ ?_; rotate_left; focus (intro W hW; go_simp; with_reducible rfl)
          simp only [Act.put, List.setIfInBounds_toArray, List.set_cons_zero, List.set_cons_succ]
          refine wpB_fix (v := vi h.pane) rfl rfl (fun W hW => by have e : W.cell? ⟨w.heap.size, 0, none⟩ = some (vi h.pane) := ((hbdd.belowAll hW).cell 0).trans rfl; go_simp) ?_
          simp only [Act.put, List.setIfInBounds_toArray, List.set_cons_zero, List.set_cons_succ]
          refine wpB_fix (v := ?_) rfl rfl ?_ ?_; rotate_left; focus (intro W hW; go_simp; with_reducible rfl)
          simp only [Act.put, List.setIfInBounds_toArray, List.set_cons_zero, List.set_cons_succ]
          refine wpB_fix (v := ?_) rfl rfl ?_ ?_; rotate_left; focus (intro W hW; go_simp; with_reducible rfl)
          simp only [Act.put, List.setIfInBounds_toArray, List.set_cons_zero, List.set_cons_succ]
          simp only [wpB]
          go_wp2
          go_ret
          refine ⟨_, rfl, ?_, hBdd⟩
          rw [HL.out, holdingR_skip h t1 _ HPRE.out, holdingR, if_neg (by omega), if_pos hq, ← HL.out]
          exact HO.out.belowAll hBdd
        · go_wp2
          refine wp_region_ord [(0, true), (1, true), (2, true), (3, true), (4, true), (5, true), (6, true), (7, true), (8, true), (9, true), (10, true), (11, true), (12, true), (13, true)] rfl (by kernel_rfl) (by kernel_rfl) (fun d _ _ _ _ h => by cases d <;> exact h) ?_
          refine wpB_fix (v := ?_) rfl rfl ?_ ?_; rotate_left; focus (intro W hW; go_simp; with_reducible rfl)
          simp only [Act.put, List.setIfInBounds_toArray, List.set_cons_zero, List.set_cons_succ]
          refine wpB_fix (v := ?_) rfl rfl ?_ ?_; rotate_left; focus (intro W hW; go_simp; with_reducible rfl)
          simp only [Act.put, List.setIfInBounds_toArray, List.set_cons_zero, List.set_cons_succ]
          refine wpB_fix (v := ?_) rfl rfl ?_ ?_; rotate_left; focus (intro W hW; go_simp; with_reducible rfl)
          simp only [Act.put, List.setIfInBounds_toArray, List.set_cons_zero, List.set_cons_succ]
          refine wpB_fix (v := ?_) rfl rfl ?_ ?_; rotate_left; focus (intro W hW; go_simp; with_reducible rfl)
          simp only [Act.put, List.setIfInBounds_toArray, List.set_cons_zero, List.set_cons_succ]
          refine wpB_fix (v := ?_) rfl rfl ?_ ?_; rotate_left; focus (intro W hW; go_simp; with_reducible rfl)
          simp only [Act.put, List.setIfInBounds_toArray, List.set_cons_zero, List.set_cons_succ]
          refine wpB_fix (v := ?_) rfl rfl ?_ ?_; rotate_left; focus (intro W hW; go_simp; with_reducible rfl)
          simp only [Act.put, List.setIfInBounds_toArray, List.set_cons_zero, List.set_cons_succ]
          refine wpB_fix (v := ?_) rfl rfl ?_ ?_; rotate_left; focus (intro W hW; go_simp; with_reducible rfl)
          simp only [Act.put, List.setIfInBounds_toArray, List.set_cons_zero, List.set_cons_succ]
          refine wpB_fix (v := ?_) rfl rfl ?_ ?_; rotate_left; focus (intro W hW; go_simp; with_reducible rfl)
          simp only [Act.put, List.setIfInBounds_toArray, List.set_cons_zero, List.set_cons_succ]
          refine wpB_fix (v := ?_) rfl rfl ?_ ?_; rotate_left; focus (intro W hW; go_simp; with_reducible rfl)
          simp only [Act.put, List.setIfInBounds_toArray, List.set_cons_zero, List.set_cons_succ]
          refine wpB_fix (v := vi x.pane) rfl rfl (fun W hW => by have e : W.cell? ⟨b, o + k * 5, none⟩ = some (vi x.pane) := (hW.cell (p := ⟨b, o + k * 5, none⟩) hbl).trans hcx; go_simp) ?_
          simp only [Act.put, List.setIfInBounds_toArray, List.set_cons_zero, List.set_cons_succ]
          refine wpB_fix (v := ?_) rfl rfl ?_ ?_; rotate_left; focus (intro W hW; go_simp; with_reducible rfl)
          simp only [Act.put, List.setIfInBounds_toArray, List.set_cons_zero, List.set_cons_succ]
          refine wpB_fix (v := vi h.pane) rfl rfl (fun W hW => by have e : W.cell? ⟨w.heap.size, 0, none⟩ = some (vi h.pane) := ((hbdd.belowAll hW).cell 0).trans rfl; go_simp) ?_
          simp only [Act.put, List.setIfInBounds_toArray, List.set_cons_zero, List.set_cons_succ]
          refine wpB_fix (v := ?_) rfl rfl ?_ ?_; rotate_left; focus (intro W hW; go_simp; with_reducible rfl)
          simp only [Act.put, List.setIfInBounds_toArray, List.set_cons_zero, List.set_cons_succ]
          refine wpB_fix (v := ?_) rfl rfl ?_ ?_; rotate_left; focus (intro W hW; go_simp; with_reducible rfl)
          simp only [Act.put, List.setIfInBounds_toArray, List.set_cons_zero, List.set_cons_succ]
          simp only [wpB]
          have hWa := (Below.refl wr.drew.drew.heap.size wr.drew.drew).alloc (Nat.le_refl _) (.cells #[] 114)
          have hwa : w.heap.size ≤ wr.heap.size := hszd
          obtain ⟨HP1, HP2⟩ := Sl.OK.part (t1 := t1) (t2 := (x :: t3)) (by have h := HS.out; rwa [HL.out] at h)
          have hHP1 : Sl.OK 5 encHeld (fun _ _ _ => True) (fun _ => False) (wr.drew.drew.alloc (.cells #[] 114)) _ := Sl.OK.ext (w := w) (fun _ h => h) HP1 (.of_below (hBdd.trans (hWa.mono hszd)))
          have hy1 : Value.slice (some ⟨b, o, none⟩) k c = Sl.v ⟨some ⟨b, o, none⟩, c, t1⟩ := by unfold Sl.v; rw [HK1.out]
          have hy2 : Value.slice (some ⟨b, o + k * 5, none⟩) (l.length - k) (c - k) = Sl.v ⟨some ⟨b, o + t1.length * 5, none⟩, c - t1.length, (x :: t3)⟩ := by unfold Sl.v; rw [HK1.out]; congr 1; rw [HLEN.out]; simp
          have HY1 := Lib.hid hy1
          have HY2 := Lib.hid hy2
          clear hy1 hy2
          have hkl : t1.length ≤ 2000 := by rw [HK1.out]; omega
          have hkc : k ≤ c := by have := HS.out.le; simp only at this; omega
          have hlc : l.length ≤ c := HS.out.le
          go_wp2_with ((with_reducible refine at_dst 42 ?_); refine wpList_append_slAt rfl _ _ 53 rfl w.heap.size einfo_Held (fun _ => rfl) (by decide) encHeld_one (by decide) _ [] rfl (lit_own hszd) ⟨some ⟨b, o, none⟩, c, t1⟩ HY1.out hHP1 (by simp; omega) (by simp; omega) ?_; intro v1 w1 ho1 hg1 hat1; refine stop_here ?_)
          have hg1 : (wr.drew.drew.alloc (.cells #[] 114)).grownBy w1 (Value.slice (some ⟨wr.drew.drew.heap.size, 0, none⟩) 0 0).ownBlock := hg1
          have hB1w : Below w.heap.size wr.drew.drew w1 := ((Below.refl w.heap.size wr.drew.drew).alloc hszd (.cells #[] 114)).trans (Below.appended (lit_own hszd) hg1 (Nat.le_refl _) (by simp; omega))
          have ho1 : OwnL encHeld 5 w1 w.heap.size 114 v1 t1 := ho1
          have hbx1 : BoxAt w1 w.heap.size 114 (encHeld h) := (hbdd.alloc (.cells #[] 114)).of_block (hg1.block _ (hbdd.alloc (.cells #[] 114)).lt (fun e => by simp only [Value.ownBlock, Option.some.injEq] at e; have h1 := hbdd.lt; have h2 : wr.drew.drew.heap.size = wr.heap.size := rfl; omega))
          have hs1w : w.heap.size ≤ w1.heap.size := Nat.le_trans hszd hB1w.size
          unfold Stop
          go_wp2_with (first
            | ((with_reducible refine at_dst 44 ?_); refine wpList_loadB hbx1 rfl 114 _ rfl rfl (encHeld h) (whole_cells _) Tryz.underlying114 rfl (by kernel_rfl) ?_)
            | ((with_reducible refine at_dst 46 ?_); refine wpList_append_oneAt rfl _ _ 53 rfl w.heap.size einfo_Held (fun _ => rfl) (by decide) encHeld_one (by decide) v1 t1 rfl (ho1.belowAll ((Below.refl _ _).alloc (Nat.le_refl _) _)) w1.heap.size 0 1 h rfl (cells_of_eq (buildHeld h)) (by omega) (by simp; omega) ?_; intro v2 w2 ho2 hg2 _ hat2; have hB2w : Below w.heap.size w1 w2 := app_below ho1 hg2 (Nat.le_refl _) hs1w; have hB2a := hBdd.trans (hB1w.trans hB2w); have hHP2 : Sl.OK 5 encHeld (fun _ _ _ => True) (fun _ => False) w2 _ := Sl.OK.ext (w := w) (fun _ h => h) HP2 (.of_below hB2a))
            | ((with_reducible refine at_dst 51 ?_); refine wpList_append_slAt rfl _ _ 53 rfl w.heap.size einfo_Held (fun _ => rfl) (by decide) encHeld_one (by decide) v2 (t1 ++ [h]) rfl ho2 ⟨some ⟨b, o + t1.length * 5, none⟩, c - t1.length, (x :: t3)⟩ HY2.out hHP2 (by have := HLEN.out; simp; omega) hB2a.size ?_; intro v3 w3 ho3 hg3 hat3))
          go_ret
          refine ⟨_, rfl, ?_, hB2a.trans (Below.appended ho2 hg3 (Nat.le_refl _) hB2a.size)⟩
          rw [HL.out, holdingR_skip h t1 _ HPRE.out]
          rw [holdingR, if_neg (by omega), if_neg hq, show t1 ++ h :: x :: t3 = t1 ++ [h] ++ x :: t3 by simp]
          exact ho3.base_le hbase
    · have hbdd := hbd.drew
      have hBdd := hB.drew.drew
      have hszd : w.heap.size ≤ wr.drew.drew.heap.size := hBdd.size
      obtain ⟨t1, ht1⟩ : ∃ t1, t1 = l := ⟨l, rfl⟩
      have HPRE : Hid (∀ y ∈ t1, y.pane < h.pane) := Lib.hid fun y hy => by
        rw [ht1] at hy
        obtain ⟨j, hj, rfl⟩ := List.getElem_of_mem hy
        exact hn.out j l[j] (by omega) (List.getElem?_eq_getElem hj)
      have HL : Hid (l = t1 ++ []) := Lib.hid (by rw [ht1]; simp)
      have HK1 : Hid (t1.length = k) := Lib.hid (by rw [ht1]; omega)
      have HLEN : Hid (l.length = k + 0) := Lib.hid (by omega)
      have hnlt : ¬ ((k : Int) < (l.length : Int)) := by omega
      clear hn ht1
      go_wp2
      refine wp_region_ord [(0, true), (1, true), (2, true), (3, true), (4, true), (5, true), (6, true), (7, true), (8, true), (9, true), (10, true), (11, true), (12, true), (13, true)] rfl (by kernel_rfl) (by kernel_rfl) (fun d _ _ _ _ h => by cases d <;> exact h) ?_
      refine wpB_fix (v := ?_) rfl rfl ?_ ?_; rotate_left; focus (intro W hW; go_simp; with_reducible rfl)
      simp only [Act.put, List.setIfInBounds_toArray, List.set_cons_zero, List.set_cons_succ]
      refine wpB_fix (v := ?_) rfl rfl ?_ ?_; rotate_left; focus (intro W hW; go_simp; with_reducible rfl)
      simp only [Act.put, List.setIfInBounds_toArray, List.set_cons_zero, List.set_cons_succ]
      refine wpB_fix (v := ?_) rfl rfl ?_ ?_; rotate_left; focus (intro W hW; go_simp; with_reducible rfl)
      simp only [Act.put, List.setIfInBounds_toArray, List.set_cons_zero, List.set_cons_succ]
      refine wpB_fix (v := ?_) rfl rfl ?_ ?_; rotate_left; focus (intro W hW; go_simp; with_reducible rfl)
      simp only [Act.put, List.setIfInBounds_toArray, List.set_cons_zero, List.set_cons_succ]
      refine wpB_fix (v := ?_) rfl rfl ?_ ?_; rotate_left; focus (intro W hW; go_simp; with_reducible rfl)
      simp only [Act.put, List.setIfInBounds_toArray, List.set_cons_zero, List.set_cons_succ]
      refine wpB_skip rfl rfl ?_; simp only [Act.put, List.setIfInBounds_toArray, List.set_cons_zero, List.set_cons_succ]
      refine wpB_skip rfl rfl ?_; simp only [Act.put, List.setIfInBounds_toArray, List.set_cons_zero, List.set_cons_succ]
      refine wpB_skip rfl rfl ?_; simp only [Act.put, List.setIfInBounds_toArray, List.set_cons_zero, List.set_cons_succ]
      refine wpB_skip rfl rfl ?_; simp only [Act.put, List.setIfInBounds_toArray, List.set_cons_zero, List.set_cons_succ]
      refine wpB_skip rfl rfl ?_; simp only [Act.put, List.setIfInBounds_toArray, List.set_cons_zero, List.set_cons_succ]
      refine wpB_skip rfl rfl ?_; simp only [Act.put, List.setIfInBounds_toArray, List.set_cons_zero, List.set_cons_succ]
      refine wpB_skip rfl rfl ?_; simp only [Act.put, List.setIfInBounds_toArray, List.set_cons_zero, List.set_cons_succ]
      refine wpB_skip rfl rfl ?_; simp only [Act.put, List.setIfInBounds_toArray, List.set_cons_zero, List.set_cons_succ]
      refine wpB_fix (v := ?_) rfl rfl ?_ ?_; rotate_left; focus (intro W hW; go_simp; with_reducible rfl)
      simp only [Act.put, List.setIfInBounds_toArray, List.set_cons_zero, List.set_cons_succ]
      simp only [wpB]
      go_wp2
      refine wp_region_ord [(0, true), (1, true), (2, true), (3, true), (4, true), (5, true), (6, true), (7, true), (8, true), (9, true), (10, true), (11, true), (12, true), (13, true)] rfl (by kernel_rfl) (by kernel_rfl) (fun d _ _ _ _ h => by cases d <;> exact h) ?_
      refine wpB_fix (v := ?_) rfl rfl ?_ ?_; rotate_left; focus (intro W hW; go_simp; with_reducible rfl)
      simp only [Act.put, List.setIfInBounds_toArray, List.set_cons_zero, List.set_cons_succ]
      refine wpB_fix (v := ?_) rfl rfl ?_ ?_; rotate_left; focus (intro W hW; go_simp; with_reducible rfl)
      simp only [Act.put, List.setIfInBounds_toArray, List.set_cons_zero, List.set_cons_succ]
      refine wpB_fix (v := ?_) rfl rfl ?_ ?_; rotate_left; focus (intro W hW; go_simp; with_reducible rfl)
      simp only [Act.put, List.setIfInBounds_toArray, List.set_cons_zero, List.set_cons_succ]
      refine wpB_fix (v := ?_) rfl rfl ?_ ?_; rotate_left; focus (intro W hW; go_simp; with_reducible rfl)
      simp only [Act.put, List.setIfInBounds_toArray, List.set_cons_zero, List.set_cons_succ]
      refine wpB_fix (v := ?_) rfl rfl ?_ ?_; rotate_left; focus (intro W hW; go_simp; with_reducible rfl)
      simp only [Act.put, List.setIfInBounds_toArray, List.set_cons_zero, List.set_cons_succ]
      refine wpB_skip rfl rfl ?_; simp only [Act.put, List.setIfInBounds_toArray, List.set_cons_zero, List.set_cons_succ]
      refine wpB_skip rfl rfl ?_; simp only [Act.put, List.setIfInBounds_toArray, List.set_cons_zero, List.set_cons_succ]
      refine wpB_skip rfl rfl ?_; simp only [Act.put, List.setIfInBounds_toArray, List.set_cons_zero, List.set_cons_succ]
      refine wpB_skip rfl rfl ?_; simp only [Act.put, List.setIfInBounds_toArray, List.set_cons_zero, List.set_cons_succ]
      refine wpB_skip rfl rfl ?_; simp only [Act.put, List.setIfInBounds_toArray, List.set_cons_zero, List.set_cons_succ]
      refine wpB_skip rfl rfl ?_; simp only [Act.put, List.setIfInBounds_toArray, List.set_cons_zero, List.set_cons_succ]
      refine wpB_skip rfl rfl ?_; simp only [Act.put, List.setIfInBounds_toArray, List.set_cons_zero, List.set_cons_succ]
      refine wpB_skip rfl rfl ?_; simp only [Act.put, List.setIfInBounds_toArray, List.set_cons_zero, List.set_cons_succ]
      refine wpB_fix (v := ?_) rfl rfl ?_ ?_; rotate_left; focus (intro W hW; go_simp; with_reducible rfl)
      simp only [Act.put, List.setIfInBounds_toArray, List.set_cons_zero, List.set_cons_succ]
      simp only [wpB]
      by_cases hck : k = c
      · subst hck
        have hWa := (Below.refl wr.drew.drew.heap.size wr.drew.drew).alloc (Nat.le_refl _) (.cells #[] 114)
        have hwa : w.heap.size ≤ wr.heap.size := hszd
        have HP1 := (Sl.OK.part (t1 := t1) (t2 := ([] : List Held)) (by have h := HS.out; rwa [HL.out] at h)).1
        have HP2 : Sl.OK 5 encHeld (fun _ _ _ => True) (fun _ => False) w ⟨some ⟨b, o, none⟩, 0, []⟩ := Sl.OK.none_of HS.out
        have hHP1 : Sl.OK 5 encHeld (fun _ _ _ => True) (fun _ => False) (wr.drew.drew.alloc (.cells #[] 114)) _ := Sl.OK.ext (w := w) (fun _ h => h) HP1 (.of_below (hBdd.trans (hWa.mono hszd)))
        have hy1 : Value.slice (some ⟨b, o, none⟩) k k = Sl.v ⟨some ⟨b, o, none⟩, k, t1⟩ := by unfold Sl.v; rw [HK1.out]
        have hy2 : Value.slice (some ⟨b, o, none⟩) 0 0 = Sl.v ⟨some ⟨b, o, none⟩, 0, ([] : List Held)⟩ := by rfl
        have HY1 := Lib.hid hy1
        have HY2 := Lib.hid hy2
        clear hy1 hy2
        have hkl : t1.length ≤ 2000 := by rw [HK1.out]; omega
        have hkc : k ≤ k := Nat.le_refl _
        have hlc : l.length ≤ k := HS.out.le
        go_wp2_with ((with_reducible refine at_dst 42 ?_); refine wpList_append_slAt rfl _ _ 53 rfl w.heap.size einfo_Held (fun _ => rfl) (by decide) encHeld_one (by decide) _ [] rfl (lit_own hszd) ⟨some ⟨b, o, none⟩, k, t1⟩ HY1.out hHP1 (by simp; omega) (by simp; omega) ?_; intro v1 w1 ho1 hg1 hat1; refine stop_here ?_)
        have hg1 : (wr.drew.drew.alloc (.cells #[] 114)).grownBy w1 (Value.slice (some ⟨wr.drew.drew.heap.size, 0, none⟩) 0 0).ownBlock := hg1
        have hB1w : Below w.heap.size wr.drew.drew w1 := ((Below.refl w.heap.size wr.drew.drew).alloc hszd (.cells #[] 114)).trans (Below.appended (lit_own hszd) hg1 (Nat.le_refl _) (by simp; omega))
        have ho1 : OwnL encHeld 5 w1 w.heap.size 114 v1 t1 := ho1
        have hbx1 : BoxAt w1 w.heap.size 114 (encHeld h) := (hbdd.alloc (.cells #[] 114)).of_block (hg1.block _ (hbdd.alloc (.cells #[] 114)).lt (fun e => by simp only [Value.ownBlock, Option.some.injEq] at e; have h1 := hbdd.lt; have h2 : wr.drew.drew.heap.size = wr.heap.size := rfl; omega))
        have hs1w : w.heap.size ≤ w1.heap.size := Nat.le_trans hszd hB1w.size
        unfold Stop
        go_wp2_with (first
          | ((with_reducible refine at_dst 44 ?_); refine wpList_loadB hbx1 rfl 114 _ rfl rfl (encHeld h) (whole_cells _) Tryz.underlying114 rfl (by kernel_rfl) ?_)
          | ((with_reducible refine at_dst 46 ?_); refine wpList_append_oneAt rfl _ _ 53 rfl w.heap.size einfo_Held (fun _ => rfl) (by decide) encHeld_one (by decide) v1 t1 rfl (ho1.belowAll ((Below.refl _ _).alloc (Nat.le_refl _) _)) w1.heap.size 0 1 h rfl (cells_of_eq (buildHeld h)) (by omega) (by simp; omega) ?_; intro v2 w2 ho2 hg2 _ hat2; have hB2w : Below w.heap.size w1 w2 := app_below ho1 hg2 (Nat.le_refl _) hs1w; have hB2a := hBdd.trans (hB1w.trans hB2w); have hHP2 : Sl.OK 5 encHeld (fun _ _ _ => True) (fun _ => False) w2 _ := Sl.OK.ext (w := w) (fun _ h => h) HP2 (.of_below hB2a))
          | ((with_reducible refine at_dst 51 ?_); refine wpList_append_slAt rfl _ _ 53 rfl w.heap.size einfo_Held (fun _ => rfl) (by decide) encHeld_one (by decide) v2 (t1 ++ [h]) rfl ho2 ⟨some ⟨b, o, none⟩, 0, ([] : List Held)⟩ HY2.out hHP2 (by have := HLEN.out; simp; omega) hB2a.size ?_; intro v3 w3 ho3 hg3 hat3))
        go_ret
        refine ⟨_, rfl, ?_, hB2a.trans (Below.appended ho2 hg3 (Nat.le_refl _) hB2a.size)⟩
        rw [HL.out, holdingR_skip h t1 _ HPRE.out]
        rw [show t1 ++ holdingR [] h = t1 ++ [h] ++ [] by simp [holdingR]]
        exact ho3.base_le hbase
      · have hck' : ¬ c = k := fun e => hck e.symm
        have hWa := (Below.refl wr.drew.drew.heap.size wr.drew.drew).alloc (Nat.le_refl _) (.cells #[] 114)
        have hwa : w.heap.size ≤ wr.heap.size := hszd
        obtain ⟨HP1, HP2⟩ := Sl.OK.part (t1 := t1) (t2 := ([] : List Held)) (by have h := HS.out; rwa [HL.out] at h)
        have hHP1 : Sl.OK 5 encHeld (fun _ _ _ => True) (fun _ => False) (wr.drew.drew.alloc (.cells #[] 114)) _ := Sl.OK.ext (w := w) (fun _ h => h) HP1 (.of_below (hBdd.trans (hWa.mono hszd)))
        have hy1 : Value.slice (some ⟨b, o, none⟩) k c = Sl.v ⟨some ⟨b, o, none⟩, c, t1⟩ := by unfold Sl.v; rw [HK1.out]
        have hy2 : Value.slice (some ⟨b, o + k * 5, none⟩) (l.length - k) (c - k) = Sl.v ⟨some ⟨b, o + t1.length * 5, none⟩, c - t1.length, ([] : List Held)⟩ := by unfold Sl.v; rw [HK1.out]; congr 1; rw [HLEN.out]; simp
        have HY1 := Lib.hid hy1
        have HY2 := Lib.hid hy2
        clear hy1 hy2
        have hkl : t1.length ≤ 2000 := by rw [HK1.out]; omega
        have hkc : k ≤ c := by have := HS.out.le; simp only at this; omega
        have hlc : l.length ≤ c := HS.out.le
        go_wp2_with ((with_reducible refine at_dst 42 ?_); refine wpList_append_slAt rfl _ _ 53 rfl w.heap.size einfo_Held (fun _ => rfl) (by decide) encHeld_one (by decide) _ [] rfl (lit_own hszd) ⟨some ⟨b, o, none⟩, c, t1⟩ HY1.out hHP1 (by simp; omega) (by simp; omega) ?_; intro v1 w1 ho1 hg1 hat1; refine stop_here ?_)
        have hg1 : (wr.drew.drew.alloc (.cells #[] 114)).grownBy w1 (Value.slice (some ⟨wr.drew.drew.heap.size, 0, none⟩) 0 0).ownBlock := hg1
        have hB1w : Below w.heap.size wr.drew.drew w1 := ((Below.refl w.heap.size wr.drew.drew).alloc hszd (.cells #[] 114)).trans (Below.appended (lit_own hszd) hg1 (Nat.le_refl _) (by simp; omega))
        have ho1 : OwnL encHeld 5 w1 w.heap.size 114 v1 t1 := ho1
        have hbx1 : BoxAt w1 w.heap.size 114 (encHeld h) := (hbdd.alloc (.cells #[] 114)).of_block (hg1.block _ (hbdd.alloc (.cells #[] 114)).lt (fun e => by simp only [Value.ownBlock, Option.some.injEq] at e; have h1 := hbdd.lt; have h2 : wr.drew.drew.heap.size = wr.heap.size := rfl; omega))
        have hs1w : w.heap.size ≤ w1.heap.size := Nat.le_trans hszd hB1w.size
        unfold Stop
        go_wp2_with (first
          | ((with_reducible refine at_dst 44 ?_); refine wpList_loadB hbx1 rfl 114 _ rfl rfl (encHeld h) (whole_cells _) Tryz.underlying114 rfl (by kernel_rfl) ?_)
          | ((with_reducible refine at_dst 46 ?_); refine wpList_append_oneAt rfl _ _ 53 rfl w.heap.size einfo_Held (fun _ => rfl) (by decide) encHeld_one (by decide) v1 t1 rfl (ho1.belowAll ((Below.refl _ _).alloc (Nat.le_refl _) _)) w1.heap.size 0 1 h rfl (cells_of_eq (buildHeld h)) (by omega) (by simp; omega) ?_; intro v2 w2 ho2 hg2 _ hat2; have hB2w : Below w.heap.size w1 w2 := app_below ho1 hg2 (Nat.le_refl _) hs1w; have hB2a := hBdd.trans (hB1w.trans hB2w); have hHP2 : Sl.OK 5 encHeld (fun _ _ _ => True) (fun _ => False) w2 _ := Sl.OK.ext (w := w) (fun _ h => h) HP2 (.of_below hB2a))
          | ((with_reducible refine at_dst 51 ?_); refine wpList_append_slAt rfl _ _ 53 rfl w.heap.size einfo_Held (fun _ => rfl) (by decide) encHeld_one (by decide) v2 (t1 ++ [h]) rfl ho2 ⟨some ⟨b, o + t1.length * 5, none⟩, c - t1.length, ([] : List Held)⟩ HY2.out hHP2 (by have := HLEN.out; simp; omega) hB2a.size ?_; intro v3 w3 ho3 hg3 hat3))
        go_ret
        refine ⟨_, rfl, ?_, hB2a.trans (Below.appended ho2 hg3 (Nat.le_refl _) hB2a.size)⟩
        rw [HL.out, holdingR_skip h t1 _ HPRE.out]
        rw [show t1 ++ holdingR [] h = t1 ++ [h] ++ [] by simp [holdingR]]
        exact ho3.base_le hbase

set_option maxRecDepth 20000 in
set_option maxHeartbeats 2000000 in
theorem holding_nil (base : Nat) (h : Held) (w : World) (hbase : base ≤ w.heap.size) :
    Calls Tryz.prog 72 #[.slice none 0 0, .agg (encHeld h)] w fun e w' => ∃ v, e = .returned v ∧ OwnL encHeld 5 w' base 114 v [h] ∧ Below w.heap.size w w' := by
  have hB1 : Below w.heap.size w (w.alloc (.cells (encHeld h) 114)) := (Below.refl _ _).alloc (Nat.le_refl _) _
  have hbh : BoxAt (w.alloc (.cells (encHeld h) 114)) w.heap.size 114 (encHeld h) := BoxAt.new _ _ _
  go_enter Tryz.func72, Tryz.ntmps72
  go_wp2
  go_loopw [5] (fun i wr => i = .int .i64 0 ∧ BoxAt wr w.heap.size 114 (encHeld h) ∧ Below w.heap.size w wr) (fun i _ => 0)
  case atStart => exact ⟨rfl, hbh, hB1⟩
  case round =>
    obtain ⟨rfl, hbx, hB⟩ := hrel
    have hbdd := hbx.drew.drew
    have hBdd := hB.drew.drew
    have hszd : w.heap.size ≤ wr.drew.drew.heap.size := hBdd.size
    have hwa : w.heap.size ≤ wr.heap.size := hszd
    go_wp2
    refine wp_region_ord [(0, true), (1, true), (2, true), (3, true), (4, true), (5, true), (6, true), (7, true), (8, true), (9, true), (10, true), (11, true), (12, true), (13, true)] rfl (by kernel_rfl) (by kernel_rfl) (fun d _ _ _ _ h => by cases d <;> exact h) ?_
    refine wpB_fix (v := ?_) rfl rfl ?_ ?_; rotate_left; focus (intro W hW; go_simp; with_reducible rfl)
    simp only [Act.put, List.setIfInBounds_toArray, List.set_cons_zero, List.set_cons_succ]
    refine wpB_fix (v := ?_) rfl rfl ?_ ?_; rotate_left; focus (intro W hW; go_simp; with_reducible rfl)
    simp only [Act.put, List.setIfInBounds_toArray, List.set_cons_zero, List.set_cons_succ]
    refine wpB_fix (v := ?_) rfl rfl ?_ ?_; rotate_left; focus (intro W hW; go_simp; with_reducible rfl)
    simp only [Act.put, List.setIfInBounds_toArray, List.set_cons_zero, List.set_cons_succ]
    refine wpB_fix (v := ?_) rfl rfl ?_ ?_; rotate_left; focus (intro W hW; go_simp; with_reducible rfl)
    simp only [Act.put, List.setIfInBounds_toArray, List.set_cons_zero, List.set_cons_succ]
    refine wpB_fix (v := ?_) rfl rfl ?_ ?_; rotate_left; focus (intro W hW; go_simp; with_reducible rfl)
    simp only [Act.put, List.setIfInBounds_toArray, List.set_cons_zero, List.set_cons_succ]
    refine wpB_skip rfl rfl ?_; simp only [Act.put, List.setIfInBounds_toArray, List.set_cons_zero, List.set_cons_succ]
    refine wpB_skip rfl rfl ?_; simp only [Act.put, List.setIfInBounds_toArray, List.set_cons_zero, List.set_cons_succ]
    refine wpB_skip rfl rfl ?_; simp only [Act.put, List.setIfInBounds_toArray, List.set_cons_zero, List.set_cons_succ]
    refine wpB_skip rfl rfl ?_; simp only [Act.put, List.setIfInBounds_toArray, List.set_cons_zero, List.set_cons_succ]
    refine wpB_skip rfl rfl ?_; simp only [Act.put, List.setIfInBounds_toArray, List.set_cons_zero, List.set_cons_succ]
    refine wpB_skip rfl rfl ?_; simp only [Act.put, List.setIfInBounds_toArray, List.set_cons_zero, List.set_cons_succ]
    refine wpB_skip rfl rfl ?_; simp only [Act.put, List.setIfInBounds_toArray, List.set_cons_zero, List.set_cons_succ]
    refine wpB_skip rfl rfl ?_; simp only [Act.put, List.setIfInBounds_toArray, List.set_cons_zero, List.set_cons_succ]
    refine wpB_fix (v := ?_) rfl rfl ?_ ?_; rotate_left; focus (intro W hW; go_simp; with_reducible rfl)
    simp only [Act.put, List.setIfInBounds_toArray, List.set_cons_zero, List.set_cons_succ]
    simp only [wpB]
    go_wp2
    refine wp_region_ord [(0, true), (1, true), (2, true), (3, true), (4, true), (5, true), (6, true), (7, true), (8, true), (9, true), (10, true), (11, true), (12, true), (13, true)] rfl (by kernel_rfl) (by kernel_rfl) (fun d _ _ _ _ h => by cases d <;> exact h) ?_
    refine wpB_fix (v := ?_) rfl rfl ?_ ?_; rotate_left; focus (intro W hW; go_simp; with_reducible rfl)
    simp only [Act.put, List.setIfInBounds_toArray, List.set_cons_zero, List.set_cons_succ]
    refine wpB_fix (v := ?_) rfl rfl ?_ ?_; rotate_left; focus (intro W hW; go_simp; with_reducible rfl)
    simp only [Act.put, List.setIfInBounds_toArray, List.set_cons_zero, List.set_cons_succ]
    refine wpB_fix (v := ?_) rfl rfl ?_ ?_; rotate_left; focus (intro W hW; go_simp; with_reducible rfl)
    simp only [Act.put, List.setIfInBounds_toArray, List.set_cons_zero, List.set_cons_succ]
    refine wpB_fix (v := ?_) rfl rfl ?_ ?_; rotate_left; focus (intro W hW; go_simp; with_reducible rfl)
    simp only [Act.put, List.setIfInBounds_toArray, List.set_cons_zero, List.set_cons_succ]
    refine wpB_fix (v := ?_) rfl rfl ?_ ?_; rotate_left; focus (intro W hW; go_simp; with_reducible rfl)
    simp only [Act.put, List.setIfInBounds_toArray, List.set_cons_zero, List.set_cons_succ]
    refine wpB_skip rfl rfl ?_; simp only [Act.put, List.setIfInBounds_toArray, List.set_cons_zero, List.set_cons_succ]
    refine wpB_skip rfl rfl ?_; simp only [Act.put, List.setIfInBounds_toArray, List.set_cons_zero, List.set_cons_succ]
    refine wpB_skip rfl rfl ?_; simp only [Act.put, List.setIfInBounds_toArray, List.set_cons_zero, List.set_cons_succ]
    refine wpB_skip rfl rfl ?_; simp only [Act.put, List.setIfInBounds_toArray, List.set_cons_zero, List.set_cons_succ]
    refine wpB_skip rfl rfl ?_; simp only [Act.put, List.setIfInBounds_toArray, List.set_cons_zero, List.set_cons_succ]
    refine wpB_skip rfl rfl ?_; simp only [Act.put, List.setIfInBounds_toArray, List.set_cons_zero, List.set_cons_succ]
    refine wpB_skip rfl rfl ?_; simp only [Act.put, List.setIfInBounds_toArray, List.set_cons_zero, List.set_cons_succ]
    refine wpB_skip rfl rfl ?_; simp only [Act.put, List.setIfInBounds_toArray, List.set_cons_zero, List.set_cons_succ]
    refine wpB_fix (v := ?_) rfl rfl ?_ ?_; rotate_left; focus (intro W hW; go_simp; with_reducible rfl)
    simp only [Act.put, List.setIfInBounds_toArray, List.set_cons_zero, List.set_cons_succ]
    simp only [wpB]
    go_wp2_with ((with_reducible refine at_dst 42 ?_); refine wpList_append_slAt (ok := fun _ _ _ => True) (D := fun _ => False) rfl _ _ 53 rfl w.heap.size einfo_Held (fun _ => rfl) (by decide) encHeld_one (by decide) _ [] rfl (lit_own hszd) Sl.nil rfl (Sl.OK.nil _ _ _ _ _) (by simp [Sl.nil]) (by simp; omega) ?_; intro v1 w1 ho1 hg1 hat1; refine stop_here ?_)
    have hg1 : (wr.drew.drew.alloc (.cells #[] 114)).grownBy w1 (Value.slice (some ⟨wr.drew.drew.heap.size, 0, none⟩) 0 0).ownBlock := hg1
    have hB1w : Below w.heap.size wr.drew.drew w1 := ((Below.refl w.heap.size wr.drew.drew).alloc hszd (.cells #[] 114)).trans (Below.appended (lit_own hszd) hg1 (Nat.le_refl _) (by simp; omega))
    have ho1 : OwnL encHeld 5 w1 w.heap.size 114 v1 [] := ho1
    have hbx1 : BoxAt w1 w.heap.size 114 (encHeld h) := (hbdd.alloc (.cells #[] 114)).of_block (hg1.block _ (hbdd.alloc (.cells #[] 114)).lt (fun e => by simp only [Value.ownBlock, Option.some.injEq] at e; have h1 := hbdd.lt; have h2 : wr.drew.drew.heap.size = wr.heap.size := rfl; omega))
    have hs1w : w.heap.size ≤ w1.heap.size := Nat.le_trans hszd hB1w.size
    unfold Stop
    go_wp2_with (first
      | ((with_reducible refine at_dst 44 ?_); refine wpList_loadB hbx1 rfl 114 _ rfl rfl (encHeld h) (whole_cells _) Tryz.underlying114 rfl (by kernel_rfl) ?_)
      | ((with_reducible refine at_dst 46 ?_); refine wpList_append_oneAt rfl _ _ 53 rfl w.heap.size einfo_Held (fun _ => rfl) (by decide) encHeld_one (by decide) v1 [] rfl (ho1.belowAll ((Below.refl _ _).alloc (Nat.le_refl _) _)) w1.heap.size 0 1 h rfl (cells_of_eq (buildHeld h)) (by simp) (by simp; omega) ?_; intro v2 w2 ho2 hg2 _ hat2; have hB2w : Below w.heap.size w1 w2 := app_below ho1 hg2 (Nat.le_refl _) hs1w; have hB2a := hBdd.trans (hB1w.trans hB2w))
      | ((with_reducible refine at_dst 51 ?_); refine wpList_append_slAt (ok := fun _ _ _ => True) (D := fun _ => False) rfl _ _ 53 rfl w.heap.size einfo_Held (fun _ => rfl) (by decide) encHeld_one (by decide) v2 [h] rfl ho2 Sl.nil rfl (Sl.OK.nil _ _ _ _ _) (by simp [Sl.nil]) hB2a.size ?_; intro v3 w3 ho3 hg3 hat3))
    go_ret
    exact ⟨_, rfl, OwnL.base_le ho3 hbase, hB2a.trans (Below.appended ho2 hg3 (Nat.le_refl _) hB2a.size)⟩
end Go.Proofs.YtendmmhfjhgdaaaGreat
