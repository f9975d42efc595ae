/-
  maps.Keys of a map of notes by names, collected and sorted.
-/
import Derived.Test.YtendmmhfjhgdaaaGreatVals
set_option linter.unusedVariables false
set_option linter.unusedSimpArgs false
namespace Go.Proofs.YtendmmhfjhgdaaaGreat
open Go.RowKit

/-- how many entries an iterator still has ahead -/
def leftCount (w : World) (b r : Nat) : Nat := match w.heap[b]?, w.heap[r]? with
  | some (.map es _), some (.mapIter _ _ seen _) => (leftOf es seen).size
  | _, _ => 0
theorem RangeAt.count {κ ν : Type} {Km : κ → Value} {V : ν → Value} {good : κ → Prop} {w : World} {b r : Nat} {m left : List (κ × ν)} (h : RangeAt Km V good w b r m left) : leftCount w b r = left.length := by
  obtain ⟨es, clock, since, seen, c0, h1, h2, h3, h4, h5, h6, h7, h8⟩ := h.raw
  have := congrArg List.length h8
  simp only [List.length_map] at this
  unfold leftCount
  rw [h1, h4]
  simpa using this
theorem RangeAt.iter {κ ν : Type} {Km : κ → Value} {V : ν → Value} {good : κ → Prop} {w : World} {b r : Nat} {m left : List (κ × ν)} (h : RangeAt Km V good w b r m left) : ∃ x y z t, w.heap[r]? = some (Obj.mapIter x y z t) := by
  obtain ⟨es, clock, since, seen, c0, h1, h2, h3, h4, _⟩ := h.raw
  exact ⟨_, _, _, _, h4⟩
theorem RefAt.turnIter {w0 : World} {fn : FuncId} {sv : Value} {Bs l D r : Nat} {xs : List Ref} {W W' : World} (h : RefAt w0 fn sv Bs l D xs W) (h0 : w0.heap.size ≤ r) (hr : ∃ x y z t, W.heap[r]? = some (Obj.mapIter x y z t)) (hT : Turn r W W') : RefAt w0 fn sv Bs l D xs W' := by
  obtain ⟨x, y, z, t, hr⟩ := hr
  obtain ⟨v, h1, h2⟩ := h.box
  have n1 : Bs ≠ r := fun e => by
    have hh : W.heap[Bs]? = some (.cells #[v] 56 (0, 0)) := h1
    rw [e, hr] at hh; cases hh
  have n2 : l ≠ r := fun e => by have hh := h.L; rw [e, hr] at hh; cases hh
  have n3 : D ≠ r := fun e => by have hh := h.K; rw [e, hr] at hh; cases hh
  exact ⟨⟨v, h1.turn hT n1, h2.turn hT (h2.ne hr (fun cur e => by cases e))⟩, (hT.block l n2).trans h.L, (hT.block D n3).trans h.K, h.below.trans (hT.below h0)⟩

set_option maxRecDepth 100000 in
set_option maxHeartbeats 2000000 in
theorem keys1_in (n : Nat) (hn : 1 ≤ n) (l Bm mb : Nat) (m : List (Ref × Note)) (w0 W : World) (hM : MapAt vRef vNote gRef w0 mb m) (hm : w0.cell? ⟨Bm, 0, none⟩ = some (.map (some mb))) (hBm : Bm < w0.heap.size) (J : List Ref → World → Prop)
    (hJB : ∀ xs W, J xs W → Below w0.heap.size w0 W) (hJA : ∀ xs W W', J xs W → Below W.heap.size W W' → J xs W')
    (hJT : ∀ xs W W' r, J xs W → w0.heap.size ≤ r → (∃ x y z t, W.heap[r]? = some (Obj.mapIter x y z t)) → Turn r W W' → J xs W')
    (hY : ∀ pre x W1, J pre W1 → pre.length < m.length → YieldAt Fence.wide (n - 1) Tryz.prog l #[vRef x] W1 fun e W' => e = .returned (.bool true) ∧ J (pre ++ [x]) W' ∧ ∀ (r : Nat) b s c d, W1.heap[r]? = some (Obj.mapIter b s c d) → W'.heap[r]? = some (Obj.mapIter b s c d)) (h0 : J [] W) :
    CallsIn Fence.wide n Tryz.prog 155 #[.func (.yield l) #[] #[], .pointer (some ⟨Bm, 0, none⟩)] W fun e W' => (∃ v, e = .returned v) ∧ ∃ ys, ys.Perm (m.map Prod.fst) ∧ J ys W' := by
  have hB0 := hJB _ _ h0
  have hcm : W.cell? ⟨Bm, 0, none⟩ = some (.map (some mb)) := (hB0.cell (p := ⟨Bm, 0, none⟩) hBm).trans hm
  have hMW := hM.below hB0 hM.lt
  obtain ⟨hrun, hR0⟩ := hMW.range (P := Tryz.prog) Tryz.underlying107
  generalize hob : Obj.mapIter (some mb) hMW.raw.choose_spec.choose #[] hMW.raw.choose_spec.choose = ob at hrun hR0
  clear hob
  have hBob : Below W.heap.size W (W.alloc ob) := (Below.refl _ _).alloc (Nat.le_refl _) _
  have HJ0 := Lib.hid (hJA _ _ _ h0 hBob)
  have HR0 := Lib.hid hR0
  have HY := Lib.hid hY
  have HJB := Lib.hid hJB
  have HJA := Lib.hid hJA
  have HJT := Lib.hid hJT
  have hmb0 := hM.lt
  have hsz := hB0.size
  clear hm hY hJB hJA hJT hM hMW hR0 h0
  refine callsIn_of_wp Tryz.func155 rfl trivial ?_ rfl
  simp only [Tryz.ntmps155, List.size_toArray, List.length_cons, List.length_nil, Nat.reduceAdd, Nat.reduceSub, Array.replicate_succ, Array.replicate_zero, List.push_toArray, List.append_toArray, List.nil_append, List.cons_append]
  gi_wp2
  gi_loopw [6] (fun _ wr => ∃ done left, (done ++ left.map Prod.fst).Perm (m.map Prod.fst) ∧ Hid (RangeAt vRef vNote gRef wr mb W.heap.size m left) ∧ Hid (J done wr)) (fun _ wr => leftCount wr mb W.heap.size)
  case atStart => exact ⟨[], m, .refl _, HR0, HJ0⟩
  case round =>
    obtain ⟨done, left, hp, hR, hJ⟩ := hrel
    have hBr := HJB.out _ _ hJ.out
    have hcount := hR.out.count
    rcases hR.out.next (P := Tryz.prog) (by omega) 0 with ⟨hl0, hnx⟩ | ⟨l1, p, l2, w', hl, hnx, hR', hT, hen⟩
    · subst hl0
      gi_wp2
      go_end0
      exact ⟨⟨_, rfl⟩, done, by simpa using hp, hJ.out⟩
    · obtain ⟨r, v⟩ := p
      simp only at hnx hen
      have hlen : done.length < m.length := by
        have := hp.length_eq
        simp only [List.length_append, List.length_map, hl, List.length_cons] at this; omega
      have HJ' := Lib.hid (HJT.out _ _ _ _ hJ.out hsz hR.out.iter hT)
      have hHR' := Lib.hid hR'
      have hHb := HJB.out _ _ HJ'.out
      clear hR'
      gi_wp2_with (first
        | (refine wpListIn_store_box (BoxAt.newN (n := w'.heap.size) _ _ _ rfl) rfl 31 _ _ rfl rfl (.agg (encRef r)) rfl (by kernel_rfl) rfl (one_agg (encRef_one _)) ?_
           intro w5 hb5 hT5
           have hB5 : Below w'.heap.size w' w5 := ((Below.refl _ _).alloc (Nat.le_refl _) _).trans (hT5.below (Nat.le_refl _))
           have hbx5 := hb5.eqv (cs' := encRef r) (by simp [splice, encRef, Value.cells])
           obtain ⟨fn, tmps, assign, body, hy, hRd⟩ := HY.out done r w5 (HJA.out _ _ _ HJ'.out hB5) hlen
           simp only [vRef] at hy
           clear hb5 hT5)
        | (refine wpListIn_load_at rfl 31 _ rfl w'.heap.size 0 rfl (encRef r) _ hbx5.cells Tryz.underlying31 rfl (by kernel_rfl) ?_)
        | gi_in)
      refine hRd.mono ?_
      rintro e W3 ⟨rfl, hJ3, hkeep⟩
      have hB3 := HJB.out _ _ hJ3
      have hR5 := hHR'.out.below hB5 hHR'.out.map.lt hHR'.out.lt
      have hR3 : RangeAt vRef vNote gRef W3 mb W.heap.size m (l1 ++ l2) := hR5.of_block (((hB3.block mb hmb0)).trans (((hHb.trans (hB5.mono hHb.size)).block mb hmb0)).symm) (by
        obtain ⟨x, y, z, t, hx⟩ := hR5.iter
        exact (hkeep _ _ _ _ _ hx).trans hx.symm)
      have HR3 := Lib.hid hR3
      have HJ3 := Lib.hid hJ3
      have hc3 := hR3.count
      clear hR3 hJ3 hR5
      gi_wp2
      go_roundw
      case rel => exact ⟨done ++ [r], l1 ++ l2, by
          refine (List.Perm.trans ?_ hp)
          rw [hl, List.map_append, List.map_append, List.map_cons, List.append_assoc]
          exact (List.perm_append_left_iff done).2 (by simpa using (List.perm_middle (a := r) (l₁ := l1.map Prod.fst) (l₂ := l2.map Prod.fst)).symm), HR3, HJ3⟩
      case measure => rw [hc3, hcount, hl]; simp

theorem keys_Note (mb : Option Nat) (w : World) : Calls Tryz.prog 110 #[.map mb] w fun e w' => e = .returned (.func (.func 155) #[] #[.pointer (some ⟨w.heap.size, 0, none⟩)]) ∧ w' = w.alloc (.cells #[.map mb] 107) := by
  go_enter Tryz.func110, Tryz.ntmps110
  go_wp2
  go_ret
  exact ⟨rfl, rfl⟩
set_option maxRecDepth 100000 in
set_option maxHeartbeats 2000000 in
theorem appendKeysNote (n : Nat) (hn : 2 ≤ n) (Bm : Nat) (mb : Nat) (m : List (Ref × Note)) (w : World) (hMm : MapAt vRef vNote gRef w mb m) (hm : w.cell? ⟨Bm, 0, none⟩ = some (.map (some mb))) (hBm : Bm < w.heap.size) (hlen : m.length ≤ 1000000) :
    CallsIn Fence.wide n Tryz.prog 191 #[.slice none 0 0, .func (.func 155) #[] #[.pointer (some ⟨Bm, 0, none⟩)]] w fun e w' => ∃ v ys, e = .returned v ∧ ys.Perm (m.map Prod.fst) ∧ OwnL encRef 2 w' w.heap.size 31 v ys ∧ Below w.heap.size w w' := by
  have h1 : 1 ≤ n := by omega
  have eg : ∀ args w, (callFunc 155 args).run Tryz.prog w = .ok (.enter 155 args) w := enters_of Tryz.func155 (by kernel_rfl) rfl
  refine callsIn_of_wp_marks Tryz.func191 rfl trivial ?_ rfl
  simp only [Tryz.ntmps191, List.size_toArray, List.length_cons, List.length_nil, Nat.reduceAdd, Nat.reduceSub, Array.replicate_succ, Array.replicate_zero, List.push_toArray, List.append_toArray, List.nil_append, List.cons_append]
  gi_wp2
  refine wpIn_rangeFunc ?_
  intro fn hfn
  obtain ⟨W0, hW0⟩ : ∃ W0, w.alloc (.cells #[.slice none 0 0] 56) = W0 := ⟨_, rfl⟩
  have hs0 : W0.heap.size = w.heap.size + 1 := by rw [← hW0]; simp
  have hv0 : BoxAt W0 w.heap.size 56 #[.slice none 0 0] := by rw [← hW0]; exact BoxAt.new _ _ _
  have hb0 : Below w.heap.size w W0 := by rw [← hW0]; exact (Below.refl _ w).alloc (Nat.le_refl _) _
  rw [hW0]
  obtain ⟨W1, hW1⟩ : ∃ W1, (W0.alloc (.deferred (some []))).alloc (.loop (refRec fn (.func (.func 155) #[] #[.pointer (some ⟨Bm, 0, none⟩)]) w.heap.size W0.heap.size .ready none)) = W1 := ⟨_, rfl⟩
  have hB01 : Below W0.heap.size W0 W1 := by rw [← hW1]; exact ((Below.refl _ _).alloc (Nat.le_refl _) _).alloc (by simp) _
  have hb1 : Below w.heap.size w W1 := hb0.trans (hB01.mono hb0.size)
  have hs1 : W1.heap.size = W0.heap.size + 2 := by rw [← hW1]; simp
  have hM : RefAt w fn (.func (.func 155) #[] #[.pointer (some ⟨Bm, 0, none⟩)]) w.heap.size (W0.heap.size + 1) W0.heap.size [] W1 :=
    ⟨⟨_, hv0.belowAll hB01, OwnL.nil _ _ _ _ _⟩,
     by rw [← hW1]; have := World.alloc_heap_new (W0.alloc (.deferred (some []))) (.loop (refRec fn (.func (.func 155) #[] #[.pointer (some ⟨Bm, 0, none⟩)]) w.heap.size W0.heap.size .ready none)); rwa [World.size_alloc] at this,
     by rw [← hW1]; exact (Below.heap_alloc _ _ _ (by simp)).trans (World.alloc_heap_new W0 _), hb1⟩
  refine ⟨W0.heap.size + 1, [{ target := .collected W0.heap.size, args := #[] }], W1, { target := .fn (.func 155) #[.pointer (some ⟨Bm, 0, none⟩)], args := #[.func (.yield (W0.heap.size + 1)) #[] #[]] }, W1, 155,
    #[.func (.yield (W0.heap.size + 1)) #[] #[]] ++ #[.pointer (some ⟨Bm, 0, none⟩)], W1, ?_, ?_, ?_, ?_, fun _ => h1, ?_⟩
  · rw [← hW1]; exact run_enterLoop_outer _ _ _ _ _
  · simp [resolve, go_sem]
  · intro f' hf'; trivial
  · simp [invoke, go_sem, eg]
  · refine (keys1_in (n - 1) (by omega) (W0.heap.size + 1) Bm mb m w W1 hMm hm hBm (RefAt w fn (.func (.func 155) #[] #[.pointer (some ⟨Bm, 0, none⟩)]) w.heap.size (W0.heap.size + 1) W0.heap.size) (fun xs W h => h.below) (fun xs W W' h hb => h.alloc hb) (fun xs W W' r h h0 hr hT => h.turnIter h0 hr hT)
      (fun pre x W hJ hl => refYield (n - 1 - 1) w fn _ w.heap.size (W0.heap.size + 1) W0.heap.size (by omega) (by omega) (by omega) (Nat.le_refl _) (by omega) pre x W hJ (by omega)) hM).mono ?_
    rintro e W2 ⟨⟨v0, rfl⟩, ys, hys, h2⟩
    obtain ⟨v, hv, hrow⟩ := h2.box
    have hend := run_endLoop (P := Tryz.prog) h2.L (by simp [refRec])
    obtain ⟨W3, hW3⟩ : ∃ W3, W2.putObj (W0.heap.size + 1) (.loop { refRec fn (.func (.func 155) #[] #[.pointer (some ⟨Bm, 0, none⟩)]) w.heap.size W0.heap.size .ready none with state := .exhausted }) = W3 := ⟨_, rfl⟩
    rw [hW3] at hend
    have hT3 : Turn (W0.heap.size + 1) W2 W3 := by rw [← hW3]; exact Turn.putObj
    have hv3 : BoxAt W3 w.heap.size 56 #[v] := hv.turn hT3 (by omega)
    have hK3 : W3.heap[W0.heap.size]? = some (.deferred (some [])) := (hT3.block _ (by omega)).trans h2.K
    have hrow3 := hrow.turn hT3 (hrow.ne h2.L (fun cur e => by cases e))
    have hb3 : Below w.heap.size w W3 := h2.below.trans (hT3.below (by omega))
    have hc3 : W3.cell? ⟨w.heap.size, 0, none⟩ = some v := (hv3.cell 0).trans rfl
    clear hW3
    refine ⟨none, W3, hend, ?_⟩
    gi_wp2
    rw [← hs0]
    have hT4 : Turn W0.heap.size W3 _ := Turn.putObj (o := .deferred none)
    refine ⟨by simp, .inl ⟨_, _, rfl, run_takeDeferred hK3, ?_⟩⟩
    exact ⟨_, results_tmp rfl _ _ _, v, ys, rfl, hys, hrow3.turn hT4 (hrow3.ne hK3 (fun cur e => by cases e)), hb3.trans (hT4.below (by omega))⟩

set_option maxRecDepth 20000 in
theorem collectKeysNote (Bm : Nat) (mb : Nat) (m : List (Ref × Note)) (w : World) (hMm : MapAt vRef vNote gRef w mb m) (hm : w.cell? ⟨Bm, 0, none⟩ = some (.map (some mb))) (hBm : Bm < w.heap.size) (hlen : m.length ≤ 1000000) :
    Calls Tryz.prog 153 #[.func (.func 155) #[] #[.pointer (some ⟨Bm, 0, none⟩)]] w fun e w' => ∃ v ys, e = .returned v ∧ ys.Perm (m.map Prod.fst) ∧ OwnL encRef 2 w' w.heap.size 31 v ys ∧ Below w.heap.size w w' := by
  have hA : Calls Tryz.prog 191 #[.slice none 0 0, .func (.func 155) #[] #[.pointer (some ⟨Bm, 0, none⟩)]] w fun e w' => ∃ v ys, e = .returned v ∧ ys.Perm (m.map Prod.fst) ∧ OwnL encRef 2 w' w.heap.size 31 v ys ∧ Below w.heap.size w w' := (callsIn_wide (n := 5)).1 (appendKeysNote 5 (by omega) Bm mb m w hMm hm hBm hlen)
  have HA := Lib.hid hA
  clear hA hMm hm hBm hlen
  go_enter Tryz.func153, Tryz.ntmps153
  go_wp2_with (go_at_call 191; refine HA.out.mono ?_; rintro e w1 ⟨v, ys, rfl, hys, ho, hb⟩)
  go_ret
  exact ⟨_, ys, rfl, hys, ho, hb⟩
set_option maxRecDepth 20000 in
theorem sortedKeysNote (Bm : Nat) (mb : Nat) (m : List (Ref × Note)) (w : World) (hMm : MapAt vRef vNote gRef w mb m) (hm : w.cell? ⟨Bm, 0, none⟩ = some (.map (some mb))) (hBm : Bm < w.heap.size) (hlen : m.length ≤ 1000000) :
    Calls Tryz.prog 109 #[.func (.func 155) #[] #[.pointer (some ⟨Bm, 0, none⟩)], .func (.func 40) #[] #[]] w fun e w' => ∃ v, e = .returned v ∧ OwnL encRef 2 w' w.heap.size 31 v (sortBy ltRef (m.map Prod.fst)) ∧ Below w.heap.size w w' := by
  have HA := Lib.hid (collectKeysNote Bm mb m w hMm hm hBm hlen)
  have hnd := hMm.nodup
  clear hMm hm hBm
  go_enter Tryz.func109, Tryz.ntmps109
  go_wp2_with (first
    | (go_at_call 153; refine HA.out.mono ?_; rintro e w1 ⟨v, ys, rfl, hys, ho, hb⟩; have hyl := hys.length_eq; rw [List.length_map] at hyl; have HP := Lib.hid hys; clear hys; have HO := Lib.hid ho; have HB := Lib.hid hb; clear ho hb)
    | (go_at_call 154; refine (ref_sort _ _ _ _ HO.out (by omega)).mono ?_; rintro e w2 ⟨rfl, ho2, hg2⟩))
  go_ret
  have hse : sortBy ltRef ys = sortBy ltRef (m.map Prod.fst) := up_eq (fun a _ b _ h1 h2 => ltRef_eq a b h1 h2) ((sortBy_perm ltRef ys).trans (HP.out.trans (sortBy_perm ltRef _).symm)) (sortBy_up ltRef_tr ltRef_as ys) (sortBy_up ltRef_tr ltRef_as _)
  rw [hse] at ho2
  exact ⟨_, rfl, ho2, HB.out.trans (Below.appended HO.out hg2 (Nat.le_refl _) HB.out.size)⟩
end Go.Proofs.YtendmmhfjhgdaaaGreat
