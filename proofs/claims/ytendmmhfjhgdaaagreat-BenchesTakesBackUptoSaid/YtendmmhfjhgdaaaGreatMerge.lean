/-
  maps.Keys of a map of notes by names, collected and sorted.
  Notes by their names, copied: listed, walked.
  Two sets of notes are made one: Merge, walked.
  Merge and the reference's SameNotes, as the laws call them.
-/
import Derived.Test.YtendmmhfjhgdaaaGreatVals
import Derived.Test.YtendmmhfjhgdaaaGreatEff
import Derived.Test.YtendmmhfjhgdaaaGreatMergeP
import Derived.Test.YtendmmhfjhgdaaaGreatConcat
import Derived.Test.YtendmmhfjhgdaaaGreatRefSame
set_option maxHeartbeats 16000000
set_option maxRecDepth 100000
section
set_option linter.unusedVariables false
set_option linter.unusedSimpArgs false
namespace Go.Proofs.YtendmmhfjhgdaaaGreat
open Go.RowKit
theorem RefAt.turnIter {w0 : World} {fn : FuncId} {sv : Value} {Bs l D r : Nat} {xs : List Ref} {W W' : World} (h : RefAt w0 fn sv Bs l D xs W) (h0 : w0.heap.size ≤ r) (hr : ∃ x y z t, W.heap[r]? = some (Obj.mapIter x y z t)) (hT : Turn r W W') : RefAt w0 fn sv Bs l D xs W' := by
 obtain ⟨x, y, z, t, hr⟩ := hr
 obtain ⟨v, h1, h2⟩ := h.box
 have n1 : Bs ≠ r := fun e => by
  have hh : W.heap[Bs]? = some (.cells #[v] 56 (0, 0)) := h1
  rw [e, hr] at hh; cases hh
 have n2 : l ≠ r := fun e => by have hh := h.L; rw [e, hr] at hh; cases hh
 have n3 : D ≠ r := fun e => by have hh := h.K; rw [e, hr] at hh; cases hh
 exact ⟨⟨v, h1.turn hT n1, h2.turn hT (h2.ne hr (fun cur e => by cases e))⟩, (hT.block l n2).trans h.L, (hT.block D n3).trans h.K, h.below.trans (hT.below h0)⟩
theorem keys1_in (n : Nat) (hn : 1 ≤ n) (l Bm mb : Nat) (m : List (Ref × Note)) (w0 W : World) (hM : MapAt vRef vNote gRef w0 mb m) (hm : w0.cell? ⟨Bm, 0, none⟩ = some (.map (some mb))) (hBm : Bm < w0.heap.size) (J : List Ref → World → Prop)
  (hJB : ∀ xs W, J xs W → Below w0.heap.size w0 W) (hJA : ∀ xs W W', J xs W → Below W.heap.size W W' → J xs W')
  (hJT : ∀ xs W W' r, J xs W → w0.heap.size ≤ r → (∃ x y z t, W.heap[r]? = some (Obj.mapIter x y z t)) → Turn r W W' → J xs W')
  (hY : ∀ pre x W1, J pre W1 → pre.length < m.length → YieldAt Fence.wide (n - 1) Tryz.prog l #[vRef x] W1 fun e W' => e = .returned (.bool true) ∧ J (pre ++ [x]) W' ∧ ∀ (r : Nat) b s c d, W1.heap[r]? = some (Obj.mapIter b s c d) → W'.heap[r]? = some (Obj.mapIter b s c d)) (h0 : J [] W) :
  CallsIn Fence.wide n Tryz.prog 155 #[.func (.yield l) #[] #[], .pointer (some ⟨Bm, 0, none⟩)] W fun e W' => (∃ v, e = .returned v) ∧ ∃ ys, ys.Perm (m.map Prod.fst) ∧ J ys W' := by
 have hB0 := hJB _ _ h0
 have hcm : W.cell? ⟨Bm, 0, none⟩ = some (.map (some mb)) := (hB0.cell (p := ⟨Bm, 0, none⟩) hBm).trans hm
 have hMW := hM.below hB0 hM.lt
 obtain ⟨hrun, hR0⟩ := hMW.range (P := Tryz.prog) Tryz.underlying107
 generalize hob : Obj.mapIter (some mb) hMW.raw.choose_spec.choose #[] hMW.raw.choose_spec.choose = ob at hrun hR0
 clear hob
 have hBob : Below W.heap.size W (W.alloc ob) := (Below.refl _ _).alloc (Nat.le_refl _) _
 have HJ0 := Lib.hid (hJA _ _ _ h0 hBob)
 have HR0 := Lib.hid hR0
 have HY := Lib.hid hY
 have HJB := Lib.hid hJB
 have HJA := Lib.hid hJA
 have HJT := Lib.hid hJT
 have hmb0 := hM.lt
 have hsz := hB0.size
 clear hm hY hJB hJA hJT hM hMW hR0 h0
 refine callsIn_of_wp Tryz.func155 rfl trivial ?_ rfl
 simp only [Tryz.ntmps155, List.size_toArray, List.length_cons, List.length_nil, Nat.reduceAdd, Nat.reduceSub, Array.replicate_succ, Array.replicate_zero, List.push_toArray, List.append_toArray, List.nil_append, List.cons_append]
 gi_wp2
 gi_loopw [6] (fun _ wr => ∃ done left, (done ++ left.map Prod.fst).Perm (m.map Prod.fst) ∧ Hid (RangeAt vRef vNote gRef wr mb W.heap.size m left) ∧ Hid (J done wr)) (fun _ wr => leftCount wr mb W.heap.size)
 case atStart => exact ⟨[], m, .refl _, HR0, HJ0⟩
 case round =>
  obtain ⟨done, left, hp, hR, hJ⟩ := hrel
  have hBr := HJB.out _ _ hJ.out
  have hcount := hR.out.count
  rcases hR.out.next (P := Tryz.prog) (by omega) 0 with ⟨hl0, hnx⟩ | ⟨l1, p, l2, w', hl, hnx, hR', hT, hen⟩
  ·subst hl0
   gi_wp2
   go_end0
   exact ⟨⟨_, rfl⟩, done, by simpa using hp, hJ.out⟩
  ·obtain ⟨r, v⟩ := p
   simp only at hnx hen
   have hlen : done.length < m.length := by
    have := hp.length_eq
    simp only [List.length_append, List.length_map, hl, List.length_cons] at this; omega
   have HJ' := Lib.hid (HJT.out _ _ _ _ hJ.out hsz hR.out.iter hT)
   have hHR' := Lib.hid hR'
   have hHb := HJB.out _ _ HJ'.out
   clear hR'
   gi_wp2_with (first
    | (refine wpListIn_store_box (BoxAt.newN (n := w'.heap.size) _ _ _ rfl) rfl 31 _ _ rfl rfl (.agg (encRef r)) rfl (by kernel_rfl) rfl (one_agg (encRef_one _)) ?_
       intro w5 hb5 hT5
       have hB5 : Below w'.heap.size w' w5 := ((Below.refl _ _).alloc (Nat.le_refl _) _).trans (hT5.below (Nat.le_refl _))
       have hbx5 := hb5.eqv (cs' := encRef r) (by simp [splice, encRef, Value.cells])
       obtain ⟨fn, tmps, assign, body, hy, hRd⟩ := HY.out done r w5 (HJA.out _ _ _ HJ'.out hB5) hlen
       simp only [vRef] at hy
       clear hb5 hT5)
    | (refine wpListIn_load_at rfl 31 _ rfl w'.heap.size 0 rfl (encRef r) _ hbx5.cells Tryz.underlying31 rfl (by kernel_rfl) ?_)
    | gi_in)
   refine hRd.mono ?_
   rintro e W3 ⟨rfl, hJ3, hkeep⟩
   have hB3 := HJB.out _ _ hJ3
   have hR5 := hHR'.out.below hB5 hHR'.out.map.lt hHR'.out.lt
   have hR3 : RangeAt vRef vNote gRef W3 mb W.heap.size m (l1 ++ l2) := hR5.of_block (((hB3.block mb hmb0)).trans (((hHb.trans (hB5.mono hHb.size)).block mb hmb0)).symm) (by
    obtain ⟨x, y, z, t, hx⟩ := hR5.iter
    exact (hkeep _ _ _ _ _ hx).trans hx.symm)
   have HR3 := Lib.hid hR3
   have HJ3 := Lib.hid hJ3
   have hc3 := hR3.count
   clear hR3 hJ3 hR5
   gi_wp2
   go_roundw
   case rel => exact ⟨done ++ [r], l1 ++ l2, by
     refine (List.Perm.trans ?_ hp)
     rw [hl, List.map_append, List.map_append, List.map_cons, List.append_assoc]
     exact (List.perm_append_left_iff done).2 (by simpa using (List.perm_middle (a := r) (l₁ := l1.map Prod.fst) (l₂ := l2.map Prod.fst)).symm), HR3, HJ3⟩
   case measure => rw [hc3, hcount, hl]; simp
theorem keys_Note (mb : Option Nat) (w : World) : Calls Tryz.prog 110 #[.map mb] w fun e w' => e = .returned (.func (.func 155) #[] #[.pointer (some ⟨w.heap.size, 0, none⟩)]) ∧ w' = w.alloc (.cells #[.map mb] 107) := by
 go_enter Tryz.func110, Tryz.ntmps110
 go_wp2
 go_ret
 exact ⟨rfl, rfl⟩
theorem appendKeysNote (n : Nat) (hn : 2 ≤ n) (Bm : Nat) (mb : Nat) (m : List (Ref × Note)) (w : World) (hMm : MapAt vRef vNote gRef w mb m) (hm : w.cell? ⟨Bm, 0, none⟩ = some (.map (some mb))) (hBm : Bm < w.heap.size) (hlen : m.length ≤ 1000000) :
  CallsIn Fence.wide n Tryz.prog 191 #[.slice none 0 0, .func (.func 155) #[] #[.pointer (some ⟨Bm, 0, none⟩)]] w fun e w' => ∃ v ys, e = .returned v ∧ ys.Perm (m.map Prod.fst) ∧ OwnL encRef 2 w' w.heap.size 31 v ys ∧ Below w.heap.size w w' := by
 have h1 : 1 ≤ n := by omega
 have eg : ∀ args w, (callFunc 155 args).run Tryz.prog w = .ok (.enter 155 args) w := enters_of Tryz.func155 (by kernel_rfl) rfl
 refine callsIn_of_wp_marks Tryz.func191 rfl trivial ?_ rfl
 simp only [Tryz.ntmps191, List.size_toArray, List.length_cons, List.length_nil, Nat.reduceAdd, Nat.reduceSub, Array.replicate_succ, Array.replicate_zero, List.push_toArray, List.append_toArray, List.nil_append, List.cons_append]
 gi_wp2
 refine wpIn_rangeFunc ?_
 intro fn hfn
 obtain ⟨W0, hW0⟩ : ∃ W0, w.alloc (.cells #[.slice none 0 0] 56) = W0 := ⟨_, rfl⟩
 have hs0 : W0.heap.size = w.heap.size + 1 := by rw [← hW0]; simp
 have hv0 : BoxAt W0 w.heap.size 56 #[.slice none 0 0] := by rw [← hW0]; exact BoxAt.new _ _ _
 have hb0 : Below w.heap.size w W0 := by rw [← hW0]; exact (Below.refl _ w).alloc (Nat.le_refl _) _
 rw [hW0]
 obtain ⟨W1, hW1⟩ : ∃ W1, (W0.alloc (.deferred (some []))).alloc (.loop (refRec fn (.func (.func 155) #[] #[.pointer (some ⟨Bm, 0, none⟩)]) w.heap.size W0.heap.size .ready none)) = W1 := ⟨_, rfl⟩
 have hB01 : Below W0.heap.size W0 W1 := by rw [← hW1]; exact ((Below.refl _ _).alloc (Nat.le_refl _) _).alloc (by simp) _
 have hb1 : Below w.heap.size w W1 := hb0.trans (hB01.mono hb0.size)
 have hs1 : W1.heap.size = W0.heap.size + 2 := by rw [← hW1]; simp
 have hM : RefAt w fn (.func (.func 155) #[] #[.pointer (some ⟨Bm, 0, none⟩)]) w.heap.size (W0.heap.size + 1) W0.heap.size [] W1 :=
  ⟨⟨_, hv0.belowAll hB01, OwnL.nil _ _ _ _ _⟩,
   by rw [← hW1]; have := World.alloc_heap_new (W0.alloc (.deferred (some []))) (.loop (refRec fn (.func (.func 155) #[] #[.pointer (some ⟨Bm, 0, none⟩)]) w.heap.size W0.heap.size .ready none)); rwa [World.size_alloc] at this,
   by rw [← hW1]; exact (Below.heap_alloc _ _ _ (by simp)).trans (World.alloc_heap_new W0 _), hb1⟩
 refine ⟨W0.heap.size + 1, [{ target := .collected W0.heap.size, args := #[] }], W1, { target := .fn (.func 155) #[.pointer (some ⟨Bm, 0, none⟩)], args := #[.func (.yield (W0.heap.size + 1)) #[] #[]] }, W1, 155,
  #[.func (.yield (W0.heap.size + 1)) #[] #[]] ++ #[.pointer (some ⟨Bm, 0, none⟩)], W1, ?_, ?_, ?_, ?_, fun _ => h1, ?_⟩
 ·rw [← hW1]; exact run_enterLoop_outer _ _ _ _ _
 ·simp [resolve, go_sem]
 ·intro f' hf'; trivial
 ·simp [invoke, go_sem, eg]
 ·refine (keys1_in (n - 1) (by omega) (W0.heap.size + 1) Bm mb m w W1 hMm hm hBm (RefAt w fn (.func (.func 155) #[] #[.pointer (some ⟨Bm, 0, none⟩)]) w.heap.size (W0.heap.size + 1) W0.heap.size) (fun xs W h => h.below) (fun xs W W' h hb => h.alloc hb) (fun xs W W' r h h0 hr hT => h.turnIter h0 hr hT)
   (fun pre x W hJ hl => refYield (n - 1 - 1) w fn _ w.heap.size (W0.heap.size + 1) W0.heap.size (by omega) (by omega) (by omega) (Nat.le_refl _) (by omega) pre x W hJ (by omega)) hM).mono ?_
  rintro e W2 ⟨⟨v0, rfl⟩, ys, hys, h2⟩
  obtain ⟨v, hv, hrow⟩ := h2.box
  have hend := run_endLoop (P := Tryz.prog) h2.L (by simp [refRec])
  obtain ⟨W3, hW3⟩ : ∃ W3, W2.putObj (W0.heap.size + 1) (.loop { refRec fn (.func (.func 155) #[] #[.pointer (some ⟨Bm, 0, none⟩)]) w.heap.size W0.heap.size .ready none with state := .exhausted }) = W3 := ⟨_, rfl⟩
  rw [hW3] at hend
  have hT3 : Turn (W0.heap.size + 1) W2 W3 := by rw [← hW3]; exact Turn.putObj
  have hv3 : BoxAt W3 w.heap.size 56 #[v] := hv.turn hT3 (by omega)
  have hK3 : W3.heap[W0.heap.size]? = some (.deferred (some [])) := (hT3.block _ (by omega)).trans h2.K
  have hrow3 := hrow.turn hT3 (hrow.ne h2.L (fun cur e => by cases e))
  have hb3 : Below w.heap.size w W3 := h2.below.trans (hT3.below (by omega))
  have hc3 : W3.cell? ⟨w.heap.size, 0, none⟩ = some v := (hv3.cell 0).trans rfl
  clear hW3
  refine ⟨none, W3, hend, ?_⟩
  gi_wp2
  rw [← hs0]
  have hT4 : Turn W0.heap.size W3 _ := Turn.putObj (o := .deferred none)
  refine ⟨by simp, .inl ⟨_, _, rfl, run_takeDeferred hK3, ?_⟩⟩
  exact ⟨_, results_tmp rfl _ _ _, v, ys, rfl, hys, hrow3.turn hT4 (hrow3.ne hK3 (fun cur e => by cases e)), hb3.trans (hT4.below (by omega))⟩
theorem collectKeysNote (Bm : Nat) (mb : Nat) (m : List (Ref × Note)) (w : World) (hMm : MapAt vRef vNote gRef w mb m) (hm : w.cell? ⟨Bm, 0, none⟩ = some (.map (some mb))) (hBm : Bm < w.heap.size) (hlen : m.length ≤ 1000000) :
  Calls Tryz.prog 153 #[.func (.func 155) #[] #[.pointer (some ⟨Bm, 0, none⟩)]] w fun e w' => ∃ v ys, e = .returned v ∧ ys.Perm (m.map Prod.fst) ∧ OwnL encRef 2 w' w.heap.size 31 v ys ∧ Below w.heap.size w w' := by
 have hA : Calls Tryz.prog 191 #[.slice none 0 0, .func (.func 155) #[] #[.pointer (some ⟨Bm, 0, none⟩)]] w fun e w' => ∃ v ys, e = .returned v ∧ ys.Perm (m.map Prod.fst) ∧ OwnL encRef 2 w' w.heap.size 31 v ys ∧ Below w.heap.size w w' := (callsIn_wide (n := 5)).1 (appendKeysNote 5 (by omega) Bm mb m w hMm hm hBm hlen)
 have HA := Lib.hid hA
 clear hA hMm hm hBm hlen
 go_enter Tryz.func153, Tryz.ntmps153
 go_wp2_with (go_at_call 191; refine HA.out.mono ?_; rintro e w1 ⟨v, ys, rfl, hys, ho, hb⟩)
 go_ret
 exact ⟨_, ys, rfl, hys, ho, hb⟩
theorem sortedKeysNote (Bm : Nat) (mb : Nat) (m : List (Ref × Note)) (w : World) (hMm : MapAt vRef vNote gRef w mb m) (hm : w.cell? ⟨Bm, 0, none⟩ = some (.map (some mb))) (hBm : Bm < w.heap.size) (hlen : m.length ≤ 1000000) :
  Calls Tryz.prog 109 #[.func (.func 155) #[] #[.pointer (some ⟨Bm, 0, none⟩)], .func (.func 40) #[] #[]] w fun e w' => ∃ v, e = .returned v ∧ OwnL encRef 2 w' w.heap.size 31 v (sortBy ltRef (m.map Prod.fst)) ∧ Below w.heap.size w w' := by
 have HA := Lib.hid (collectKeysNote Bm mb m w hMm hm hBm hlen)
 have hnd := hMm.nodup
 clear hMm hm hBm
 go_enter Tryz.func109, Tryz.ntmps109
 go_wp2_with (first
  | (go_at_call 153; refine HA.out.mono ?_; rintro e w1 ⟨v, ys, rfl, hys, ho, hb⟩; have hyl := hys.length_eq; rw [List.length_map] at hyl; have HP := Lib.hid hys; clear hys; have HO := Lib.hid ho; have HB := Lib.hid hb; clear ho hb)
  | (go_at_call 154; refine (ref_sort _ _ _ _ HO.out (by omega)).mono ?_; rintro e w2 ⟨rfl, ho2, hg2⟩))
 go_ret
 have hse : sortBy ltRef ys = sortBy ltRef (m.map Prod.fst) := up_eq (fun a _ b _ h1 h2 => ltRef_eq a b h1 h2) ((sortBy_perm ltRef ys).trans (HP.out.trans (sortBy_perm ltRef _).symm)) (sortBy_up ltRef_tr ltRef_as ys) (sortBy_up ltRef_tr ltRef_as _)
 rw [hse] at ho2
 exact ⟨_, rfl, ho2, HB.out.trans (Below.appended HO.out hg2 (Nat.le_refl _) HB.out.size)⟩
end Go.Proofs.YtendmmhfjhgdaaaGreat
end
section
set_option linter.unusedVariables false
set_option linter.unusedSimpArgs false
namespace Go.Proofs.YtendmmhfjhgdaaaGreat
open Go.RowKit
theorem listA_abs (m : List (Ref × Note)) : listA (absMap m) = (sortBy ltRef (m.map Prod.fst)).map fun r => ((aget m r).getD zNote).abs := by
 unfold listA
 have h1 : (absMap m).map Prod.fst = m.map Prod.fst := by simp [absMap, List.map_map, Function.comp_def]
 rw [h1]
 refine List.map_congr_left fun r _ => ?_
 rw [aget_absMap]
 cases aget m r <;> rfl
theorem listed_any (D : Nat → Prop) (mb : Nat) (m : List (Ref × Note)) (w : World) (hM : MapAt vRef vNote gRef w mb m) (hok : ∀ p ∈ m, okNote D w p.2) (hlen : m.length ≤ 1000) :
  Calls Tryz.prog 55 #[.map (some mb)] w fun e w' => ∃ s1 : Sl Note, e = .returned s1.v ∧ s1.val.map Note.abs = listA (absMap m) ∧ Sl.OK 29 encNote okNote (Old w.heap.size) w' s1 ∧ Below w.heap.size w w' := by
 rw [listA_abs]
 have hlt := hM.lt
 have hperm := sortBy_perm ltRef (m.map Prod.fst)
 have hgood := hM.good
 have hnd := hM.nodup
 have hsk := sortedKeysNote w.heap.size mb m (w.alloc (.cells #[.map (some mb)] 107)) (hM.alloc _) (((BoxAt.new w 107 #[.map (some mb)]).cell 0).trans rfl) (by simp) (by omega)
 generalize sortBy ltRef (m.map Prod.fst) = rs at hperm hsk
 have hrl : rs.length = m.length := by have := hperm.length_eq; rwa [List.length_map] at this
 have hrs : rs.length ≤ 1000 := by omega
 have HIN : Hid (∀ r ∈ rs, gRef r ∧ okNote D w ((aget m r).getD zNote)) := Lib.hid fun r hr => by
  obtain ⟨p, hp, rfl⟩ := List.mem_map.1 (hperm.mem_iff.1 hr)
  rw [aget_of_mem hnd hp]
  exact ⟨hgood p hp, hok p hp⟩
 have HSK : Hid (Calls Tryz.prog 109 #[.func (.func 155) #[] #[.pointer (some ⟨w.heap.size, 0, none⟩)], .func (.func 40) #[] #[]] (w.alloc (.cells #[.map (some mb)] 107)) fun e w' => ∃ a c, e = .returned (.slice a rs.length c) ∧ Sl.OK 2 encRef okRef (fun _ => False) w' ⟨a, c, rs⟩ ∧ Below w.heap.size w w') := Lib.hid (by
  refine hsk.mono fun e w' ⟨v, he, ho, hb⟩ => ?_
  obtain ⟨⟨a, c, rs'⟩, e1, e2, o, _⟩ := ho.sl (fun _ => rfl) okRef (fun _ => False) (fun r hr => (HIN.out r hr).1) (fun _ _ h => h) (by omega)
  simp only at e2
  subst e2
  exact ⟨a, c, by rw [he, e1]; rfl, o, ((Below.refl _ _).alloc (Nat.le_refl _) _).trans (hb.mono (by simp))⟩)
 have HMA := Lib.hid hM
 clear hM hok hperm hgood hnd hsk hrl hlen
 go_enter Tryz.func55, Tryz.ntmps55
 go_wp2_with (first
  | (go_at_call 110; (with_reducible refine (keys_Note _ _).mono ?_); rintro e w1 ⟨rfl, rfl⟩)
  | (go_at_call 109; (with_reducible refine HSK.out.mono ?_); rintro e w2 ⟨a, c, rfl, o2, hb2⟩; have HS := Lib.hid o2; have hsz2 := hb2.size; have HM2 := Lib.hid (HMA.out.below hb2 hlt); have HB2 := Lib.hid hb2; clear o2 hb2))
 go_loopw [3, 10] (fun v i wr => ∃ (k : Nat) (outs : List Note), k ≤ rs.length ∧ i = .int .i64 k ∧ Hid (outs.length = k) ∧ Hid (outs.map Note.abs = (rs.take k).map fun r => ((aget m r).getD zNote).abs) ∧ Hid (∀ p ∈ outs, okNote (fun q => q < w2.heap.size ∨ v.ownBlock = some q) wr p) ∧ Hid (OwnL encNote 29 wr w2.heap.size 40 v outs) ∧ Below w2.heap.size w2 wr) (fun _ i _ => rs.length - (intOf i).toNat)
 case atStart => exact ⟨0, [], Nat.zero_le _, rfl, Lib.hid rfl, Lib.hid (by simp), Lib.hid (by simp), Lib.hid (OwnL.nil _ _ _ _ _), Below.refl _ _⟩
 case round =>
  obtain ⟨k, outs, hk, rfl, HL, HA, HO, HOL, hB⟩ := hrel
  have hBs := hB.size
  by_cases hlt3 : k < rs.length
  ·obtain ⟨x, hx⟩ : ∃ x, rs[k]? = some x := ⟨_, List.getElem?_eq_getElem hlt3⟩
   obtain ⟨b, o, rfl, hb, _, _, hcell⟩ := HS.out.at hx
   have HC : Hid (∀ j, j < (encRef x).size → wr.cell? ⟨b, o + k * 2 + j, none⟩ = (encRef x)[j]?) := Lib.hid fun j hj => by rw [hB.cell (p := ⟨b, o + k * 2 + j, none⟩) hb]; exact hcell j hj
   have hi1 : (k : Int) < (rs.length : Int) := by omega
   have hxin := HIN.out x (List.mem_of_getElem? hx)
   obtain ⟨n, hn⟩ : ∃ n, (aget m x).getD zNote = n := ⟨_, rfl⟩
   rw [hn] at hxin
   have HN := Lib.hid hn
   have hgx := Lib.hid hxin.1
   have HX := Lib.hid hx
   have hbX : BoxAt (wr.alloc (.cells (encRef x) 31)) wr.heap.size 31 (encRef x) := BoxAt.new _ _ _
   have hBw : Below wr.heap.size wr (wr.alloc (.cells (encRef x) 31)) := (Below.refl _ _).alloc (Nat.le_refl _) _
   have HM5 : Hid (MapAt vRef vNote gRef (wr.alloc (.cells (encRef x) 31)) mb m) := Lib.hid ((HM2.out.below hB HM2.out.lt).alloc _)
   have HOKN : Hid (okNote D (wr.alloc (.cells (encRef x) 31)) n) := Lib.hid (okNote.ext hxin.2 (.of_below ((HB2.out.trans (hB.mono hsz2)).alloc (Nat.le_trans hsz2 hBs) _)))
   clear hx hn hxin hcell hb
   go_wp2_with (first
    | ((with_reducible refine at_dst 13 ?_); refine wpList_load_at rfl 31 _ rfl b (o + k * 2) rfl (encRef x) _ HC.out Tryz.underlying31 rfl (by kernel_rfl) ?_)
    | ((with_reducible refine at_store ?_); refine wpList_store_last (cs := encRef x) rfl 31 _ _ rfl rfl rfl rfl (by kernel_rfl) rfl (encRef_one _) ?_)
    | ((with_reducible refine at_dst 16 ?_); refine wpList_loadB hbX rfl 31 _ rfl rfl (encRef x) (whole_cells _) Tryz.underlying31 rfl (by kernel_rfl) ?_)
    | ((with_reducible refine at_dst 17 ?_); refine wpList_look rfl _ _ 107 rfl refKey Tryz.underlying107 zNote (zeroNote _) rfl HM5.out x hgx.out rfl ?_; rw [HN.out])
    | (go_at_call 83; refine (copied_any D n _ HOKN.out).mono ?_; rintro e w4 ⟨y, rfl, ly, oy, hb4⟩; have LY := Lib.hid ly; clear ly; have hBw4 := Below.call hBw hb4 (Nat.le_refl _); have hS4 : wr.heap.size ≤ w4.heap.size := hBw4.size)
    | ((with_reducible refine at_dst 20 ?_); refine wpList_append_oneAt rfl _ _ 22 rfl w2.heap.size einfo_Note (fun _ => rfl) (by decide) encNote_one (by decide) _ _ rfl ((HOL.out.belowAll hBw4).belowAll ((Below.refl _ _).alloc (Nat.le_refl _) _)) w4.heap.size 0 1 y rfl (cells_of_eq (buildNote y)) (by have := HL.out; omega) (Nat.le_trans hBs (Nat.le_trans hS4 (by simp))) ?_; intro v5 w5 hoO5 hg hne hat))
   go_roundw
   case rel =>
    have HL4 := HOL.out.belowAll hBw4
    have hb5 := app_below (n := w2.heap.size) HL4 hg (Nat.le_refl _) (Nat.le_trans hBs hS4)
    have hBf : Below w2.heap.size w2 w5 := (hB.trans (hBw4.mono hBs)).trans hb5
    have hvb : ∀ q, u3.ownBlock = some q → q < wr.heap.size := fun q hq => (HOL.out.block q hq).2
    have hsz5 : w4.heap.size ≤ w5.heap.size := hb5.size
    refine ⟨k + 1, outs ++ [y], by omega, by go_num, Lib.hid (by rw [List.length_append, HL.out]; rfl), Lib.hid (by rw [take_snoc HX.out, List.map_append, List.map_append, HA.out]; simp [HN.out, LY.out]), Lib.hid (fun p hp => ?_), Lib.hid hoO5, hBf⟩
    rcases List.mem_append.1 hp with hp | hp
    ·refine okNote_step (HO.out p hp) (fun q hq hn => ?_) (Nat.le_trans hS4 hsz5) (fun q hq => ?_)
     ·rw [app_keep hg (Nat.lt_of_lt_of_le hq hS4) (fun e => hn (.inr e))]; exact hBw4.block q hq
     ·rcases hq with hq | hq
      ·exact .inl (.inl hq)
      ·rcases hat with h | h
       ·exact .inl (.inr (h.symm.trans hq))
       ·rw [h] at hq; simp only [World.size_alloc, Option.some.injEq] at hq; exact .inr (by omega)
    ·simp only [List.mem_singleton] at hp; subst hp
     refine okNote_step oy (fun q hq hn => ?_) hsz5 (fun q hq => ?_)
     ·refine app_keep hg hq (fun e => hn ?_); have h1 := hvb q e; exact Nat.lt_of_lt_of_le h1 (by simp)
     ·rcases hq with hq | hq
      ·exact .inl (Nat.lt_of_lt_of_le hq (Nat.le_trans hBs (by simp)))
      ·rcases hat with h | h
       ·exact .inl (Nat.lt_of_lt_of_le (hvb q (h.symm.trans hq)) (by simp))
       ·rw [h] at hq; simp only [World.size_alloc, Option.some.injEq] at hq; exact .inr (by omega)
   case measure => simp [intOf]; omega
  ·have hk3 : k = rs.length := by omega
   go_wp2
   go_ret
   obtain ⟨s1, e1, l1, o1⟩ := HOL.out.slOld (n := w.heap.size) (fun _ => rfl) okNote hsz2 (fun p hp => okNote.mono (HO.out p hp) (fun q hq => .inl (Nat.lt_of_lt_of_le hq hsz2))) (by have := HL.out; omega)
   exact ⟨s1, by rw [e1]; rfl, by have h := HA.out; rw [hk3, List.take_length] at h; rw [l1]; exact h, o1, HB2.out.trans (hB.mono hsz2)⟩
end Go.Proofs.YtendmmhfjhgdaaaGreat
end
section
set_option linter.unusedVariables false
set_option linter.unusedSimpArgs false
namespace Go.Proofs.YtendmmhfjhgdaaaGreat
open Go.RowKit
theorem at_storeM (k : Nat) {P : Program} {ops : Array Oper} {rest : List Oper} {tt : TypeId} {y : Operand} {ty : TypeId} {pos : String} {af : Array Edge} {g : Option (Nat × Bool)} {a : Act} {w : World} {Q : Exit → Act → World → Prop}
  (h : wpList P ops Q (⟨none, .store tt (.tmp k) y, ty, pos, af, g⟩ :: rest) a w) : wpList P ops Q (⟨none, .store tt (.tmp k) y, ty, pos, af, g⟩ :: rest) a w := h
theorem mergeFrom_snoc : ∀ (l : List NoteA) (m m1 : List (Ref × NoteA)) (x : NoteA), mergeFrom m l = some m1 → mergeFrom m (l ++ [x]) = mergeStep m1 x
 | [], m, m1, x, h => by
  simp only [mergeFrom, Option.some.injEq] at h; subst h
  simp only [List.nil_append, mergeFrom]
  cases mergeStep m x <;> rfl
 | n :: r, m, m1, x, h => by
  simp only [mergeFrom, List.cons_append] at h ⊢
  cases hs : mergeStep m n with
  | none => rw [hs] at h; cases h
  | some m' => rw [hs] at h; exact mergeFrom_snoc r m' m1 x h
theorem mergeFrom_stop : ∀ (l r : List NoteA) (m : List (Ref × NoteA)), mergeFrom m l = none → mergeFrom m (l ++ r) = none
 | [], r, m, h => by simp [mergeFrom] at h
 | n :: l, r, m, h => by
  simp only [mergeFrom, List.cons_append] at h ⊢
  cases hs : mergeStep m n with
  | none => rfl
  | some m' => rw [hs] at h; exact mergeFrom_stop l r m' h
theorem merge_abs (m : List (Ref × Note)) (x old : Note) (hold : (aget m (refN x)).getD zNote = old) :
  mergeStep (absMap m) x.abs = if (ahas m (refN x) && !decide (old.abs = x.abs)) = true then none else some (absMap (aput m (refN x) x)) := by
 unfold mergeStep
 rw [abs_name, ahas_absMap, aget_absMap, aput_absMap]
 by_cases hk : ahas m (refN x) = true
 ·obtain ⟨y, hy⟩ := Option.isSome_iff_exists.1 ((aget_isSome m (refN x)).trans hk)
  rw [hy] at hold ⊢
  simp only [Option.getD_some] at hold
  subst hold
  simp [hk]
 ·simp [hk]
theorem merge_take {L : List Note} {k : Nat} {x : Note} (hx : L[k]? = some x) {m1 : List (Ref × NoteA)} (h : mergeFrom [] ((L.take k).map Note.abs) = some m1) : mergeFrom [] ((L.take (k + 1)).map Note.abs) = mergeStep m1 x.abs := by
 rw [take_snoc hx, List.map_append]; exact mergeFrom_snoc _ _ _ _ h
theorem merge_stops {L : List Note} {k : Nat} (h : mergeFrom [] ((L.take k).map Note.abs) = none) : mergeM (L.map Note.abs) = none := by
 have h1 := mergeFrom_stop ((L.take k).map Note.abs) ((L.drop k).map Note.abs) [] h
 rw [← List.map_append, List.take_append_drop] at h1; exact h1
theorem mergeA_no1 {A B : List NoteA} (h : ¬ SetA A) : mergeA A B = ([], 1) := by unfold mergeA; rw [if_neg fun k => h k.1]
theorem mergeA_no2 {A B : List NoteA} (h : ¬ SetA B) : mergeA A B = ([], 1) := by unfold mergeA; rw [if_neg fun k => h k.2]
theorem mergeA_yes {A B : List NoteA} (h : SetA A) (k : SetA B) : mergeA A B = unionA (A ++ B) := by unfold mergeA; rw [if_pos ⟨h, k⟩]
theorem absMap_len (m : List (Ref × Note)) : (absMap m).length = m.length := by simp [absMap]
theorem aput_len {κ ν : Type} [DecidableEq κ] (m : List (κ × ν)) (k : κ) (v : ν) : (aput m k v).length ≤ m.length + 1 := by
 unfold aput; split <;> simp
theorem merge_any (D : Nat → Prop) (s t : Sl Note) (w : World) (hs : s.OK 29 encNote okNote D w) (ht : t.OK 29 encNote okNote D w) (hl1 : s.val.length ≤ 500) (hl2 : t.val.length ≤ 500) :
  Calls Tryz.prog 22 #[.slice s.a s.val.length s.cap, .slice t.a t.val.length t.cap] w fun e w' => ∃ s1 : Sl Note, e = .returned (.tuple #[s1.v, .int .i64 (mergeA (s.val.map Note.abs) (t.val.map Note.abs)).2]) ∧
   s1.val.map Note.abs = (mergeA (s.val.map Note.abs) (t.val.map Note.abs)).1 ∧ Sl.OK 29 encNote okNote (Old w.heap.size) w' s1 ∧ Below w.heap.size w w' := by
 obtain ⟨a, cap, val⟩ := s
 obtain ⟨a2, cap2, val2⟩ := t
 simp only at hl1 hl2
 have HS1 : Hid (∀ W, Below w.heap.size w W → Calls Tryz.prog 46 #[.slice a val.length cap] W fun e w' => e = .returned (.bool (isSetB val)) ∧ Below W.heap.size W w') := Lib.hid fun W hW => isSet_any D ⟨a, cap, val⟩ W (hs.ext (w := w) (fun _ h => okNote.ext h (.of_below hW)) (.of_below hW))
 have HS2 : Hid (∀ W, Below w.heap.size w W → Calls Tryz.prog 46 #[.slice a2 val2.length cap2] W fun e w' => e = .returned (.bool (isSetB val2)) ∧ Below W.heap.size W w') := Lib.hid fun W hW => isSet_any D ⟨a2, cap2, val2⟩ W (ht.ext (w := w) (fun _ h => okNote.ext h (.of_below hW)) (.of_below hW))
 have HNIL : Hid (∀ w', Sl.OK 29 encNote okNote (Old w.heap.size) w' Sl.nil) := Lib.hid fun w' => Sl.OK.nil _ _ _ _ _
 rcases h1 : isSetB val
 case false =>
  have HN : Hid (mergeA (val.map Note.abs) (val2.map Note.abs) = ([], 1)) := Lib.hid (mergeA_no1 fun h => by rw [(isSetB_iff val).2 h] at h1; cases h1)
  simp only [h1] at HS1
  clear hs ht
  go_enter Tryz.func22, Tryz.ntmps22
  go_wp2_with (go_at_call 46; (with_reducible refine (HS1.out _ (Below.refl _ _)).mono ?_); rintro e w1 ⟨rfl, hb1⟩)
  refine bodyPost_ret (v := .tuple #[.slice none 0 0, .int .i64 1]) (by simp [results, Tryz.results22, go_sem]) rfl ?_
  exact ⟨Sl.nil, by rw [HN.out]; rfl, by rw [HN.out]; rfl, HNIL.out _, hb1⟩
 rcases h2 : isSetB val2
 case false =>
  have HN : Hid (mergeA (val.map Note.abs) (val2.map Note.abs) = ([], 1)) := Lib.hid (mergeA_no2 fun h => by rw [(isSetB_iff val2).2 h] at h2; cases h2)
  simp only [h1] at HS1
  simp only [h2] at HS2
  clear hs ht
  go_enter Tryz.func22, Tryz.ntmps22
  go_wp2_with (first
   | (go_at_call 46; (with_reducible refine (HS1.out _ (Below.refl _ _)).mono ?_); rintro e w1 ⟨rfl, hb1⟩)
   | (go_at_call 46; (with_reducible refine (HS2.out _ hb1).mono ?_); rintro e w2 ⟨rfl, hb2⟩; have hB2 := Below.call hb1 hb2 (Nat.le_refl _)))
  refine bodyPost_ret (v := .tuple #[.slice none 0 0, .int .i64 1]) (by simp [results, Tryz.results22, go_sem]) rfl ?_
  exact ⟨Sl.nil, by rw [HN.out]; rfl, by rw [HN.out]; rfl, HNIL.out _, hB2⟩
 have HY := Lib.hid (mergeA_yes ((isSetB_iff val).1 h1) ((isSetB_iff val2).1 h2))
 simp only [h1] at HS1
 simp only [h2] at HS2
 obtain ⟨L, hL⟩ : ∃ L, L = val ++ val2 := ⟨_, rfl⟩
 have hLl : L.length ≤ 1000 := by rw [hL, List.length_append]; omega
 have HLL : Hid (val.map Note.abs ++ val2.map Note.abs = L.map Note.abs) := Lib.hid (by rw [hL, List.map_append])
 have HCC : Hid (∀ W, Below w.heap.size w W → Calls Tryz.prog 53 #[.slice (some ⟨W.heap.size + 1, 0, none⟩) 2 2] ((W.alloc (.map #[] 0)).alloc (.cells #[.slice a val.length cap, .slice a2 val2.length cap2] 22)) fun e w' => ∃ la lc, e = .returned (.slice la L.length lc) ∧ Sl.OK 29 encNote okNote (fun q => q = W.heap.size) w' ⟨la, lc, L⟩ ∧ Below (W.heap.size + 1) (W.alloc (.map #[] 0)) w') := Lib.hid fun W hW => by
  have hb0 : Below W.heap.size W ((W.alloc (.map #[] 0)).alloc (.cells #[.slice a val.length cap, .slice a2 val2.length cap2] 22)) := ((Below.refl _ _).alloc (Nat.le_refl _) _).alloc (by simp) _
  have hx0 : Ext D w ((W.alloc (.map #[] 0)).alloc (.cells #[.slice a val.length cap, .slice a2 val2.length cap2] 22)) := .of_below (hW.trans (hb0.mono hW.size))
  have h0 : Below (W.heap.size + 1) (W.alloc (.map #[] 0)) ((W.alloc (.map #[] 0)).alloc (.cells #[.slice a val.length cap, .slice a2 val2.length cap2] 22)) := (Below.refl _ _).alloc (by simp) _
  refine (concat_Note D (W.heap.size + 1) 0 2 [⟨a, cap, val⟩, ⟨a2, cap2, val2⟩] _ (by simp) ?_ ?_ (by simp) (by simp [lens]; omega)).mono ?_
  ·have hc := (BoxAt.new (W.alloc (.map #[] 0)) 22 #[.slice a val.length cap, .slice a2 val2.length cap2])
   rw [World.size_alloc] at hc
   intro i q hq
   rw [Nat.zero_add]
   refine (hc.cell i).trans ?_
   rcases i with _ | _ | i
   ·simp at hq; subst hq; rfl
   ·simp at hq; subst hq; rfl
   ·simp at hq
  ·intro q hq
   rcases List.mem_cons.1 hq with rfl | hq
   ·exact hs.ext (w := w) (fun _ h => okNote.ext h hx0) hx0
   ·rw [List.mem_singleton.1 hq]
    exact ht.ext (w := w) (fun _ h => okNote.ext h hx0) hx0
  ·rintro e w' ⟨v, rfl, ho, hb⟩
   have hfl : ([⟨a, cap, val⟩, ⟨a2, cap2, val2⟩] : List (Sl Note)).flatMap (fun s => s.val) = L := by rw [hL]; simp
   rw [hfl] at ho
   have hx1 : Ext D w w' := hx0.trans (.of_below hb)
   obtain ⟨⟨la, lc, L'⟩, e1, e2, o2, _⟩ := ho.sl (fun _ => rfl) okNote (fun q => q = W.heap.size) (fun x hx => by
    refine okNote.ext ?_ ((Ext.of_below (hW.trans (hb0.mono hW.size))).trans (.of_below hb))
    refine okNote.mono (okNote_wide (D := D) ?_) (fun q hq => ?_)
    ·rw [hL] at hx
     rcases List.mem_append.1 hx with hx | hx
     ·exact hs.elem x hx
     ·exact ht.elem x hx
    ·exact .inr (by rw [hq]; exact hW.size)) (fun q hq he => by simp only [World.size_alloc] at hq; omega) (by omega)
   simp only at e2
   subst e2
   exact ⟨la, lc, by rw [e1]; rfl, o2, h0.trans (hb.mono (by simp))⟩
 clear hs ht hL
 have hmm := @run_makeMap Tryz.prog
 go_enter Tryz.func22, Tryz.ntmps22
 go_wp2_with (first
  | (go_at_call 46; (with_reducible refine (HS1.out _ (Below.refl _ _)).mono ?_); rintro e w1 ⟨rfl, hb1⟩)
  | (go_at_call 46; (with_reducible refine (HS2.out _ hb1).mono ?_); rintro e wq ⟨rfl, hb2⟩; have hBq := Below.call hb1 hb2 (Nat.le_refl _); have hsq := hBq.size)
  | (go_at_call 53; refine (HCC.out wq hBq).mono ?_; rintro e w2 ⟨la, lc, rfl, o2, hb2⟩; have HS := Lib.hid o2; have HB2 := Lib.hid hb2; have HM2 := Lib.hid ((MapAt.made vRef vNote gRef wq).below hb2 (Nat.lt_succ_self _)); clear o2 hb2))
 clear hmm
 have hB20 : Below w.heap.size w w2 := (hBq.alloc hsq _).trans (HB2.out.mono (by omega))
 go_loopw [25] (fun i wr => ∃ (k : Nat) (m : List (Ref × Note)), k ≤ L.length ∧ i = .int .i64 k ∧ Hid (mergeFrom [] ((L.take k).map Note.abs) = some (absMap m)) ∧ Hid (∀ p ∈ m, p.2 ∈ L) ∧ Hid (m.length ≤ k) ∧ Hid (MapAt vRef vNote gRef wr wq.heap.size m) ∧ Hid (Ext (fun q => q = wq.heap.size) w2 wr) ∧ Below w.heap.size w wr) (fun i _ => L.length - (intOf i).toNat)
 case atStart => exact ⟨0, [], Nat.zero_le _, rfl, Lib.hid (by simp [mergeFrom, absMap]), Lib.hid (by simp), Lib.hid (by simp), HM2, Lib.hid (Ext.refl _ _), hB20⟩
 case round =>
  obtain ⟨k, m, hk, rfl, HF, HI, HLM, HM, HE, hB⟩ := hrel
  have hBs := hB.size
  have hNl : wq.heap.size < wr.heap.size := HM.out.lt
  by_cases hlt : k < L.length
  ·obtain ⟨x, hx⟩ : ∃ x, L[k]? = some x := ⟨_, List.getElem?_eq_getElem hlt⟩
   obtain ⟨b, o, rfl, hb, hnd, hok, hcell⟩ := HS.out.at hx
   have HC : Hid (∀ j, j < (encNote x).size → wr.cell? ⟨b, o + k * 29 + j, none⟩ = (encNote x)[j]?) := Lib.hid fun j hj => (HE.out.cell hb hnd _).trans (hcell j hj)
   have HOX : Hid (okNote (fun q => q = wq.heap.size) wr x) := Lib.hid (okNote.ext hok HE.out)
   have hi1 : (k : Int) < (L.length : Int) := by omega
   have HX := Lib.hid hx
   have hgx := Lib.hid (okNote_name hok)
   obtain ⟨old, hold⟩ : ∃ old, (aget m (refN x)).getD zNote = old := ⟨_, rfl⟩
   have HOLD := Lib.hid hold
   have hbX : BoxAt (wr.alloc (.cells (encNote x) 40)) wr.heap.size 40 (encNote x) := BoxAt.new _ _ _
   have hBw : Below wr.heap.size wr (wr.alloc (.cells (encNote x) 40)) := (Below.refl _ _).alloc (Nat.le_refl _) _
   have HM1 : Hid (MapAt vRef vNote gRef (wr.alloc (.cells (encNote x) 40)) wq.heap.size m) := Lib.hid (HM.out.alloc _)
   clear hx hold hok hcell hb hnd
   rcases hkn : ahas m (refN x)
   case false =>
    go_wp2_with (first
     | ((with_reducible refine at_dst 28 ?_); refine wpList_load_at rfl 40 _ rfl b (o + k * 29) rfl (encNote x) _ HC.out Tryz.underlying40 rfl (by kernel_rfl) ?_)
     | ((with_reducible refine at_storeM 8 ?_); refine wpList_store_last (cs := encNote x) rfl 40 _ _ rfl rfl rfl rfl (by kernel_rfl) rfl (encNote_one _) ?_)
     | ((with_reducible refine at_dst 31 ?_); refine wpList_loadB hbX rfl 40 _ rfl rfl (encNote x) (whole_cells _) Tryz.underlying40 rfl (by kernel_rfl) ?_)
     | (go_at_call 41; (with_reducible refine (refOf_any x _).mono ?_); rintro e w3 ⟨rfl, hb3⟩; have hB3 := Below.call hBw hb3 (Nat.le_refl _); have hbX := hbX.belowAll hb3; have HM3 := Lib.hid (HM1.out.below hb3 HM1.out.lt))
     | ((with_reducible refine at_dst 33 ?_); refine wpList_lookok rfl _ _ 107 rfl refKey Tryz.underlying107 zNote (zeroNote _) rfl HM3.out (refN x) hgx.out rfl ?_; rw [HOLD.out, hkn])
     | ((with_reducible refine at_storeM 9 ?_); refine wpList_store_last (cs := encNote old) rfl 40 _ _ rfl (by simp) rfl rfl (by kernel_rfl) rfl (encNote_one _) ?_))
    have hbX : BoxAt (w3.alloc (.cells (encNote old) 40)).drew wr.heap.size 40 (encNote x) := (hbX.alloc _).drew
    have hmP : MapAt vRef vNote gRef (w3.alloc (.cells (encNote old) 40)).drew wq.heap.size m := (HM3.out.alloc _).of_block rfl
    have hBR : Below wr.heap.size wr (w3.alloc (.cells (encNote old) 40)).drew := (hB3.alloc hB3.size _).drew
    refine wp_region_mark 4 [(0, none), (1, some true), (3, some true), (2, some false), (4, some false)] rfl (by kernel_rfl) (by kernel_rfl) (fun d _ _ _ _ h => by cases d <;> exact h) ?_
    refine wpC_pure rfl rfl (fun W => by go_simp; with_reducible rfl) ?_; simp only [pTs, pTn, pTz, pTc]
    iterate 2 (refine wpC_fix (v := .agg (encNote x)) rfl rfl (fun W hW => run_load_box (encNote x) (hbX.belowAll hW) rfl (whole_cells _) Tryz.underlying40 rfl (by kernel_rfl)) ?_; simp only [pTs, pTn, pTz, pTc])
    refine wpC_act rfl rfl rfl (fun K hK => ?_)
    go_simp
    refine (refOf_any x _).mono ?_
    rintro e w6 ⟨rfl, hb6⟩
    have hBR := Below.call hBR hb6 (Nat.le_refl _)
    have hbX := hbX.belowAll hb6
    have hmP := hmP.below hb6 hmP.lt
    refine hK _ _ hb6 ?_
    clear hK K
    try simp only [pTs, pTn, pTz, pTc]
    refine wpC_mark rfl rfl (fun K hK => ?_)
    refine wp_store_map _ _ _ _ rfl refKey Tryz.underlying107 rfl hmP (refN x) hgx.out rfl x rfl ?_
    intro w7 hm7 hT
    refine hK _ _ ?_
    clear hK K
    try simp only [pTs, pTn, pTz, pTc]
    simp only [wpC]
    have hBR7 : Below w.heap.size w w7 := (hB.trans (hBR.mono hBs)).trans (hT.below hsq)
    have hE7 : Ext (fun q => q = wq.heap.size) wr w7 := (Ext.of_below hBR).trans ⟨Nat.le_of_eq hT.size.symm, fun q _ hq => hT.block q hq⟩
    have HM7 := Lib.hid hm7
    clear hm7 hmP
    go_wp2
    go_roundw
    case rel => exact ⟨k + 1, aput m (refN x) x, by omega, by go_num, Lib.hid (by rw [merge_take HX.out HF.out, merge_abs m x old HOLD.out, if_neg (by simp [hkn])]), Lib.hid (fun p hp => by rcases mem_aput hp with rfl | hp; exact List.mem_of_getElem? HX.out; exact HI.out p hp), Lib.hid (by have h1 := aput_len m (refN x) x; have h2 := HLM.out; omega), HM7, Lib.hid (HE.out.trans hE7), hBR7⟩
    case measure => simp [intOf]; omega
   case true =>
    have HOO : Hid (okNote (fun q => q = wq.heap.size) wr old) := Lib.hid (by
     obtain ⟨y, hy⟩ := Option.isSome_iff_exists.1 ((aget_isSome m (refN x)).trans hkn)
     have h := HOLD.out
     rw [hy] at h
     simp only [Option.getD_some] at h
     subst h
     exact okNote.ext (HS.out.elem _ (HI.out _ (mem_of_aget hy))) HE.out)
    have HSN : Hid (∀ W, Below wr.heap.size wr W → Calls Tryz.prog 54 #[.agg (encNote old), .agg (encNote x)] W fun e w' => e = .returned (.bool (decide (old.abs = x.abs))) ∧ Below W.heap.size W w') := Lib.hid fun W hW =>
     sameNote_any _ old x W (okNote.ext HOO.out (.of_below hW)) (okNote.ext HOX.out (.of_below hW))
    by_cases hsm : old.abs = x.abs
    ·simp only [hsm, decide_true] at HSN
     have HSM := Lib.hid hsm
     clear hsm
     go_wp2_with (first
     | ((with_reducible refine at_dst 28 ?_); refine wpList_load_at rfl 40 _ rfl b (o + k * 29) rfl (encNote x) _ HC.out Tryz.underlying40 rfl (by kernel_rfl) ?_)
     | ((with_reducible refine at_storeM 8 ?_); refine wpList_store_last (cs := encNote x) rfl 40 _ _ rfl rfl rfl rfl (by kernel_rfl) rfl (encNote_one _) ?_)
     | ((with_reducible refine at_dst 31 ?_); refine wpList_loadB hbX rfl 40 _ rfl rfl (encNote x) (whole_cells _) Tryz.underlying40 rfl (by kernel_rfl) ?_)
     | (go_at_call 41; (with_reducible refine (refOf_any x _).mono ?_); rintro e w3 ⟨rfl, hb3⟩; have hB3 := Below.call hBw hb3 (Nat.le_refl _); have hbX := hbX.belowAll hb3; have HM3 := Lib.hid (HM1.out.below hb3 HM1.out.lt))
     | ((with_reducible refine at_dst 33 ?_); refine wpList_lookok rfl _ _ 107 rfl refKey Tryz.underlying107 zNote (zeroNote _) rfl HM3.out (refN x) hgx.out rfl ?_; rw [HOLD.out, hkn])
     | ((with_reducible refine at_storeM 9 ?_); refine wpList_store_last (cs := encNote old) rfl 40 _ _ rfl (by simp) rfl rfl (by kernel_rfl) rfl (encNote_one _) ?_)
     | ((with_reducible refine at_dst 38 ?_); refine wpList_loadB (BoxAt.new _ _ _) rfl 40 _ rfl rfl (encNote old) (whole_cells _) Tryz.underlying40 rfl (by kernel_rfl) ?_)
     | ((with_reducible refine at_dst 39 ?_); refine wpList_loadB (hbX.alloc _) rfl 40 _ rfl rfl (encNote x) (whole_cells _) Tryz.underlying40 rfl (by kernel_rfl) ?_)
     | (go_at_call 54; (with_reducible refine (HSN.out _ (hB3.alloc hB3.size _)).mono ?_); rintro e w5 ⟨rfl, hb5⟩))
     have hb35 : Below wr.heap.size wr w5 := Below.call (hB3.alloc hB3.size _) hb5 (Nat.le_refl _)
     have hbX : BoxAt w5.drew wr.heap.size 40 (encNote x) := ((hbX.alloc _).belowAll hb5).drew
     have hmP : MapAt vRef vNote gRef w5.drew wq.heap.size m := ((HM3.out.alloc _).below hb5 ((HM3.out.alloc _).lt)).of_block rfl
     have hBR : Below wr.heap.size wr w5.drew := hb35.drew
     refine wp_region_mark 4 [(0, none), (1, some true), (3, some true), (2, some false), (4, some false)] rfl (by kernel_rfl) (by kernel_rfl) (fun d _ _ _ _ h => by cases d <;> exact h) ?_
     refine wpC_pure rfl rfl (fun W => by go_simp; with_reducible rfl) ?_; simp only [pTs, pTn, pTz, pTc]
     iterate 2 (refine wpC_fix (v := .agg (encNote x)) rfl rfl (fun W hW => run_load_box (encNote x) (hbX.belowAll hW) rfl (whole_cells _) Tryz.underlying40 rfl (by kernel_rfl)) ?_; simp only [pTs, pTn, pTz, pTc])
     refine wpC_act rfl rfl rfl (fun K hK => ?_)
     go_simp
     refine (refOf_any x _).mono ?_
     rintro e w6 ⟨rfl, hb6⟩
     have hBR := Below.call hBR hb6 (Nat.le_refl _)
     have hbX := hbX.belowAll hb6
     have hmP := hmP.below hb6 hmP.lt
     refine hK _ _ hb6 ?_
     clear hK K
     try simp only [pTs, pTn, pTz, pTc]
     refine wpC_mark rfl rfl (fun K hK => ?_)
     refine wp_store_map _ _ _ _ rfl refKey Tryz.underlying107 rfl hmP (refN x) hgx.out rfl x rfl ?_
     intro w7 hm7 hT
     refine hK _ _ ?_
     clear hK K
     try simp only [pTs, pTn, pTz, pTc]
     simp only [wpC]
     have hBR7 : Below w.heap.size w w7 := (hB.trans (hBR.mono hBs)).trans (hT.below hsq)
     have hE7 : Ext (fun q => q = wq.heap.size) wr w7 := (Ext.of_below hBR).trans ⟨Nat.le_of_eq hT.size.symm, fun q _ hq => hT.block q hq⟩
     have HM7 := Lib.hid hm7
     clear hm7 hmP
     go_wp2
     go_roundw
     case rel => exact ⟨k + 1, aput m (refN x) x, by omega, by go_num, Lib.hid (by rw [merge_take HX.out HF.out, merge_abs m x old HOLD.out, if_neg (by simp [HSM.out])]), Lib.hid (fun p hp => by rcases mem_aput hp with rfl | hp; exact List.mem_of_getElem? HX.out; exact HI.out p hp), Lib.hid (by have h1 := aput_len m (refN x) x; have h2 := HLM.out; omega), HM7, Lib.hid (HE.out.trans hE7), hBR7⟩
     case measure => simp [intOf]; omega
    ·simp only [hsm, decide_false] at HSN
     have HSM := Lib.hid hsm
     clear hsm
     go_wp2_with (first
     | ((with_reducible refine at_dst 28 ?_); refine wpList_load_at rfl 40 _ rfl b (o + k * 29) rfl (encNote x) _ HC.out Tryz.underlying40 rfl (by kernel_rfl) ?_)
     | ((with_reducible refine at_storeM 8 ?_); refine wpList_store_last (cs := encNote x) rfl 40 _ _ rfl rfl rfl rfl (by kernel_rfl) rfl (encNote_one _) ?_)
     | ((with_reducible refine at_dst 31 ?_); refine wpList_loadB hbX rfl 40 _ rfl rfl (encNote x) (whole_cells _) Tryz.underlying40 rfl (by kernel_rfl) ?_)
     | (go_at_call 41; (with_reducible refine (refOf_any x _).mono ?_); rintro e w3 ⟨rfl, hb3⟩; have hB3 := Below.call hBw hb3 (Nat.le_refl _); have hbX := hbX.belowAll hb3; have HM3 := Lib.hid (HM1.out.below hb3 HM1.out.lt))
     | ((with_reducible refine at_dst 33 ?_); refine wpList_lookok rfl _ _ 107 rfl refKey Tryz.underlying107 zNote (zeroNote _) rfl HM3.out (refN x) hgx.out rfl ?_; rw [HOLD.out, hkn])
     | ((with_reducible refine at_storeM 9 ?_); refine wpList_store_last (cs := encNote old) rfl 40 _ _ rfl (by simp) rfl rfl (by kernel_rfl) rfl (encNote_one _) ?_)
     | ((with_reducible refine at_dst 38 ?_); refine wpList_loadB (BoxAt.new _ _ _) rfl 40 _ rfl rfl (encNote old) (whole_cells _) Tryz.underlying40 rfl (by kernel_rfl) ?_)
     | ((with_reducible refine at_dst 39 ?_); refine wpList_loadB (hbX.alloc _) rfl 40 _ rfl rfl (encNote x) (whole_cells _) Tryz.underlying40 rfl (by kernel_rfl) ?_)
     | (go_at_call 54; (with_reducible refine (HSN.out _ (hB3.alloc hB3.size _)).mono ?_); rintro e w5 ⟨rfl, hb5⟩))
     have hb35 : Below wr.heap.size wr w5 := Below.call (hB3.alloc hB3.size _) hb5 (Nat.le_refl _)
     refine bodyPost_ret (v := .tuple #[.slice none 0 0, .int .i64 91]) (by simp [results, Tryz.results22, go_sem]) rfl ?_
     have hno : mergeM (L.map Note.abs) = none := merge_stops (k := k + 1) (by rw [merge_take HX.out HF.out, merge_abs m x old HOLD.out, if_pos (by simp [hkn, HSM.out])])
     have hfin : mergeA (val.map Note.abs) (val2.map Note.abs) = ([], 91) := by rw [HY.out, HLL.out]; unfold unionA; rw [hno]
     exact ⟨Sl.nil, by rw [hfin]; rfl, by rw [hfin]; rfl, HNIL.out _, hB.trans (hb35.mono hBs)⟩
  ·have hk' : k = L.length := by omega
   have HMM : Hid (mergeM (L.map Note.abs) = some (absMap m)) := Lib.hid (by have h := HF.out; rw [hk', List.take_length] at h; exact h)
   have HU : Hid (mergeA (val.map Note.abs) (val2.map Note.abs) = if 400 < m.length then ([], 2) else (listA (absMap m), 0)) := Lib.hid (by rw [HY.out, HLL.out]; unfold unionA; rw [HMM.out]; simp only [absMap_len])
   have HLI : Hid (Calls Tryz.prog 55 #[.map (some wq.heap.size)] wr fun e w' => ∃ s1 : Sl Note, e = .returned s1.v ∧ s1.val.map Note.abs = listA (absMap m) ∧ Sl.OK 29 encNote okNote (Old wr.heap.size) w' s1 ∧ Below wr.heap.size wr w') := Lib.hid (listed_any (fun q => q = wq.heap.size) wq.heap.size m wr HM.out (fun p hp => okNote.ext (HS.out.elem _ (HI.out p hp)) HE.out) (by have := HLM.out; omega))
   by_cases h4 : 400 < m.length
   ·have h4' : (400 : Int) < (m.length : Int) := by omega
    have HU2 : Hid (mergeA (val.map Note.abs) (val2.map Note.abs) = ([], 2)) := Lib.hid (by rw [HU.out, if_pos h4])
    clear h4
    go_wp2_with ((with_reducible refine at_dst 49 ?_); refine wpList_len_map rfl _ 107 rfl Tryz.underlying107 rfl HM.out ?_)
    refine bodyPost_ret (v := .tuple #[.slice none 0 0, .int .i64 2]) (by simp [results, Tryz.results22, go_sem]) rfl ?_
    exact ⟨Sl.nil, by rw [HU2.out]; rfl, by rw [HU2.out]; rfl, HNIL.out _, hB⟩
   ·have h4' : ¬ (400 : Int) < (m.length : Int) := by omega
    have HU2 : Hid (mergeA (val.map Note.abs) (val2.map Note.abs) = (listA (absMap m), 0)) := Lib.hid (by rw [HU.out, if_neg h4])
    clear h4
    go_wp2_with (first
     | ((with_reducible refine at_dst 49 ?_); refine wpList_len_map rfl _ 107 rfl Tryz.underlying107 rfl HM.out ?_)
     | (go_at_call 55; (with_reducible refine HLI.out.mono ?_); rintro e w8 ⟨s1, rfl, ls1, os1, hb8⟩; have LS := Lib.hid ls1; clear ls1; obtain ⟨a8, c8, v8⟩ := s1))
    refine bodyPost_ret (v := .tuple #[.slice a8 v8.length c8, .int .i64 0]) (by simp [results, Tryz.results22, go_sem]) rfl ?_
    exact ⟨⟨a8, c8, v8⟩, by rw [HU2.out]; rfl, by rw [HU2.out]; exact LS.out, os1.move ⟨Nat.le_refl _, fun _ _ _ => rfl⟩ hBs (fun _ h => okNote.mono h (fun q hq => Nat.lt_of_lt_of_le hq hBs)), hB.trans (hb8.mono hBs)⟩
end Go.Proofs.YtendmmhfjhgdaaaGreat
end
section
set_option linter.unusedVariables false
set_option linter.unusedSimpArgs false
namespace Go.Proofs.YtendmmhfjhgdaaaGreat
open Go.RowKit
abbrev NOK (W : World) (s : Sl Note) : Prop := Sl.OK 29 encNote okNote (fun _ => False) W s
theorem NOK.below {W W' : World} {s : Sl Note} (h : NOK W s) (hb : Below W.heap.size W W') : NOK W' s := Sl.OK.ext (w := W) (fun _ h => okNote.ext h (.of_below hb)) h (.of_below hb)
theorem mergeA_len (A B : List NoteA) : (mergeA A B).1.length ≤ 400 := by
 by_cases h : (mergeA A B).2 = 0
 ·exact (mergeA_ok h).2.2.1.len
 ·rw [mergeA_bad h]; simp
theorem merge_c (a : Option Addr) (c : Nat) (v : List Note) (a' : Option Addr) (c' : Nat) (v' : List Note) (W : World) (X : List NoteA) (er : Int) (hs : NOK W ⟨a, c, v⟩) (ht : NOK W ⟨a', c', v'⟩) (h1 : v.length ≤ 500) (h2 : v'.length ≤ 500) (hX : mergeA (v.map Note.abs) (v'.map Note.abs) = (X, er)) :
  Calls Tryz.prog 22 #[.slice a v.length c, .slice a' v'.length c'] W fun e w' => ∃ a2 c2 v2, e = .returned (.tuple #[.slice a2 v2.length c2, .int .i64 er]) ∧ NOK w' ⟨a2, c2, v2⟩ ∧ v2.map Note.abs = X ∧ v2.length ≤ 400 ∧ Below W.heap.size W w' := by
 refine (merge_any (fun _ => False) ⟨a, c, v⟩ ⟨a', c', v'⟩ W hs ht h1 h2).mono ?_
 rintro e w' ⟨⟨a2, c2, v2⟩, he, hv, ho, hb⟩
 simp only at hv he
 rw [hX] at hv he
 refine ⟨a2, c2, v2, he, ho.mono (fun _ h => okNote.mono h (fun _ h => h.elim)) (fun _ h => h.elim), hv, ?_, hb⟩
 have h3 := mergeA_len (v.map Note.abs) (v'.map Note.abs)
 rw [hX, ← hv, List.length_map] at h3
 exact h3
theorem same_c (a : Option Addr) (c : Nat) (v : List Note) (a' : Option Addr) (c' : Nat) (v' : List Note) (W : World) (hs : NOK W ⟨a, c, v⟩) (ht : NOK W ⟨a', c', v'⟩) (hX : v'.map Note.abs = v.map Note.abs) :
  Calls Tryz.prog 24 #[.slice a v.length c, .slice a' v'.length c'] W fun e w' => e = .returned (.bool true) ∧ Below W.heap.size W w' := refNotes_any (fun _ => False) ⟨a, c, v⟩ ⟨a', c', v'⟩ W hs ht hX
end Go.Proofs.YtendmmhfjhgdaaaGreat
end
