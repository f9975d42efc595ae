/-
  .. where two operations that make memory may come up in either order: both ways.
  onePlace of the law's package, walked.
  The law BenchesOnePlace, walked.
-/
import Derived.Test.YtendmmhfjhgdaaaGreatOrd
import Derived.Test.YtendmmhfjhgdaaaGreatOneP
import Derived.Test.YtendmmhfjhgdaaaGreatAwake
import Derived.Test.YtendmmhfjhgdaaaGreatMerge
import Derived.Test.YtendmmhfjhgdaaaGreatCuts
import Derived.Test.YtendmmhfjhgdaaaGreatReads
section
set_option linter.unusedVariables false
set_option linter.unusedSimpArgs false
namespace Go.Proofs.YtendmmhfjhgdaaaGreat
open Go.RowKit
section
variable {P : Program} {ops : Array Oper} {Q : Exit → Act → World → Prop} {m i j : Nat} {o1 o2 : List (Nat × Option Bool)}

def ordOKF (ops : Array Oper) (m i : Nat) (o1 : List (Nat × Option Bool)) (j : Nat) (o2 : List (Nat × Option Bool)) : List (Nat × Option Bool) → Array Bool → Bool
  | [], listed => (Region.ready .any ops listed == [i, j]) && !(i == m) && !(j == m) && ordOK2 ops m o1 false (listed.setIfInBounds i true) && ordOK2 ops m o2 false (listed.setIfInBounds j true)
  | (k, f) :: rest, listed => !(f == some false) && stepOK ops m false listed k f && ordOKF ops m i o1 j o2 rest (listed.setIfInBounds k true)
def wpF (P : Program) (ops : Array Oper) (Q : Exit → Act → World → Prop) (m i : Nat) (o1 : List (Nat × Option Bool)) (j : Nat) (o2 : List (Nat × Option Bool)) : List (Nat × Option Bool) → Act → World → Prop
  | [], a, w => wpC P ops Q m ((i, some false) :: o1) false a w ∧ wpC P ops Q m ((j, some false) :: o2) false a w
  | (k, none) :: rest, a, w => ∃ o v, ops[k]? = some o ∧ YieldsIf P ops (fun _ => True) o v a ∧ wpF P ops Q m i o1 j o2 rest (a.put o.dst v) w
  | (k, some true) :: rest, a, w => ∃ o v, ops[k]? = some o ∧ YieldsIf P ops (Below w.heap.size w) o v a ∧ wpF P ops Q m i o1 j o2 rest (a.put o.dst v) w
  | (_, some false) :: _, _, _ => False
theorem fork_step (hs : Region.noSelect ops = true) (hQ : ∀ d c (a : Act) v w, Q (.panic c) (a.put d v) w → Q (.panic c) a w) {k : Nat} {ord : List (Nat × Option Bool)} {fuel : Nat} {listed : Array Bool} {a : Act} {w : World}
    (hkm : k ≠ m) (hp : listed.getD m true = false) (hok : ordOK2 ops m ord false (listed.setIfInBounds k true) = true) (hl : ord.length ≤ fuel) (h : wpC P ops Q m ((k, some false) :: ord) false a w) :
    wpOp P ops Q k (fun a' w' => ((listed.setIfInBounds k true).getD m true = false → Below w.heap.size w w') ∧ wpAnyM P .any ops Q (Below w.heap.size w) m fuel (listed.setIfInBounds k true) a' w') a w := by
  have e : (k == m) = false := by simpa using hkm
  unfold wpC at h
  rw [e] at h
  refine wpOp_mono (fun a' w' h' => ?_) h
  have hb := h'.1 hkm
  have ih := wpC_sound hs hQ ord false fuel _ a' w' hok hl (by rw [getD_set_ne true hkm]; exact hp) h'.2
  exact ⟨fun _ => hb, wpAnyM_mono (fun W hW => hb.trans (hW.mono hb.size)) fuel _ a' w' ih⟩
theorem wpF_sound (hs : Region.noSelect ops = true) (hQ : ∀ d c (a : Act) v w, Q (.panic c) (a.put d v) w → Q (.panic c) a w) : ∀ (pre : List (Nat × Option Bool)) (fuel : Nat) (listed : Array Bool) (a : Act) (w : World),
    ordOKF ops m i o1 j o2 pre listed = true → pre.length + max o1.length o2.length + 1 ≤ fuel → listed.getD m true = false → wpF P ops Q m i o1 j o2 pre a w → wpAnyM P .any ops Q (Below w.heap.size w) m fuel listed a w
  | pre, 0, _, _, _, _, hl, _, _ => by omega
  | [], fuel + 1, listed, a, w, hok, hl, hp, h => by
    simp only [ordOKF, Bool.and_eq_true, beq_iff_eq, Bool.not_eq_true'] at hok
    obtain ⟨⟨⟨⟨hr, him⟩, hjm⟩, h1⟩, h2⟩ := hok
    have him' : i ≠ m := by simpa using him
    have hjm' : j ≠ m := by simpa using hjm
    simp only [List.length_nil] at hl
    refine ⟨fun h0 => absurd (hr ▸ h0) (by simp), fun k hk => ?_⟩
    rw [hr] at hk
    simp only [List.mem_cons, List.not_mem_nil, or_false] at hk
    rcases hk with rfl | rfl
    · exact fork_step hs hQ him' hp h1 (by omega) h.1
    · exact fork_step hs hQ hjm' hp h2 (by omega) h.2
  | (k, none) :: rest, fuel + 1, listed, a, w, hok, hl, hp, h => by
    obtain ⟨o, v, hi, hy, hrest⟩ := h
    simp only [ordOKF, stepOK, Bool.and_eq_true, Bool.not_eq_true'] at hok
    obtain ⟨⟨_, ⟨hr, hf⟩, him⟩, hok'⟩ := hok
    have him' : k ≠ m := by simpa using him
    exact wpAnyM_pure hi him' (Region.noSelect_spec hs) (fun c a w h => hQ o.dst c a v w h) fuel listed a w (Region.free_spec hi hf) (by simpa using hr) hy (fun _ => Below.refl _ _)
      (wpF_sound hs hQ rest fuel _ _ w hok' (by simp only [List.length_cons] at hl; omega) (by rw [getD_set_ne true him']; exact hp) hrest)
  | (k, some true) :: rest, fuel + 1, listed, a, w, hok, hl, hp, h => by
    obtain ⟨o, v, hi, hy, hrest⟩ := h
    simp only [ordOKF, stepOK, Bool.and_eq_true, Bool.not_eq_true'] at hok
    obtain ⟨⟨_, ⟨⟨⟨_, hr⟩, hf⟩, hd⟩, him⟩, hok'⟩ := hok
    have him' : k ≠ m := by simpa using him
    exact wpAnyM_first hi him' (Region.noSelect_spec hs) (fun c a w h => hQ o.dst c a v w h) fuel listed a w hd (Region.free_spec hi hf) (by simpa using hr) hy (Below.refl _ _) hp
      (wpF_sound hs hQ rest fuel _ _ w hok' (by simp only [List.length_cons] at hl; omega) (by rw [getD_set_ne true him']; exact hp) hrest)
  | (k, some false) :: rest, fuel + 1, listed, a, w, hok, hl, hp, h => h.elim
theorem wp_region_fork (m : Nat) (pre : List (Nat × Option Bool)) (i : Nat) (o1 : List (Nat × Option Bool)) (j : Nat) (o2 : List (Nat × Option Bool)) {id : Nat} {a : Act} {w : World} (hm : P.follows .mixedOrders = true) (hs : Region.noSelect ops = true)
    (hok : (decide (pre.length + max o1.length o2.length + 1 ≤ ops.size) && decide (m < ops.size) && ordOKF ops m i o1 j o2 pre (Array.replicate ops.size false)) = true)
    (hQ : ∀ d c (a : Act) v w, Q (.panic c) (a.put d v) w → Q (.panic c) a w) (h : wpF P ops Q m i o1 j o2 pre a w.drew) : (Code.region id ops true).wp P Q a w := by
  simp only [Bool.and_eq_true, decide_eq_true_eq] at hok
  exact wp_region_any hm (wpAny_of_m (S := Below w.drew.heap.size w.drew) _ _ _ _ (wpF_sound hs hQ pre ops.size _ a w.drew hok.2 hok.1.1 (by simp [hok.1.2]) h))
theorem wpF_pure {k : Nat} {rest : List (Nat × Option Bool)} {a : Act} {w : World} {dst : Option Tmp} {op : Op} {ty : TypeId} {pos : String} {after : Array Edge} {g : Option (Nat × Bool)} {v : Value} (hi : ops[k]? = some ⟨dst, op, ty, pos, after, g⟩)
    (hw : Region.wanted ⟨dst, op, ty, pos, after, g⟩ (yielded ops a.tmps) = true)
    (hrun : ∀ W, (execOp a.eval ⟨dst, op, ty, pos, after, g⟩).run P W = .ok (.value v) W) (h : wpF P ops Q m i o1 j o2 rest (a.put dst v) w) : wpF P ops Q m i o1 j o2 ((k, none) :: rest) a w :=
  ⟨_, v, hi, .inl ⟨hw, fun W _ => hrun W⟩, h⟩
theorem wpF_fix {k : Nat} {rest : List (Nat × Option Bool)} {a : Act} {w : World} {dst : Option Tmp} {op : Op} {ty : TypeId} {pos : String} {after : Array Edge} {g : Option (Nat × Bool)} {v : Value} (hi : ops[k]? = some ⟨dst, op, ty, pos, after, g⟩)
    (hw : Region.wanted ⟨dst, op, ty, pos, after, g⟩ (yielded ops a.tmps) = true)
    (hrun : ∀ W, Below w.heap.size w W → (execOp a.eval ⟨dst, op, ty, pos, after, g⟩).run P W = .ok (.value v) W) (h : wpF P ops Q m i o1 j o2 rest (a.put dst v) w) : wpF P ops Q m i o1 j o2 ((k, some true) :: rest) a w :=
  ⟨_, v, hi, .inl ⟨hw, hrun⟩, h⟩
end
end Go.Proofs.YtendmmhfjhgdaaaGreat
end
section
set_option linter.unusedVariables false
set_option linter.unusedSimpArgs false
namespace Go.Proofs.YtendmmhfjhgdaaaGreat
open Go.RowKit

/-- 65 marks -/
def marksC (f : Nat → Bool) : Array Value := ((List.range 65).map fun i => Value.bool (f i)).toArray
theorem marksC_size (f : Nat → Bool) : (marksC f).size = 65 := by simp [marksC]
theorem marksC_get (f : Nat → Bool) {p : Nat} (h : p < 65) : (marksC f)[p]? = some (.bool (f p)) := by
  simp [marksC, List.getElem?_range h]
theorem marksC_set (f : Nat → Bool) (p : Nat) : (marksC f).setIfInBounds p (.bool true) = marksC (fun j => f j || decide (j = p)) := by
  apply Array.ext
  · simp [marksC]
  · intro i h1 h2
    have h3 : i < 65 := by simpa [marksC] using h2
    by_cases e : p = i
    · subst e; simp [marksC]
    · have e' : ¬ i = p := fun h => e h.symm
      rw [Array.getElem_setIfInBounds (by simpa [marksC] using h3)]
      simp [marksC, e, e']
theorem marksC_congr {f g : Nat → Bool} (h : ∀ j, f j = g j) : marksC f = marksC g := by
  have : f = g := funext h
  rw [this]
/-- the panes that are taken by the first k of new glass, and the first m places -/
def takenB (nw : List Held) (wh : List Where) (p : Nat) : Bool := (nw.any fun x => decide (x.pane = (p : Int))) || wh.any fun x => decide (x.kind = 3) && decide (x.at_ = (p : Int))
theorem zero_marks : Tryz.zeroCells133 = marksC (takenB [] []) := by kernel_rfl
theorem takenB_new {nw : List Held} {x : Held} {k p : Nat} (hx : nw[k]? = some x) (hp : x.pane = (p : Int)) : ∀ j, (takenB (nw.take k) [] j || decide (j = p)) = takenB (nw.take (k + 1)) [] j := by
  intro j
  have e : nw.take (k + 1) = nw.take k ++ [x] := by rw [List.take_add_one, hx]; rfl
  have h2 : decide (x.pane = (j : Int)) = decide (j = p) := by rw [hp]; congr 1; apply propext; omega
  simp only [takenB, e, List.any_append, List.any_cons, List.any_nil, Bool.or_false, h2]
theorem takenB_where {nw : List Held} {wh : List Where} {x : Where} {k p : Nat} (hx : wh[k]? = some x) (hk : x.kind = 3) (hp : x.at_ = (p : Int)) : ∀ j, (takenB nw (wh.take k) j || decide (j = p)) = takenB nw (wh.take (k + 1)) j := by
  intro j
  have e : wh.take (k + 1) = wh.take k ++ [x] := by rw [List.take_add_one, hx]; rfl
  have h2 : decide (x.at_ = (j : Int)) = decide (j = p) := by rw [hp]; congr 1; apply propext; omega
  simp only [takenB, e, List.any_append, List.any_cons, List.any_nil, Bool.or_false, h2, hk, decide_true, Bool.true_and, Bool.or_assoc]
theorem takenB_skip {nw : List Held} {wh : List Where} {x : Where} {k : Nat} (hx : wh[k]? = some x) (hk : x.kind ≠ 3) : ∀ j, takenB nw (wh.take k) j = takenB nw (wh.take (k + 1)) j := by
  intro j
  have e : wh.take (k + 1) = wh.take k ++ [x] := by rw [List.take_add_one, hx]; rfl
  simp only [takenB, e, List.any_append, List.any_cons, List.any_nil, Bool.or_false, hk, decide_false, Bool.false_and]
theorem free_new {r : RegisterA} (h : OnePlaceA r) {x : Held} {k p : Nat} (hx : r.new_[k]? = some x) (hp : x.pane = (p : Int)) : takenB (r.new_.take k) [] p = false := by
  simp only [takenB, List.any_nil, Bool.or_false, List.any_eq_false, decide_eq_true_eq]
  intro y hy e
  obtain ⟨j, hj⟩ := List.getElem?_of_mem hy
  have hjk : j < k := by
    have := (List.getElem?_eq_some_iff.1 hj).1
    simp only [List.length_take] at this; omega
  rw [List.getElem?_take_of_lt hjk] at hj
  have h1 : (r.new_.map (·.pane))[j]? = some y.pane := by rw [List.getElem?_map, hj]; rfl
  have h2 : (r.new_.map (·.pane))[k]? = some x.pane := by rw [List.getElem?_map, hx]; rfl
  have hl := (List.getElem?_eq_some_iff.1 h2).1
  obtain ⟨hl1, h3⟩ := List.getElem?_eq_some_iff.1 h1
  obtain ⟨hl2, h4⟩ := List.getElem?_eq_some_iff.1 h2
  have h5 := List.pairwise_iff_getElem.1 h.new_nd j k hl1 hl2 hjk
  rw [h3, h4, e, hp] at h5
  exact h5 rfl
theorem free_where {r : RegisterA} (h : OnePlaceA r) {x : Where} {q : PieceA} {k : Nat} (hx : r.wher[k]? = some x) (hq : r.pieces[k]? = some q) (hk : x.kind = 3) (p : Nat) (hp : x.at_ = (p : Int)) : takenB r.new_ (r.wher.take k) p = false := by
  simp only [takenB, Bool.or_eq_false_iff, List.any_eq_false, decide_eq_true_eq, Bool.and_eq_true, not_and]
  constructor
  · intro y hy e
    exact ((h.piece k x q hx hq).2.2.2 hk).2.2 y hy (by rw [e, hp])
  · intro y hy hk2 e
    obtain ⟨j, hj⟩ := List.getElem?_of_mem hy
    have hjk : j < k := by
      have := (List.getElem?_eq_some_iff.1 hj).1
      simp only [List.length_take] at this; omega
    rw [List.getElem?_take_of_lt hjk] at hj
    obtain ⟨hj1, hj2⟩ := List.getElem?_eq_some_iff.1 hj
    obtain ⟨hk1, hk3⟩ := List.getElem?_eq_some_iff.1 hx
    have h3 := List.pairwise_iff_getElem.1 h.one j k hj1 hk1 hjk
    rw [hj2, hk3] at h3
    exact h3 hk2 hk (by rw [e, hp])
/-! the walk -/
set_option maxRecDepth 20000 in
set_option maxHeartbeats 8000000 in
theorem onePlace_any (R : Register) (w : World) (hok : okRegister (fun _ => False) w R) (h : OnePlaceA R.abs) (hl1 : R.wher.val.length ≤ 1000000) (hl2 : R.new_.val.length ≤ 1000000) :
    Calls Tryz.prog 37 #[.agg (encRegister R)] w fun e w' => e = .returned (.bool true) ∧ Below w.heap.size w w' := by
  obtain ⟨hop, how, hon, -, -, -⟩ := hok
  have HR0 : Hid ((encRegister R)[0]? = some R.pieces.v ∧ (encRegister R)[1]? = some R.wher.v ∧ (encRegister R)[2]? = some R.new_.v) := Lib.hid ⟨rfl, rfl, rfl⟩
  have HABS : Hid (R.abs.wher = R.wher.val ∧ R.abs.new_ = R.new_.val ∧ R.abs.pieces = R.pieces.val.map Piece.abs) := Lib.hid ⟨rfl, rfl, rfl⟩
  generalize encRegister R = cs at HR0 ⊢
  obtain ⟨ra, hra⟩ : ∃ ra, R.abs = ra := ⟨_, rfl⟩
  rw [hra] at HABS h
  clear hra
  obtain ⟨⟨wa, wcap, wval⟩, hwv⟩ : ∃ s, R.wher = s := ⟨_, rfl⟩
  obtain ⟨⟨na, ncap, nval⟩, hnv⟩ : ∃ s, R.new_ = s := ⟨_, rfl⟩
  obtain ⟨⟨pa, pcap, pval⟩, hpv⟩ : ∃ s, R.pieces = s := ⟨_, rfl⟩
  rw [hwv] at HR0 HABS how hl1
  rw [hnv] at HR0 HABS hon hl2
  rw [hpv] at HR0 HABS hop
  clear hwv hnv hpv
  simp only at hl1 hl2
  have HP0 : Hid (cs[0]? = some (.slice pa pval.length pcap)) := Lib.hid HR0.out.1
  have HW0 : Hid (cs[1]? = some (.slice wa wval.length wcap)) := Lib.hid HR0.out.2.1
  have HN0 : Hid (cs[2]? = some (.slice na nval.length ncap)) := Lib.hid HR0.out.2.2
  have H := Lib.hid h
  have hpl : pval.length = wval.length := by
    have h1 := h.len
    rw [HABS.out.1, HABS.out.2.2, List.length_map] at h1
    exact h1.symm
  have HOP := Lib.hid hop
  have HOW := Lib.hid how
  have HON := Lib.hid hon
  clear hop how hon h HR0
  have hB1 : Below w.heap.size w (w.alloc (.cells cs 58)) := (Below.refl _ _).alloc (Nat.le_refl _) _
  have hbr : BoxAt (w.alloc (.cells cs 58)) w.heap.size 58 cs := BoxAt.new _ _ _
  have hc0 : (w.alloc (.cells cs 58)).cell? ⟨w.heap.size, 0, none⟩ = some (.slice pa pval.length pcap) := (hbr.cell 0).trans HP0.out
  have hc1 : (w.alloc (.cells cs 58)).cell? ⟨w.heap.size, 1, none⟩ = some (.slice wa wval.length wcap) := (hbr.cell 1).trans HW0.out
  go_enter Tryz.func37, Tryz.ntmps37
  rw [hpl] at hc0
  go_wp2
  go_loopw [4] (fun i wr => ∃ k : Nat, k ≤ nval.length ∧ i = .int .i64 k ∧ BoxAt wr w.heap.size 58 cs ∧ BoxAt wr (w.heap.size + 1) 133 (marksC (takenB (nval.take k) [])) ∧ Below w.heap.size w wr) (fun i _ => nval.length - (Go.RowKit.intOf i).toNat)
  case atStart => exact ⟨0, Nat.zero_le _, rfl, hbr.alloc _, (BoxAt.newN (n := w.heap.size + 1) _ _ _ (by simp)).eqv zero_marks, hB1.alloc (by simp) _⟩
  case round =>
    obtain ⟨k, hk, rfl, hbr, hbm, hB⟩ := hrel
    have hcn : wr.cell? ⟨w.heap.size, 2, none⟩ = some (.slice na nval.length ncap) := (hbr.cell 2).trans HN0.out
    by_cases hlt : k < nval.length
    · obtain ⟨x, hx⟩ : ∃ x, nval[k]? = some x := ⟨_, List.getElem?_eq_getElem hlt⟩
      obtain ⟨bb, o, rfl, hb, _, hox, hcell⟩ := HON.out.at hx
      obtain ⟨g1, g2, g3⟩ := H.out.new_ok x (by rw [HABS.out.2.1]; exact List.mem_of_getElem? hx)
      obtain ⟨p, hp⟩ : ∃ p : Nat, x.pane = (p : Int) := ⟨x.pane.toNat, by omega⟩
      have HX := Lib.hid hx
      have HPP := Lib.hid hp
      have hc3 : wr.cell? ⟨bb, o + k * 5, none⟩ = some (.int .i64 p) := by rw [← hp]; exact (hB.cell (p := ⟨bb, o + k * 5, none⟩) hb).trans ((hcell 0 (by show 0 < 5; decide)).trans rfl)
      have hc4 : wr.cell? ⟨bb, o + k * 5 + 1, none⟩ = some (.int .i64 0) := by rw [← g3]; exact (hB.cell (p := ⟨bb, o + k * 5 + 1, none⟩) hb).trans ((hcell 1 (by show 1 < 5; decide)).trans rfl)
      have hm : wr.cell? ⟨w.heap.size + 1, p, none⟩ = some (.bool false) := by
        rw [hbm.cell, marksC_get _ (by omega)]
        have hf := free_new H.out (x := x) (k := k) (p := p) (by rw [HABS.out.2.1]; exact hx) hp
        rw [HABS.out.2.1] at hf
        rw [hf]
      have hi1 : (k : Int) < (nval.length : Int) := by omega
      have hp1 : ¬ (p : Int) < 1 := by omega
      have hp2 : ¬ (64 : Int) < (p : Int) := by omega
      have hp3 : (p : Int) < 65 := by omega
      have hp4 : p < 65 := by omega
      have HML : Hid (∀ j, (takenB (nval.take k) [] j || decide (j = p)) = takenB (nval.take (k + 1)) [] j) := Lib.hid (takenB_new hx hp)
      clear hx hp g1 g2 g3 hcell hox
      have hfz : wr.frozen? ⟨w.heap.size + 1, p, none⟩ = false := hbm.frozen p
      go_wp2
      go_roundw
      case rel =>
        have hT3 := Turn.setCell wr (w.heap.size + 1) p (.bool true)
        refine ⟨k + 1, by omega, by go_num, hbr.turn hT3 (by omega), (heap_setCell_same wr (w.heap.size + 1) p _ _ (.bool true) hbm).trans ?_, hB.trans (hT3.below (by omega))⟩
        rw [marksC_set, marksC_congr HML.out]
      case measure => simp [Go.RowKit.intOf]; omega
    · have hkl : k = nval.length := by omega
      subst hkl
      rw [List.take_length] at hbm
      go_wp2
      have hcw : wr.cell? ⟨w.heap.size, 1, none⟩ = some (.slice wa wval.length wcap) := (hbr.cell 1).trans HW0.out
      go_loopw [6] (fun i wr => ∃ k : Nat, k ≤ wval.length ∧ i = .int .i64 k ∧ BoxAt wr w.heap.size 58 cs ∧ BoxAt wr (w.heap.size + 1) 133 (marksC (takenB nval (wval.take k))) ∧ Below w.heap.size w wr) (fun i _ => wval.length - (Go.RowKit.intOf i).toNat)
      case atStart => exact ⟨0, Nat.zero_le _, rfl, hbr, hbm.eqv (marksC_congr fun j => by simp), hB⟩
      case round =>
        obtain ⟨k, hk, rfl, hbr, hbm, hB⟩ := hrel
        have hcw : wr.cell? ⟨w.heap.size, 1, none⟩ = some (.slice wa wval.length wcap) := (hbr.cell 1).trans HW0.out
        by_cases hlt : k < wval.length
        · obtain ⟨x, hx⟩ : ∃ x, wval[k]? = some x := ⟨_, List.getElem?_eq_getElem hlt⟩
          obtain ⟨q, hq⟩ : ∃ q, pval[k]? = some q := ⟨_, List.getElem?_eq_getElem (by omega)⟩
          obtain ⟨bb, o, rfl, hb, _, hox, hcell⟩ := HOW.out.at hx
          obtain ⟨pb, po, rfl, hpb, _, hoq, hpcell⟩ := HOP.out.at hq
          have HC : Hid (∀ j, j < (encWhere x).size → wr.cell? ⟨bb, o + k * 7 + j, none⟩ = (encWhere x)[j]?) := Lib.hid fun j hj => (hB.cell (p := ⟨bb, o + k * 7 + j, none⟩) hb).trans (hcell j hj)
          have HQ : Hid (∀ W, Below w.heap.size w W → ∀ j, j < (encPiece q).size → W.cell? ⟨pb, po + k * 7 + j, none⟩ = (encPiece q)[j]?) := Lib.hid fun W hW j hj => (hW.cell (p := ⟨pb, po + k * 7 + j, none⟩) hpb).trans (hpcell j hj)
          have hxA : ra.wher[k]? = some x := by rw [HABS.out.1]; exact hx
          have hqA : ra.pieces[k]? = some q.abs := by rw [HABS.out.2.2, List.getElem?_map, hq]; rfl
          obtain ⟨g1, g2, g3, g4⟩ := H.out.piece k x q.abs hxA hqA
          have g1' : x.piece = q.id := g1
          have e1 : (x.piece != q.id) = false := by simpa using g1'
          have e2 : decide (x.kind < 1) = false := decide_eq_false (by omega)
          have e3 : decide ((4 : Int) < x.kind) = false := decide_eq_false (by omega)
          have hi1 : (k : Int) < (wval.length : Int) := by omega
          have HX := Lib.hid hx
          have HXA := Lib.hid hxA
          have HQA := Lib.hid hqA
          have HKA := Lib.hid hk
          have G4 := Lib.hid g4
          have HQ0 := Lib.hid hq
          clear hx hxA hqA g1 g1' g2 g3 g4 hcell hpcell hox hoq hq
          by_cases hk0 : k = 0
          · have hk1 : decide (0 < k) = false := decide_eq_false (by omega)
            have hk2 : ¬ 0 < k := by omega
            clear hk0
            go_wp2_with (first
              | ((with_reducible refine at_dst 61 ?_); refine wpList_load_at rfl 66 _ rfl bb (o + k * 7) rfl (encWhere x) _ HC.out Tryz.underlying66 rfl (by kernel_rfl) ?_)
              | ((with_reducible refine at_storeTo 7 ?_); refine wpList_store_box (BoxAt.newN (n := wr.heap.size) _ _ _ rfl) rfl 66 _ _ rfl rfl (.agg (encWhere x)) rfl (by kernel_rfl) rfl (one_agg (encWhere_one _)) ?_; intro w3 hb3 hT3; have hbx := hb3.eqv (splice_whole _ (encWhere x) rfl); have hL3 : Below wr.heap.size wr w3 := ((Below.refl _ _).alloc (Nat.le_refl _) _).trans (hT3.below (Nat.le_refl _)); have hB3 : Below w.heap.size w w3 := hB.trans (hL3.mono hB.size); have hbr3 := hbr.belowAll hL3; have hbm3 := hbm.belowAll hL3; clear hb3 hT3))
            refine wp_region_ord [(0, true), (1, true), (2, true), (3, true), (4, true), (5, true), (6, true), (7, true), (8, true), (9, true), (10, true), (11, true), (12, true), (13, true), (14, true), (15, true), (16, true), (17, true), (18, true), (19, true), (20, true), (21, true), (22, true), (23, true), (24, true), (25, true), (26, true), (27, true), (28, true), (29, true), (30, true), (31, true), (32, true), (33, true), (34, true), (35, true), (36, true), (37, true), (38, true)] rfl (by kernel_rfl) (by kernel_rfl) (fun d _ _ _ _ h => by cases d <;> exact h) ?_
            refine wpB_fix rfl rfl (fun W hW => by go_simp; with_reducible rfl) ?_; simp only [pTs, pTn, pTz, pTc]
            refine wpB_fix (v := vi x.piece) rfl rfl (fun W hW => by have e : W.cell? ⟨wr.heap.size, 0, none⟩ = some (vi x.piece) := ((hbx.drew.belowAll hW).cell 0).trans rfl; go_simp) ?_; simp only [pTs, pTn, pTz, pTc]
            refine wpB_fix rfl rfl (fun W hW => by go_simp; with_reducible rfl) ?_; simp only [pTs, pTn, pTz, pTc]
            refine wpB_fix (v := .slice (some ⟨pb, po, none⟩) pval.length pcap) rfl rfl (fun W hW => by have e : W.cell? ⟨w.heap.size, 0, none⟩ = some (.slice (some ⟨pb, po, none⟩) pval.length pcap) := ((hbr3.drew.belowAll hW).cell 0).trans HP0.out; go_simp) ?_; simp only [pTs, pTn, pTz, pTc]
            iterate 3 (refine wpB_fix rfl rfl (fun W hW => by go_simp; with_reducible rfl) ?_; simp only [pTs, pTn, pTz, pTc])
            refine wpB_fix (v := vi q.id) rfl rfl (fun W hW => by have e : W.cell? ⟨pb, po + k * 7, none⟩ = some (vi q.id) := (HQ.out W (hB3.drew.trans (hW.mono hB3.drew.size)) 0 (by show 0 < 7; decide)).trans rfl; go_simp) ?_; simp only [pTs, pTn, pTz, pTc]
            iterate 5 (refine wpB_fix rfl rfl (fun W hW => by go_simp; with_reducible rfl) ?_; simp only [pTs, pTn, pTz, pTc])
            iterate 14 (refine wpB_skip rfl rfl ?_; simp only [pTs, pTn, pTz, pTc])
            iterate 4 (refine wpB_fix rfl rfl (fun W hW => by go_simp; with_reducible rfl) ?_; simp only [pTs, pTn, pTz, pTc])
            refine wpB_fix (v := vi x.kind) rfl rfl (fun W hW => by have e : W.cell? ⟨wr.heap.size, 1, none⟩ = some (vi x.kind) := ((hbx.drew.belowAll hW).cell 1).trans rfl; go_simp) ?_; simp only [pTs, pTn, pTz, pTc]
            iterate 4 (refine wpB_fix rfl rfl (fun W hW => by go_simp; with_reducible rfl) ?_; simp only [pTs, pTn, pTz, pTc])
            refine wpB_fix (v := vi x.kind) rfl rfl (fun W hW => by have e : W.cell? ⟨wr.heap.size, 1, none⟩ = some (vi x.kind) := ((hbx.drew.belowAll hW).cell 1).trans rfl; go_simp) ?_; simp only [pTs, pTn, pTz, pTc]
            iterate 2 (refine wpB_fix rfl rfl (fun W hW => by go_simp; with_reducible rfl) ?_; simp only [pTs, pTn, pTz, pTc])
            simp only [wpB]
            by_cases hx3 : x.kind = 3
            · have hf := free_where H.out HXA.out HQA.out hx3
              obtain ⟨g5, g6, _⟩ := G4.out hx3
              obtain ⟨p, hp⟩ : ∃ p : Nat, x.at_ = (p : Int) := ⟨x.at_.toNat, by omega⟩
              have hx1 : w3.drew.cell? ⟨wr.heap.size, 1, none⟩ = some (.int .i64 3) := by rw [← hx3]; exact (hbx.drew.cell 1).trans rfl
              have hx2 : w3.drew.cell? ⟨wr.heap.size, 2, none⟩ = some (.int .i64 p) := by rw [← hp]; exact (hbx.drew.cell 2).trans rfl
              have hm : w3.drew.cell? ⟨w.heap.size + 1, p, none⟩ = some (.bool false) := by
                rw [hbm3.drew.cell, marksC_get _ (by omega)]
                have hf2 := hf p hp
                rw [HABS.out.2.1, HABS.out.1] at hf2
                rw [hf2]
              have hfz : w3.drew.frozen? ⟨w.heap.size + 1, p, none⟩ = false := hbm3.drew.frozen p
              have hp1 : ¬ (p : Int) < 1 := by omega
              have hp2 : ¬ (64 : Int) < (p : Int) := by omega
              have hp3 : (p : Int) < 65 := by omega
              have hp4 : p < 65 := by omega
              have HML : Hid (∀ j, (takenB nval (wval.take k) j || decide (j = p)) = takenB nval (wval.take (k + 1)) j) := Lib.hid (takenB_where HX.out hx3 hp)
              clear hp hx3 g5 g6 hf
              go_wp2
              go_roundw
              case rel =>
                have hT3 := Turn.setCell w3.drew (w.heap.size + 1) p (.bool true)
                have hs0 := hB.size
                refine ⟨k + 1, by omega, by go_num, hbr3.drew.turn hT3 (by omega), (heap_setCell_same w3.drew (w.heap.size + 1) p _ _ (.bool true) hbm3.drew).trans ?_, hB3.drew.trans (hT3.below (by omega))⟩
                rw [marksC_set, marksC_congr HML.out]
              case measure => simp [Go.RowKit.intOf]; omega
            · have hx1 : w3.drew.cell? ⟨wr.heap.size, 1, none⟩ = some (vi x.kind) := (hbx.drew.cell 1).trans rfl
              have hx2 : (x.kind != 3) = true := by simpa using hx3
              have HML : Hid (∀ j, takenB nval (wval.take k) j = takenB nval (wval.take (k + 1)) j) := Lib.hid (takenB_skip HX.out hx3)
              go_wp2
              go_roundw
              case rel => exact ⟨k + 1, by omega, by go_num, hbr3.drew, hbm3.drew.eqv (marksC_congr HML.out), hB3.drew⟩
              case measure => simp [Go.RowKit.intOf]; omega
          · have hk1 : decide (0 < k) = true := decide_eq_true (by omega)
            have hk2 : 0 < k := by omega
            have hk3 : (1 : Int) ≤ (k : Int) := by omega
            obtain ⟨q1, hq1⟩ : ∃ q1, pval[k - 1]? = some q1 := ⟨_, List.getElem?_eq_getElem (by omega)⟩
            obtain ⟨pb', po', he, _, _, _, hpcell⟩ := HOP.out.at hq1
            simp only [Option.some.injEq, Addr.mk.injEq, and_true] at he
            obtain ⟨rfl, rfl⟩ := he
            have HQ1 : Hid (∀ W, Below w.heap.size w W → ∀ j, j < (encPiece q1).size → W.cell? ⟨pb, po + (k - 1) * 7 + j, none⟩ = (encPiece q1)[j]?) := Lib.hid fun W hW j hj => (hW.cell (p := ⟨pb, po + (k - 1) * 7 + j, none⟩) hpb).trans (hpcell j hj)
            have e4 : decide (q.id ≤ q1.id) = false := decide_eq_false <| by
              have h3 := List.pairwise_iff_getElem.1 H.out.up (k - 1) k (by rw [HABS.out.2.2, List.length_map]; omega) (by rw [HABS.out.2.2, List.length_map]; omega) (by omega)
              have h4 : ra.pieces[k - 1]? = some q1.abs := by rw [HABS.out.2.2, List.getElem?_map, hq1]; rfl
              obtain ⟨_, h5⟩ := List.getElem?_eq_some_iff.1 h4
              obtain ⟨_, h6⟩ := List.getElem?_eq_some_iff.1 HQA.out
              rw [h5, h6] at h3
              have h7 : q1.id < q.id := h3
              omega
            have hkm : ((k : Int) - 1).toNat = k - 1 := by omega
            have hw1 : IntKind.i64.wrap ((k : Int) - 1) = (k : Int) - 1 := IntWalk.i64_in _ (by omega)
            have hw2 : wrap64 ((k : Int) - 1) = (k : Int) - 1 := by unfold wrap64; omega
            have hkp : (0 : Int) ≤ (k : Int) - 1 := by omega
            have hkq : (k : Int) - 1 < (wval.length : Int) := by omega
            clear hq1 hpcell
            go_wp2_with (first
              | ((with_reducible refine at_dst 61 ?_); refine wpList_load_at rfl 66 _ rfl bb (o + k * 7) rfl (encWhere x) _ HC.out Tryz.underlying66 rfl (by kernel_rfl) ?_)
              | ((with_reducible refine at_storeTo 7 ?_); refine wpList_store_box (BoxAt.newN (n := wr.heap.size) _ _ _ rfl) rfl 66 _ _ rfl rfl (.agg (encWhere x)) rfl (by kernel_rfl) rfl (one_agg (encWhere_one _)) ?_; intro w3 hb3 hT3; have hbx := hb3.eqv (splice_whole _ (encWhere x) rfl); have hL3 : Below wr.heap.size wr w3 := ((Below.refl _ _).alloc (Nat.le_refl _) _).trans (hT3.below (Nat.le_refl _)); have hB3 : Below w.heap.size w w3 := hB.trans (hL3.mono hB.size); have hbr3 := hbr.belowAll hL3; have hbm3 := hbm.belowAll hL3; clear hb3 hT3))
            refine wp_region_ord [(0, true), (1, true), (2, true), (3, true), (4, true), (5, true), (6, true), (7, true), (8, true), (9, true), (10, true), (11, true), (12, true), (13, true), (14, true), (15, true), (16, true), (17, true), (18, true), (19, true), (20, true), (21, true), (22, true), (23, true), (24, true), (25, true), (26, true), (27, true), (28, true), (29, true), (30, true), (31, true), (32, true), (33, true), (34, true), (35, true), (36, true), (37, true), (38, true)] rfl (by kernel_rfl) (by kernel_rfl) (fun d _ _ _ _ h => by cases d <;> exact h) ?_
            refine wpB_fix rfl rfl (fun W hW => by go_simp; with_reducible rfl) ?_; simp only [pTs, pTn, pTz, pTc]
            refine wpB_fix (v := vi x.piece) rfl rfl (fun W hW => by have e : W.cell? ⟨wr.heap.size, 0, none⟩ = some (vi x.piece) := ((hbx.drew.belowAll hW).cell 0).trans rfl; go_simp) ?_; simp only [pTs, pTn, pTz, pTc]
            refine wpB_fix rfl rfl (fun W hW => by go_simp; with_reducible rfl) ?_; simp only [pTs, pTn, pTz, pTc]
            refine wpB_fix (v := .slice (some ⟨pb, po, none⟩) pval.length pcap) rfl rfl (fun W hW => by have e : W.cell? ⟨w.heap.size, 0, none⟩ = some (.slice (some ⟨pb, po, none⟩) pval.length pcap) := ((hbr3.drew.belowAll hW).cell 0).trans HP0.out; go_simp) ?_; simp only [pTs, pTn, pTz, pTc]
            iterate 3 (refine wpB_fix rfl rfl (fun W hW => by go_simp; with_reducible rfl) ?_; simp only [pTs, pTn, pTz, pTc])
            refine wpB_fix (v := vi q.id) rfl rfl (fun W hW => by have e : W.cell? ⟨pb, po + k * 7, none⟩ = some (vi q.id) := (HQ.out W (hB3.drew.trans (hW.mono hB3.drew.size)) 0 (by show 0 < 7; decide)).trans rfl; go_simp) ?_; simp only [pTs, pTn, pTz, pTc]
            iterate 6 (refine wpB_fix rfl rfl (fun W hW => by go_simp; with_reducible rfl) ?_; simp only [pTs, pTn, pTz, pTc])
            refine wpB_fix (v := .slice (some ⟨pb, po, none⟩) pval.length pcap) rfl rfl (fun W hW => by have e : W.cell? ⟨w.heap.size, 0, none⟩ = some (.slice (some ⟨pb, po, none⟩) pval.length pcap) := ((hbr3.drew.belowAll hW).cell 0).trans HP0.out; go_simp) ?_; simp only [pTs, pTn, pTz, pTc]
            iterate 3 (refine wpB_fix rfl rfl (fun W hW => by go_simp; with_reducible rfl) ?_; simp only [pTs, pTn, pTz, pTc])
            refine wpB_fix (v := vi q.id) rfl rfl (fun W hW => by have e : W.cell? ⟨pb, po + k * 7, none⟩ = some (vi q.id) := (HQ.out W (hB3.drew.trans (hW.mono hB3.drew.size)) 0 (by show 0 < 7; decide)).trans rfl; go_simp) ?_; simp only [pTs, pTn, pTz, pTc]
            refine wpB_fix rfl rfl (fun W hW => by go_simp; with_reducible rfl) ?_; simp only [pTs, pTn, pTz, pTc]
            refine wpB_fix (v := .slice (some ⟨pb, po, none⟩) pval.length pcap) rfl rfl (fun W hW => by have e : W.cell? ⟨w.heap.size, 0, none⟩ = some (.slice (some ⟨pb, po, none⟩) pval.length pcap) := ((hbr3.drew.belowAll hW).cell 0).trans HP0.out; go_simp) ?_; simp only [pTs, pTn, pTz, pTc]
            iterate 4 (refine wpB_fix rfl rfl (fun W hW => by go_simp; with_reducible rfl) ?_; simp only [pTs, pTn, pTz, pTc])
            refine wpB_fix (v := vi q1.id) rfl rfl (fun W hW => by have e : W.cell? ⟨pb, po + (k - 1) * 7, none⟩ = some (vi q1.id) := (HQ1.out W (hB3.drew.trans (hW.mono hB3.drew.size)) 0 (by show 0 < 7; decide)).trans rfl; go_simp) ?_; simp only [pTs, pTn, pTz, pTc]
            iterate 5 (refine wpB_fix rfl rfl (fun W hW => by go_simp; with_reducible rfl) ?_; simp only [pTs, pTn, pTz, pTc])
            refine wpB_fix (v := vi x.kind) rfl rfl (fun W hW => by have e : W.cell? ⟨wr.heap.size, 1, none⟩ = some (vi x.kind) := ((hbx.drew.belowAll hW).cell 1).trans rfl; go_simp) ?_; simp only [pTs, pTn, pTz, pTc]
            iterate 4 (refine wpB_fix rfl rfl (fun W hW => by go_simp; with_reducible rfl) ?_; simp only [pTs, pTn, pTz, pTc])
            refine wpB_fix (v := vi x.kind) rfl rfl (fun W hW => by have e : W.cell? ⟨wr.heap.size, 1, none⟩ = some (vi x.kind) := ((hbx.drew.belowAll hW).cell 1).trans rfl; go_simp) ?_; simp only [pTs, pTn, pTz, pTc]
            iterate 2 (refine wpB_fix rfl rfl (fun W hW => by go_simp; with_reducible rfl) ?_; simp only [pTs, pTn, pTz, pTc])
            simp only [wpB]
            by_cases hx3 : x.kind = 3
            · have hf := free_where H.out HXA.out HQA.out hx3
              obtain ⟨g5, g6, _⟩ := G4.out hx3
              obtain ⟨p, hp⟩ : ∃ p : Nat, x.at_ = (p : Int) := ⟨x.at_.toNat, by omega⟩
              have hx1 : w3.drew.cell? ⟨wr.heap.size, 1, none⟩ = some (.int .i64 3) := by rw [← hx3]; exact (hbx.drew.cell 1).trans rfl
              have hx2 : w3.drew.cell? ⟨wr.heap.size, 2, none⟩ = some (.int .i64 p) := by rw [← hp]; exact (hbx.drew.cell 2).trans rfl
              have hm : w3.drew.cell? ⟨w.heap.size + 1, p, none⟩ = some (.bool false) := by
                rw [hbm3.drew.cell, marksC_get _ (by omega)]
                have hf2 := hf p hp
                rw [HABS.out.2.1, HABS.out.1] at hf2
                rw [hf2]
              have hfz : w3.drew.frozen? ⟨w.heap.size + 1, p, none⟩ = false := hbm3.drew.frozen p
              have hp1 : ¬ (p : Int) < 1 := by omega
              have hp2 : ¬ (64 : Int) < (p : Int) := by omega
              have hp3 : (p : Int) < 65 := by omega
              have hp4 : p < 65 := by omega
              have HML : Hid (∀ j, (takenB nval (wval.take k) j || decide (j = p)) = takenB nval (wval.take (k + 1)) j) := Lib.hid (takenB_where HX.out hx3 hp)
              clear hp hx3 g5 g6 hf
              go_wp2
              go_roundw
              case rel =>
                have hT3 := Turn.setCell w3.drew (w.heap.size + 1) p (.bool true)
                have hs0 := hB.size
                refine ⟨k + 1, by omega, by go_num, hbr3.drew.turn hT3 (by omega), (heap_setCell_same w3.drew (w.heap.size + 1) p _ _ (.bool true) hbm3.drew).trans ?_, hB3.drew.trans (hT3.below (by omega))⟩
                rw [marksC_set, marksC_congr HML.out]
              case measure => simp [Go.RowKit.intOf]; omega
            · have hx1 : w3.drew.cell? ⟨wr.heap.size, 1, none⟩ = some (vi x.kind) := (hbx.drew.cell 1).trans rfl
              have hx2 : (x.kind != 3) = true := by simpa using hx3
              have HML : Hid (∀ j, takenB nval (wval.take k) j = takenB nval (wval.take (k + 1)) j) := Lib.hid (takenB_skip HX.out hx3)
              go_wp2
              go_roundw
              case rel => exact ⟨k + 1, by omega, by go_num, hbr3.drew, hbm3.drew.eqv (marksC_congr HML.out), hB3.drew⟩
              case measure => simp [Go.RowKit.intOf]; omega
        · have hkl : k = wval.length := by omega
          go_wp2
          go_ret
          exact ⟨by simp, hB⟩
end Go.Proofs.YtendmmhfjhgdaaaGreat
end
section
set_option linter.unusedVariables false
set_option linter.unusedSimpArgs false
namespace Go.Proofs.YtendmmhfjhgdaaaGreat
open Go.RowKit

theorem folded_lens {l : List NoteA} (hl : SetA l) (year : Int) : (foldedA l year).wher.length ≤ 1000000 ∧ (foldedA l year).new_.length ≤ 1000000 ∧ (foldedA l year).pieces.length ≤ 1000000 := by
  have h := set_small hl year
  refine ⟨?_, ?_, ?_⟩
  · have h1 := h.pieces
    show ((keysUp (ledEnd l year).pieces).map _).length ≤ _
    rw [List.length_map, keysUp_len]; exact h1
  · have h1 := h.glass
    show ((keysUp (ledEnd l year).glass).map _).length ≤ _
    rw [List.length_map, keysUp_len]; exact h1
  · have h1 := h.pieces
    show ((keysUp (ledEnd l year).pieces).map _).length ≤ _
    rw [List.length_map, keysUp_len]; exact h1
/-- what the law asks of a note of the set and a later one -/
def apartN (y x : Note) : Prop := ¬ (8 < y.kind ∧ y.ref = refN x) ∧ y.year ≤ x.year ∧ y.clock < x.clock
theorem later_of {l t : List Note} {X : List NoteA} (hl : SetA (l.map Note.abs)) (hX : mergeA (l.map Note.abs) (t.map Note.abs) = (X, 0)) (hk : ∀ x ∈ t, x.kind ≤ 8) (ha : ∀ x ∈ t, ∀ y ∈ l, apartN y x) : Later (l.map Note.abs) (t.map Note.abs) X := by
  have h0 : (mergeA (l.map Note.abs) (t.map Note.abs)).2 = 0 := by rw [hX]
  obtain ⟨h1, h2, h3, h4⟩ := mergeA_ok h0
  rw [hX] at h3 h4
  refine ⟨h1, h3, h4, fun x hx => ?_, fun y hy x hx h8 e => ?_, fun y hy x hx => ?_, fun y hy x hx => ?_⟩
  · obtain ⟨x', hx', rfl⟩ := List.mem_map.1 hx; exact hk x' hx'
  all_goals
    obtain ⟨x', hx', rfl⟩ := List.mem_map.1 hx
    obtain ⟨y', hy', rfl⟩ := List.mem_map.1 hy
    have h := ha x' hx' y' hy'
  · exact h.1 ⟨h8, e⟩
  · exact h.2.1
  · exact h.2.2
theorem whereIs_found {l : List Where} {p : Int} (h : ∃ x ∈ l, x.piece = p) : (whereIs l p).2 = 0 := by
  unfold whereIs
  cases hf : l.find? (fun x => decide (x.piece = p)) with
  | some x => rfl
  | none =>
    obtain ⟨x, hx, e⟩ := h
    have := List.find?_eq_none.1 hf x hx
    simp [e] at this
theorem refN_eq_iff (y : Note) (x : Note) : y.ref = ⟨x.bench, x.num⟩ ↔ y.ref = refN x := Iff.rfl
/-! the walk -/
set_option maxRecDepth 100000 in
set_option maxHeartbeats 16000000 in
theorem onep_any (s t : Sl Note) (w : World) (hs : NOK w s) (ht : NOK w t) :
    Calls Tryz.prog 10 #[.slice s.a s.val.length s.cap, .slice t.a t.val.length t.cap] w fun e w' => e = .returned (.bool true) ∧ Below w.heap.size w w' := by
  have hroom := hs.room
  have hroom2 := ht.room
  have HS := Lib.hid hs
  have HT := Lib.hid ht
  clear hs ht
  obtain ⟨a, cap, val⟩ := s
  obtain ⟨a2, cap2, val2⟩ := t
  simp only at hroom hroom2
  by_cases h200 : (200 : Int) < (val.length : Int)
  · go_enter Tryz.func10, Tryz.ntmps10
    go_wp2_with (go_at_call 12; (with_reducible refine (awake_any _).mono ?_); rintro e wa ⟨rfl, hba⟩)
    go_ret
    exact ⟨by simp, hba⟩
  by_cases h201 : (200 : Int) < (val2.length : Int)
  · go_enter Tryz.func10, Tryz.ntmps10
    go_wp2_with (go_at_call 12; (with_reducible refine (awake_any _).mono ?_); rintro e wa ⟨rfl, hba⟩)
    go_ret
    exact ⟨by simp, hba⟩
  by_cases hset : isSetB val = true
  rotate_left
  · have HF := Lib.hid (fold_bad (fun _ => False) ⟨a, cap, val⟩ w HS.out (by simpa using hset))
    clear hset
    go_enter Tryz.func10, Tryz.ntmps10
    go_wp2_with (first
      | (go_at_call 25; (with_reducible refine HF.out.mono ?_); rintro e w1 ⟨rfl, hb1⟩)
      | ((with_reducible refine at_storeTo 5 ?_); refine wpList_store_box (BoxAt.newN (n := w1.heap.size) _ _ _ rfl) rfl 58 _ _ rfl rfl (.agg (encRegister zRegister)) rfl (by kernel_rfl) rfl (one_agg (encRegister_one _)) ?_; intro u1 hq hT; have hLu1 : Below w1.heap.size w1 u1 := ((Below.refl _ _).alloc (Nat.le_refl _) _).trans (hT.below (Nat.le_refl _)); clear hq hT; have hBu1 : Below w.heap.size w u1 := hb1.trans (hLu1.mono hb1.size))
      | (go_at_call 12; (with_reducible refine (awake_any _).mono ?_); rintro e wa ⟨rfl, hba⟩))
    go_ret
    exact ⟨by simp, hBu1.trans (hba.mono hBu1.size)⟩
  have hset' := (isSetB_iff val).1 hset
  have HSET := Lib.hid hset'
  have HF := Lib.hid (fold_set (fun _ => False) ⟨a, cap, val⟩ w HS.out hset')
  have HLN := Lib.hid (folded_lens hset' 9999)
  have HO1 := Lib.hid (onePlace_set hset' 9999)
  clear hset hset'
  go_enter Tryz.func10, Tryz.ntmps10
  go_wp2_with (first
    | (go_at_call 25; (with_reducible refine HF.out.mono ?_); rintro e w1 ⟨R, rfl, hRA, hRO, hb1⟩; have HRA := Lib.hid hRA; have HRO := Lib.hid hRO; clear hRA hRO)
    | ((with_reducible refine at_storeTo 5 ?_); refine wpList_store_box (BoxAt.newN (n := w1.heap.size) _ _ _ rfl) rfl 58 _ _ rfl rfl (.agg (encRegister R)) rfl (by kernel_rfl) rfl (one_agg (encRegister_one _)) ?_; intro u1 hq hT; have br := hq.eqv (splice_whole _ (encRegister R) rfl); have hLu1 : Below w1.heap.size w1 u1 := ((Below.refl _ _).alloc (Nat.le_refl _) _).trans (hT.below (Nat.le_refl _)); clear hq hT; have hBu1 : Below w.heap.size w u1 := hb1.trans (hLu1.mono hb1.size))
    | (with_reducible refine at_dst 34 ?_; refine wpList_loadB br rfl 58 _ rfl rfl (encRegister R) (whole_cells _) Tryz.underlying58 rfl (by kernel_rfl) ?_)
    | (go_at_call 37; refine (onePlace_any R _ (okRegister.mono (okRegister.ext HRO.out (.of_below hLu1)) (fun _ h => h.elim)) (by rw [HRA.out]; exact HO1.out) (by have h := HLN.out.1; rw [← HRA.out] at h; exact h) (by have h := HLN.out.2.1; rw [← HRA.out] at h; exact h)).mono ?_; rintro e w2 ⟨rfl, hb2⟩; have br2 := br.belowAll hb2; have hC2 := hLu1.trans (hb2.mono hLu1.size)))
  go_loopw [7] (fun i wr => ∃ m : Nat, m ≤ val2.length ∧ i = .int .i64 m ∧ Hid (∀ x ∈ val2.take m, x.kind ≤ 8 ∧ ∀ y ∈ val, apartN y x) ∧ BoxAt wr w1.heap.size 58 (encRegister R) ∧ Below w1.heap.size w1 wr) (fun i _ => val2.length - (intOf i).toNat)
  case atStart => exact ⟨0, Nat.zero_le _, rfl, Lib.hid (by simp), br2, hC2⟩
  case round =>
    obtain ⟨m, hm, rfl, HM, br, hC⟩ := hrel
    have hB : Below w.heap.size w wr := hb1.trans (hC.mono hb1.size)
    by_cases hlt : m < val2.length
    · obtain ⟨x, hx⟩ : ∃ x, val2[m]? = some x := ⟨_, List.getElem?_eq_getElem hlt⟩
      obtain ⟨b2, o2, rfl, hb, _, hokx, hcell⟩ := HT.out.at hx
      have HCX : Hid (∀ W, Below w.heap.size w W → ∀ j, j < (encNote x).size → W.cell? ⟨b2, o2 + m * 29 + j, none⟩ = (encNote x)[j]?) := Lib.hid fun W hW j hj => (hW.cell (p := ⟨b2, o2 + m * 29 + j, none⟩) hb).trans (hcell j hj)
      have hi1 : (m : Int) < (val2.length : Int) := by omega
      have hx4 : wr.cell? ⟨b2, o2 + m * 29 + 4, none⟩ = some (vi x.kind) := (HCX.out _ hB 4 (by show 4 < 29; decide)).trans rfl
      have HX := Lib.hid hx
      clear hx hokx hcell hb
      by_cases h8 : 8 < x.kind
      · go_wp2_with (go_at_call 12; (with_reducible refine (awake_any _).mono ?_); rintro e wa ⟨rfl, hba⟩)
        go_ret
        exact ⟨by simp, hB.trans (hba.mono hB.size)⟩
      go_wp2
      go_loopw [8] (fun i wi => ∃ k : Nat, k ≤ val.length ∧ i = .int .i64 k ∧ Hid (∀ y ∈ val.take k, apartN y x) ∧ BoxAt wi w1.heap.size 58 (encRegister R) ∧ Below w1.heap.size w1 wi) (fun i _ => val.length - (intOf i).toNat)
      case atStart => exact ⟨0, Nat.zero_le _, rfl, Lib.hid (by simp), br, hC⟩
      case round =>
        obtain ⟨k, hk, rfl, HK, bri, hCi⟩ := hrel
        have hBi : Below w.heap.size w wr := hb1.trans (hCi.mono hb1.size)
        by_cases hkl : k < val.length
        · obtain ⟨y, hy⟩ : ∃ y, val[k]? = some y := ⟨_, List.getElem?_eq_getElem hkl⟩
          obtain ⟨b1, o1, rfl, hb, _, hokx, hcell⟩ := HS.out.at hy
          have HCY : Hid (∀ W, Below w.heap.size w W → ∀ j, j < (encNote y).size → W.cell? ⟨b1, o1 + k * 29 + j, none⟩ = (encNote y)[j]?) := Lib.hid fun W hW j hj => (hW.cell (p := ⟨b1, o1 + k * 29 + j, none⟩) hb).trans (hcell j hj)
          have hk1 : (k : Int) < (val.length : Int) := by omega
          have HY := Lib.hid hy
          clear hy hokx hcell hb hx4
          by_cases hy8 : 8 < y.kind
          · by_cases hre : y.ref = refN x
            · have hr2 : eqRef y.ref (refN x) = true := by simp [eqRef, hre]
              clear hre
              go_wp2
              refine wp_region_ord [(0, true), (1, true), (2, true), (3, true), (4, true), (5, true), (6, true), (7, true), (8, true), (9, true), (10, true), (11, true), (12, true), (13, true), (14, true), (15, true), (16, true), (17, true), (18, true), (19, true), (20, true), (21, true), (22, true), (23, true), (24, true), (25, true)] rfl (by kernel_rfl) (by kernel_rfl) (fun d _ _ _ _ h => by cases d <;> exact h) ?_
              iterate 4 (refine wpB_fix rfl rfl (fun W hW => by go_simp; with_reducible rfl) ?_; simp only [pTs, pTn, pTz, pTc])
              refine wpB_fix (v := vi y.kind) rfl rfl (fun W hW => by have e : W.cell? ⟨b1, o1 + k * 29 + 4, none⟩ = some (vi y.kind) := (HCY.out W (hBi.drew.trans (hW.mono hBi.drew.size)) 4 (by show 4 < 29; decide)).trans rfl; go_simp) ?_; simp only [pTs, pTn, pTz, pTc]
              iterate 6 (refine wpB_fix rfl rfl (fun W hW => by go_simp; with_reducible rfl) ?_; simp only [pTs, pTn, pTz, pTc])
              refine wpB_fix (v := .agg (encRef y.ref)) rfl rfl (fun W hW => run_load_mem (encRef y.ref) rfl (fun j hj => by rw [show o1 + k * 29 + 12 + j = o1 + k * 29 + (12 + j) by omega, HCY.out W (hBi.drew.trans (hW.mono hBi.drew.size)) (12 + j) (by have : j < 2 := hj; show 12 + j < 29; omega)]; exact note_ref y j hj) Tryz.underlying31 rfl (by kernel_rfl)) ?_; simp only [pTs, pTn, pTz, pTc]
              iterate 4 (refine wpB_fix rfl rfl (fun W hW => by go_simp; with_reducible rfl) ?_; simp only [pTs, pTn, pTz, pTc])
              refine wpB_fix (v := vi x.bench) rfl rfl (fun W hW => by have e : W.cell? ⟨b2, o2 + m * 29, none⟩ = some (vi x.bench) := (HCX.out W (hBi.drew.trans (hW.mono hBi.drew.size)) 0 (by show 0 < 29; decide)).trans rfl; go_simp) ?_; simp only [pTs, pTn, pTz, pTc]
              iterate 4 (refine wpB_fix rfl rfl (fun W hW => by go_simp; with_reducible rfl) ?_; simp only [pTs, pTn, pTz, pTc])
              refine wpB_fix (v := vi x.num) rfl rfl (fun W hW => by have e : W.cell? ⟨b2, o2 + m * 29 + 1, none⟩ = some (vi x.num) := (HCX.out W (hBi.drew.trans (hW.mono hBi.drew.size)) 1 (by show 1 < 29; decide)).trans rfl; go_simp) ?_; simp only [pTs, pTn, pTz, pTc]
              refine wpB_fix (v := .agg (encRef (refN x))) rfl rfl (fun W hW => by go_simp; rfl) ?_; simp only [pTs, pTn, pTz, pTc]
              refine wpB_fix (v := .bool true) rfl rfl (fun W hW => by go_simp) ?_; simp only [pTs, pTn, pTz, pTc]
              iterate 2 (refine wpB_fix rfl rfl (fun W hW => by go_simp; with_reducible rfl) ?_; simp only [pTs, pTn, pTz, pTc])
              simp only [wpB]
              go_wp2
              refine wp_region_ord [(0, true), (1, true), (2, true), (3, true), (4, true), (5, true), (6, true), (7, true), (8, true), (9, true), (10, true), (11, true), (12, true), (13, true), (14, true), (15, true), (16, true), (17, true), (18, true), (19, true), (20, true), (21, true), (22, true), (23, true), (24, true), (25, true), (26, true)] rfl (by kernel_rfl) (by kernel_rfl) (fun d _ _ _ _ h => by cases d <;> exact h) ?_
              iterate 2 (refine wpB_fix rfl rfl (fun W hW => by go_simp; with_reducible rfl) ?_; simp only [pTs, pTn, pTz, pTc])
              iterate 11 (refine wpB_skip rfl rfl ?_; simp only [pTs, pTn, pTz, pTc])
              iterate 2 (refine wpB_fix rfl rfl (fun W hW => by go_simp; with_reducible rfl) ?_; simp only [pTs, pTn, pTz, pTc])
              iterate 11 (refine wpB_skip rfl rfl ?_; simp only [pTs, pTn, pTz, pTc])
              refine wpB_fix rfl rfl (fun W hW => by go_simp; with_reducible rfl) ?_; simp only [pTs, pTn, pTz, pTc]
              simp only [wpB]
              go_wp2_with (go_at_call 12; (with_reducible refine (awake_any _).mono ?_); rintro e wa ⟨rfl, hba⟩)
              go_ret
              exact ⟨by simp, hBi.drew.drew.trans (hba.mono hBi.drew.drew.size)⟩
            have hr2 : eqRef y.ref (refN x) = false := by simp [eqRef, hre]
            have HRE := Lib.hid hre
            clear hre
            by_cases hyr : x.year < y.year
            · have hyd : decide (x.year < y.year) = true := decide_eq_true hyr
              go_wp2
              refine wp_region_ord [(0, true), (1, true), (2, true), (3, true), (4, true), (5, true), (6, true), (7, true), (8, true), (9, true), (10, true), (11, true), (12, true), (13, true), (14, true), (15, true), (16, true), (17, true), (18, true), (19, true), (20, true), (21, true), (22, true), (23, true), (24, true), (25, true)] rfl (by kernel_rfl) (by kernel_rfl) (fun d _ _ _ _ h => by cases d <;> exact h) ?_
              iterate 4 (refine wpB_fix rfl rfl (fun W hW => by go_simp; with_reducible rfl) ?_; simp only [pTs, pTn, pTz, pTc])
              refine wpB_fix (v := vi y.kind) rfl rfl (fun W hW => by have e : W.cell? ⟨b1, o1 + k * 29 + 4, none⟩ = some (vi y.kind) := (HCY.out W (hBi.drew.trans (hW.mono hBi.drew.size)) 4 (by show 4 < 29; decide)).trans rfl; go_simp) ?_; simp only [pTs, pTn, pTz, pTc]
              iterate 6 (refine wpB_fix rfl rfl (fun W hW => by go_simp; with_reducible rfl) ?_; simp only [pTs, pTn, pTz, pTc])
              refine wpB_fix (v := .agg (encRef y.ref)) rfl rfl (fun W hW => run_load_mem (encRef y.ref) rfl (fun j hj => by rw [show o1 + k * 29 + 12 + j = o1 + k * 29 + (12 + j) by omega, HCY.out W (hBi.drew.trans (hW.mono hBi.drew.size)) (12 + j) (by have : j < 2 := hj; show 12 + j < 29; omega)]; exact note_ref y j hj) Tryz.underlying31 rfl (by kernel_rfl)) ?_; simp only [pTs, pTn, pTz, pTc]
              iterate 4 (refine wpB_fix rfl rfl (fun W hW => by go_simp; with_reducible rfl) ?_; simp only [pTs, pTn, pTz, pTc])
              refine wpB_fix (v := vi x.bench) rfl rfl (fun W hW => by have e : W.cell? ⟨b2, o2 + m * 29, none⟩ = some (vi x.bench) := (HCX.out W (hBi.drew.trans (hW.mono hBi.drew.size)) 0 (by show 0 < 29; decide)).trans rfl; go_simp) ?_; simp only [pTs, pTn, pTz, pTc]
              iterate 4 (refine wpB_fix rfl rfl (fun W hW => by go_simp; with_reducible rfl) ?_; simp only [pTs, pTn, pTz, pTc])
              refine wpB_fix (v := vi x.num) rfl rfl (fun W hW => by have e : W.cell? ⟨b2, o2 + m * 29 + 1, none⟩ = some (vi x.num) := (HCX.out W (hBi.drew.trans (hW.mono hBi.drew.size)) 1 (by show 1 < 29; decide)).trans rfl; go_simp) ?_; simp only [pTs, pTn, pTz, pTc]
              refine wpB_fix (v := .agg (encRef (refN x))) rfl rfl (fun W hW => by go_simp; rfl) ?_; simp only [pTs, pTn, pTz, pTc]
              refine wpB_fix (v := .bool false) rfl rfl (fun W hW => by go_simp) ?_; simp only [pTs, pTn, pTz, pTc]
              iterate 2 (refine wpB_fix rfl rfl (fun W hW => by go_simp; with_reducible rfl) ?_; simp only [pTs, pTn, pTz, pTc])
              simp only [wpB]
              go_wp2
              refine wp_region_ord [(0, true), (1, true), (2, true), (3, true), (4, true), (5, true), (6, true), (7, true), (8, true), (9, true), (10, true), (11, true), (12, true), (13, true), (14, true), (15, true), (16, true), (17, true), (18, true), (19, true), (20, true), (21, true), (22, true), (23, true), (24, true), (25, true), (26, true)] rfl (by kernel_rfl) (by kernel_rfl) (fun d _ _ _ _ h => by cases d <;> exact h) ?_
              iterate 6 (refine wpB_fix rfl rfl (fun W hW => by go_simp; with_reducible rfl) ?_; simp only [pTs, pTn, pTz, pTc])
              refine wpB_fix (v := vi y.year) rfl rfl (fun W hW => by have e : W.cell? ⟨b1, o1 + k * 29 + 3, none⟩ = some (vi y.year) := (HCY.out W (hBi.drew.drew.trans (hW.mono hBi.drew.drew.size)) 3 (by show 3 < 29; decide)).trans rfl; go_simp) ?_; simp only [pTs, pTn, pTz, pTc]
              iterate 4 (refine wpB_fix rfl rfl (fun W hW => by go_simp; with_reducible rfl) ?_; simp only [pTs, pTn, pTz, pTc])
              refine wpB_fix (v := vi x.year) rfl rfl (fun W hW => by have e : W.cell? ⟨b2, o2 + m * 29 + 3, none⟩ = some (vi x.year) := (HCX.out W (hBi.drew.drew.trans (hW.mono hBi.drew.drew.size)) 3 (by show 3 < 29; decide)).trans rfl; go_simp) ?_; simp only [pTs, pTn, pTz, pTc]
              iterate 3 (refine wpB_fix rfl rfl (fun W hW => by go_simp; with_reducible rfl) ?_; simp only [pTs, pTn, pTz, pTc])
              iterate 11 (refine wpB_skip rfl rfl ?_; simp only [pTs, pTn, pTz, pTc])
              refine wpB_fix rfl rfl (fun W hW => by go_simp; with_reducible rfl) ?_; simp only [pTs, pTn, pTz, pTc]
              simp only [wpB]
              go_wp2_with (go_at_call 12; (with_reducible refine (awake_any _).mono ?_); rintro e wa ⟨rfl, hba⟩)
              go_ret
              exact ⟨by simp, hBi.drew.drew.trans (hba.mono hBi.drew.drew.size)⟩
            have hyd : decide (x.year < y.year) = false := decide_eq_false hyr
            by_cases hck : x.clock ≤ y.clock
            · have hcd : decide (x.clock ≤ y.clock) = true := decide_eq_true hck
              go_wp2
              refine wp_region_ord [(0, true), (1, true), (2, true), (3, true), (4, true), (5, true), (6, true), (7, true), (8, true), (9, true), (10, true), (11, true), (12, true), (13, true), (14, true), (15, true), (16, true), (17, true), (18, true), (19, true), (20, true), (21, true), (22, true), (23, true), (24, true), (25, true)] rfl (by kernel_rfl) (by kernel_rfl) (fun d _ _ _ _ h => by cases d <;> exact h) ?_
              iterate 4 (refine wpB_fix rfl rfl (fun W hW => by go_simp; with_reducible rfl) ?_; simp only [pTs, pTn, pTz, pTc])
              refine wpB_fix (v := vi y.kind) rfl rfl (fun W hW => by have e : W.cell? ⟨b1, o1 + k * 29 + 4, none⟩ = some (vi y.kind) := (HCY.out W (hBi.drew.trans (hW.mono hBi.drew.size)) 4 (by show 4 < 29; decide)).trans rfl; go_simp) ?_; simp only [pTs, pTn, pTz, pTc]
              iterate 6 (refine wpB_fix rfl rfl (fun W hW => by go_simp; with_reducible rfl) ?_; simp only [pTs, pTn, pTz, pTc])
              refine wpB_fix (v := .agg (encRef y.ref)) rfl rfl (fun W hW => run_load_mem (encRef y.ref) rfl (fun j hj => by rw [show o1 + k * 29 + 12 + j = o1 + k * 29 + (12 + j) by omega, HCY.out W (hBi.drew.trans (hW.mono hBi.drew.size)) (12 + j) (by have : j < 2 := hj; show 12 + j < 29; omega)]; exact note_ref y j hj) Tryz.underlying31 rfl (by kernel_rfl)) ?_; simp only [pTs, pTn, pTz, pTc]
              iterate 4 (refine wpB_fix rfl rfl (fun W hW => by go_simp; with_reducible rfl) ?_; simp only [pTs, pTn, pTz, pTc])
              refine wpB_fix (v := vi x.bench) rfl rfl (fun W hW => by have e : W.cell? ⟨b2, o2 + m * 29, none⟩ = some (vi x.bench) := (HCX.out W (hBi.drew.trans (hW.mono hBi.drew.size)) 0 (by show 0 < 29; decide)).trans rfl; go_simp) ?_; simp only [pTs, pTn, pTz, pTc]
              iterate 4 (refine wpB_fix rfl rfl (fun W hW => by go_simp; with_reducible rfl) ?_; simp only [pTs, pTn, pTz, pTc])
              refine wpB_fix (v := vi x.num) rfl rfl (fun W hW => by have e : W.cell? ⟨b2, o2 + m * 29 + 1, none⟩ = some (vi x.num) := (HCX.out W (hBi.drew.trans (hW.mono hBi.drew.size)) 1 (by show 1 < 29; decide)).trans rfl; go_simp) ?_; simp only [pTs, pTn, pTz, pTc]
              refine wpB_fix (v := .agg (encRef (refN x))) rfl rfl (fun W hW => by go_simp; rfl) ?_; simp only [pTs, pTn, pTz, pTc]
              refine wpB_fix (v := .bool false) rfl rfl (fun W hW => by go_simp) ?_; simp only [pTs, pTn, pTz, pTc]
              iterate 2 (refine wpB_fix rfl rfl (fun W hW => by go_simp; with_reducible rfl) ?_; simp only [pTs, pTn, pTz, pTc])
              simp only [wpB]
              go_wp2
              refine wp_region_ord [(0, true), (1, true), (2, true), (3, true), (4, true), (5, true), (6, true), (7, true), (8, true), (9, true), (10, true), (11, true), (12, true), (13, true), (14, true), (15, true), (16, true), (17, true), (18, true), (19, true), (20, true), (21, true), (22, true), (23, true), (24, true), (25, true), (26, true)] rfl (by kernel_rfl) (by kernel_rfl) (fun d _ _ _ _ h => by cases d <;> exact h) ?_
              iterate 6 (refine wpB_fix rfl rfl (fun W hW => by go_simp; with_reducible rfl) ?_; simp only [pTs, pTn, pTz, pTc])
              refine wpB_fix (v := vi y.year) rfl rfl (fun W hW => by have e : W.cell? ⟨b1, o1 + k * 29 + 3, none⟩ = some (vi y.year) := (HCY.out W (hBi.drew.drew.trans (hW.mono hBi.drew.drew.size)) 3 (by show 3 < 29; decide)).trans rfl; go_simp) ?_; simp only [pTs, pTn, pTz, pTc]
              iterate 4 (refine wpB_fix rfl rfl (fun W hW => by go_simp; with_reducible rfl) ?_; simp only [pTs, pTn, pTz, pTc])
              refine wpB_fix (v := vi x.year) rfl rfl (fun W hW => by have e : W.cell? ⟨b2, o2 + m * 29 + 3, none⟩ = some (vi x.year) := (HCX.out W (hBi.drew.drew.trans (hW.mono hBi.drew.drew.size)) 3 (by show 3 < 29; decide)).trans rfl; go_simp) ?_; simp only [pTs, pTn, pTz, pTc]
              iterate 7 (refine wpB_fix rfl rfl (fun W hW => by go_simp; with_reducible rfl) ?_; simp only [pTs, pTn, pTz, pTc])
              refine wpB_fix (v := vi y.clock) rfl rfl (fun W hW => by have e : W.cell? ⟨b1, o1 + k * 29 + 2, none⟩ = some (vi y.clock) := (HCY.out W (hBi.drew.drew.trans (hW.mono hBi.drew.drew.size)) 2 (by show 2 < 29; decide)).trans rfl; go_simp) ?_; simp only [pTs, pTn, pTz, pTc]
              iterate 4 (refine wpB_fix rfl rfl (fun W hW => by go_simp; with_reducible rfl) ?_; simp only [pTs, pTn, pTz, pTc])
              refine wpB_fix (v := vi x.clock) rfl rfl (fun W hW => by have e : W.cell? ⟨b2, o2 + m * 29 + 2, none⟩ = some (vi x.clock) := (HCX.out W (hBi.drew.drew.trans (hW.mono hBi.drew.drew.size)) 2 (by show 2 < 29; decide)).trans rfl; go_simp) ?_; simp only [pTs, pTn, pTz, pTc]
              iterate 2 (refine wpB_fix rfl rfl (fun W hW => by go_simp; with_reducible rfl) ?_; simp only [pTs, pTn, pTz, pTc])
              simp only [wpB]
              go_wp2_with (go_at_call 12; (with_reducible refine (awake_any _).mono ?_); rintro e wa ⟨rfl, hba⟩)
              go_ret
              exact ⟨by simp, hBi.drew.drew.trans (hba.mono hBi.drew.drew.size)⟩
            · have hcd : decide (x.clock ≤ y.clock) = false := decide_eq_false hck
              have HAP : Hid (apartN y x) := Lib.hid ⟨fun h => HRE.out h.2, by omega, by omega⟩
              clear hck hyr
              go_wp2
              refine wp_region_ord [(0, true), (1, true), (2, true), (3, true), (4, true), (5, true), (6, true), (7, true), (8, true), (9, true), (10, true), (11, true), (12, true), (13, true), (14, true), (15, true), (16, true), (17, true), (18, true), (19, true), (20, true), (21, true), (22, true), (23, true), (24, true), (25, true)] rfl (by kernel_rfl) (by kernel_rfl) (fun d _ _ _ _ h => by cases d <;> exact h) ?_
              iterate 4 (refine wpB_fix rfl rfl (fun W hW => by go_simp; with_reducible rfl) ?_; simp only [pTs, pTn, pTz, pTc])
              refine wpB_fix (v := vi y.kind) rfl rfl (fun W hW => by have e : W.cell? ⟨b1, o1 + k * 29 + 4, none⟩ = some (vi y.kind) := (HCY.out W (hBi.drew.trans (hW.mono hBi.drew.size)) 4 (by show 4 < 29; decide)).trans rfl; go_simp) ?_; simp only [pTs, pTn, pTz, pTc]
              iterate 6 (refine wpB_fix rfl rfl (fun W hW => by go_simp; with_reducible rfl) ?_; simp only [pTs, pTn, pTz, pTc])
              refine wpB_fix (v := .agg (encRef y.ref)) rfl rfl (fun W hW => run_load_mem (encRef y.ref) rfl (fun j hj => by rw [show o1 + k * 29 + 12 + j = o1 + k * 29 + (12 + j) by omega, HCY.out W (hBi.drew.trans (hW.mono hBi.drew.size)) (12 + j) (by have : j < 2 := hj; show 12 + j < 29; omega)]; exact note_ref y j hj) Tryz.underlying31 rfl (by kernel_rfl)) ?_; simp only [pTs, pTn, pTz, pTc]
              iterate 4 (refine wpB_fix rfl rfl (fun W hW => by go_simp; with_reducible rfl) ?_; simp only [pTs, pTn, pTz, pTc])
              refine wpB_fix (v := vi x.bench) rfl rfl (fun W hW => by have e : W.cell? ⟨b2, o2 + m * 29, none⟩ = some (vi x.bench) := (HCX.out W (hBi.drew.trans (hW.mono hBi.drew.size)) 0 (by show 0 < 29; decide)).trans rfl; go_simp) ?_; simp only [pTs, pTn, pTz, pTc]
              iterate 4 (refine wpB_fix rfl rfl (fun W hW => by go_simp; with_reducible rfl) ?_; simp only [pTs, pTn, pTz, pTc])
              refine wpB_fix (v := vi x.num) rfl rfl (fun W hW => by have e : W.cell? ⟨b2, o2 + m * 29 + 1, none⟩ = some (vi x.num) := (HCX.out W (hBi.drew.trans (hW.mono hBi.drew.size)) 1 (by show 1 < 29; decide)).trans rfl; go_simp) ?_; simp only [pTs, pTn, pTz, pTc]
              refine wpB_fix (v := .agg (encRef (refN x))) rfl rfl (fun W hW => by go_simp; rfl) ?_; simp only [pTs, pTn, pTz, pTc]
              refine wpB_fix (v := .bool false) rfl rfl (fun W hW => by go_simp) ?_; simp only [pTs, pTn, pTz, pTc]
              iterate 2 (refine wpB_fix rfl rfl (fun W hW => by go_simp; with_reducible rfl) ?_; simp only [pTs, pTn, pTz, pTc])
              simp only [wpB]
              go_wp2
              refine wp_region_ord [(0, true), (1, true), (2, true), (3, true), (4, true), (5, true), (6, true), (7, true), (8, true), (9, true), (10, true), (11, true), (12, true), (13, true), (14, true), (15, true), (16, true), (17, true), (18, true), (19, true), (20, true), (21, true), (22, true), (23, true), (24, true), (25, true), (26, true)] rfl (by kernel_rfl) (by kernel_rfl) (fun d _ _ _ _ h => by cases d <;> exact h) ?_
              iterate 6 (refine wpB_fix rfl rfl (fun W hW => by go_simp; with_reducible rfl) ?_; simp only [pTs, pTn, pTz, pTc])
              refine wpB_fix (v := vi y.year) rfl rfl (fun W hW => by have e : W.cell? ⟨b1, o1 + k * 29 + 3, none⟩ = some (vi y.year) := (HCY.out W (hBi.drew.drew.trans (hW.mono hBi.drew.drew.size)) 3 (by show 3 < 29; decide)).trans rfl; go_simp) ?_; simp only [pTs, pTn, pTz, pTc]
              iterate 4 (refine wpB_fix rfl rfl (fun W hW => by go_simp; with_reducible rfl) ?_; simp only [pTs, pTn, pTz, pTc])
              refine wpB_fix (v := vi x.year) rfl rfl (fun W hW => by have e : W.cell? ⟨b2, o2 + m * 29 + 3, none⟩ = some (vi x.year) := (HCX.out W (hBi.drew.drew.trans (hW.mono hBi.drew.drew.size)) 3 (by show 3 < 29; decide)).trans rfl; go_simp) ?_; simp only [pTs, pTn, pTz, pTc]
              iterate 7 (refine wpB_fix rfl rfl (fun W hW => by go_simp; with_reducible rfl) ?_; simp only [pTs, pTn, pTz, pTc])
              refine wpB_fix (v := vi y.clock) rfl rfl (fun W hW => by have e : W.cell? ⟨b1, o1 + k * 29 + 2, none⟩ = some (vi y.clock) := (HCY.out W (hBi.drew.drew.trans (hW.mono hBi.drew.drew.size)) 2 (by show 2 < 29; decide)).trans rfl; go_simp) ?_; simp only [pTs, pTn, pTz, pTc]
              iterate 4 (refine wpB_fix rfl rfl (fun W hW => by go_simp; with_reducible rfl) ?_; simp only [pTs, pTn, pTz, pTc])
              refine wpB_fix (v := vi x.clock) rfl rfl (fun W hW => by have e : W.cell? ⟨b2, o2 + m * 29 + 2, none⟩ = some (vi x.clock) := (HCX.out W (hBi.drew.drew.trans (hW.mono hBi.drew.drew.size)) 2 (by show 2 < 29; decide)).trans rfl; go_simp) ?_; simp only [pTs, pTn, pTz, pTc]
              iterate 2 (refine wpB_fix rfl rfl (fun W hW => by go_simp; with_reducible rfl) ?_; simp only [pTs, pTn, pTz, pTc])
              simp only [wpB]
              go_wp2
              go_roundw
              case rel =>
                refine ⟨k + 1, by omega, by go_num, Lib.hid fun z hz => ?_, bri.drew.drew, hCi.drew.drew⟩
                rw [take_snoc HY.out] at hz
                rcases List.mem_append.1 hz with hz | hz
                · exact HK.out z hz
                · rw [List.mem_singleton.1 hz]; exact HAP.out
              case measure => simp [intOf]; omega
          · have hy9 : decide ((8 : Int) < y.kind) = false := decide_eq_false hy8
            by_cases hyr : x.year < y.year
            · have hyd : decide (x.year < y.year) = true := decide_eq_true hyr
              go_wp2
              refine wp_region_ord [(0, true), (1, true), (2, true), (3, true), (4, true), (5, true), (6, true), (7, true), (8, true), (9, true), (10, true), (11, true), (12, true), (13, true), (14, true), (15, true), (16, true), (17, true), (18, true), (19, true), (20, true), (21, true), (22, true), (23, true), (24, true), (25, true)] rfl (by kernel_rfl) (by kernel_rfl) (fun d _ _ _ _ h => by cases d <;> exact h) ?_
              iterate 4 (refine wpB_fix rfl rfl (fun W hW => by go_simp; with_reducible rfl) ?_; simp only [pTs, pTn, pTz, pTc])
              refine wpB_fix (v := vi y.kind) rfl rfl (fun W hW => by have e : W.cell? ⟨b1, o1 + k * 29 + 4, none⟩ = some (vi y.kind) := (HCY.out W (hBi.drew.trans (hW.mono hBi.drew.size)) 4 (by show 4 < 29; decide)).trans rfl; go_simp) ?_; simp only [pTs, pTn, pTz, pTc]
              iterate 2 (refine wpB_fix rfl rfl (fun W hW => by go_simp; with_reducible rfl) ?_; simp only [pTs, pTn, pTz, pTc])
              iterate 17 (refine wpB_skip rfl rfl ?_; simp only [pTs, pTn, pTz, pTc])
              iterate 2 (refine wpB_fix rfl rfl (fun W hW => by go_simp; with_reducible rfl) ?_; simp only [pTs, pTn, pTz, pTc])
              simp only [wpB]
              go_wp2
              refine wp_region_ord [(0, true), (1, true), (2, true), (3, true), (4, true), (5, true), (6, true), (7, true), (8, true), (9, true), (10, true), (11, true), (12, true), (13, true), (14, true), (15, true), (16, true), (17, true), (18, true), (19, true), (20, true), (21, true), (22, true), (23, true), (24, true), (25, true), (26, true)] rfl (by kernel_rfl) (by kernel_rfl) (fun d _ _ _ _ h => by cases d <;> exact h) ?_
              iterate 6 (refine wpB_fix rfl rfl (fun W hW => by go_simp; with_reducible rfl) ?_; simp only [pTs, pTn, pTz, pTc])
              refine wpB_fix (v := vi y.year) rfl rfl (fun W hW => by have e : W.cell? ⟨b1, o1 + k * 29 + 3, none⟩ = some (vi y.year) := (HCY.out W (hBi.drew.drew.trans (hW.mono hBi.drew.drew.size)) 3 (by show 3 < 29; decide)).trans rfl; go_simp) ?_; simp only [pTs, pTn, pTz, pTc]
              iterate 4 (refine wpB_fix rfl rfl (fun W hW => by go_simp; with_reducible rfl) ?_; simp only [pTs, pTn, pTz, pTc])
              refine wpB_fix (v := vi x.year) rfl rfl (fun W hW => by have e : W.cell? ⟨b2, o2 + m * 29 + 3, none⟩ = some (vi x.year) := (HCX.out W (hBi.drew.drew.trans (hW.mono hBi.drew.drew.size)) 3 (by show 3 < 29; decide)).trans rfl; go_simp) ?_; simp only [pTs, pTn, pTz, pTc]
              iterate 3 (refine wpB_fix rfl rfl (fun W hW => by go_simp; with_reducible rfl) ?_; simp only [pTs, pTn, pTz, pTc])
              iterate 11 (refine wpB_skip rfl rfl ?_; simp only [pTs, pTn, pTz, pTc])
              refine wpB_fix rfl rfl (fun W hW => by go_simp; with_reducible rfl) ?_; simp only [pTs, pTn, pTz, pTc]
              simp only [wpB]
              go_wp2_with (go_at_call 12; (with_reducible refine (awake_any _).mono ?_); rintro e wa ⟨rfl, hba⟩)
              go_ret
              exact ⟨by simp, hBi.drew.drew.trans (hba.mono hBi.drew.drew.size)⟩
            have hyd : decide (x.year < y.year) = false := decide_eq_false hyr
            by_cases hck : x.clock ≤ y.clock
            · have hcd : decide (x.clock ≤ y.clock) = true := decide_eq_true hck
              go_wp2
              refine wp_region_ord [(0, true), (1, true), (2, true), (3, true), (4, true), (5, true), (6, true), (7, true), (8, true), (9, true), (10, true), (11, true), (12, true), (13, true), (14, true), (15, true), (16, true), (17, true), (18, true), (19, true), (20, true), (21, true), (22, true), (23, true), (24, true), (25, true)] rfl (by kernel_rfl) (by kernel_rfl) (fun d _ _ _ _ h => by cases d <;> exact h) ?_
              iterate 4 (refine wpB_fix rfl rfl (fun W hW => by go_simp; with_reducible rfl) ?_; simp only [pTs, pTn, pTz, pTc])
              refine wpB_fix (v := vi y.kind) rfl rfl (fun W hW => by have e : W.cell? ⟨b1, o1 + k * 29 + 4, none⟩ = some (vi y.kind) := (HCY.out W (hBi.drew.trans (hW.mono hBi.drew.size)) 4 (by show 4 < 29; decide)).trans rfl; go_simp) ?_; simp only [pTs, pTn, pTz, pTc]
              iterate 2 (refine wpB_fix rfl rfl (fun W hW => by go_simp; with_reducible rfl) ?_; simp only [pTs, pTn, pTz, pTc])
              iterate 17 (refine wpB_skip rfl rfl ?_; simp only [pTs, pTn, pTz, pTc])
              iterate 2 (refine wpB_fix rfl rfl (fun W hW => by go_simp; with_reducible rfl) ?_; simp only [pTs, pTn, pTz, pTc])
              simp only [wpB]
              go_wp2
              refine wp_region_ord [(0, true), (1, true), (2, true), (3, true), (4, true), (5, true), (6, true), (7, true), (8, true), (9, true), (10, true), (11, true), (12, true), (13, true), (14, true), (15, true), (16, true), (17, true), (18, true), (19, true), (20, true), (21, true), (22, true), (23, true), (24, true), (25, true), (26, true)] rfl (by kernel_rfl) (by kernel_rfl) (fun d _ _ _ _ h => by cases d <;> exact h) ?_
              iterate 6 (refine wpB_fix rfl rfl (fun W hW => by go_simp; with_reducible rfl) ?_; simp only [pTs, pTn, pTz, pTc])
              refine wpB_fix (v := vi y.year) rfl rfl (fun W hW => by have e : W.cell? ⟨b1, o1 + k * 29 + 3, none⟩ = some (vi y.year) := (HCY.out W (hBi.drew.drew.trans (hW.mono hBi.drew.drew.size)) 3 (by show 3 < 29; decide)).trans rfl; go_simp) ?_; simp only [pTs, pTn, pTz, pTc]
              iterate 4 (refine wpB_fix rfl rfl (fun W hW => by go_simp; with_reducible rfl) ?_; simp only [pTs, pTn, pTz, pTc])
              refine wpB_fix (v := vi x.year) rfl rfl (fun W hW => by have e : W.cell? ⟨b2, o2 + m * 29 + 3, none⟩ = some (vi x.year) := (HCX.out W (hBi.drew.drew.trans (hW.mono hBi.drew.drew.size)) 3 (by show 3 < 29; decide)).trans rfl; go_simp) ?_; simp only [pTs, pTn, pTz, pTc]
              iterate 7 (refine wpB_fix rfl rfl (fun W hW => by go_simp; with_reducible rfl) ?_; simp only [pTs, pTn, pTz, pTc])
              refine wpB_fix (v := vi y.clock) rfl rfl (fun W hW => by have e : W.cell? ⟨b1, o1 + k * 29 + 2, none⟩ = some (vi y.clock) := (HCY.out W (hBi.drew.drew.trans (hW.mono hBi.drew.drew.size)) 2 (by show 2 < 29; decide)).trans rfl; go_simp) ?_; simp only [pTs, pTn, pTz, pTc]
              iterate 4 (refine wpB_fix rfl rfl (fun W hW => by go_simp; with_reducible rfl) ?_; simp only [pTs, pTn, pTz, pTc])
              refine wpB_fix (v := vi x.clock) rfl rfl (fun W hW => by have e : W.cell? ⟨b2, o2 + m * 29 + 2, none⟩ = some (vi x.clock) := (HCX.out W (hBi.drew.drew.trans (hW.mono hBi.drew.drew.size)) 2 (by show 2 < 29; decide)).trans rfl; go_simp) ?_; simp only [pTs, pTn, pTz, pTc]
              iterate 2 (refine wpB_fix rfl rfl (fun W hW => by go_simp; with_reducible rfl) ?_; simp only [pTs, pTn, pTz, pTc])
              simp only [wpB]
              go_wp2_with (go_at_call 12; (with_reducible refine (awake_any _).mono ?_); rintro e wa ⟨rfl, hba⟩)
              go_ret
              exact ⟨by simp, hBi.drew.drew.trans (hba.mono hBi.drew.drew.size)⟩
            · have hcd : decide (x.clock ≤ y.clock) = false := decide_eq_false hck
              have HAP : Hid (apartN y x) := Lib.hid ⟨fun h => hy8 h.1, by omega, by omega⟩
              clear hck hyr
              go_wp2
              refine wp_region_ord [(0, true), (1, true), (2, true), (3, true), (4, true), (5, true), (6, true), (7, true), (8, true), (9, true), (10, true), (11, true), (12, true), (13, true), (14, true), (15, true), (16, true), (17, true), (18, true), (19, true), (20, true), (21, true), (22, true), (23, true), (24, true), (25, true)] rfl (by kernel_rfl) (by kernel_rfl) (fun d _ _ _ _ h => by cases d <;> exact h) ?_
              iterate 4 (refine wpB_fix rfl rfl (fun W hW => by go_simp; with_reducible rfl) ?_; simp only [pTs, pTn, pTz, pTc])
              refine wpB_fix (v := vi y.kind) rfl rfl (fun W hW => by have e : W.cell? ⟨b1, o1 + k * 29 + 4, none⟩ = some (vi y.kind) := (HCY.out W (hBi.drew.trans (hW.mono hBi.drew.size)) 4 (by show 4 < 29; decide)).trans rfl; go_simp) ?_; simp only [pTs, pTn, pTz, pTc]
              iterate 2 (refine wpB_fix rfl rfl (fun W hW => by go_simp; with_reducible rfl) ?_; simp only [pTs, pTn, pTz, pTc])
              iterate 17 (refine wpB_skip rfl rfl ?_; simp only [pTs, pTn, pTz, pTc])
              iterate 2 (refine wpB_fix rfl rfl (fun W hW => by go_simp; with_reducible rfl) ?_; simp only [pTs, pTn, pTz, pTc])
              simp only [wpB]
              go_wp2
              refine wp_region_ord [(0, true), (1, true), (2, true), (3, true), (4, true), (5, true), (6, true), (7, true), (8, true), (9, true), (10, true), (11, true), (12, true), (13, true), (14, true), (15, true), (16, true), (17, true), (18, true), (19, true), (20, true), (21, true), (22, true), (23, true), (24, true), (25, true), (26, true)] rfl (by kernel_rfl) (by kernel_rfl) (fun d _ _ _ _ h => by cases d <;> exact h) ?_
              iterate 6 (refine wpB_fix rfl rfl (fun W hW => by go_simp; with_reducible rfl) ?_; simp only [pTs, pTn, pTz, pTc])
              refine wpB_fix (v := vi y.year) rfl rfl (fun W hW => by have e : W.cell? ⟨b1, o1 + k * 29 + 3, none⟩ = some (vi y.year) := (HCY.out W (hBi.drew.drew.trans (hW.mono hBi.drew.drew.size)) 3 (by show 3 < 29; decide)).trans rfl; go_simp) ?_; simp only [pTs, pTn, pTz, pTc]
              iterate 4 (refine wpB_fix rfl rfl (fun W hW => by go_simp; with_reducible rfl) ?_; simp only [pTs, pTn, pTz, pTc])
              refine wpB_fix (v := vi x.year) rfl rfl (fun W hW => by have e : W.cell? ⟨b2, o2 + m * 29 + 3, none⟩ = some (vi x.year) := (HCX.out W (hBi.drew.drew.trans (hW.mono hBi.drew.drew.size)) 3 (by show 3 < 29; decide)).trans rfl; go_simp) ?_; simp only [pTs, pTn, pTz, pTc]
              iterate 7 (refine wpB_fix rfl rfl (fun W hW => by go_simp; with_reducible rfl) ?_; simp only [pTs, pTn, pTz, pTc])
              refine wpB_fix (v := vi y.clock) rfl rfl (fun W hW => by have e : W.cell? ⟨b1, o1 + k * 29 + 2, none⟩ = some (vi y.clock) := (HCY.out W (hBi.drew.drew.trans (hW.mono hBi.drew.drew.size)) 2 (by show 2 < 29; decide)).trans rfl; go_simp) ?_; simp only [pTs, pTn, pTz, pTc]
              iterate 4 (refine wpB_fix rfl rfl (fun W hW => by go_simp; with_reducible rfl) ?_; simp only [pTs, pTn, pTz, pTc])
              refine wpB_fix (v := vi x.clock) rfl rfl (fun W hW => by have e : W.cell? ⟨b2, o2 + m * 29 + 2, none⟩ = some (vi x.clock) := (HCX.out W (hBi.drew.drew.trans (hW.mono hBi.drew.drew.size)) 2 (by show 2 < 29; decide)).trans rfl; go_simp) ?_; simp only [pTs, pTn, pTz, pTc]
              iterate 2 (refine wpB_fix rfl rfl (fun W hW => by go_simp; with_reducible rfl) ?_; simp only [pTs, pTn, pTz, pTc])
              simp only [wpB]
              go_wp2
              go_roundw
              case rel =>
                refine ⟨k + 1, by omega, by go_num, Lib.hid fun z hz => ?_, bri.drew.drew, hCi.drew.drew⟩
                rw [take_snoc HY.out] at hz
                rcases List.mem_append.1 hz with hz | hz
                · exact HK.out z hz
                · rw [List.mem_singleton.1 hz]; exact HAP.out
              case measure => simp [intOf]; omega
        · have hkl2 : k = val.length := by omega
          have HK2 : Hid (∀ y ∈ val, apartN y x) := Lib.hid (by have h := HK.out; rw [hkl2, List.take_length] at h; exact h)
          go_wp2
          go_roundw
          case rel =>
            refine ⟨m + 1, by omega, by go_num, Lib.hid fun z hz => ?_, bri, hCi⟩
            rw [take_snoc HX.out] at hz
            rcases List.mem_append.1 hz with hz | hz
            · exact HM.out z hz
            · rw [List.mem_singleton.1 hz]; exact ⟨by omega, HK2.out⟩
          case measure => simp [intOf]; omega
    · have hml : m = val2.length := by omega
      have HALL : Hid (∀ x ∈ val2, x.kind ≤ 8 ∧ ∀ y ∈ val, apartN y x) := Lib.hid (by have h := HM.out; rw [hml, List.take_length] at h; exact h)
      clear HM
      obtain ⟨X, er, hX⟩ : ∃ X er, mergeA (val.map Note.abs) (val2.map Note.abs) = (X, er) := ⟨_, _, rfl⟩
      have HXS : Hid (SetA X) := Lib.hid (by
        by_cases h0 : er = 0
        · have h1 := mergeA_ok (A := val.map Note.abs) (B := val2.map Note.abs) (by rw [hX]; exact h0)
          rw [hX] at h1; exact h1.2.2.1
        · have h1 := mergeA_bad (A := val.map Note.abs) (B := val2.map Note.abs) (by rw [hX]; exact h0)
          rw [hX] at h1
          have h2 : X = [] := h1
          rw [h2]; exact ⟨by simp, by simp, by simp⟩)
      have HMX := Lib.hid hX
      have HSZ : Hid (NOK wr ⟨a, cap, val⟩) := Lib.hid (Sl.OK.ext (w := w) (w' := wr) (fun _ h => okNote.ext h (.of_below hB)) HS.out (.of_below hB))
      have HTZ : Hid (NOK wr ⟨a2, cap2, val2⟩) := Lib.hid (Sl.OK.ext (w := w) (w' := wr) (fun _ h => okNote.ext h (.of_below hB)) HT.out (.of_below hB))
      have HF1 := Lib.hid (fun (p : Option Addr) (c : Nat) (v : List Note) (W : World) (h : NOK W ⟨p, c, v⟩) (hs : SetA (v.map Note.abs)) => fold_set (fun _ => False) ⟨p, c, v⟩ W h hs)
      have HMG := Lib.hid (merge_c a cap val a2 cap2 val2 wr X er HSZ.out HTZ.out (by omega) (by omega) hX)
      have HLS := Lib.hid (folded_lens HXS.out 9999)
      have HOS := Lib.hid (onePlace_set HXS.out 9999)
      by_cases h0 : er = 0
      · subst h0
        have HLT : Hid (Later (val.map Note.abs) (val2.map Note.abs) X) := Lib.hid (later_of HSET.out hX (fun x hx => (HALL.out x hx).1) fun x hx => (HALL.out x hx).2)
        clear hX hm hml
        go_wp2_with (first
          | (go_at_call 22; (with_reducible refine HMG.out.mono ?_); rintro e v1 ⟨p1, q1, r1, rfl, OK1, hv1, -, hb3⟩; have hB3 := hB.trans (hb3.mono hB.size); have HV1 := Lib.hid hv1; clear hv1; have br3 := br.belowAll hb3)
          | (go_at_call 25; (with_reducible refine (HF1.out p1 q1 r1 _ OK1 (by rw [HV1.out]; exact HXS.out)).mono ?_); rintro e v2 ⟨S, rfl, hSA, hSO, hb4⟩; have hB4 := hB3.trans (hb4.mono hB3.size); have hSA2 : S.abs = foldedA X 9999 := (by rw [hSA, HV1.out]); have HSA := Lib.hid hSA2; have HSO := Lib.hid hSO; clear hSA hSO hSA2; have br4 := br3.belowAll hb4)
          | ((with_reducible refine at_storeTo 12 ?_); refine wpList_store_box (BoxAt.newN (n := v2.heap.size) _ _ _ rfl) rfl 58 _ _ rfl rfl (.agg (encRegister S)) rfl (by kernel_rfl) rfl (one_agg (encRegister_one _)) ?_; intro v3 hq hT; have bs := hq.eqv (splice_whole _ (encRegister S) rfl); have hL3 : Below v2.heap.size v2 v3 := ((Below.refl _ _).alloc (Nat.le_refl _) _).trans (hT.below (Nat.le_refl _)); clear hq hT; have hB5 := hB4.trans (hL3.mono hB4.size); have br5 := br4.belowAll hL3))
        have HOK : Hid (∀ W, Below v3.heap.size v3 W → okRegister (fun _ => False) W S) := Lib.hid fun W hW => okRegister.mono (okRegister.ext (okRegister.ext HSO.out (.of_below hL3)) (.of_below hW)) (fun _ h => h.elim)
        have HOR : Hid (∀ W, Below w1.heap.size w1 W → okRegister (fun _ => False) W R) := Lib.hid fun W hW => okRegister.mono (okRegister.ext HRO.out (.of_below hW)) (fun _ h => h.elim)
        have HBR := Lib.hid br5
        have HBS := Lib.hid bs
        have HB5 := Lib.hid hB5
        have hC5 : Below w1.heap.size w1 v3 := (hC.trans (hb3.mono hC.size)).trans ((hb4.mono (Nat.le_trans hC.size hb3.size)).trans (hL3.mono (Nat.le_trans (Nat.le_trans hC.size hb3.size) hb4.size)))
        have HC5 := Lib.hid hC5
        obtain ⟨⟨pa, pcap, pval⟩, hpv⟩ : ∃ s, R.pieces = s := ⟨_, rfl⟩
        have HP0 : Hid ((encRegister R)[0]? = some (.slice pa pval.length pcap)) := Lib.hid (by rw [show (encRegister R)[0]? = some R.pieces.v from rfl, hpv]; rfl)
        have HOP : Hid (Sl.OK 7 encPiece okPiece (fun _ => False) w1 ⟨pa, pcap, pval⟩) := Lib.hid (by
          have h := (HOR.out w1 (Below.refl _ _)).1
          rw [hpv] at h; exact h)
        have hpl : pval.length ≤ 1000000 := by
          have h := HLN.out.2.2
          rw [← HRA.out] at h
          have h2 : R.abs.pieces = R.pieces.val.map Piece.abs := rfl
          rw [h2, hpv, List.length_map] at h; exact h
        have HST : Hid (∀ q ∈ pval, ∃ xw, whereIs S.wher.val q.id = (xw, 0)) := Lib.hid (fun q hq => by
          have h2 : q.abs ∈ (foldedA (val.map Note.abs) 9999).pieces := by
            rw [← HRA.out, show R.abs.pieces = R.pieces.val.map Piece.abs from rfl, hpv]
            exact List.mem_map_of_mem hq
          obtain ⟨x, hx, e⟩ := HLT.out.stays 9999 q.abs h2
          rw [← HSA.out] at hx
          exact ⟨(whereIs S.wher.val q.id).1, Prod.ext rfl (whereIs_found ⟨x, hx, e⟩)⟩)
        have HSW : Hid (S.wher.val.length ≤ 1000000 ∧ S.new_.val.length ≤ 1000000) := Lib.hid (by
          have h := HLS.out
          rw [← HSA.out] at h
          exact ⟨h.1, h.2.1⟩)
        have hcp : v3.cell? ⟨w1.heap.size, 0, none⟩ = some (.slice pa pval.length pcap) := (HBR.out.cell 0).trans HP0.out
        clear hpv hC5
        go_loopw [14] (fun i wt => ∃ k : Nat, k ≤ pval.length ∧ i = .int .i64 k ∧ BoxAt wt w1.heap.size 58 (encRegister R) ∧ BoxAt wt v2.heap.size 58 (encRegister S) ∧ Below v3.heap.size v3 wt) (fun i _ => pval.length - (intOf i).toNat)
        case atStart => exact ⟨0, Nat.zero_le _, rfl, HBR.out, HBS.out, Below.refl _ _⟩
        case round =>
          obtain ⟨k, hk, rfl, brt, bst, hCt⟩ := hrel
          have hDt : Below w1.heap.size w1 wr := HC5.out.trans (hCt.mono HC5.out.size)
          have hBt : Below w.heap.size w wr := hb1.trans (hDt.mono hb1.size)
          have hct : wr.cell? ⟨w1.heap.size, 0, none⟩ = some (.slice pa pval.length pcap) := (brt.cell 0).trans HP0.out
          by_cases hkp : k < pval.length
          · obtain ⟨q, hq⟩ : ∃ q, pval[k]? = some q := ⟨_, List.getElem?_eq_getElem hkp⟩
            obtain ⟨pb, po, rfl, hpb, _, hoq, hpcell⟩ := HOP.out.at hq
            have HQ : Hid (∀ W, Below w1.heap.size w1 W → ∀ j, j < (encPiece q).size → W.cell? ⟨pb, po + k * 7 + j, none⟩ = (encPiece q)[j]?) := Lib.hid fun W hW j hj => (hW.cell (p := ⟨pb, po + k * 7 + j, none⟩) hpb).trans (hpcell j hj)
            obtain ⟨xw, hxw⟩ := HST.out q (List.mem_of_getElem? hq)
            have HWI : Hid (∀ W, Below wr.heap.size wr W → Calls Tryz.prog 32 #[.agg (encRegister S), .int .i64 q.id] W fun e w' => e = .returned (.tuple #[.agg (encWhere xw), .int .i64 0]) ∧ Below W.heap.size W w') := Lib.hid (fun W hW => by
              have h := whereIs_any (fun _ => False) S q.id W (HOK.out _ (hCt.trans (hW.mono hCt.size))).2.1 HSW.out.1
              rw [hxw] at h; exact h)
            have hk1 : (k : Int) < (pval.length : Int) := by omega
            clear hq hpcell hoq hxw hpb
            go_wp2
            refine wp_region_fork 12 [(1, none), (3, none), (0, some true), (2, some true), (4, none), (5, none), (6, some true)] 7 [(8, none), (9, none), (10, none), (11, some false), (12, some false), (13, some false)] 11 [(7, some false), (8, none), (9, none), (10, none), (12, some false), (13, some false)] rfl (by kernel_rfl) (by kernel_rfl) (fun d _ _ _ _ h => by cases d <;> exact h) ?_
            iterate 2 (refine wpF_pure (v := ?_) rfl rfl ?_ ?_; rotate_left; (focus (intro W; go_simp; with_reducible rfl)); simp only [pTs, pTn, pTz, pTc])
            refine wpF_fix (v := .agg (encRegister S)) rfl rfl (fun W hW => run_load_box (encRegister S) (bst.drew.belowAll hW) rfl (whole_cells _) Tryz.underlying58 rfl (by kernel_rfl)) ?_; simp only [pTs, pTn, pTz, pTc]
            refine wpF_fix (v := .slice (some ⟨pb, po, none⟩) pval.length pcap) rfl rfl (fun W hW => by have e : W.cell? ⟨w1.heap.size, 0, none⟩ = some (.slice (some ⟨pb, po, none⟩) pval.length pcap) := ((brt.drew.belowAll hW).cell 0).trans HP0.out; go_simp) ?_; simp only [pTs, pTn, pTz, pTc]
            iterate 2 (refine wpF_pure (v := ?_) rfl rfl ?_ ?_; rotate_left; (focus (intro W; go_simp; with_reducible rfl)); simp only [pTs, pTn, pTz, pTc])
            refine wpF_fix (v := vi q.id) rfl rfl (fun W hW => by have e : W.cell? ⟨pb, po + k * 7, none⟩ = some (vi q.id) := (HQ.out W (hDt.drew.trans (hW.mono hDt.drew.size)) 0 (by show 0 < 7; decide)).trans rfl; go_simp) ?_; simp only [pTs, pTn, pTz, pTc]
            refine ⟨?_, ?_⟩
            · refine wpC_act rfl rfl rfl (fun K hK => ?_)
              go_simp
              refine (HWI.out _ ((Below.refl _ _).drew)).mono ?_
              rintro e w6 ⟨rfl, hb6⟩
              refine hK _ _ hb6 ?_
              clear hK K
              try simp only [pTs, pTn, pTz, pTc]
              iterate 3 (refine wpC_pure rfl rfl (fun W => by go_simp; with_reducible rfl) ?_; simp only [pTs, pTn, pTz, pTc])
              refine wpC_act rfl rfl rfl (fun K hK => ?_)
              go_simp
              refine hK _ _ ((Below.refl _ _).alloc (Nat.le_refl _) _) ?_
              clear hK K
              try simp only [pTs, pTn, pTz, pTc]
              refine wpC_mark rfl rfl (fun K hK => ?_)
              refine wp_store_box (BoxAt.new _ _ _) _ _ _ rfl rfl (.agg (encWhere xw)) rfl (by kernel_rfl) rfl (one_agg (encWhere_one _)) ?_
              intro w7 hq7 hT7
              refine hK _ _ ?_
              clear hK K
              try simp only [pTs, pTn, pTz, pTc]
              refine wpC_past rfl rfl (fun K hK => ?_)
              go_simp
              refine hK _ _ ?_
              clear hK K
              try simp only [pTs, pTn, pTz, pTc]
              simp only [wpC]
              go_wp2
              go_roundw
              case rel => exact ⟨k + 1, by omega, by go_num, (brt.drew.belowAll hb6).of_block ((hT7.block _ (by have := (brt.drew.belowAll hb6).lt; omega)).trans ((MapKept.heap_alloc w6 _).2 _ (brt.drew.belowAll hb6).lt)), (bst.drew.belowAll hb6).of_block ((hT7.block _ (by have := (bst.drew.belowAll hb6).lt; omega)).trans ((MapKept.heap_alloc w6 _).2 _ (bst.drew.belowAll hb6).lt)), (hCt.drew.trans (hb6.mono hCt.drew.size)).trans (((Below.refl _ _).alloc (Nat.le_trans hCt.drew.size hb6.size) _).trans (hT7.below (Nat.le_trans hCt.drew.size hb6.size)))⟩
              case measure => simp [intOf]; omega
            · refine wpC_act rfl rfl rfl (fun K hK => ?_)
              go_simp
              refine hK _ _ ((Below.refl _ _).alloc (Nat.le_refl _) _) ?_
              clear hK K
              try simp only [pTs, pTn, pTz, pTc]
              refine wpC_act rfl rfl rfl (fun K hK => ?_)
              go_simp
              refine (HWI.out _ (((Below.refl _ _).drew).alloc (Nat.le_refl _) _)).mono ?_
              rintro e w6 ⟨rfl, hb6⟩
              refine hK _ _ hb6 ?_
              clear hK K
              try simp only [pTs, pTn, pTz, pTc]
              iterate 3 (refine wpC_pure rfl rfl (fun W => by go_simp; with_reducible rfl) ?_; simp only [pTs, pTn, pTz, pTc])
              refine wpC_mark rfl rfl (fun K hK => ?_)
              refine wp_store_box ((BoxAt.new _ _ _).belowAll hb6) _ _ _ rfl rfl (.agg (encWhere xw)) rfl (by kernel_rfl) rfl (one_agg (encWhere_one _)) ?_
              intro w7 hq7 hT7
              refine hK _ _ ?_
              clear hK K
              try simp only [pTs, pTn, pTz, pTc]
              refine wpC_past rfl rfl (fun K hK => ?_)
              go_simp
              refine hK _ _ ?_
              clear hK K
              try simp only [pTs, pTn, pTz, pTc]
              simp only [wpC]
              go_wp2
              go_roundw
              case rel => exact ⟨k + 1, by omega, by go_num, ((brt.drew.alloc _).belowAll hb6).of_block (hT7.block _ (by have := brt.lt; show _ ≠ wr.heap.size; omega)), ((bst.drew.alloc _).belowAll hb6).of_block (hT7.block _ (by have := bst.lt; show _ ≠ wr.heap.size; omega)), ((hCt.drew.alloc hCt.drew.size _).trans (hb6.mono (Nat.le_trans hCt.drew.size (by simp)))).trans (hT7.below hCt.drew.size)⟩
              case measure => simp [intOf]; omega
          · have HPS : Hid (Calls Tryz.prog 37 #[.agg (encRegister S)] wr fun e w' => e = .returned (.bool true) ∧ Below wr.heap.size wr w') := Lib.hid (onePlace_any S wr (HOK.out _ hCt) (by rw [HSA.out]; exact HOS.out) HSW.out.1 HSW.out.2)
            go_wp2_with (first
              | (with_reducible refine at_dst 151 ?_; refine wpList_loadB bst rfl 58 _ rfl rfl (encRegister S) (whole_cells _) Tryz.underlying58 rfl (by kernel_rfl) ?_)
              | (go_at_call 37; (with_reducible refine HPS.out.mono ?_); rintro e w7 ⟨rfl, hb7⟩)
              | (go_at_call 12; (with_reducible refine (awake_any _).mono ?_); rintro e wa ⟨rfl, hba⟩))
            go_ret
            exact ⟨by simp, (hBt.trans (hb7.mono hBt.size)).trans (hba.mono (hBt.trans (hb7.mono hBt.size)).size)⟩
      · have hne : (er != 0) = true := by simpa using h0
        clear hX hm hml
        go_wp2_with (first
          | (go_at_call 22; (with_reducible refine HMG.out.mono ?_); rintro e v1 ⟨p1, q1, r1, rfl, OK1, hv1, -, hb3⟩; have hB3 := hB.trans (hb3.mono hB.size); have HV1 := Lib.hid hv1; clear hv1; have br3 := br.belowAll hb3)
          | (go_at_call 25; (with_reducible refine (HF1.out p1 q1 r1 _ OK1 (by rw [HV1.out]; exact HXS.out)).mono ?_); rintro e v2 ⟨S, rfl, hSA, hSO, hb4⟩; have hB4 := hB3.trans (hb4.mono hB3.size))
          | ((with_reducible refine at_storeTo 12 ?_); refine wpList_store_box (BoxAt.newN (n := v2.heap.size) _ _ _ rfl) rfl 58 _ _ rfl rfl (.agg (encRegister S)) rfl (by kernel_rfl) rfl (one_agg (encRegister_one _)) ?_; intro v3 hq hT; have hL3 : Below v2.heap.size v2 v3 := ((Below.refl _ _).alloc (Nat.le_refl _) _).trans (hT.below (Nat.le_refl _)); clear hq hT; have hB5 := hB4.trans (hL3.mono hB4.size))
          | (go_at_call 12; (with_reducible refine (awake_any _).mono ?_); rintro e wa ⟨rfl, hba⟩))
        go_ret
        exact ⟨by simp, hB5.trans (hba.mono hB5.size)⟩
end Go.Proofs.YtendmmhfjhgdaaaGreat
end
