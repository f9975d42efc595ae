/-
  A withdrawal of a note, and a correction to what it said: well formed, and what they do to the register; no program in sight.
-/
import Derived.Test.YtendmmhfjhgdaaaGreatMergeP
set_option linter.unusedVariables false
set_option linter.unusedSimpArgs false
namespace Go.Proofs.YtendmmhfjhgdaaaGreat

def goneA (n : NoteA) (num clock : Int) : NoteA := ⟨n.bench, num, clock, 3, 10, 0, 0, 0, 0, 0, ⟨0, false⟩, n.name, [], [], [], zItem.abs⟩
def againA (n : NoteA) (num clock : Int) : NoteA := { n with num := num, clock := clock, kind := 9, fix := n.kind, ref := n.name }
theorem wellA_name {a : NoteA} (h : wellA a = true) : validRefB a.name = true := by
  unfold wellA wellB at h
  simp only [Bool.and_eq_true] at h
  exact h.1.1.1.1
theorem gone_well {n : NoteA} (h : wellA n = true) {num clock : Int} (h1 : 1 ≤ num) (h2 : num ≤ 400) (h3 : 1 ≤ clock) (h4 : clock ≤ 1048576) : wellA (goneA n num clock) = true := by
  have hv := wellA_name h
  have hb : inB n.bench 1 8 = true := by simp only [validRefB, NoteA.name, Bool.and_eq_true] at hv; exact hv.1
  have e1 : ownB (goneA n num clock).raw = true := rfl
  have e2 : contentB 10 (goneA n num clock).raw = true := by
    have e3 : usedB 10 (goneA n num clock).raw = validRefB n.name := rfl
    have e4 : (bareN 10 (goneA n num clock).raw).abs = zNote.abs := rfl
    simp [contentB, e3, e4, hv]
  unfold wellA wellB
  have e5 : (goneA n num clock).raw.kind = 10 := rfl
  have e6 : (goneA n num clock).raw.fix = 0 := rfl
  have e7 : validRefB (refN (goneA n num clock).raw) = (inB n.bench 1 8 && inB num 1 400) := rfl
  have e8 : inB (goneA n num clock).raw.clock 1 1048576 = inB clock 1 1048576 := rfl
  have e9 : inB (goneA n num clock).raw.year 0 9999 = true := rfl
  rw [e5, e6, e7, e8, e9, e1, e2, hb]
  simp [inB, h1, h2, h3, h4]
/-- of a plain note: it corrects nothing, it refers to nothing unless it must -/
theorem plain_well {n : NoteA} (h : wellA n = true) (hk : 1 ≤ n.kind ∧ n.kind ≤ 8) (h5 : n.kind ≠ 5) : n.fix = 0 ∧ n.ref = ⟨0, 0⟩ ∧ contentB n.kind n.raw = true := by
  unfold wellA wellB at h
  have e5 : n.raw.kind = n.kind := rfl
  have e6 : n.raw.fix = n.fix := rfl
  rw [e5, e6] at h
  have hi : inB n.kind 1 8 = true ∨ n.kind = 10 := .inl (by simp [inB, hk])
  rw [if_pos hi] at h
  simp only [Bool.and_eq_true, decide_eq_true_eq] at h
  refine ⟨h.2.1, ?_, h.2.2⟩
  have h6 := h.2.2
  simp only [contentB, Bool.and_eq_true, decide_eq_true_eq] at h6
  have h7 := congrArg NoteA.ref h6.2
  have h8 : (bareN n.kind n.raw).abs.ref = n.ref := by
    unfold bareN
    repeat' split
    all_goals first | rfl | omega
  rw [h8] at h7
  exact h7
theorem again_well {n : NoteA} (h : wellA n = true) (hk : 1 ≤ n.kind ∧ n.kind ≤ 8) (h5 : n.kind ≠ 5) {num clock : Int} (h1 : 1 ≤ num) (h2 : num ≤ 400) (h3 : 1 ≤ clock) (h4 : clock ≤ 1048576) : wellA (againA n num clock) = true := by
  obtain ⟨p1, p2, p3⟩ := plain_well h hk h5
  have hv := wellA_name h
  have hb : inB n.bench 1 8 = true := by simp only [validRefB, NoteA.name, Bool.and_eq_true] at hv; exact hv.1
  have hbl : blankN (noRef (againA n num clock).raw) = blankN n.raw := by
    have : n.raw.ref = ⟨0, 0⟩ := p2
    unfold blankN
    rw [this]; rfl
  have e2 : contentB n.kind (noRef (againA n num clock).raw) = contentB n.kind n.raw := by
    have e3 : usedB n.kind (noRef (againA n num clock).raw) = usedB n.kind n.raw := by
      unfold usedB
      have : (noRef (againA n num clock).raw).ref = n.raw.ref := p2.symm
      rw [this]; rfl
    have e4 : bareN n.kind (noRef (againA n num clock).raw) = bareN n.kind n.raw := by
      unfold bareN; rw [hbl]
    unfold contentB; rw [e3, e4]
  unfold wellA wellB at h ⊢
  have e5 : (againA n num clock).raw.kind = 9 := rfl
  have e6 : (againA n num clock).raw.fix = n.kind := rfl
  have e7 : validRefB (refN (againA n num clock).raw) = (inB n.bench 1 8 && inB num 1 400) := rfl
  have e8 : inB (againA n num clock).raw.clock 1 1048576 = inB clock 1 1048576 := rfl
  have e9 : inB (againA n num clock).raw.year 0 9999 = inB n.raw.year 0 9999 := rfl
  have e10 : ownB (againA n num clock).raw = ownB n.raw := rfl
  have e11 : validRefB (againA n num clock).raw.ref = validRefB n.name := rfl
  rw [e5, e6, e7, e8, e9, e10, e11, e2, p3, hb, hv]
  simp only [Bool.and_eq_true] at h
  rw [h.1.1.2, h.1.2]
  have h6 : inB n.kind 1 8 = true := by simp [inB, hk]
  have h7 : inB num 1 400 = true := by simp [inB, h1, h2]
  have h8 : inB clock 1 1048576 = true := by simp [inB, h3, h4]
  rw [h6, h7, h8]
  simp [h5, inB]
theorem again_fixes {n : NoteA} (h1 : n.fix = 0) (h2 : n.ref = ⟨0, 0⟩) (num clock : Int) : fixedA (againA n num clock) n = n := by
  obtain ⟨b, m, c, y, k, f, p, q, co, t, s, r, ps, pa, d, i⟩ := n
  simp only at h1 h2
  subst h1; subst h2
  rfl

/-- What the law asks of the note, and of the numbers. -/
structure Asked (l : List NoteA) (n : NoteA) (num clock : Int) : Prop where
  set : SetA l
  len : l.length ≤ 150
  mem : n ∈ l
  kind : 1 ≤ n.kind ∧ n.kind ≤ 8
  got : n.kind ≠ 5
  free : ∀ x ∈ l, 8 < x.kind → x.ref ≠ n.name
  nums : ∀ x ∈ l, x.bench = n.bench → x.num ≤ num
  clocks : ∀ x ∈ l, x.clock ≤ clock
  most : num + 2 ≤ 400
  late : clock + 2 ≤ 1048576
theorem wellA_nums {a : NoteA} (h : wellA a = true) : 1 ≤ a.num ∧ 1 ≤ a.clock := by
  have hv := wellA_name h
  simp only [validRefB, inB, NoteA.name, Bool.and_eq_true, decide_eq_true_eq] at hv
  unfold wellA wellB at h
  simp only [Bool.and_eq_true] at h
  have h2 := h.1.1.1.2
  simp only [inB, Bool.and_eq_true, decide_eq_true_eq] at h2
  exact ⟨by first | exact hv.2.1 | exact of_decide_eq_true hv.2.1, by first | exact h2.1 | exact of_decide_eq_true h2.1⟩
section
variable {l : List NoteA} {n : NoteA} {num clock : Int}
theorem Asked.judging (h : Asked l n num clock) : judgingI n.kind = false := by
  have := h.kind
  simp only [judgingI, Bool.or_eq_false_iff, decide_eq_false_iff_not]; omega
theorem Asked.free2 (h : Asked l n num clock) : ∀ x ∈ l, judgingI x.kind = true → x.ref ≠ n.name := fun x hx hj => h.free x hx (by
  simp only [judgingI, Bool.or_eq_true, decide_eq_true_eq] at hj; omega)
theorem Asked.fresh (h : Asked l n num clock) {m : Int} (hm : num < m) {x : NoteA} (hx : x ∈ l) {a : NoteA} (ha : a.bench = n.bench) (hn : a.num = m) : x.name ≠ a.name := by
  intro e
  have e1 : x.bench = a.bench := congrArg Ref.bench e
  have e2 : x.num = a.num := congrArg Ref.num e
  have := h.nums x hx (e1.trans ha)
  omega
theorem Asked.gone (h : Asked l n num clock) : wellA (goneA n (num + 1) (clock + 1)) = true := by
  have h1 := wellA_nums (h.set.well n h.mem)
  have h2 := h.nums n h.mem rfl
  have h3 := h.clocks n h.mem
  have h4 := h.most
  have h5 := h.late
  exact gone_well (h.set.well n h.mem) (by omega) (by omega) (by omega) (by omega)
theorem Asked.again (h : Asked l n num clock) : wellA (againA n (num + 2) (clock + 2)) = true := by
  have h1 := wellA_nums (h.set.well n h.mem)
  have h2 := h.nums n h.mem rfl
  have h3 := h.clocks n h.mem
  have h4 := h.most
  have h5 := h.late
  exact again_well (h.set.well n h.mem) h.kind h.got (by omega) (by omega) (by omega) (by omega)
theorem Asked.set1 (h : Asked l n num clock) : SetA [goneA n (num + 1) (clock + 1)] := ⟨by simp, by simpa using h.gone, by simp⟩
theorem Asked.set2 (h : Asked l n num clock) : SetA [goneA n (num + 1) (clock + 1), againA n (num + 2) (clock + 2)] := by
  refine ⟨by simp, fun a ha => ?_, ?_⟩
  · simp only [List.mem_cons, List.not_mem_nil, or_false] at ha
    rcases ha with rfl | rfl
    · exact h.gone
    · exact h.again
  · refine List.pairwise_cons.2 ⟨fun a ha => ?_, by simp⟩
    rw [List.mem_singleton.1 ha]
    simp only [ltName, ltRef, decide_eq_true_eq, compareRefsI_lt, NoteA.name, goneA, againA]
    first | exact .inr ⟨rfl, by omega⟩ | exact .inr ⟨trivial, by omega⟩ | omega
theorem takes_both (h : Asked l n num clock) : ∃ M, mergeA l [goneA n (num + 1) (clock + 1), againA n (num + 2) (clock + 2)] = (M, 0) ∧ SetA M ∧ foldedA M 9999 = foldedA l 9999 := by
  have hl := h.len
  have hf : ∀ a ∈ l, ∀ b ∈ [goneA n (num + 1) (clock + 1), againA n (num + 2) (clock + 2)], a.name ≠ b.name := by
    intro a ha b hb
    simp only [List.mem_cons, List.not_mem_nil, or_false] at hb
    rcases hb with rfl | rfl
    · exact h.fresh (m := num + 1) (by omega) ha rfl rfl
    · exact h.fresh (m := num + 2) (by omega) ha rfl rfl
  have h0 := mergeA_fresh h.set h.set2 hf (by simp; omega)
  obtain ⟨h1, h2, h3⟩ := added_up h.set h.set2 hf (by simp; omega) h.mem h.judging (fun x hx => by
    simp only [List.mem_cons, List.not_mem_nil, or_false] at hx
    rcases hx with rfl | rfl
    · exact ⟨rfl, rfl⟩
    · exact ⟨rfl, rfl⟩) h.free2
  obtain ⟨p1, p2, _⟩ := plain_well (h.set.well n h.mem) h.kind h.got
  refine ⟨_, Prod.ext rfl h0, h1, fold_kept h2 (j := againA n (num + 2) (clock + 2)) ((h3 _).2 (.inr (by simp))) (by simp) (fun x hx hk hne => ?_) (by simp [againA]) (again_fixes p1 p2 _ _) 9999⟩
  simp only [Bool.not_eq_false', decide_eq_true_eq, List.mem_cons, List.not_mem_nil, or_false] at hk
  rcases hk with rfl | rfl
  · simp only [goneA, againA]; omega
  · exact absurd rfl hne
theorem takes_one (h : Asked l n num clock) : ∃ M, mergeA l [goneA n (num + 1) (clock + 1)] = (M, 0) ∧ SetA M ∧ foldedA M 9999 = foldedA (lessA l n) 9999 := by
  have hl := h.len
  have hf : ∀ a ∈ l, ∀ b ∈ [goneA n (num + 1) (clock + 1)], a.name ≠ b.name := by
    intro a ha b hb
    rw [List.mem_singleton.1 hb]
    exact h.fresh (m := num + 1) (by omega) ha rfl rfl
  have h0 := mergeA_fresh h.set h.set1 hf (by simp; omega)
  obtain ⟨h1, h2, h3⟩ := added_up h.set h.set1 hf (by simp; omega) h.mem h.judging (fun x hx => by
    rw [List.mem_singleton.1 hx]
    exact ⟨rfl, rfl⟩) h.free2
  refine ⟨_, Prod.ext rfl h0, h1, fold_gone h2 (j := goneA n (num + 1) (clock + 1)) ((h3 _).2 (.inr (by simp))) (by simp) (fun x hx hk hne => ?_) rfl 9999⟩
  simp only [Bool.not_eq_false', decide_eq_true_eq, List.mem_singleton] at hk
  exact absurd hk hne
theorem less_set (h : SetA l) : SetA (lessA l n) := ⟨Nat.le_trans (List.length_filter_le _ _) h.len, fun a ha => h.well a (List.mem_filter.1 ha).1, h.up.filter _⟩
end
end Go.Proofs.YtendmmhfjhgdaaaGreat
