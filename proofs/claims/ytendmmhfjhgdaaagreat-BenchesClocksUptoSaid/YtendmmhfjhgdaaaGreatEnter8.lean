/-
  enter, for notes of all kinds; Fold of a set, whatever its notes.
-/
import Derived.Test.YtendmmhfjhgdaaaGreatLed8
import Derived.Test.YtendmmhfjhgdaaaGreatFolded
import Derived.Test.YtendmmhfjhgdaaaGreatMergeP
set_option linter.unusedVariables false
set_option linter.unusedSimpArgs false
namespace Go.Proofs.YtendmmhfjhgdaaaGreat
open Go.RowKit

/-! no pane holds two pieces -/
def Good (L : LedA) : Prop := ∀ pane, OneW L.wher pane
theorem oneW_put {m : List (Int × Where)} {pane k : Int} {x : Where} (h : OneW m pane) (hx : inPane pane x = false) : OneW (aput m k x) pane := by
  intro p hp q hq ip iq
  rcases mem_aput hp with rfl | hp
  · simp only at ip; rw [hx] at ip; cases ip
  rcases mem_aput hq with rfl | hq
  · simp only at iq; rw [hx] at iq; cases iq
  exact h p hp q hq ip iq
theorem oneW_new {m : List (Int × Where)} {pane k : Int} {x : Where} (h : ∀ p ∈ m, inPane pane p.2 = false) : OneW (aput m k x) pane := by
  intro p hp q hq ip iq
  rcases mem_aput hp with rfl | hp
  · rcases mem_aput hq with rfl | hq
    · rfl
    · rw [h q hq] at iq; cases iq
  · rw [h p hp] at ip; cases ip
theorem not_inPane {pane : Int} {x : Where} (h : x.kind ≠ 3) : inPane pane x = false := by simp [inPane, h]
theorem oneW_fold (f : Int → Where) (hf : ∀ k, (f k).kind ≠ 3) {pane : Int} : ∀ (l : List Int) (m : List (Int × Where)), OneW m pane → OneW (l.foldl (fun m p => aput m p (f p)) m) pane
  | [], _, h => h
  | p :: l, m, h => oneW_fold f hf l _ (oneW_put h (not_inPane (hf p)))
theorem oneW_puts {pane bench : Int} {l : List Int} {m : List (Int × Where)} (h : OneW m pane) : OneW (putsW m l bench) pane := oneW_fold (fun p => benchW p bench) (fun _ => by simp [benchW]) l m h
theorem holder_free {m : List (Int × Where)} {pane : Int} (h : (holderW m pane).isSome = false) : ∀ p ∈ m, inPane pane p.2 = false := by
  intro p hp
  unfold holderW at h
  rw [Option.isSome_map, Option.isSome_eq_false_iff, Option.isNone_iff_eq_none] at h
  have := List.find?_eq_none.1 h p hp
  simpa using this
theorem good_act {L : LedA} {n : NoteA} (h : Good L) : Good (actA L n).1 := by
  unfold actA
  repeat' split
  · unfold findA; split
    · exact h
    · exact fun pane => oneW_puts (h pane)
  · unfold recordA; split
    · exact h
    · exact h
  · exact h
  · unfold sendA; split
    · exact h
    · exact fun pane => oneW_fold (fun p => ⟨p, 2, 0, ⟨0, false⟩, n.name⟩) (fun _ => by simp) _ _ (h pane)
  · unfold unpackA; split
    · exact h
    · exact fun pane => oneW_puts (h pane)
  · unfold setA
    split
    · exact h
    rename_i hno
    split
    · exact h
    split
    · exact h
    · intro pane
      by_cases e : pane = n.pane
      · subst e
        refine oneW_new (holder_free ?_)
        simp only [Bool.or_eq_true, not_or, Bool.not_eq_true] at hno
        exact hno.1.2
      · exact oneW_put (h pane) (by simp [inPane, Ne.symm e])
  · unfold takeA; split
    · exact h
    · intro pane
      simp only
      split
      · exact oneW_put (h pane) (not_inPane (by simp [benchW]))
      · exact h pane
  · unfold splitA; split
    · exact h
    · exact fun pane => oneW_puts (oneW_put (h pane) (not_inPane (by simp)))
theorem good_enter {L : LedA} {n : NoteA} (h : Good L) : Good (enterA L n) := by
  unfold enterA; split
  · exact good_act h
  · exact good_act h
theorem good_st (year : Int) (l : List NoteA) (k : Nat) : Good (stA year l k) := by
  have key : ∀ (r : List NoteA) (L : LedA), Good L → Good (r.foldl (stepY year) L) := by
    intro r
    induction r with
    | nil => exact fun L h => h
    | cons x r ih =>
      intro L h
      refine ih _ ?_
      unfold stepY; split
      · exact good_enter h
      · exact h
  exact key _ _ (fun pane p hp => by simp [led0] at hp)

/-! few enough of everything -/
def Usual (n : NoteA) : Prop := (1 ≤ n.kind ∧ n.kind ≤ 8) ∧ (n.kind = 1 ∨ n.kind = 8 → n.data.length ≤ 4)
structure Few (k : Nat) (L : LedA) : Prop where
  pieces : L.pieces.length ≤ 4 * k
  glass : L.glass.length ≤ k
  items : L.items.length ≤ k
  releads : L.releads.length ≤ k
  conflicts : L.conflicts.length ≤ k
theorem aput_len8 {κ ν : Type} [DecidableEq κ] (m : List (κ × ν)) (k : κ) (v : ν) : (aput m k v).length ≤ m.length + 1 := by
  unfold aput; split
  · simp
  · simp
theorem aputs_len (l : List PieceA) : ∀ m : List (Int × PieceA), (l.foldl (fun m p => aput m p.id p) m).length ≤ m.length + l.length := by
  induction l with
  | nil => simp
  | cons x l ih => intro m; have h1 := ih (aput m x.id x); have h2 := aput_len8 m x.id x; simp only [List.foldl_cons, List.length_cons]; omega
theorem adel_len {κ ν : Type} [DecidableEq κ] (m : List (κ × ν)) (k : κ) : (adel m k).length ≤ m.length := List.length_filter_le _ _
theorem few_act {L : LedA} {n : NoteA} (hn : Usual n) : (actA L n).1.pieces.length ≤ L.pieces.length + 4 ∧ (actA L n).1.glass.length ≤ L.glass.length + 1 ∧ (actA L n).1.items.length ≤ L.items.length + 1 ∧ (actA L n).1.releads.length ≤ L.releads.length + 1 := by
  obtain ⟨⟨h1, h2⟩, h3⟩ := hn
  unfold actA
  repeat' split
  · rename_i hk
    have hd := h3 (.inl hk)
    have ha := aputs_len n.data L.pieces
    unfold findA; split
    · exact ⟨Nat.le_add_right _ 4, Nat.le_add_right _ 1, Nat.le_add_right _ 1, Nat.le_add_right _ 1⟩
    · exact ⟨Nat.le_trans ha (Nat.add_le_add_left hd _), Nat.le_add_right _ 1, Nat.le_add_right _ 1, Nat.le_add_right _ 1⟩
  · have ha := aput_len8 L.items n.item.id n.item
    unfold recordA; split
    · exact ⟨Nat.le_add_right _ 4, Nat.le_add_right _ 1, Nat.le_add_right _ 1, Nat.le_add_right _ 1⟩
    · exact ⟨Nat.le_add_right _ 4, Nat.le_add_right _ 1, ha, Nat.le_add_right _ 1⟩
  · exact ⟨by simp [releadA], by simp [releadA], by simp [releadA], by simp [releadA]⟩
  · unfold sendA; split
    · exact ⟨Nat.le_add_right _ 4, Nat.le_add_right _ 1, Nat.le_add_right _ 1, Nat.le_add_right _ 1⟩
    · exact ⟨Nat.le_add_right _ 4, Nat.le_add_right _ 1, Nat.le_add_right _ 1, Nat.le_add_right _ 1⟩
  · unfold unpackA; split
    · exact ⟨Nat.le_add_right _ 4, Nat.le_add_right _ 1, Nat.le_add_right _ 1, Nat.le_add_right _ 1⟩
    · exact ⟨Nat.le_add_right _ 4, Nat.le_add_right _ 1, Nat.le_add_right _ 1, Nat.le_add_right _ 1⟩
  · have ha := aput_len8 L.glass n.pane n.colour
    unfold setA; split
    · exact ⟨Nat.le_add_right _ 4, Nat.le_add_right _ 1, Nat.le_add_right _ 1, Nat.le_add_right _ 1⟩
    split
    · exact ⟨Nat.le_add_right _ 4, ha, Nat.le_add_right _ 1, Nat.le_add_right _ 1⟩
    split
    · exact ⟨Nat.le_add_right _ 4, Nat.le_add_right _ 1, Nat.le_add_right _ 1, Nat.le_add_right _ 1⟩
    · exact ⟨Nat.le_add_right _ 4, Nat.le_add_right _ 1, Nat.le_add_right _ 1, Nat.le_add_right _ 1⟩
  · have ha := adel_len L.glass n.pane
    unfold takeA; split
    · exact ⟨Nat.le_add_right _ 4, Nat.le_add_right _ 1, Nat.le_add_right _ 1, Nat.le_add_right _ 1⟩
    · exact ⟨Nat.le_add_right _ 4, Nat.le_trans ha (Nat.le_add_right _ 1), Nat.le_add_right _ 1, Nat.le_add_right _ 1⟩
  · have hk : n.kind = 8 := by omega
    have hd := h3 (.inr hk)
    have ha := aputs_len n.data L.pieces
    unfold splitA; split
    · exact ⟨Nat.le_add_right _ 4, Nat.le_add_right _ 1, Nat.le_add_right _ 1, Nat.le_add_right _ 1⟩
    · exact ⟨Nat.le_trans ha (Nat.add_le_add_left hd _), Nat.le_add_right _ 1, Nat.le_add_right _ 1, Nat.le_add_right _ 1⟩
theorem few_step {year : Int} {L : LedA} {n : NoteA} {k : Nat} (hn : Usual n) (h : Few k L) : Few (k + 1) (stepY year L n) := by
  obtain ⟨p1, p2, p3, p4, p5⟩ := h
  unfold stepY; split
  · obtain ⟨a1, a2, a3, a4⟩ := few_act (L := L) hn
    have a5 := actA_conflicts L n
    have e5 := congrArg List.length a5
    unfold enterA; split
    · exact ⟨by omega, by omega, by omega, by omega, by omega⟩
    · exact ⟨by simp only; omega, by simp only; omega, by simp only; omega, by simp only; omega, by simp only [List.length_append, List.length_singleton]; omega⟩
  · exact ⟨by omega, by omega, by omega, by omega, by omega⟩
theorem few_st {year : Int} {l : List NoteA} (hl : ∀ x ∈ l, Usual x) : ∀ k, Few k (stA year l k)
  | 0 => ⟨by simp [stA, led0], by simp [stA, led0], by simp [stA, led0], by simp [stA, led0], by simp [stA, led0]⟩
  | k + 1 => by
    have ih := few_st (year := year) hl k
    cases hx : l[k]? with
    | none =>
      have : stA year l (k + 1) = stA year l k := by simp only [stA]; rw [List.take_add_one, hx]; simp
      rw [this]
      obtain ⟨p1, p2, p3, p4, p5⟩ := ih
      exact ⟨by omega, by omega, by omega, by omega, by omega⟩
    | some x => rw [stA_succ hx]; exact few_step (hl x (List.mem_of_getElem? hx)) ih

/-! enter -/
def P8 (x : NoteA) (L : LedA) : Prop := (1 ≤ x.kind ∧ x.kind ≤ 8) ∧ Good L ∧ L.releads.length ≤ 1000000
set_option maxHeartbeats 8000000 in
theorem enters_8 : Enters P8 := by
  intro b N L x w hP h hn hc
  obtain ⟨hk, hg, hr⟩ := hP
  have hc' : ∀ act : LedA → NoteA → LedA × Bool, actA L.abs x.abs = act L.abs x.abs → (act L.abs x.abs).1.conflicts.length ≤ 1000000 := fun act e => by rw [← e, actA_conflicts]; exact hc
  have hk8 : x.abs.kind = 1 ∨ x.abs.kind = 2 ∨ x.abs.kind = 3 ∨ x.abs.kind = 4 ∨ x.abs.kind = 5 ∨ x.abs.kind = 6 ∨ x.abs.kind = 7 ∨ x.abs.kind = 8 := by omega
  rcases hk8 with hk | hk | hk | hk | hk | hk | hk | hk
  · have e : actA L.abs x.abs = findA L.abs x.abs := by unfold actA; simp [hk]
    refine (enter_any (DoesS.does find_does) (enters_of Tryz.func85 (by kernel_rfl) rfl) b N L x w h hn (trivial) (by rw [show x.kind = _ from hk]; rfl) (hc' _ e)).mono ?_
    rintro e' w' ⟨rfl, L', h1, h2, h3⟩
    exact ⟨rfl, L', by rw [h1]; unfold stepA enterA; rw [e], h2, h3⟩
  · have e : actA L.abs x.abs = recordA L.abs x.abs := by unfold actA; simp [hk]
    refine (enter_any (DoesS.does record_does) (enters_of Tryz.func86 (by kernel_rfl) rfl) b N L x w h hn (trivial) (by rw [show x.kind = _ from hk]; rfl) (hc' _ e)).mono ?_
    rintro e' w' ⟨rfl, L', h1, h2, h3⟩
    exact ⟨rfl, L', by rw [h1]; unfold stepA enterA; rw [e], h2, h3⟩
  · have e : actA L.abs x.abs = releadA L.abs x.abs := by unfold actA; simp [hk]
    refine (enter_any (relead_does) (enters_of Tryz.func87 (by kernel_rfl) rfl) b N L x w h hn (hr) (by rw [show x.kind = _ from hk]; rfl) (hc' _ e)).mono ?_
    rintro e' w' ⟨rfl, L', h1, h2, h3⟩
    exact ⟨rfl, L', by rw [h1]; unfold stepA enterA; rw [e], h2, h3⟩
  · have e : actA L.abs x.abs = sendA L.abs x.abs := by unfold actA; simp [hk]
    refine (enter_any (DoesS.does send_does) (enters_of Tryz.func88 (by kernel_rfl) rfl) b N L x w h hn (trivial) (by rw [show x.kind = _ from hk]; rfl) (hc' _ e)).mono ?_
    rintro e' w' ⟨rfl, L', h1, h2, h3⟩
    exact ⟨rfl, L', by rw [h1]; unfold stepA enterA; rw [e], h2, h3⟩
  · have e : actA L.abs x.abs = unpackA L.abs x.abs := by unfold actA; simp [hk]
    refine (enter_any (DoesS.does unpack_does) (enters_of Tryz.func89 (by kernel_rfl) rfl) b N L x w h hn (trivial) (by rw [show x.kind = _ from hk]; rfl) (hc' _ e)).mono ?_
    rintro e' w' ⟨rfl, L', h1, h2, h3⟩
    exact ⟨rfl, L', by rw [h1]; unfold stepA enterA; rw [e], h2, h3⟩
  · have e : actA L.abs x.abs = setA L.abs x.abs := by unfold actA; simp [hk]
    refine (enter_any (DoesS.does set_does) (enters_of Tryz.func90 (by kernel_rfl) rfl) b N L x w h hn (hg _) (by rw [show x.kind = _ from hk]; rfl) (hc' _ e)).mono ?_
    rintro e' w' ⟨rfl, L', h1, h2, h3⟩
    exact ⟨rfl, L', by rw [h1]; unfold stepA enterA; rw [e], h2, h3⟩
  · have e : actA L.abs x.abs = takeA L.abs x.abs := by unfold actA; simp [hk]
    refine (enter_any (DoesS.does take_does) (enters_of Tryz.func91 (by kernel_rfl) rfl) b N L x w h hn (hg _) (by rw [show x.kind = _ from hk]; rfl) (hc' _ e)).mono ?_
    rintro e' w' ⟨rfl, L', h1, h2, h3⟩
    exact ⟨rfl, L', by rw [h1]; unfold stepA enterA; rw [e], h2, h3⟩
  · have e : actA L.abs x.abs = splitA L.abs x.abs := by unfold actA; simp [hk]
    refine (enter_any (DoesS.does split_does) (enters_of Tryz.func92 (by kernel_rfl) rfl) b N L x w h hn (trivial) (by rw [show x.kind = _ from hk]; rfl) (hc' _ e)).mono ?_
    rintro e' w' ⟨rfl, L', h1, h2, h3⟩
    exact ⟨rfl, L', by rw [h1]; unfold stepA enterA; rw [e], h2, h3⟩

/-! sets -/
theorem well_usual {a : NoteA} (h : wellA a = true) : (judgingI a.kind = false → Usual a) ∧ (a.kind = 9 → ∀ n : NoteA, Usual (fixedA a n)) := by
  have hl : a.raw.data.val.length = a.data.length := List.length_map _
  have hv : ∀ most : Int, validPiecesB a.raw.data.val most = true → (a.data.length : Int) ≤ most := fun most hv => by
    simp only [validPiecesB, Bool.and_eq_true, inB, decide_eq_true_eq, hl] at hv
    exact hv.2.2
  have hu : ∀ k : Int, usedB k a.raw = true → (k = 1 ∨ k = 8) → a.data.length ≤ 4 := fun k hu hk => by
    unfold usedB at hu
    rcases hk with rfl | rfl
    · have := hv 1 (by simpa using hu); omega
    · have := hv 4 (by simp at hu; exact hu.2); omega
  unfold wellA wellB at h
  have hkr : a.raw.kind = a.kind := rfl
  have hfr : a.raw.fix = a.fix := rfl
  rw [hkr, hfr] at h
  simp only [Bool.and_eq_true] at h
  obtain ⟨_, h⟩ := h
  constructor
  · intro hj
    simp only [judgingI, Bool.or_eq_false_iff, decide_eq_false_iff_not] at hj
    by_cases h1 : inB a.kind 1 8 = true ∨ a.kind = 10
    · rw [if_pos h1] at h
      rcases h1 with h1 | h1
      · simp only [inB, Bool.and_eq_true, decide_eq_true_eq] at h1
        simp only [contentB, Bool.and_eq_true] at h
        exact ⟨h1, fun hk => hu _ h.2.1 hk⟩
      · exact absurd h1 hj.2
    · rw [if_neg h1, if_neg hj.1] at h; cases h
  · intro hk n
    have h1 : ¬ (inB a.kind 1 8 = true ∨ a.kind = 10) := by rw [hk]; simp [inB]
    rw [if_neg h1, if_pos hk] at h
    simp only [Bool.and_eq_true, inB, decide_eq_true_eq, contentB] at h
    refine ⟨h.1.1.1, fun hk8 => ?_⟩
    have h5 := h.2.1
    rcases hk8 with h6 | h6
    · have h7 : a.fix = 1 := h6
      rw [h7] at h5
      exact hu 1 h5 (.inl rfl)
    · have h7 : a.fix = 8 := h6
      rw [h7] at h5
      exact hu 8 h5 (.inr rfl)
theorem judges_mem {l : List NoteA} {r : Ref} {j : NoteA} (h : (r, j) ∈ (judgesA l).1) : j ∈ l ∧ judgingI j.kind = true ∧ j.ref = r := by
  have key : ∀ (rest : List NoteA) (st : List (Ref × NoteA) × List Ref), (∀ x ∈ rest, x ∈ l) → (∀ p ∈ st.1, p.2 ∈ l ∧ judgingI p.2.kind = true ∧ p.2.ref = p.1) → ∀ p ∈ (rest.foldl (judgeA (plainA l)) st).1, p.2 ∈ l ∧ judgingI p.2.kind = true ∧ p.2.ref = p.1 := by
    intro rest
    induction rest with
    | nil => exact fun st _ h => h
    | cons x rest ih =>
      intro st hx hs
      refine ih _ (fun y hy => hx y (by simp [hy])) fun p hp => ?_
      unfold judgeA at hp
      split at hp
      · rename_i hj
        simp only at hp
        split at hp
        · rcases mem_aput hp with rfl | hp
          · exact ⟨hx x (by simp), hj, rfl⟩
          · exact hs p hp
        · exact hs p hp
      · exact hs p hp
  exact key l ([], []) (fun _ h => h) (by simp) (r, j) h
theorem counts_usual {l : List NoteA} (hl : ∀ a ∈ l, wellA a = true) {n x : NoteA} (hn : n ∈ l) (h : countsA (judgesA l).1 n = some x) : Usual x := by
  unfold countsA at h
  split at h
  · cases h
  rename_i hj
  cases hg : aget (judgesA l).1 n.name with
  | none =>
    rw [hg] at h
    cases h
    exact (well_usual (hl _ hn)).1 (by simpa using hj)
  | some j =>
    rw [hg] at h
    simp only at h
    split at h
    · cases h
    · rename_i h10
      cases h
      obtain ⟨h1, h2, _⟩ := judges_mem (mem_of_aget hg)
      simp only [judgingI, Bool.or_eq_true, decide_eq_true_eq] at h2
      exact (well_usual (hl j h1)).2 (h2.elim id fun h => absurd h h10) n
theorem eff_usual {l : List NoteA} (hl : ∀ a ∈ l, wellA a = true) : ∀ x ∈ effA l, Usual x := by
  intro x hx
  obtain ⟨n, hn, he⟩ := List.mem_filterMap.1 ((sortBy_perm ltNote _).mem_iff.1 hx)
  exact counts_usual hl hn he
theorem eff_length (l : List NoteA) : (effA l).length ≤ l.length := by
  unfold effA
  rw [(sortBy_perm ltNote _).length_eq]
  exact List.length_filterMap_le _ _
theorem dang_length (l : List NoteA) : (dangA l).length ≤ l.length := by
  have key : ∀ (p : List (Ref × Bool)) (rest : List NoteA) (st : List (Ref × NoteA) × List Ref), (rest.foldl (judgeA p) st).2.length ≤ st.2.length + rest.length := by
    intro p rest
    induction rest with
    | nil => simp
    | cons x rest ih =>
      intro st
      have h1 := ih (judgeA p st x)
      have h2 : (judgeA p st x).2.length ≤ st.2.length + 1 := by
        unfold judgeA; split
        · simp only; split
          · omega
          · simp
        · omega
      simp only [List.foldl_cons, List.length_cons]; omega
  have h := key (plainA l) l ([], [])
  simp only [List.length_nil, Nat.zero_add] at h
  exact h
theorem set_small {l : List NoteA} (hl : SetA l) (year : Int) : Small (ledEnd l year) := by
  have h1 := few_st (year := year) (eff_usual hl.well) (effA l).length
  rw [stA_all] at h1
  obtain ⟨p1, p2, p3, p4, p5⟩ := h1
  have h2 := eff_length l
  have h3 := dang_length l
  have h4 := hl.len
  exact ⟨by simp only [ledEnd]; omega, by simp only [ledEnd]; omega, by simp only [ledEnd]; omega, by simp only [ledEnd]; omega, by simp only [ledEnd, List.length_append]; omega⟩
theorem set_P8 {l : List NoteA} (hl : SetA l) (year : Int) (k : Nat) (x : NoteA) (hx : (effA l)[k]? = some x) : P8 x (stA year (effA l) k) := by
  have h1 := (few_st (year := year) (eff_usual hl.well) k).releads
  have h2 : k < (effA l).length := (List.getElem?_eq_some_iff.1 hx).1
  have h3 := eff_length l
  have h4 := hl.len
  exact ⟨(eff_usual hl.well x (List.mem_of_getElem? hx)).1, good_st year _ k, by omega⟩
theorem set_nodup {s : List Note} (h : SetA (s.map Note.abs)) : (s.map refN).Nodup := by
  have h1 := h.up
  rw [List.pairwise_map] at h1
  rw [List.Nodup, List.pairwise_map]
  refine h1.imp fun {a b} hab e => ?_
  unfold ltName at hab
  rw [show a.abs.name = refN a from rfl, show b.abs.name = refN b from rfl, e, ltRef_irr] at hab
  cases hab
theorem folded_set (D : Nat → Prop) (s : Sl Note) (year : Int) (w : World) (hs : s.OK 29 encNote okNote D w) (hset : SetA (s.val.map Note.abs)) (hy : I64 year) :
    Calls Tryz.prog 57 #[.slice s.a s.val.length s.cap, .int .i64 year] w fun e w' => ∃ R : Register, e = .returned (.agg (encRegister R)) ∧ R.abs = foldedA (s.val.map Note.abs) year ∧ okRegister (Old w.heap.size) w' R ∧ Below w.heap.size w w' := by
  have h4 := hset.len
  have h2 := eff_length (s.val.map Note.abs)
  have h3 := dang_length (s.val.map Note.abs)
  exact folded_any enters_8 D s year w hs (by simpa using (by omega : (s.val.map Note.abs).length ≤ 500)) (set_nodup hset) hy (fun k x hx _ => set_P8 hset year k x hx) (set_small hset year) (by omega) (by omega)
theorem fold_set (D : Nat → Prop) (s : Sl Note) (w : World) (hs : s.OK 29 encNote okNote D w) (hset : SetA (s.val.map Note.abs)) :
    Calls Tryz.prog 25 #[.slice s.a s.val.length s.cap] w fun e w' => ∃ R : Register, e = .returned (.tuple #[.agg (encRegister R), .int .i64 0]) ∧ R.abs = foldedA (s.val.map Note.abs) 9999 ∧ okRegister (Old w.heap.size) w' R ∧ Below w.heap.size w w' := by
  have h4 := hset.len
  have h2 := eff_length (s.val.map Note.abs)
  have h3 := dang_length (s.val.map Note.abs)
  exact fold_any enters_8 D s w hs ((isSetB_iff _).2 hset) (by simpa using (by omega : (s.val.map Note.abs).length ≤ 500)) (set_nodup hset) (fun k x hx _ => set_P8 hset 9999 k x hx) (set_small hset 9999) (by omega) (by omega)
end Go.Proofs.YtendmmhfjhgdaaaGreat
