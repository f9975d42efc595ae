/-
  In the register of a set each piece is in one place, and no pane holds two things; notes that come later unregister nothing. No program in sight.
-/
import Derived.Test.YtendmmhfjhgdaaaGreatEnter8
import Derived.Test.YtendmmhfjhgdaaaGreatMergeP
set_option linter.unusedVariables false
set_option linter.unusedSimpArgs false
namespace Go.Proofs.YtendmmhfjhgdaaaGreat

/-! the ledger's order -/
structure Placed (L : LedA) : Prop where
  pk : (L.pieces.map Prod.fst).Nodup
  gk : (L.glass.map Prod.fst).Nodup
  ids : ∀ p ∈ L.pieces, p.2.id = p.1
  same : ∀ k, ahas L.wher k = ahas L.pieces k
  wh : ∀ p ∈ L.wher, p.2.piece = p.1 ∧ 1 ≤ p.2.kind ∧ p.2.kind ≤ 4 ∧ (p.2.kind = 3 → 1 ≤ p.2.at_ ∧ p.2.at_ ≤ 64)
  gl : ∀ p ∈ L.glass, 1 ≤ p.1 ∧ p.1 ≤ 64
  one : ∀ pane, OneW L.wher pane
  apart : ∀ p ∈ L.glass, ∀ q ∈ L.wher, inPane p.1 q.2 = false
  trays : ∀ p ∈ L.trays, ∀ x ∈ p.2, ahas L.wher x = true
theorem placed_led0 : Placed led0 :=
  ⟨by simp [led0], by simp [led0], by simp [led0], fun _ => rfl, by simp [led0], by simp [led0], fun _ p hp => by simp [led0] at hp, by simp [led0], by simp [led0]⟩
def foldW (g : Int → Where) (m : List (Int × Where)) (l : List Int) : List (Int × Where) := l.foldl (fun m p => aput m p (g p)) m
theorem ahas_foldW (g : Int → Where) (k : Int) : ∀ (l : List Int) (m : List (Int × Where)), ahas (foldW g m l) k = (ahas m k || decide (k ∈ l))
  | [], m => by simp [foldW]
  | x :: l, m => by
    have ih := ahas_foldW g k l (aput m x (g x))
    rw [ahas_aput] at ih
    show ahas (foldW g (aput m x (g x)) l) k = _
    rw [ih]
    by_cases h : k = x
    · simp [h]
    · simp [h]
theorem mem_foldW {g : Int → Where} {p : Int × Where} : ∀ {l : List Int} {m : List (Int × Where)}, p ∈ foldW g m l → p ∈ m ∨ ∃ x ∈ l, p = (x, g x)
  | [], m, h => .inl h
  | x :: l, m, h => by
    rcases mem_foldW (l := l) (m := aput m x (g x)) h with h | ⟨y, hy, e⟩
    · rcases mem_aput h with h | h
      · exact .inr ⟨x, by simp, h⟩
      · exact .inl h
    · exact .inr ⟨y, by simp [hy], e⟩
def foldP (m : List (Int × PieceA)) (l : List PieceA) : List (Int × PieceA) := l.foldl (fun m p => aput m p.id p) m
theorem ahas_foldP (k : Int) : ∀ (l : List PieceA) (m : List (Int × PieceA)), ahas (foldP m l) k = (ahas m k || decide (k ∈ l.map (·.id)))
  | [], m => by simp [foldP]
  | x :: l, m => by
    have ih := ahas_foldP k l (aput m x.id x)
    rw [ahas_aput] at ih
    show ahas (foldP (aput m x.id x) l) k = _
    rw [ih]
    by_cases h : k = x.id
    · simp [h]
    · simp [h]
theorem mem_foldP {p : Int × PieceA} : ∀ {l : List PieceA} {m : List (Int × PieceA)}, p ∈ foldP m l → p ∈ m ∨ ∃ x ∈ l, p = (x.id, x)
  | [], m, h => .inl h
  | x :: l, m, h => by
    rcases mem_foldP (l := l) (m := aput m x.id x) h with h | ⟨y, hy, e⟩
    · rcases mem_aput h with h | h
      · exact .inr ⟨x, by simp, h⟩
      · exact .inl h
    · exact .inr ⟨y, by simp [hy], e⟩
theorem nodup_foldP : ∀ {l : List PieceA} {m : List (Int × PieceA)}, (m.map Prod.fst).Nodup → ((foldP m l).map Prod.fst).Nodup
  | [], m, h => h
  | x :: l, m, h => nodup_foldP (l := l) (nodup_aput h x.id x)
/-- pieces come to places that are no panes -/
theorem Placed.moved {L : LedA} (h : Placed L) {g : Int → Where} (hg : ∀ k, (g k).piece = k ∧ 1 ≤ (g k).kind ∧ (g k).kind ≤ 4 ∧ (g k).kind ≠ 3) {l : List Int} {P : List (Int × PieceA)} (hP : (P.map Prod.fst).Nodup) (hi : ∀ p ∈ P, p.2.id = p.1)
    (hs : ∀ k, (ahas L.wher k || decide (k ∈ l)) = ahas P k) : Placed { L with pieces := P, wher := foldW g L.wher l } := by
  refine ⟨hP, h.gk, hi, fun k => by rw [← hs]; exact ahas_foldW g k l _, fun p hp => ?_, h.gl, fun pane => oneW_fold g (fun k => (hg k).2.2.2) l _ (h.one pane), fun p hp q hq => ?_, fun p hp x hx => ?_⟩
  · rcases mem_foldW hp with hp | ⟨x, _, rfl⟩
    · exact h.wh p hp
    · obtain ⟨h1, h2, h3, h4⟩ := hg x
      exact ⟨h1, h2, h3, fun e => absurd e h4⟩
  · rcases mem_foldW hq with hq | ⟨x, _, rfl⟩
    · exact h.apart p hp q hq
    · exact not_inPane (hg x).2.2.2
  · show ahas (foldW g L.wher l) x = true
    rw [ahas_foldW, h.trays p hp x hx]; rfl
theorem benchW_ok (bench k : Int) : (benchW k bench).piece = k ∧ 1 ≤ (benchW k bench).kind ∧ (benchW k bench).kind ≤ 4 ∧ (benchW k bench).kind ≠ 3 := by simp [benchW]
theorem Placed.register {L : LedA} (h : Placed L) (l : List PieceA) (bench : Int) : Placed (registerA L l bench) := by
  refine h.moved (g := fun k => benchW k bench) (benchW_ok bench) (l := l.map (·.id)) (P := foldP L.pieces l) (nodup_foldP h.pk) (fun p hp => ?_) (fun k => by rw [ahas_foldP, h.same])
  rcases mem_foldP hp with hp | ⟨x, _, rfl⟩
  · exact h.ids p hp
  · rfl
/-- .. pieces that are registered -/
theorem Placed.moves {L : LedA} (h : Placed L) {g : Int → Where} (hg : ∀ k, (g k).piece = k ∧ 1 ≤ (g k).kind ∧ (g k).kind ≤ 4 ∧ (g k).kind ≠ 3) {l : List Int} (hl : ∀ k ∈ l, ahas L.wher k = true) : Placed { L with wher := foldW g L.wher l } := by
  have := h.moved hg (l := l) h.pk h.ids (fun k => by
    by_cases hk : k ∈ l
    · rw [← h.same, hl k hk]; rfl
    · rw [← h.same]; simp [hk])
  exact this
theorem atW_has {m : List (Int × Where)} {p b : Int} (h : atW m p b = true) : ahas m p = true := by
  rw [← aget_isSome]
  unfold atW at h
  cases hg : aget m p with
  | some v => rfl
  | none =>
    rw [hg] at h
    simp [zWhere] at h
theorem holder_mem1 {m : List (Int × Where)} {pane p : Int} (h : holderW m pane = some p) : ∃ x, (p, x) ∈ m ∧ inPane pane x = true := by
  unfold holderW at h
  obtain ⟨q, hq, rfl⟩ := Option.map_eq_some_iff.1 h
  exact ⟨q.2, List.mem_of_find?_eq_some hq, by have h2 := List.find?_some (p := fun p : Int × Where => inPane pane p.2) hq; exact h2⟩
def PaneOk (n : NoteA) : Prop := n.kind = 6 → 1 ≤ n.pane ∧ n.pane ≤ 64
theorem placed_act {L : LedA} {n : NoteA} (hk : 1 ≤ n.kind ∧ n.kind ≤ 8) (hp : PaneOk n) (h : Placed L) : Placed (actA L n).1 := by
  unfold actA
  repeat' split
  · unfold findA; split
    · exact h
    · exact h.register _ _
  · unfold recordA; split
    · exact h
    · exact ⟨h.pk, h.gk, h.ids, h.same, h.wh, h.gl, h.one, h.apart, h.trays⟩
  · exact ⟨h.pk, h.gk, h.ids, h.same, h.wh, h.gl, h.one, h.apart, h.trays⟩
  · unfold sendA; split
    · exact h
    rename_i hno
    simp only [Bool.or_eq_true, not_or, Bool.not_eq_true, List.any_eq_false, decide_eq_false_iff_not, Bool.not_eq_true', Bool.not_eq_false] at hno
    have hall : ∀ k ∈ n.pieces, ahas L.wher k = true := fun k hk => atW_has (b := n.bench) (by have := hno.2 k hk; simpa using this)
    have h2 := h.moves (g := fun p => ⟨p, 2, 0, ⟨0, false⟩, n.name⟩) (fun k => by simp) hall
    refine ⟨h2.pk, h2.gk, h2.ids, h2.same, h2.wh, h2.gl, h2.one, h2.apart, fun p hp x hx => ?_⟩
    rcases mem_aput hp with rfl | hp
    · show ahas (foldW _ L.wher n.pieces) x = true
      rw [ahas_foldW, hall x hx]; rfl
    · exact h2.trays p hp x hx
  · unfold unpackA; split
    · exact h
    have hall : ∀ k ∈ (aget L.trays n.ref).getD [], ahas L.wher k = true := fun k hk => by
      cases hg : aget L.trays n.ref with
      | none => rw [hg] at hk; simp at hk
      | some v => rw [hg] at hk; exact h.trays _ (mem_of_aget hg) k hk
    have h2 := h.moves (g := fun k => benchW k n.bench) (benchW_ok n.bench) hall
    exact ⟨h2.pk, h2.gk, h2.ids, h2.same, h2.wh, h2.gl, h2.one, h2.apart, fun p hp x hx => h2.trays p (List.mem_filter.1 hp).1 x hx⟩
  · rename_i hk6
    have hpn := hp hk6
    unfold setA
    split
    · exact h
    rename_i hno
    simp only [Bool.or_eq_true, not_or, Bool.not_eq_true] at hno
    have hfree := holder_free hno.1.2
    split
    · refine ⟨h.pk, nodup_aput h.gk _ _, h.ids, h.same, h.wh, fun p hp => ?_, h.one, fun p hp q hq => ?_, h.trays⟩
      · rcases mem_aput hp with rfl | hp
        · exact hpn
        · exact h.gl p hp
      · rcases mem_aput hp with rfl | hp
        · exact hfree q hq
        · exact h.apart p hp q hq
    split
    · exact h
    · rename_i hat
      have hreg : ahas L.wher n.piece = true := atW_has (b := 1) (by simpa using hat)
      refine ⟨h.pk, h.gk, h.ids, fun k => ?_, fun p hp => ?_, h.gl, fun pane => ?_, fun p hp q hq => ?_, fun p hp x hx => ?_⟩
      · show ahas (aput L.wher n.piece _) k = _
        rw [ahas_aput, ← h.same]
        by_cases e : k = n.piece
        · rw [e, hreg]; simp
        · simp [e]
      · rcases mem_aput hp with rfl | hp
        · exact ⟨rfl, by simp, by simp, fun _ => hpn⟩
        · exact h.wh p hp
      · by_cases e : pane = n.pane
        · subst e; exact oneW_new hfree
        · exact oneW_put (h.one pane) (by simp [inPane, Ne.symm e])
      · rcases mem_aput hq with rfl | hq
        · have hne : ¬ p.1 = n.pane := (ahas_false.1 hno.2) p hp
          simp [inPane, Ne.symm hne]
        · exact h.apart p hp q hq
      · show ahas (aput L.wher n.piece _) x = true
        rw [ahas_aput, h.trays p hp x hx]; simp
  · unfold takeA; split
    · exact h
    have hd : Placed { L with glass := adel L.glass n.pane } := ⟨h.pk, nodup_adel h.gk _, h.ids, h.same, h.wh, fun p hp => h.gl p (List.mem_filter.1 hp).1, h.one, fun p hp => h.apart p (List.mem_filter.1 hp).1, h.trays⟩
    cases hh : holderW L.wher n.pane with
    | none => exact hd
    | some p =>
      obtain ⟨x, hx, _⟩ := holder_mem1 hh
      exact hd.moves (g := fun k => benchW k 1) (benchW_ok 1) (l := [p]) (fun k hk => by
        rw [List.mem_singleton.1 hk]
        exact ahas_iff.2 (List.mem_map_of_mem hx))
  · unfold splitA; split
    · exact h
    rename_i hno
    simp only [Bool.or_eq_true, not_or, Bool.not_eq_true] at hno
    have hreg : ahas L.wher n.piece = true := atW_has (b := n.bench) (by simpa using hno.1)
    have h2 := h.moves (g := fun k => ⟨k, 4, 0, ⟨0, false⟩, ⟨0, 0⟩⟩) (fun k => by simp) (l := [n.piece]) (fun k hk => by rw [List.mem_singleton.1 hk]; exact hreg)
    exact h2.register _ _
theorem placed_step {year : Int} {L : LedA} {n : NoteA} (hk : 1 ≤ n.kind ∧ n.kind ≤ 8) (hp : PaneOk n) (h : Placed L) : Placed (stepY year L n) := by
  unfold stepY; split
  · unfold enterA
    have h2 := placed_act hk hp h
    split
    · exact h2
    · exact ⟨h2.pk, h2.gk, h2.ids, h2.same, h2.wh, h2.gl, h2.one, h2.apart, h2.trays⟩
  · exact h
theorem placed_fold {year : Int} : ∀ {l : List NoteA} {L : LedA}, (∀ x ∈ l, (1 ≤ x.kind ∧ x.kind ≤ 8) ∧ PaneOk x) → Placed L → Placed (l.foldl (stepY year) L)
  | [], L, _, h => h
  | x :: l, L, hl, h => placed_fold (l := l) (fun y hy => hl y (by simp [hy])) (placed_step (hl x (by simp)).1 (hl x (by simp)).2 h)
theorem used_pane {n : Note} (h : usedB 6 n = true) : 1 ≤ n.pane ∧ n.pane ≤ 64 := by
  unfold usedB at h
  simp only [show ¬ (6 : Int) = 1 by decide, show ¬ (6 : Int) = 2 by decide, show ¬ (6 : Int) = 3 by decide, show ¬ (6 : Int) = 4 by decide, show ¬ ((6 : Int) = 5 ∨ (6 : Int) = 10) by decide, if_false, if_true, Bool.and_eq_true] at h
  have h1 := h.1
  simp only [inB, Bool.and_eq_true, decide_eq_true_eq] at h1
  exact h1
theorem well_pane {a : NoteA} (h : wellA a = true) : (judgingI a.kind = false → PaneOk a) ∧ (a.kind = 9 → ∀ n : NoteA, PaneOk (fixedA a n)) := by
  unfold wellA wellB at h
  have hkr : a.raw.kind = a.kind := rfl
  have hfr : a.raw.fix = a.fix := rfl
  rw [hkr, hfr] at h
  simp only [Bool.and_eq_true] at h
  obtain ⟨_, h⟩ := h
  constructor
  · intro hj h6
    rw [h6] at h
    have h1 : inB 6 1 8 = true ∨ (6 : Int) = 10 := .inl (by simp [inB])
    rw [if_pos h1] at h
    simp only [contentB, Bool.and_eq_true] at h
    exact used_pane h.2.1
  · intro hk n h6
    have h1 : ¬ (inB a.kind 1 8 = true ∨ a.kind = 10) := by rw [hk]; simp [inB]
    rw [if_neg h1, if_pos hk] at h
    have h7 : a.fix = 6 := h6
    rw [h7] at h
    simp only [Bool.and_eq_true, contentB] at h
    exact used_pane h.2.1
theorem counts_pane {l : List NoteA} (hl : ∀ a ∈ l, wellA a = true) {n x : NoteA} (hn : n ∈ l) (h : countsA (judgesA l).1 n = some x) : PaneOk x := by
  unfold countsA at h
  split at h
  · cases h
  rename_i hj
  cases hg : aget (judgesA l).1 n.name with
  | none =>
    rw [hg] at h
    cases h
    exact (well_pane (hl _ hn)).1 (by simpa using hj)
  | some j =>
    rw [hg] at h
    simp only at h
    split at h
    · cases h
    · rename_i h10
      cases h
      obtain ⟨h1, h2, _⟩ := judges_mem (mem_of_aget hg)
      simp only [judgingI, Bool.or_eq_true, decide_eq_true_eq] at h2
      exact (well_pane (hl j h1)).2 (h2.elim id fun h => absurd h h10) n
theorem eff_ok {l : List NoteA} (hl : ∀ a ∈ l, wellA a = true) : ∀ x ∈ effA l, (1 ≤ x.kind ∧ x.kind ≤ 8) ∧ PaneOk x := by
  intro x hx
  refine ⟨(eff_usual hl x hx).1, ?_⟩
  obtain ⟨n, hn, he⟩ := List.mem_filterMap.1 ((sortBy_perm ltNote _).mem_iff.1 hx)
  exact counts_pane hl hn he
theorem placed_led {l : List NoteA} (hl : SetA l) (year : Int) : Placed (ledOf l year) := placed_fold (year := year) (eff_ok hl.well) placed_led0

/-! the register's order -/
theorem keysUp_lt {ν : Type} {m : List (Int × ν)} (h : (m.map Prod.fst).Nodup) : (keysUp m).Pairwise (· < ·) := by
  have h1 : (keysUp m).Nodup := (sortBy_perm ltInt _).nodup_iff.2 h
  have h2 : (keysUp m).Pairwise (fun a b => ltInt b a = false) := sortBy_up ltInt_tr ltInt_as _
  refine (h1.and h2).imp fun {a b} hab => ?_
  have h3 := hab.1
  have h4 := hab.2
  simp only [ltInt, decide_eq_false_iff_not] at h4
  omega
theorem keysUp_mem {ν : Type} {m : List (Int × ν)} {k : Int} : k ∈ keysUp m ↔ ahas m k = true := by
  rw [ahas_iff]; exact (sortBy_perm ltInt _).mem_iff
structure OnePlaceA (r : RegisterA) : Prop where
  len : r.wher.length = r.pieces.length
  new_ok : ∀ h ∈ r.new_, 1 ≤ h.pane ∧ h.pane ≤ 64 ∧ h.piece = 0
  new_nd : (r.new_.map (·.pane)).Nodup
  piece : ∀ (i : Nat) (w : Where) (p : PieceA), r.wher[i]? = some w → r.pieces[i]? = some p → w.piece = p.id ∧ 1 ≤ w.kind ∧ w.kind ≤ 4 ∧ (w.kind = 3 → 1 ≤ w.at_ ∧ w.at_ ≤ 64 ∧ ∀ h ∈ r.new_, h.pane ≠ w.at_)
  up : r.pieces.Pairwise fun p q => p.id < q.id
  one : r.wher.Pairwise fun w v => w.kind = 3 → v.kind = 3 → w.at_ ≠ v.at_
theorem onePlace_told {L : LedA} (h : Placed L) (c : List Ref) : OnePlaceA (toldA { L with conflicts := c }) := by
  have hup := keysUp_lt h.pk
  have hw : ∀ k ∈ keysUp L.pieces, (k, (aget L.wher k).getD zWhere) ∈ L.wher := fun k hk => by
    have h1 := keysUp_mem.1 hk
    rw [← h.same, ← aget_isSome] at h1
    obtain ⟨v, hv⟩ := Option.isSome_iff_exists.1 h1
    rw [hv]; exact mem_of_aget hv
  have hp : ∀ k ∈ keysUp L.pieces, ((aget L.pieces k).getD zPiece.abs).id = k := fun k hk => by
    have h1 := keysUp_mem.1 hk
    rw [← aget_isSome] at h1
    obtain ⟨v, hv⟩ := Option.isSome_iff_exists.1 h1
    rw [hv]; exact h.ids _ (mem_of_aget hv)
  have hn : ∀ x ∈ (toldA { L with conflicts := c }).new_, ∃ q ∈ L.glass, x.pane = q.1 ∧ x.piece = 0 := fun x hx => by
    obtain ⟨k, hk, rfl⟩ := List.mem_map.1 hx
    obtain ⟨q, hq, e⟩ := List.mem_map.1 (ahas_iff.1 (keysUp_mem.1 hk))
    exact ⟨q, hq, e.symm, rfl⟩
  refine ⟨by simp [toldA], fun x hx => ?_, ?_, fun i w p hi hj => ?_, ?_, ?_⟩
  · obtain ⟨q, hq, e1, e2⟩ := hn x hx
    rw [e1, e2]
    exact ⟨(h.gl q hq).1, (h.gl q hq).2, rfl⟩
  · simp only [toldA, List.map_map]
    have : (keysUp L.glass).map ((fun x : Held => x.pane) ∘ fun k => ⟨k, 0, (aget L.glass k).getD 0, ⟨0, false⟩⟩) = keysUp L.glass := by
      conv => rhs; rw [← List.map_id (keysUp L.glass)]
      rfl
    rw [this]
    exact (sortBy_perm ltInt _).nodup_iff.2 h.gk
  · simp only [toldA, List.getElem?_map, Option.map_eq_some_iff] at hi hj
    obtain ⟨k, hk, rfl⟩ := hi
    obtain ⟨k', hk', rfl⟩ := hj
    rw [hk] at hk'; cases hk'
    have hkm := List.mem_of_getElem? hk
    obtain ⟨h1, h2, h3, h4⟩ := h.wh _ (hw k hkm)
    refine ⟨by rw [hp k hkm]; exact h1, h2, h3, fun h5 => ⟨(h4 h5).1, (h4 h5).2, fun x hx e => ?_⟩⟩
    obtain ⟨q, hq, e1, _⟩ := hn x hx
    have h6 := h.apart q hq _ (hw k hkm)
    simp only [inPane, Bool.and_eq_false_iff, decide_eq_false_iff_not] at h6
    rcases h6 with h6 | h6
    · exact h6 h5
    · exact h6 (by rw [← e, e1])
  · simp only [toldA]
    rw [List.pairwise_map]
    refine List.Pairwise.imp_of_mem (fun {a b} ha hb hab => ?_) hup
    rw [hp a ha, hp b hb]; exact hab
  · simp only [toldA]
    rw [List.pairwise_map]
    refine List.Pairwise.imp_of_mem (fun {a b} ha hb hab => ?_) hup
    intro h1 h2 e
    have h3 := h.one ((aget L.wher a).getD zWhere).at_ _ (hw a ha) _ (hw b hb) (by simp [inPane, h1]) (by simp [inPane, h2, e])
    simp only at h3
    omega
theorem onePlace_set {l : List NoteA} (hl : SetA l) (year : Int) : OnePlaceA (foldedA l year) := onePlace_told (placed_led hl year) _

/-! later notes -/
structure Later (l later M : List NoteA) : Prop where
  sl : SetA l
  sM : SetA M
  mem : ∀ x, x ∈ M ↔ x ∈ l ∨ x ∈ later
  kind : ∀ x ∈ later, x.kind ≤ 8
  free : ∀ y ∈ l, ∀ x ∈ later, 8 < y.kind → y.ref ≠ x.name
  year : ∀ y ∈ l, ∀ x ∈ later, y.year ≤ x.year
  clock : ∀ y ∈ l, ∀ x ∈ later, y.clock < x.clock
section
variable {l later M : List NoteA}
theorem Later.plain (h : Later l later M) {x : NoteA} (hx : x ∈ later) : judgingI x.kind = false := by
  have := h.kind x hx
  simp only [judgingI, Bool.or_eq_false_iff, decide_eq_false_iff_not]; omega
theorem judging_lt {a : NoteA} (hj : judgingI a.kind = true) : 8 < a.kind := by
  simp only [judgingI, Bool.or_eq_true, decide_eq_true_eq] at hj; omega
theorem Later.not_mem (h : Later l later M) {x : NoteA} (hx : x ∈ later) : x ∉ l := fun hl => by
  have := h.clock x hl x hx; omega
theorem Later.filter (h : Later l later M) : M.filter (fun x => decide (x ∈ l)) = l := by
  refine up_unique (h.sM.up.filter _) h.sl.up fun a => ?_
  rw [List.mem_filter, h.mem]
  simp only [decide_eq_true_eq]
  constructor
  · exact fun h => h.2
  · exact fun h => ⟨.inl h, h⟩
theorem Later.judges (h : Later l later M) : judgesA M = judgesA l := by
  have hp : ∀ y ∈ l, judgingI y.kind = true → (aget (plainA M) y.ref).getD false = (aget (plainA l) y.ref).getD false := by
    intro y hy hj
    rw [plain_any h.sM.up, plain_any h.sl.up, Bool.eq_iff_iff]
    simp only [List.any_eq_true, Bool.and_eq_true, decide_eq_true_eq, Bool.not_eq_true']
    constructor
    · rintro ⟨x, hx, h1, h2⟩
      rcases (h.mem x).1 hx with hx | hx
      · exact ⟨x, hx, h1, h2⟩
      · exact absurd h1.symm (h.free y hy x hx (judging_lt hj))
    · rintro ⟨x, hx, h1, h2⟩
      exact ⟨x, (h.mem x).2 (.inl hx), h1, h2⟩
  have key : ∀ (rest : List NoteA) (st : List (Ref × NoteA) × List Ref), (∀ x ∈ rest, x ∈ M) → rest.foldl (judgeA (plainA M)) st = (rest.filter fun x => decide (x ∈ l)).foldl (judgeA (plainA l)) st := by
    intro rest
    induction rest with
    | nil => exact fun st _ => rfl
    | cons x rest ih =>
      intro st hx
      have ih' := fun st => ih st fun y hy => hx y (by simp [hy])
      by_cases e : x ∈ l
      · have h0 : judgeA (plainA M) st x = judgeA (plainA l) st x := by
          unfold judgeA
          by_cases hjx : judgingI x.kind = true
          · rw [if_pos hjx, if_pos hjx, hp x e hjx]
          · rw [if_neg hjx, if_neg hjx]
        rw [List.filter_cons_of_pos (by simpa using e), List.foldl_cons, List.foldl_cons, h0]
        exact ih' _
      · have hxl : x ∈ later := ((h.mem x).1 (hx x (by simp))).resolve_left e
        have h0 : judgeA (plainA M) st x = st := by unfold judgeA; rw [if_neg (by simp [h.plain hxl])]
        rw [List.filter_cons_of_neg (by simpa using e), List.foldl_cons, h0]
        exact ih' _
  unfold judgesA
  rw [key M ([], []) (fun _ h => h), h.filter]
theorem Later.counts (h : Later l later M) {x : NoteA} (hx : x ∈ later) : countsA (judgesA l).1 x = some x := by
  unfold countsA
  rw [if_neg (by simp [h.plain hx])]
  cases hg : aget (judgesA l).1 x.name with
  | none => rfl
  | some j =>
    obtain ⟨h1, h2, h3⟩ := judges_mem (mem_of_aget hg)
    exact absurd h3 (h.free j h1 x hx (judging_lt h2))
theorem counts_nm {J : List (Ref × NoteA)} {n x : NoteA} (h : countsA J n = some x) : x.name = n.name ∧ x.clock = n.clock := by
  unfold countsA at h
  split at h
  · cases h
  cases hg : aget J n.name with
  | none => rw [hg] at h; cases h; exact ⟨rfl, rfl⟩
  | some j =>
    rw [hg] at h
    simp only at h
    split at h
    · cases h
    · cases h; exact ⟨rfl, rfl⟩
theorem counts_year {l : List NoteA} {n x : NoteA} (hn : n ∈ l) (h : countsA (judgesA l).1 n = some x) : ∃ y ∈ l, x.year = y.year := by
  unfold countsA at h
  split at h
  · cases h
  cases hg : aget (judgesA l).1 n.name with
  | none => rw [hg] at h; cases h; exact ⟨_, hn, rfl⟩
  | some j =>
    rw [hg] at h
    simp only at h
    split at h
    · cases h
    · cases h; exact ⟨j, (judges_mem (mem_of_aget hg)).1, rfl⟩
theorem eff_mem {l : List NoteA} {x : NoteA} (h : x ∈ effA l) : ∃ n ∈ l, countsA (judgesA l).1 n = some x := List.mem_filterMap.1 ((sortBy_perm ltNote _).mem_iff.1 h)
theorem eff_level {l : List NoteA} (hl : SetA l) : ∀ a ∈ effA l, ∀ b ∈ effA l, ltNote a b = false → ltNote b a = false → a = b := by
  intro a ha b hb h1 h2
  obtain ⟨n, hn, hn2⟩ := eff_mem ha
  obtain ⟨m, hm, hm2⟩ := eff_mem hb
  have e : a.name = b.name := by
    simp only [ltNote, decide_eq_false_iff_not, whenI_lt] at h1 h2
    simp only [NoteA.name, Ref.mk.injEq]; omega
  have hnm : n = m := name_of_up hl.up hn hm (by rw [← (counts_nm hn2).1, ← (counts_nm hm2).1, e])
  subst hnm
  rw [hn2] at hm2
  exact Option.some.inj hm2
theorem Later.eff (h : Later l later M) : effA M = effA l ++ sortBy ltNote (M.filter fun x => !decide (x ∈ l)) := by
  have hrest : ∀ x ∈ M.filter (fun x => !decide (x ∈ l)), x ∈ later := fun x hx => by
    obtain ⟨h1, h2⟩ := List.mem_filter.1 hx
    exact ((h.mem x).1 h1).resolve_left (by simpa using h2)
  have hid : (M.filter fun x => !decide (x ∈ l)).filterMap (countsA (judgesA l).1) = M.filter fun x => !decide (x ∈ l) := by
    have : ∀ L : List NoteA, (∀ x ∈ L, x ∈ later) → L.filterMap (countsA (judgesA l).1) = L := by
      intro L
      induction L with
      | nil => exact fun _ => rfl
      | cons x L ih => intro hL; rw [List.filterMap_cons, h.counts (hL x (by simp)), ih fun y hy => hL y (by simp [hy])]
    exact this _ hrest
  have hperm : (effA M).Perm (effA l ++ sortBy ltNote (M.filter fun x => !decide (x ∈ l))) := by
    have h1 : (M.filter (fun x => decide (x ∈ l)) ++ M.filter (fun x => !decide (x ∈ l))).Perm M := List.filter_append_perm _ _
    have h2 := h1.filterMap (countsA (judgesA l).1)
    rw [List.filterMap_append, h.filter, hid] at h2
    unfold effA
    rw [h.judges]
    exact (sortBy_perm ltNote _).trans (h2.symm.trans ((sortBy_perm ltNote _).symm.append (sortBy_perm ltNote _).symm))
  refine up_eq (eff_level h.sM) hperm (sortBy_up ltNote_tr ltNote_as _) ?_
  refine List.pairwise_append.2 ⟨sortBy_up ltNote_tr ltNote_as _, sortBy_up ltNote_tr ltNote_as _, fun a ha b hb => ?_⟩
  have hb2 := hrest b ((sortBy_perm ltNote _).mem_iff.1 hb)
  obtain ⟨n, hn, hn2⟩ := eff_mem ha
  obtain ⟨y, hy, hy2⟩ := counts_year hn hn2
  have h1 := h.clock n hn b hb2
  have h2 := h.year y hy b hb2
  have h3 := (counts_nm hn2).2
  simp only [ltNote, decide_eq_false_iff_not, whenI_lt]
  omega
end
theorem registerA_keeps {L : LedA} {k : Int} {l : List PieceA} {b : Int} (h : ahas L.pieces k = true) : ahas (registerA L l b).pieces k = true := by
  show ahas (foldP L.pieces l) k = true
  rw [ahas_foldP, h]; rfl
theorem act_keeps {L : LedA} {n : NoteA} {k : Int} (h : ahas L.pieces k = true) : ahas (actA L n).1.pieces k = true := by
  unfold actA
  repeat' split
  · unfold findA; split
    · exact h
    · exact registerA_keeps h
  · unfold recordA; split <;> exact h
  · exact h
  · unfold sendA; split <;> exact h
  · unfold unpackA; split <;> exact h
  · unfold setA; split
    · exact h
    · split
      · exact h
      · split <;> exact h
  · unfold takeA; split <;> exact h
  · unfold splitA; split
    · exact h
    · exact registerA_keeps h
theorem steps_keep {year : Int} {k : Int} : ∀ {l : List NoteA} {L : LedA}, ahas L.pieces k = true → ahas (l.foldl (stepY year) L).pieces k = true
  | [], L, h => h
  | x :: l, L, h => by
    refine steps_keep (l := l) ?_
    unfold stepY; split
    · unfold enterA; split
      · exact act_keeps h
      · exact act_keeps h
    · exact h
theorem Later.stays {l later M : List NoteA} (h : Later l later M) (year : Int) : ∀ p ∈ (foldedA l year).pieces, ∃ w ∈ (foldedA M year).wher, w.piece = p.id := by
  intro p hp
  have hl := placed_led h.sl year
  have hM := placed_led h.sM year
  obtain ⟨k, hk, rfl⟩ := List.mem_map.1 hp
  have hk1 : ahas (ledOf l year).pieces k = true := keysUp_mem.1 hk
  have hk2 : ahas (ledOf M year).pieces k = true := by
    unfold ledOf at hk1 ⊢
    rw [h.eff, List.foldl_append]
    exact steps_keep hk1
  have e : ((aget (ledOf l year).pieces k).getD zPiece.abs).id = k := by
    rw [← aget_isSome] at hk1
    obtain ⟨v, hv⟩ := Option.isSome_iff_exists.1 hk1
    rw [hv]; exact hl.ids _ (mem_of_aget hv)
  refine ⟨(aget (ledOf M year).wher k).getD zWhere, List.mem_map.2 ⟨k, keysUp_mem.2 hk2, rfl⟩, ?_⟩
  have h3 := hk2
  rw [← hM.same, ← aget_isSome] at h3
  obtain ⟨v, hv⟩ := Option.isSome_iff_exists.1 h3
  rw [hv]
  show v.piece = ((aget (ledOf l year).pieces k).getD zPiece.abs).id
  rw [e]
  exact (hM.wh _ (mem_of_aget hv)).1
end Go.Proofs.YtendmmhfjhgdaaaGreat
