/-
  The register as of a year has each piece where its last stay by this year has it. No program in sight.
  What enter leaves alone: blocks of other types; enter, for all kinds, with this clause.
  AsOf: walked (slices.DeleteFunc over notes, at its closure).
  Stays: walked.
  The law BenchesClocks, walked.
-/
import Derived.Test.YtendmmhfjhgdaaaGreatOneP
import Derived.Test.YtendmmhfjhgdaaaGreatEnter8
import Derived.Test.YtendmmhfjhgdaaaGreatCuts
import Derived.Test.YtendmmhfjhgdaaaGreatAwake
import Derived.Lib.SliceRun
import Derived.Test.YtendmmhfjhgdaaaGreatRefReg
import Derived.Test.YtendmmhfjhgdaaaGreatReads
section
set_option linter.unusedVariables false
set_option linter.unusedSimpArgs false
namespace Go.Proofs.YtendmmhfjhgdaaaGreat

/-- one note more: the ledger, and the stays of a piece so far -/
def stayStep (piece : Int) (st : LedA × List Stay) (n : NoteA) : LedA × List Stay :=
  (enterA st.1 n, match aget (enterA st.1 n).wher piece with
    | none => st.2
    | some now => if aget st.1.wher piece = some now then st.2 else st.2 ++ [⟨n.year, n.name, now⟩])
def stayRun (piece : Int) (l : List NoteA) : LedA × List Stay := l.foldl (stayStep piece) (led0, [])
def staysA (l : List NoteA) (piece : Int) : List Stay := (stayRun piece (effA l)).2
theorem enterA_wher (L : LedA) (n : NoteA) : (enterA L n).wher = (actA L n).1.wher ∧ (enterA L n).pieces = (actA L n).1.pieces := by
  unfold enterA; split <;> exact ⟨rfl, rfl⟩
/-- what is known of the ledger and the stays -/
structure StInv (piece : Int) (seen : List NoteA) (st : LedA × List Stay) : Prop where
  pl : Placed st.1
  last : (st.2 = [] ∧ aget st.1.wher piece = none) ∨ ∃ r x, st.2 = r ++ [x] ∧ aget st.1.wher piece = some x.where_
  years : ∀ x ∈ st.2, ∃ n ∈ seen, x.year = n.year
theorem stInv_nil (piece : Int) : StInv piece [] (led0, []) := ⟨placed_led0, .inl ⟨rfl, rfl⟩, by simp⟩
theorem StInv.step {piece : Int} {seen : List NoteA} {st : LedA × List Stay} {n : NoteA} (h : StInv piece seen st) (hn : (1 ≤ n.kind ∧ n.kind ≤ 8) ∧ PaneOk n) : StInv piece (seen ++ [n]) (stayStep piece st n) := by
  have hpl : Placed (enterA st.1 n) := by
    have h1 := placed_step (year := n.year) hn.1 hn.2 h.pl
    unfold stepY at h1
    rw [if_pos (Int.le_refl _)] at h1
    exact h1
  have hy : ∀ x ∈ st.2, ∃ m ∈ seen ++ [n], x.year = m.year := fun x hx => by
    obtain ⟨m, hm, e⟩ := h.years x hx
    exact ⟨m, by simp [hm], e⟩
  unfold stayStep
  cases hg : aget (enterA st.1 n).wher piece with
  | none =>
    refine ⟨hpl, ?_, hy⟩
    rcases h.last with ⟨h1, h2⟩ | ⟨r, x, h1, h2⟩
    · exact .inl ⟨h1, hg⟩
    · exfalso
      have h3 : ahas st.1.pieces piece = true := by rw [← h.pl.same, ← aget_isSome, h2]; rfl
      have h4 : ahas (enterA st.1 n).pieces piece = true := by rw [(enterA_wher _ _).2]; exact act_keeps h3
      rw [← hpl.same, ← aget_isSome, hg] at h4
      cases h4
  | some now =>
    simp only
    split
    · rename_i he
      refine ⟨hpl, ?_, hy⟩
      rcases h.last with ⟨h1, h2⟩ | ⟨r, x, h1, h2⟩
      · rw [h2] at he; cases he
      · rw [h2] at he
        exact .inr ⟨r, x, h1, by rw [hg, ← he]⟩
    · refine ⟨hpl, .inr ⟨st.2, ⟨n.year, n.name, now⟩, rfl, hg⟩, fun x hx => ?_⟩
      rcases List.mem_append.1 hx with hx | hx
      · exact hy x hx
      · rw [List.mem_singleton.1 hx]; exact ⟨n, by simp, rfl⟩
theorem stInv_run (piece : Int) : ∀ (r seen : List NoteA) (st : LedA × List Stay), (∀ n ∈ r, (1 ≤ n.kind ∧ n.kind ≤ 8) ∧ PaneOk n) → StInv piece seen st → StInv piece (seen ++ r) (r.foldl (stayStep piece) st)
  | [], seen, st, _, h => by simpa using h
  | n :: r, seen, st, hr, h => by
    have := stInv_run piece r (seen ++ [n]) _ (fun m hm => hr m (by simp [hm])) (h.step (hr n (by simp)))
    simpa using this
theorem stayRun_led (piece : Int) : ∀ (r : List NoteA) (st : LedA × List Stay), (r.foldl (stayStep piece) st).1 = r.foldl enterA st.1
  | [], st => rfl
  | n :: r, st => by rw [List.foldl_cons, List.foldl_cons, stayRun_led piece r]; rfl
/-- stays only come behind stays -/
theorem stays_more (piece : Int) : ∀ (r seen : List NoteA) (st : LedA × List Stay), (∀ x ∈ st.2, ∃ n ∈ seen, x.year = n.year) → ∃ more, (r.foldl (stayStep piece) st).2 = st.2 ++ more ∧ ∀ x ∈ more, ∃ n ∈ r, x.year = n.year
  | [], seen, st, _ => ⟨[], by simp, by simp⟩
  | n :: r, seen, st, h => by
    have h1 : ∃ m1, (stayStep piece st n).2 = st.2 ++ m1 ∧ ∀ x ∈ m1, x.year = n.year := by
      unfold stayStep
      simp only
      cases aget (enterA st.1 n).wher piece with
      | none => exact ⟨[], by simp, by simp⟩
      | some now =>
        simp only
        split
        · exact ⟨[], by simp, by simp⟩
        · exact ⟨[⟨n.year, n.name, now⟩], rfl, by simp⟩
    obtain ⟨m1, e1, y1⟩ := h1
    obtain ⟨m2, e2, y2⟩ := stays_more piece r (seen ++ [n]) (stayStep piece st n) (fun x hx => by
      rw [e1] at hx
      rcases List.mem_append.1 hx with hx | hx
      · obtain ⟨m, hm, e⟩ := h x hx; exact ⟨m, by simp [hm], e⟩
      · exact ⟨n, by simp, y1 x hx⟩)
    refine ⟨m1 ++ m2, by rw [List.foldl_cons, e2, e1, List.append_assoc], fun x hx => ?_⟩
    rcases List.mem_append.1 hx with hx | hx
    · exact ⟨n, by simp, y1 x hx⟩
    · obtain ⟨m, hm, e⟩ := y2 x hx; exact ⟨m, by simp [hm], e⟩
/-- a sorted list: those up to a year stand ahead -/
theorem eff_split (l : List NoteA) (year : Int) : ∃ pre post, effA l = pre ++ post ∧ (∀ x ∈ pre, x.year ≤ year) ∧ (∀ x ∈ post, year < x.year) := by
  have hup : Up ltNote (effA l) := sortBy_up ltNote_tr ltNote_as _
  generalize effA l = L at hup
  induction L with
  | nil => exact ⟨[], [], rfl, by simp, by simp⟩
  | cons x L ih =>
    obtain ⟨h1, h2⟩ := List.pairwise_cons.1 hup
    by_cases hx : x.year ≤ year
    · obtain ⟨pre, post, e, p1, p2⟩ := ih h2
      exact ⟨x :: pre, post, by rw [e]; rfl, fun y hy => by rcases List.mem_cons.1 hy with rfl | hy; exact hx; exact p1 y hy, p2⟩
    · refine ⟨[], x :: L, rfl, by simp, fun y hy => ?_⟩
      rcases List.mem_cons.1 hy with rfl | hy
      · omega
      · have h3 := h1 y hy
        simp only [ltNote, decide_eq_false_iff_not, whenI_lt] at h3
        omega
theorem steps_all {year : Int} : ∀ {l : List NoteA} {L : LedA}, (∀ x ∈ l, x.year ≤ year) → l.foldl (stepY year) L = l.foldl enterA L
  | [], _, _ => rfl
  | x :: l, L, h => by
    rw [List.foldl_cons, List.foldl_cons, steps_all fun y hy => h y (by simp [hy])]
    congr 1
    unfold stepY
    rw [if_pos (h x (by simp))]
theorem steps_none {year : Int} : ∀ {l : List NoteA} {L : LedA}, (∀ x ∈ l, year < x.year) → l.foldl (stepY year) L = L
  | [], _, _ => rfl
  | x :: l, L, h => by
    rw [List.foldl_cons]
    have : stepY year L x = L := by unfold stepY; rw [if_neg (by have := h x (by simp); omega)]
    rw [this]; exact steps_none fun y hy => h y (by simp [hy])
/-- The stays of a piece, cut at a year: where the register as of the year has the piece. -/
theorem stays_by {l : List NoteA} (hl : SetA l) (piece year : Int) : ∃ a b, staysA l piece = a ++ b ∧ (∀ x ∈ a, x.year ≤ year) ∧ (∀ x ∈ b, year < x.year) ∧
    ((a = [] ∧ aget (ledOf l year).wher piece = none) ∨ ∃ r x, a = r ++ [x] ∧ aget (ledOf l year).wher piece = some x.where_) := by
  obtain ⟨pre, post, e, h1, h2⟩ := eff_split l year
  have hok := eff_ok hl.well
  have hpre : ∀ n ∈ pre, (1 ≤ n.kind ∧ n.kind ≤ 8) ∧ PaneOk n := fun n hn => hok n (by rw [e]; simp [hn])
  have hi := stInv_run piece pre [] _ hpre (stInv_nil piece)
  rw [List.nil_append] at hi
  obtain ⟨b, hb, hby⟩ := stays_more piece post pre (stayRun piece pre) hi.years
  have hled : ledOf l year = (stayRun piece pre).1 := by
    have e1 : ledOf l year = (effA l).foldl (stepY year) led0 := rfl
    unfold stayRun
    rw [e1, e, List.foldl_append, steps_all h1, steps_none h2, stayRun_led]
  refine ⟨(stayRun piece pre).2, b, ?_, fun x hx => ?_, fun x hx => ?_, ?_⟩
  · unfold staysA
    rw [← hb, e]
    unfold stayRun
    rw [List.foldl_append]
  · obtain ⟨n, hn, e1⟩ := hi.years x hx
    rw [e1]; exact h1 n hn
  · obtain ⟨n, hn, e1⟩ := hby x hx
    rw [e1]; exact h2 n hn
  · rw [hled]; exact hi.last
theorem eff_years {l : List NoteA} (hl : SetA l) : ∀ x ∈ effA l, x.year ≤ 9999 := by
  intro x hx
  obtain ⟨n, hn, hn2⟩ := eff_mem hx
  obtain ⟨y, hy, e⟩ := counts_year hn hn2
  have h := hl.well y hy
  unfold wellA wellB at h
  simp only [Bool.and_eq_true, inB, decide_eq_true_eq] at h
  have h2 : y.raw.year = y.year := rfl
  have h3 := h.1.1.2.2
  rw [e]; omega
/-- A piece that the whole register knows has stays. -/
theorem stays_known {l : List NoteA} (hl : SetA l) {p : PieceA} (hp : p ∈ (foldedA l 9999).pieces) : staysA l p.id ≠ [] := by
  obtain ⟨k, hk, rfl⟩ := List.mem_map.1 hp
  have hpl := placed_led hl 9999
  have hk1 : ahas (ledOf l 9999).pieces k = true := keysUp_mem.1 hk
  have e : ((aget (ledOf l 9999).pieces k).getD zPiece.abs).id = k := by
    have hk2 := hk1
    rw [← aget_isSome] at hk2
    obtain ⟨v, hv⟩ := Option.isSome_iff_exists.1 hk2
    rw [hv]; exact hpl.ids _ (mem_of_aget hv)
  show staysA l ((aget (ledOf l 9999).pieces k).getD zPiece.abs).id ≠ []
  rw [e]
  obtain ⟨a, b, h1, h2, h3, h4⟩ := stays_by hl k 9999
  rcases h4 with ⟨_, h4⟩ | ⟨r, x, h4, _⟩
  · rw [← hpl.same, ← aget_isSome, h4] at hk1; cases hk1
  · rw [h1, h4]; simp
/-- where the register as of a year has a piece -/
theorem told_where {L : LedA} (h : Placed L) (c : List Ref) (piece : Int) : (toldA { L with conflicts := c }).wher.find? (fun x => decide (x.piece = piece)) = aget L.wher piece := by
  have hw : ∀ k ∈ keysUp L.pieces, (k, (aget L.wher k).getD zWhere) ∈ L.wher := fun k hk => by
    have h1 := keysUp_mem.1 hk
    rw [← h.same, ← aget_isSome] at h1
    obtain ⟨v, hv⟩ := Option.isSome_iff_exists.1 h1
    rw [hv]; exact mem_of_aget hv
  cases hg : aget L.wher piece with
  | none =>
    rw [List.find?_eq_none]
    intro x hx
    obtain ⟨k, hk, rfl⟩ := List.mem_map.1 hx
    have h1 := (h.wh _ (hw k hk)).1
    simp only at h1
    simp only [decide_eq_true_eq]
    intro e
    have h2 : k = piece := by rw [← h1]; exact e
    have h3 := keysUp_mem.1 hk
    rw [← h.same, h2, ← aget_isSome, hg] at h3
    cases h3
  | some v =>
    have hk : piece ∈ keysUp L.pieces := keysUp_mem.2 (by rw [← h.same, ← aget_isSome, hg]; rfl)
    have key : ∀ ks : List Int, (∀ k ∈ ks, k ∈ keysUp L.pieces) → piece ∈ ks → (ks.map fun k => (aget L.wher k).getD zWhere).find? (fun x => decide (x.piece = piece)) = some v := by
      intro ks
      induction ks with
      | nil => intro _ h; simp at h
      | cons k ks ih =>
        intro hks hm
        have h1 := (h.wh _ (hw k (hks k (by simp)))).1
        simp only at h1
        rw [List.map_cons, List.find?_cons]
        by_cases e : k = piece
        · subst e
          have : ((aget L.wher k).getD zWhere).piece = k := h1
          rw [hg] at this ⊢
          simp only [Option.getD_some] at this ⊢
          simp [this]
        · have h2 : ¬ ((aget L.wher k).getD zWhere).piece = piece := by rw [h1]; exact e
          simp only [h2, decide_false]
          exact ih (fun y hy => hks y (by simp [hy])) ((List.mem_cons.1 hm).resolve_left (fun x => e x.symm))
    exact key _ (fun _ h => h) hk
end Go.Proofs.YtendmmhfjhgdaaaGreat
end
section
set_option linter.unusedVariables false
set_option linter.unusedSimpArgs false
namespace Go.Proofs.YtendmmhfjhgdaaaGreat
open Go.RowKit

/-- a block that is no row of releadings, nor of names -/
def Foreign (o : Obj) : Prop := ∀ cur, o ≠ .cells cur 117 (0, 0) ∧ o ≠ .cells cur 31 (0, 0)
theorem foreign_note {cs : Array Value} : Foreign (.cells cs 40 (0, 0)) := fun cur => ⟨fun h => by injection h with _ h2 _; exact absurd h2 (by decide), fun h => by injection h with _ h2 _; exact absurd h2 (by decide)⟩
def Keeps (b : Nat) (w w' : World) : Prop := ∀ (k : Nat) (o : Obj), k < w.heap.size → w.heap[k]? = some o → Foreign o → ¬ (b ≤ k ∧ k ≤ b + 6) → w'.heap[k]? = some o
theorem Keeps.trans {b : Nat} {w w1 w2 : World} (h : Keeps b w w1) (k : Keeps b w1 w2) : Keeps b w w2 := fun i o hi ho hf hn => by
  have h1 := h i o hi ho hf hn
  exact k i o (Array.getElem?_eq_some_iff.1 h1).1 h1 hf hn
theorem Keeps.of_below {b : Nat} {w w' : World} (h : Below w.heap.size w w') : Keeps b w w' := fun k o hk ho _ _ => (h.block k hk).trans ho
theorem Keeps.of_chg {b : Nat} {w w' : World} (h : Chg b w.heap.size w w') : Keeps b w w' := fun k o hk ho _ hn => (h.block k hk (fun hd => by unfold LD at hd; omega)).trans ho
theorem Keeps.of_app {α : Type} {enc : α → Array Value} {sz b base : Nat} {w w1 w2 : World} {e : TypeId} {v : Value} {l : List α} (ho : OwnL enc sz w base e v l) (hg : w.grownBy w1 v.ownBlock) (hT : Turn (b + 6) w1 w2) (he : e = 117 ∨ e = 31) : Keeps b w w2 := fun k o hk hob hf hn => by
  have hne : v.ownBlock ≠ some k := ho.ne hob (fun cur => by
    rcases he with rfl | rfl
    · exact (hf cur).1
    · exact (hf cur).2)
  rw [hT.block k (by omega), hg.block k hk (Ne.symm hne)]
  exact hob
/-- what a method does, and that it leaves other blocks alone -/
def DoesK (f : FuncId) (act : LedA → NoteA → LedA × Bool) (I : LedA → NoteA → Prop) : Prop :=
  ∀ (b N : Nat) (L : Led) (n : Note) (w : World), LedAt b N w L → okNote (LD b N) w n → I L.abs n.abs →
    Calls Tryz.prog f #[.pointer (some ⟨b + 6, 0, none⟩), .agg (encNote n)] w fun e w' => ∃ L', e = .returned (.bool (act L.abs n.abs).2) ∧ L'.abs = (act L.abs n.abs).1 ∧ LedAt b N w' L' ∧ Chg b N w w' ∧ Keeps b w w'
theorem DoesS.doesK {f : FuncId} {act : LedA → NoteA → LedA × Bool} {I : LedA → NoteA → Prop} (h : DoesS f act I) : DoesK f act I := by
  intro b N L n w hL hn hI
  refine (h b N L n w hL hn hI).mono ?_
  rintro e w' ⟨L', e1, e2, h1, h2⟩
  exact ⟨L', e1, e2, h1, h2.weak hL.le, Keeps.of_chg h2⟩
set_option maxRecDepth 20000 in
set_option maxHeartbeats 4000000 in
theorem enter_k {f : FuncId} {act : LedA → NoteA → LedA × Bool} {I : LedA → NoteA → Prop} (hd : DoesK f act I) (heg : ∀ args w, (callFunc f args).run Tryz.prog w = .ok (.enter f args) w) (b N : Nat) (L : Led) (n : Note) (w : World) (h : LedAt b N w L) (hn : okNote (LD b N) w n) (hI : I L.abs n.abs) (hk : (aget (fnMap b) n.kind).getD .nilFunc = fnV b f) (hlen : (act L.abs n.abs).1.conflicts.length ≤ 1000000) :
    Calls Tryz.prog 49 #[.pointer (some ⟨b + 6, 0, none⟩), .agg (encNote n)] w fun e w' => e = .returned (.tuple #[]) ∧ ∃ L', L'.abs = stepA act L.abs n.abs ∧ LedAt b N w' L' ∧ Chg b N w w' ∧ Keeps b w w' := by
  have hB2 : Below w.heap.size w ((w.alloc (.cells (encNote n) 40)).alloc (.map #[] 0)) := ((Below.refl _ _).alloc (Nat.le_refl _) _).alloc (by simp) _
  have hbx : BoxAt ((w.alloc (.cells (encNote n) 40)).alloc (.map #[] 0)) w.heap.size 40 (encNote n) := (BoxAt.new _ _ _).alloc _
  have hm : MapAt vi idV I64 ((w.alloc (.cells (encNote n) 40)).alloc (.map #[] 0)) (w.heap.size + 1) [] := by have h := MapAt.made vi idV I64 (w.alloc (.cells (encNote n) 40)); rw [World.size_alloc] at h; exact h
  have hT : Turn (w.heap.size + 1) ((w.alloc (.cells (encNote n) 40)).alloc (.map #[] 0)) ((w.alloc (.cells (encNote n) 40)).alloc (.map #[] 0)) := Turn.refl _ _
  have HL := Lib.hid h
  have HN := Lib.hid hn
  have HI := Lib.hid hI
  have HLEN := Lib.hid hlen
  have HNM := Lib.hid (okNote_name hn)
  have HK : Hid (I64 n.kind) := Lib.hid hn.2.2.2.2.1
  have HLK := Lib.hid hk
  obtain ⟨ab, hab⟩ : ∃ ab, act L.abs n.abs = ab := ⟨_, rfl⟩
  have HAB := Lib.hid hab
  clear h hn hI hk hlen hab
  obtain ⟨A, r⟩ := ab
  have hmm := @run_makeMap Tryz.prog
  cases r
  · go_enter Tryz.func49, Tryz.ntmps49
    go_wp2_with (first
      | (with_reducible refine at_insert ?_; refine wpList_insert_map rfl _ _ _ 143 rfl intKey Tryz.underlying143 rfl hm _ (by unfold I64; decide) rfl _ rfl ?_; intro wk hm hT2; have hT := hT.trans hT2; clear hT2; have hbx8 := hbx.turn hT (by omega); have hck : wk.cell? ⟨w.heap.size, 4, none⟩ = some (vi n.kind) := (hbx8.cell 4).trans rfl)
      | ((with_reducible refine at_dst 25 ?_); have hmF : MapAt vi idV I64 _ _ (fnMap b) := hm; refine wpList_look rfl _ _ 143 rfl intKey Tryz.underlying143 Value.nilFunc (zeroFn _) rfl hmF n.kind HK.out rfl ?_; rw [HLK.out]; unfold idV fnV)
      | (with_reducible refine at_dst 27 ?_; refine wpList_loadB hbx8 rfl 40 _ rfl rfl (encNote n) (whole_cells _) Tryz.underlying40 rfl (by kernel_rfl) ?_)
      | ((with_reducible refine at_calls f ?_); have hB8 := hB2.trans (hT.below (Nat.le_succ _)); refine (hd b N L n _ (HL.out.below hB8) (okNote.ext HN.out (.of_below hB8)) HI.out).mono ?_; rintro e wm ⟨L', rfl, e2, hL', hC', hkeep⟩; rw [HAB.out] at e2 ⊢))
    have hbxm := BoxAt.drew (hkeep w.heap.size _ hbx8.lt hbx8 foreign_note (by have := HL.out.lt7; omega))
    have HKP := Lib.hid hkeep
    have hLd := hL'.drew
    obtain ⟨vr, vc, hb6, hor, hoc, hne⟩ := hLd.box
    have hlenC : L'.conflicts.length ≤ 1000000 := by
      have h1 := HLEN.out
      rw [HAB.out] at h1
      have h2 : L'.abs.conflicts = A.conflicts := by rw [e2]
      show L'.abs.conflicts.length ≤ _
      rw [h2]; exact h1
    clear hL' hkeep
    go_wp2
    refine wp_region_mark 8 [(0, none), (1, none), (2, none), (3, none), (4, some true), (5, some false), (6, some false), (7, some false), (8, some false), (9, none), (10, none), (11, some false)] rfl (by kernel_rfl) (by kernel_rfl) (fun d _ _ _ _ h => by cases d <;> exact h) ?_
    iterate 4 (refine wpC_pure rfl rfl (fun W => by go_simp; with_reducible rfl) ?_; simp only [pTs, pTn, pTz, pTc])
    refine wpC_fix (v := vc) rfl rfl (fun W hW => by have e : W.cell? ⟨b + 6, 5, none⟩ = some vc := ((hb6.belowAll hW).cell 5).trans rfl; go_simp) ?_; simp only [pTs, pTn, pTz, pTc]
    refine wpC_act rfl rfl rfl (fun K hK => ?_)
    refine wp_load_at 40 _ rfl w.heap.size 0 rfl (encNote n) _ hbxm.cells Tryz.underlying40 rfl (by kernel_rfl) ?_
    refine hK _ _ (Below.refl _ _) ?_
    clear hK K
    try simp only [pTs, pTn, pTz, pTc]
    refine wpC_act rfl rfl rfl (fun K hK => ?_)
    go_simp
    refine (refOf_any n _).mono ?_
    rintro e w2 ⟨rfl, hb2⟩
    refine hK _ _ hb2 ?_
    clear hK K
    try simp only [pTs, pTn, pTz, pTc]
    refine wpC_act rfl rfl rfl (fun K hK => ?_)
    go_simp
    refine hK _ _ ((Below.refl _ _).alloc (Nat.le_refl _) _) ?_
    clear hK K
    try simp only [pTs, pTn, pTz, pTc]
    refine wpC_mark rfl rfl (fun K hK => ?_)
    refine wp_append_oneAt _ _ 56 rfl N einfo_Ref (fun _ => rfl) (by decide) encRef_one (by decide) vc L'.conflicts rfl ((hoc.belowAll hb2).belowAll ((Below.refl _ _).alloc (Nat.le_refl _) _)) w2.heap.size 0 1 (refN n) rfl (cells_of_eq (buildRef (refN n))) (by omega) (Nat.le_trans hLd.le (Nat.le_trans hb2.size (by simp))) ?_
    intro v3 w3 ho3 hg3 hat3
    have hal := Below.trans hb2 (((Below.refl w2.heap.size w2).alloc (Nat.le_refl _) (.cells (encRef (refN n)) 31)).mono hb2.size)
    have hg3 : (w2.alloc (.cells (encRef (refN n)) 31)).grownBy w3 vc.ownBlock := hg3
    have hb63 : BoxAt w3 (b + 6) 101 #[.map (some b), .map (some (b + 1)), .map (some (b + 2)), .map (some (b + 3)), vr, vc, .map (some (b + 4)), .map (some (b + 5))] := (hb6.belowAll hal).of_block (hg3.block _ (hb6.belowAll hal).lt (fun e => by have := (hoc.block _ e.symm).1; have := hLd.lt; omega))
    obtain ⟨a3, n3, c3, rfl⟩ := ho3.slice
    refine hK _ _ ?_
    clear hK K
    try simp only [pTs, pTn, pTz, pTc]
    iterate 2 (refine wpC_pure rfl rfl (fun W => by go_simp; with_reducible rfl) ?_; simp only [pTs, pTn, pTz, pTc])
    refine wpC_past rfl rfl (fun K hK => ?_)
    refine wp_store_box hb63 _ _ _ rfl rfl (.slice a3 n3 c3) rfl (by kernel_rfl) rfl (one_sl _ _ _) ?_
    intro w4 hb64 hT4
    have hb65 := hb64.eqv (cs' := #[.map (some b), .map (some (b + 1)), .map (some (b + 2)), .map (some (b + 3)), vr, .slice a3 n3 c3, .map (some (b + 4)), .map (some (b + 5))]) (by simp [splice, Value.cells])
    obtain ⟨hL5, hC5⟩ := (hLd.below hal).conf (hb6.belowAll hal) (hor.belowAll hal) (hoc.belowAll hal) hne ho3 hg3 hat3 (fun q hq => by rcases List.mem_append.1 hq with hq | hq; exact hLd.okC q hq; rw [List.mem_singleton.1 hq]; exact HNM.out) hb65 hT4
    refine hK _ _ ?_
    clear hK K
    try simp only [pTs, pTn, pTz, pTc]
    simp only [wpC]
    go_wp2
    go_end0
    refine ⟨rfl, _, ?_, hL5, (Chg.of_below hB8).trans (hC'.trans ((Chg.of_below ((Below.refl _ _).drew)).trans ((Chg.of_below hal).trans hC5))), (Keeps.of_below hB8).trans (HKP.out.trans ((Keeps.of_below ((Below.refl _ _).drew)).trans ((Keeps.of_below hal).trans (Keeps.of_app (hoc.belowAll hal) hg3 hT4 (.inr rfl)))))⟩
    unfold stepA; rw [HAB.out]; simp only [Led.abs] at e2 ⊢; rw [← e2]; rfl
  · go_enter Tryz.func49, Tryz.ntmps49
    go_wp2_with (first
      | (with_reducible refine at_insert ?_; refine wpList_insert_map rfl _ _ _ 143 rfl intKey Tryz.underlying143 rfl hm _ (by unfold I64; decide) rfl _ rfl ?_; intro wk hm hT2; have hT := hT.trans hT2; clear hT2; have hbx8 := hbx.turn hT (by omega); have hck : wk.cell? ⟨w.heap.size, 4, none⟩ = some (vi n.kind) := (hbx8.cell 4).trans rfl)
      | ((with_reducible refine at_dst 25 ?_); have hmF : MapAt vi idV I64 _ _ (fnMap b) := hm; refine wpList_look rfl _ _ 143 rfl intKey Tryz.underlying143 Value.nilFunc (zeroFn _) rfl hmF n.kind HK.out rfl ?_; rw [HLK.out]; unfold idV fnV)
      | (with_reducible refine at_dst 27 ?_; refine wpList_loadB hbx8 rfl 40 _ rfl rfl (encNote n) (whole_cells _) Tryz.underlying40 rfl (by kernel_rfl) ?_)
      | ((with_reducible refine at_calls f ?_); have hB8 := hB2.trans (hT.below (Nat.le_succ _)); refine (hd b N L n _ (HL.out.below hB8) (okNote.ext HN.out (.of_below hB8)) HI.out).mono ?_; rintro e wm ⟨L', rfl, e2, hL', hC', hkeep⟩; rw [HAB.out] at e2 ⊢))
    go_end0
    exact ⟨rfl, L', by unfold stepA; rw [HAB.out]; exact e2, hL', (Chg.of_below hB8).trans hC', (Keeps.of_below hB8).trans hkeep⟩

set_option maxRecDepth 20000 in
set_option maxHeartbeats 4000000 in
theorem relead_k : DoesK 87 releadA fun A _ => A.releads.length ≤ 1000000 := by
  intro b N L n w h hn hI
  have hB0 : Below w.heap.size w (w.alloc (.cells (encNote n) 40)) := (Below.refl _ _).alloc (Nat.le_refl _) _
  have hbd : BoxAt (w.alloc (.cells (encNote n) 40)).drew w.heap.size 40 (encNote n) := (BoxAt.new _ _ _).drew
  have hLd : LedAt b N (w.alloc (.cells (encNote n) 40)).drew L := h.below hB0.drew
  have hlen : L.releads.length ≤ 1000000 := by simpa [Led.abs] using hI
  obtain ⟨vr, vc, hb6, hor, hoc, hne⟩ := hLd.box
  have HOR : Hid (okRelead (LD b N) w ⟨n.year, n.panes⟩) := Lib.hid (by have := hn; simp only [okNote] at this; exact ⟨this.2.2.2.1, okNote_panes hn⟩)
  have e1 := releadL_abs L n
  have E1 : Hid ((releadA L.abs n.abs).2 = true) := Lib.hid (by rw [← e1])
  have E2 : Hid ((releadL L n).abs = (releadA L.abs n.abs).1) := Lib.hid (by rw [← e1])
  clear hn hI e1 h
  go_enter Tryz.func87, Tryz.ntmps87
  go_wp2
  refine wp_region_mark 11 [(0, none), (1, none), (2, none), (3, none), (5, none), (7, none), (4, some true), (6, some true), (8, some true), (9, none), (10, some false), (11, some false), (12, none), (13, none), (14, some false)] rfl (by kernel_rfl) (by kernel_rfl) (fun d _ _ _ _ h => by cases d <;> exact h) ?_
  iterate 6 (refine wpC_pure rfl rfl (fun W => by go_simp; with_reducible rfl) ?_; simp only [pTs, pTn, pTz, pTc])
  refine wpC_fix (v := vr) rfl rfl (fun W hW => by have e : W.cell? ⟨b + 6, 4, none⟩ = some vr := ((hb6.belowAll hW).cell 4).trans rfl; go_simp) ?_; simp only [pTs, pTn, pTz, pTc]
  refine wpC_fix (v := vi n.year) rfl rfl (fun W hW => by have e : W.cell? ⟨w.heap.size, 3, none⟩ = some (vi n.year) := ((hbd.belowAll hW).cell 3).trans rfl; go_simp) ?_; simp only [pTs, pTn, pTz, pTc]
  refine wpC_fix (v := n.panes.v) rfl rfl (fun W hW => by have e : W.cell? ⟨w.heap.size, 15, none⟩ = some n.panes.v := ((hbd.belowAll hW).cell 15).trans rfl; go_simp) ?_; simp only [pTs, pTn, pTz, pTc]
  refine wpC_pure rfl rfl (fun W => by go_simp; with_reducible rfl) ?_; simp only [pTs, pTn, pTz, pTc]
  refine wpC_act rfl rfl rfl (fun K hK => ?_)
  go_simp
  refine hK _ _ ((Below.refl _ _).alloc (Nat.le_refl _) _) ?_
  clear hK K
  try simp only [pTs, pTn, pTz, pTc]
  refine wpC_mark rfl rfl (fun K hK => ?_)
  refine wp_append_oneAt _ _ 55 rfl N einfo_Relead (fun _ => rfl) (by decide) encRelead_one (by decide) vr L.releads rfl (hor.belowAll ((Below.refl _ _).alloc (Nat.le_refl _) _)) (w.heap.size + 1) 0 1 ⟨n.year, n.panes⟩ rfl (cells_of_eqN (by simp) (buildRelead8 n.year n.panes)) (by omega) (Nat.le_trans hLd.le (by simp)) ?_
  intro v3 w3 ho3 hg3 hat3
  have hal : Below (w.alloc (.cells (encNote n) 40)).drew.heap.size (w.alloc (.cells (encNote n) 40)).drew ((w.alloc (.cells (encNote n) 40)).drew.alloc (.cells (encRelead ⟨n.year, n.panes⟩) 117)) := (Below.refl _ _).alloc (Nat.le_refl _) _
  have hg3 : ((w.alloc (.cells (encNote n) 40)).drew.alloc (.cells (encRelead ⟨n.year, n.panes⟩) 117)).grownBy w3 vr.ownBlock := hg3
  have hb63 : BoxAt w3 (b + 6) 101 #[.map (some b), .map (some (b + 1)), .map (some (b + 2)), .map (some (b + 3)), vr, vc, .map (some (b + 4)), .map (some (b + 5))] := (hb6.belowAll hal).of_block (hg3.block _ (hb6.belowAll hal).lt (fun e => by have := (hor.block _ e.symm).1; have := hLd.lt; omega))
  obtain ⟨a3, n3, c3, rfl⟩ := ho3.slice
  refine hK _ _ ?_
  clear hK K
  try simp only [pTs, pTn, pTz, pTc]
  iterate 2 (refine wpC_pure rfl rfl (fun W => by go_simp; with_reducible rfl) ?_; simp only [pTs, pTn, pTz, pTc])
  refine wpC_past rfl rfl (fun K hK => ?_)
  refine wp_store_box hb63 _ _ _ rfl rfl (.slice a3 n3 c3) rfl (by kernel_rfl) rfl (one_sl _ _ _) ?_
  intro w4 hb64 hT4
  have hb65 := hb64.eqv (cs' := #[.map (some b), .map (some (b + 1)), .map (some (b + 2)), .map (some (b + 3)), .slice a3 n3 c3, vc, .map (some (b + 4)), .map (some (b + 5))]) (by simp [splice, Value.cells])
  obtain ⟨hL5, hC5⟩ := (hLd.below hal).relead (hor.belowAll hal) (hoc.belowAll hal) hne ho3 hg3 hat3 (fun q hq => by rcases List.mem_append.1 hq with hq | hq; exact okRelead.ext (hLd.okR q hq) (.of_below hal); rw [List.mem_singleton.1 hq]; exact okRelead.ext HOR.out (.of_below (hB0.drew.trans (hal.mono hB0.drew.size)))) hb65 hT4
  have hkeep : Keeps b w w4 := (Keeps.of_below (hB0.drew.trans (hal.mono hB0.drew.size))).trans (Keeps.of_app (hor.belowAll hal) hg3 hT4 (.inl rfl))
  refine hK _ _ ?_
  clear hK K
  try simp only [pTs, pTn, pTz, pTc]
  simp only [wpC]
  go_wp2
  go_ret
  exact ⟨releadL L n, by rw [E1.out]; rfl, E2.out, hL5, (Chg.of_below (hB0.drew.trans (hal.mono hB0.drew.size))).trans hC5, hkeep⟩

def EntersK (P : NoteA → LedA → Prop) : Prop := ∀ (b N : Nat) (L : Led) (x : Note) (w : World), P x.abs L.abs → LedAt b N w L → okNote (LD b N) w x → L.conflicts.length ≤ 1000000 →
  Calls Tryz.prog 49 #[.pointer (some ⟨b + 6, 0, none⟩), .agg (encNote x)] w fun e w' => e = .returned (.tuple #[]) ∧ ∃ L', L'.abs = enterA L.abs x.abs ∧ LedAt b N w' L' ∧ Chg b N w w' ∧ Keeps b w w'
set_option maxHeartbeats 8000000 in
theorem enters_k : EntersK P8 := by
  intro b N L x w hP h hn hc
  obtain ⟨hk, hg, hr⟩ := hP
  have hc' : ∀ act : LedA → NoteA → LedA × Bool, actA L.abs x.abs = act L.abs x.abs → (act L.abs x.abs).1.conflicts.length ≤ 1000000 := fun act e => by rw [← e, actA_conflicts]; exact hc
  have hk8 : x.abs.kind = 1 ∨ x.abs.kind = 2 ∨ x.abs.kind = 3 ∨ x.abs.kind = 4 ∨ x.abs.kind = 5 ∨ x.abs.kind = 6 ∨ x.abs.kind = 7 ∨ x.abs.kind = 8 := by omega
  rcases hk8 with hk | hk | hk | hk | hk | hk | hk | hk
  · have e : actA L.abs x.abs = findA L.abs x.abs := by unfold actA; simp [hk]
    refine (enter_k (DoesS.doesK find_does) (enters_of Tryz.func85 (by kernel_rfl) rfl) b N L x w h hn (trivial) (by rw [show x.kind = _ from hk]; rfl) (hc' _ e)).mono ?_
    rintro e' w' ⟨rfl, L', h1, h2, h3, h4⟩
    exact ⟨rfl, L', by rw [h1]; unfold stepA enterA; rw [e], h2, h3, h4⟩
  · have e : actA L.abs x.abs = recordA L.abs x.abs := by unfold actA; simp [hk]
    refine (enter_k (DoesS.doesK record_does) (enters_of Tryz.func86 (by kernel_rfl) rfl) b N L x w h hn (trivial) (by rw [show x.kind = _ from hk]; rfl) (hc' _ e)).mono ?_
    rintro e' w' ⟨rfl, L', h1, h2, h3, h4⟩
    exact ⟨rfl, L', by rw [h1]; unfold stepA enterA; rw [e], h2, h3, h4⟩
  · have e : actA L.abs x.abs = releadA L.abs x.abs := by unfold actA; simp [hk]
    refine (enter_k relead_k (enters_of Tryz.func87 (by kernel_rfl) rfl) b N L x w h hn (hr) (by rw [show x.kind = _ from hk]; rfl) (hc' _ e)).mono ?_
    rintro e' w' ⟨rfl, L', h1, h2, h3, h4⟩
    exact ⟨rfl, L', by rw [h1]; unfold stepA enterA; rw [e], h2, h3, h4⟩
  · have e : actA L.abs x.abs = sendA L.abs x.abs := by unfold actA; simp [hk]
    refine (enter_k (DoesS.doesK send_does) (enters_of Tryz.func88 (by kernel_rfl) rfl) b N L x w h hn (trivial) (by rw [show x.kind = _ from hk]; rfl) (hc' _ e)).mono ?_
    rintro e' w' ⟨rfl, L', h1, h2, h3, h4⟩
    exact ⟨rfl, L', by rw [h1]; unfold stepA enterA; rw [e], h2, h3, h4⟩
  · have e : actA L.abs x.abs = unpackA L.abs x.abs := by unfold actA; simp [hk]
    refine (enter_k (DoesS.doesK unpack_does) (enters_of Tryz.func89 (by kernel_rfl) rfl) b N L x w h hn (trivial) (by rw [show x.kind = _ from hk]; rfl) (hc' _ e)).mono ?_
    rintro e' w' ⟨rfl, L', h1, h2, h3, h4⟩
    exact ⟨rfl, L', by rw [h1]; unfold stepA enterA; rw [e], h2, h3, h4⟩
  · have e : actA L.abs x.abs = setA L.abs x.abs := by unfold actA; simp [hk]
    refine (enter_k (DoesS.doesK set_does) (enters_of Tryz.func90 (by kernel_rfl) rfl) b N L x w h hn (hg _) (by rw [show x.kind = _ from hk]; rfl) (hc' _ e)).mono ?_
    rintro e' w' ⟨rfl, L', h1, h2, h3, h4⟩
    exact ⟨rfl, L', by rw [h1]; unfold stepA enterA; rw [e], h2, h3, h4⟩
  · have e : actA L.abs x.abs = takeA L.abs x.abs := by unfold actA; simp [hk]
    refine (enter_k (DoesS.doesK take_does) (enters_of Tryz.func91 (by kernel_rfl) rfl) b N L x w h hn (hg _) (by rw [show x.kind = _ from hk]; rfl) (hc' _ e)).mono ?_
    rintro e' w' ⟨rfl, L', h1, h2, h3, h4⟩
    exact ⟨rfl, L', by rw [h1]; unfold stepA enterA; rw [e], h2, h3, h4⟩
  · have e : actA L.abs x.abs = splitA L.abs x.abs := by unfold actA; simp [hk]
    refine (enter_k (DoesS.doesK split_does) (enters_of Tryz.func92 (by kernel_rfl) rfl) b N L x w h hn (trivial) (by rw [show x.kind = _ from hk]; rfl) (hc' _ e)).mono ?_
    rintro e' w' ⟨rfl, L', h1, h2, h3, h4⟩
    exact ⟨rfl, L', by rw [h1]; unfold stepA enterA; rw [e], h2, h3, h4⟩

end Go.Proofs.YtendmmhfjhgdaaaGreat
end
section
set_option linter.unusedVariables false
set_option linter.unusedSimpArgs false
namespace Go.Proofs.YtendmmhfjhgdaaaGreat
open Go.RowKit

set_option maxRecDepth 20000 in
theorem late_any (n : Note) (cb : Nat) (clock : Int) (w : World) (hc : BoxAt w cb 3 #[vi clock]) :
    Calls Tryz.prog 63 #[.agg (encNote n), .pointer (some ⟨cb, 0, none⟩)] w fun e w' => e = .returned (.bool (decide (clock < n.clock))) ∧ Below w.heap.size w w' := by
  have hcc : (w.alloc (.cells (encNote n) 40)).cell? ⟨cb, 0, none⟩ = some (vi clock) := ((hc.alloc _).cell 0).trans rfl
  go_enter Tryz.func63, Tryz.ntmps63
  go_wp2
  go_ret
  exact ⟨by simp, (Below.refl _ _).alloc (Nat.le_refl _) _⟩
/-- slices.IndexFunc over []Note, at leadlight/benches.AsOf$1 -/
theorem index_late (c0 : Value) (D : Nat → Prop) (s : Sl Note) (w : World) (hs : s.OK 29 encNote okNote D w) (p : Note → Bool)
    (hp : ∀ x, okNote D w x → ∀ W, Below w.heap.size w W → Calls Tryz.prog 63 #[.agg (encNote x), c0] W fun e W' => e = .returned (.bool (p x)) ∧ Below W.heap.size W W') :
    Calls Tryz.prog 113 #[.slice s.a s.val.length s.cap, .func (.func 63) #[] #[c0]] w fun e w' => e = .returned (.int .i64 (idxI p s.val)) ∧ Below w.heap.size w w' := by
  have hroom := hs.room
  have HP := Lib.hid hp
  have HS := Lib.hid hs
  clear hp hs
  obtain ⟨a, cap, val⟩ := s
  simp only at hroom
  go_enter Tryz.func113, Tryz.ntmps113
  go_wp2
  go_loopw [5, 8] (fun _ i wr => ∃ k : Nat, k ≤ val.length ∧ i = .int .i64 k ∧ Hid (∀ j y, j < k → val[j]? = some y → p y = false) ∧ Below w.heap.size w wr) (fun _ i _ => val.length - (intOf i).toNat)
  case atStart => exact ⟨0, Nat.zero_le _, rfl, Lib.hid (by omega), Below.refl _ _⟩
  case round =>
    obtain ⟨k, hk, rfl, hn, hB⟩ := hrel
    by_cases hlt : k < val.length
    · obtain ⟨x, hx⟩ : ∃ x, val[k]? = some x := ⟨_, List.getElem?_eq_getElem hlt⟩
      have HX := Lib.hid hx
      obtain ⟨b, o, rfl, hb, _, hok, hcell⟩ := HS.out.at hx
      have HC : Hid (∀ j, j < (encNote x).size → wr.cell? ⟨b, o + k * 29 + j, none⟩ = (encNote x)[j]?) := Lib.hid fun j hj => by
        rw [(Ext.of_below (D := fun _ => False) hB).cell hb id]; exact hcell j hj
      clear hx hcell
      have hcall := HP.out x hok wr hB
      have HCL := Lib.hid hcall
      clear hcall
      by_cases hpx : p x = true
      · have HPX := Lib.hid hpx
        clear hpx
        go_wp2_with (first
          | (refine wpList_load_at rfl 40 _ rfl b (o + k * 29) rfl (encNote x) _ HC.out Tryz.underlying40 rfl (by kernel_rfl) ?_)
          | (go_at_call 63; refine HCL.out.mono ?_; rintro e w1 ⟨rfl, hb1⟩; rw [HPX.out]))
        go_ret
        exact ⟨by simp [idxI_hit HX.out hn.out HPX.out], hB.trans (hb1.mono hB.size)⟩
      · have HPX : Hid (p x = false) := Lib.hid (by simpa using hpx)
        clear hpx
        go_wp2_with (first
          | (refine wpList_load_at rfl 40 _ rfl b (o + k * 29) rfl (encNote x) _ HC.out Tryz.underlying40 rfl (by kernel_rfl) ?_)
          | (go_at_call 63; refine HCL.out.mono ?_; rintro e w1 ⟨rfl, hb1⟩; rw [HPX.out]))
        go_roundw
        case rel =>
          refine ⟨k + 1, by omega, by go_num, Lib.hid fun j y hj hy => ?_, hB.trans (hb1.mono hB.size)⟩
          rcases Nat.lt_succ_iff_lt_or_eq.1 hj with h | rfl
          · exact hn.out j y h hy
          · rw [HX.out] at hy; cases hy; exact HPX.out
        case measure => simp [intOf]; omega
    · go_wp2
      go_ret
      refine ⟨?_, hB⟩
      rw [idxI_none fun j y hy => hn.out j y (by have := (List.getElem?_eq_some_iff.1 hy).1; omega) hy]
      rfl

/-! clear, at elements of several cells -/
theorem run_clear_rows {P : Program} (w : World) (t e ty : TypeId) (z : Value) (ht : P.underlying t = some (.slice e)) (hv : ∀ w, (zeroValue e).run P w = .ok z w) (h1 : z.cells.all (·.oneCell') = true) (b o n c : Nat) (hn : 0 < n)
    (hc : ∀ j, j < n * z.cells.size → (w.cell? ⟨b, o + j, none⟩).isSome = true) (hf : ∀ j, j < n * z.cells.size → w.frozen? ⟨b, o + j, none⟩ = false) :
    (Builtin.clear_ #[t] ty #[.slice (some ⟨b, o, none⟩) n c]).run P w = .ok (.tuple #[]) (w.setCells b o (Builtin.zeroCells z.cells n).toList) := by
  have hl : (Builtin.zeroCells z.cells n).toList.length = n * z.cells.size := by simp [Builtin.zeroCells]
  have hst := run_storeCells_cells (P := P) b o (Builtin.zeroCells z.cells n).toList 0 w (by intro j hj; rw [hl] at hj; rw [Nat.add_zero]; exact hc j hj) (by intro j hj; rw [hl] at hj; rw [Nat.add_zero]; exact hf j hj) (by
    intro v hv'
    simp only [Builtin.zeroCells, Array.toList_map, List.mem_map] at hv'
    obtain ⟨i, hi, rfl⟩ := hv'
    simp only [Array.toList_range, List.mem_range] at hi
    have hs : 0 < z.cells.size := by
      rcases Nat.eq_zero_or_pos z.cells.size with h | h
      · rw [h] at hi; simp at hi
      · exact h
    have hm : i % z.cells.size < z.cells.size := Nat.mod_lt _ hs
    rw [getElem!_pos z.cells _ hm]
    exact (Array.all_eq_true_iff_forall_mem.1 h1) _ (Array.getElem_mem hm))
  simp only [Nat.add_zero] at hst
  obtain ⟨m, rfl⟩ : ∃ m, n = m + 1 := ⟨n - 1, by omega⟩
  simp [Builtin.clear_, run_underlying ht, hv, hst]
theorem zero_Note (w : World) : (zeroValue 40).run Tryz.prog w = .ok (.agg (encNote zNote)) w := by kernel_rfl

/-! a row of notes in a block of its own -/
def Rows29 (cur : Array Value) (c : List Note) : Prop := ∀ (i : Nat) (x : Note), c[i]? = some x → ∀ j, j < 29 → cur[i * 29 + j]? = (encNote x)[j]?
theorem Rows29.fits {cur : Array Value} {c : List Note} (h : Rows29 cur c) {i : Nat} (hi : i < c.length) : i * 29 + 29 ≤ cur.size := by
  have h1 := h i c[i] (List.getElem?_eq_getElem hi) 28 (by decide)
  have hs : 28 < (encNote c[i]).size := by show 28 < 29; decide
  have h2 : (encNote c[i])[28]? = some (encNote c[i])[28] := Array.getElem?_eq_getElem hs
  rw [h2] at h1
  have h3 := (Array.getElem?_eq_some_iff.1 h1).1
  omega
theorem Rows29.set {cur : Array Value} {c : List Note} (h : Rows29 cur c) {i : Nat} (hi : i < c.length) (y : Note) : Rows29 (splice cur (i * 29) (encNote y).toList) (c.set i y) := by
  intro i' x hx j hj
  have hsz := h.fits hi
  have hl : (encNote y).toList.length = 29 := rfl
  rw [splice_get _ _ _ _ (by rw [hl]; exact hsz), hl]
  by_cases e : i = i'
  · subst e
    rw [List.getElem?_set_self hi] at hx
    cases hx
    rw [if_pos ⟨by omega, by omega⟩, show i * 29 + j - i * 29 = j by omega]
    simp
  · rw [List.getElem?_set_ne e] at hx
    rw [if_neg (by omega)]
    exact h i' x hx j hj
theorem Rows29.prefix {cur : Array Value} {c : List Note} (h : Rows29 cur c) {k : Nat} {vs : List Value} (hk : k * 29 + vs.length ≤ cur.size) : Rows29 (splice cur (k * 29) vs) (c.take k) := by
  intro i x hx j hj
  have hik : i < k := by
    have := (List.getElem?_eq_some_iff.1 hx).1
    rw [List.length_take] at this; omega
  rw [List.getElem?_take_of_lt hik] at hx
  rw [splice_get _ _ _ _ hk, if_neg (by omega)]
  exact h i x hx j hj
theorem Rows29.ok {cur : Array Value} {c : List Note} (h : Rows29 cur c) {w : World} {g cap : Nat} {D : Nat → Prop} (hb : BoxAt w g 40 cur) (hle : c.length ≤ cap) (hl : c.length ≤ 4294967296) (hg : ¬ D g) (hok : ∀ x ∈ c, okNote D w x) : Sl.OK 29 encNote okNote D w ⟨some ⟨g, 0, none⟩, cap, c⟩ := by
  refine ⟨hle, hl, fun hn => by simp at hn, fun p hp _ => ?_, hok, fun b o ha i x hi j hj => ?_⟩
  · simp at hp; subst hp
    exact ⟨rfl, hg, hb.lt⟩
  · simp at ha
    obtain ⟨rfl, rfl⟩ := ha
    rw [hb.cell, Nat.zero_add]
    exact h i x hi j hj
theorem OwnL.rows {w : World} {base : Nat} {v : Value} {l : List Note} (h : OwnL encNote 29 w base 40 v l) : (v = .slice none 0 0 ∧ l = []) ∨ ∃ g cap cur, v = .slice (some ⟨g, 0, none⟩) l.length cap ∧ base ≤ g ∧ l.length ≤ cap ∧ BoxAt w g 40 cur ∧ Rows29 cur l := by
  rcases h.2 with ⟨rfl, h0⟩ | ⟨g, cap, cur, rfl, h3, h4, h5, h6, h7, h8⟩
  · exact .inl ⟨rfl, List.eq_nil_of_length_eq_zero h0⟩
  · refine .inr ⟨g, cap, cur, rfl, h3, h5, h4, fun i x hi j hj => ?_⟩
    have hf := flat_at (enc := encNote) (sz := 29) (fun _ => rfl) l i x hi j hj
    rw [← hf, ← h8]
    have hil : i < l.length := (List.getElem?_eq_some_iff.1 hi).1
    rw [List.getElem?_take_of_lt (by omega)]
    simp
theorem filter_take_yes {q : Note → Bool} {l : List Note} {j : Nat} {x : Note} (hx : l[j]? = some x) (h : q x = true) : (l.take (j + 1)).filter q = (l.take j).filter q ++ [x] := by
  rw [take_snoc hx, List.filter_append]; simp [h]
theorem filter_take_no {q : Note → Bool} {l : List Note} {j : Nat} {x : Note} (hx : l[j]? = some x) (h : q x = false) : (l.take (j + 1)).filter q = (l.take j).filter q := by
  rw [take_snoc hx, List.filter_append]; simp [h]

set_option maxRecDepth 20000 in
set_option maxHeartbeats 8000000 in
theorem delete_late (g cap cb N : Nat) (l : List Note) (clock : Int) (w : World) (cur0 : Array Value) (hl : l.length ≤ 1000000) (hle : l.length ≤ cap) (hbox : BoxAt w g 40 cur0) (hrow : Rows29 cur0 l) (hN : N ≤ g) (hcb : BoxAt w cb 3 #[vi clock]) (hne : cb ≠ g) (hNw : N ≤ w.heap.size) (hok : ∀ x ∈ l, okNote (fun _ => False) w x) :
    Calls Tryz.prog 61 #[.slice (some ⟨g, 0, none⟩) l.length cap, .func (.func 63) #[] #[.pointer (some ⟨cb, 0, none⟩)]] w fun e w' => ∃ cur, e = .returned (.slice (some ⟨g, 0, none⟩) (l.filter fun x => !decide (clock < x.clock)).length cap) ∧ BoxAt w' g 40 cur ∧ Rows29 cur (l.filter fun x => !decide (clock < x.clock)) ∧ Below N w w' := by
  obtain ⟨q, hq⟩ : ∃ q : Note → Bool, (fun x : Note => !decide (clock < x.clock)) = q := ⟨_, rfl⟩
  have HQ : Hid (∀ x, q x = !decide (clock < x.clock)) := Lib.hid fun x => by rw [← hq]
  rw [hq]
  have HIX := Lib.hid (index_late (.pointer (some ⟨cb, 0, none⟩)) (fun _ => False) ⟨some ⟨g, 0, none⟩, cap, l⟩ w (hrow.ok hbox hle (by omega) (fun h => h) hok) (fun x => decide (clock < x.clock)) (fun x _ W hW => late_any x cb clock W (hcb.belowAll hW)))
  have HROW := Lib.hid hrow
  have hgl := hbox.lt
  have hcl := hcb.lt
  clear hq hrow hok
  by_cases hany : ∃ (i : Nat) (x : Note), l[i]? = some x ∧ clock < x.clock
  rotate_left
  · have hno : ∀ (i : Nat) (x : Note), l[i]? = some x → decide (clock < x.clock) = false := fun i x hx => by
      simp only [decide_eq_false_iff_not]; exact fun h => hany ⟨i, x, hx, h⟩
    have hf : l.filter q = l := List.filter_eq_self.2 fun x hx => by
      obtain ⟨i, hi⟩ := List.getElem?_of_mem hx
      rw [HQ.out, hno i x hi]; rfl
    have hidx : idxI (fun x : Note => decide (clock < x.clock)) l = -1 := idxI_none hno
    have HIX2 : Hid (Calls Tryz.prog 113 #[.slice (some ⟨g, 0, none⟩) l.length cap, .func (.func 63) #[] #[.pointer (some ⟨cb, 0, none⟩)]] w fun e w' => e = .returned (.int .i64 (-1)) ∧ Below w.heap.size w w') := Lib.hid (by have h := HIX.out; simp only [hidx] at h; exact h)
    rw [hf]
    clear hidx hf hno hany HIX
    go_enter Tryz.func61, Tryz.ntmps61
    go_wp2_with (go_at_call 113; (with_reducible refine HIX2.out.mono ?_); rintro e w1 ⟨rfl, hb1⟩)
    go_ret
    exact ⟨cur0, rfl, hbox.belowAll hb1, HROW.out, hb1.mono hNw⟩
  · obtain ⟨i0, x0, hi0, hx0, hmin⟩ : ∃ (i : Nat) (x : Note), l[i]? = some x ∧ clock < x.clock ∧ ∀ j y, j < i → l[j]? = some y → decide (clock < y.clock) = false := by
      obtain ⟨i, x, h1, h2⟩ := hany
      have key : ∀ n, (∃ (i : Nat) (x : Note), i ≤ n ∧ l[i]? = some x ∧ clock < x.clock) → ∃ (i : Nat) (x : Note), l[i]? = some x ∧ clock < x.clock ∧ ∀ j y, j < i → l[j]? = some y → decide (clock < y.clock) = false := by
        intro n
        induction n with
        | zero =>
          rintro ⟨i, x, hi, h1, h2⟩
          exact ⟨i, x, h1, h2, fun j y hj => by omega⟩
        | succ n ih =>
          rintro ⟨i, x, hi, h1, h2⟩
          by_cases hex : ∃ (j : Nat) (y : Note), j ≤ n ∧ l[j]? = some y ∧ clock < y.clock
          · exact ih hex
          · exact ⟨i, x, h1, h2, fun j y hj hy => decide_eq_false fun h => hex ⟨j, y, by omega, hy, h⟩⟩
      exact key i ⟨i, x, Nat.le_refl _, h1, h2⟩
    have hidx : idxI (fun x : Note => decide (clock < x.clock)) l = (i0 : Int) := idxI_hit hi0 hmin (decide_eq_true hx0)
    have hil : i0 < l.length := (List.getElem?_eq_some_iff.1 hi0).1
    have HIX2 : Hid (Calls Tryz.prog 113 #[.slice (some ⟨g, 0, none⟩) l.length cap, .func (.func 63) #[] #[.pointer (some ⟨cb, 0, none⟩)]] w fun e w' => e = .returned (.int .i64 (i0 : Nat)) ∧ Below w.heap.size w w') := Lib.hid (by have h := HIX.out; simp only [hidx] at h; exact h)
    have hk0 : (l.take i0).filter q = l.take i0 := List.filter_eq_self.2 fun x hx => by
      obtain ⟨j, hj⟩ := List.getElem?_of_mem hx
      have hj2 : j < i0 := by have := (List.getElem?_eq_some_iff.1 hj).1; simp only [List.length_take] at this; omega
      rw [List.getElem?_take_of_lt hj2] at hj
      rw [HQ.out, hmin j x hj2 hj]; rfl
    have HK0 : Hid (l.take i0 = (l.take (i0 + 1)).filter q) := Lib.hid (by rw [filter_take_no hi0 (by rw [HQ.out]; simp [hx0]), hk0])
    clear hidx hany HIX hmin hk0 hi0 hx0
    have hne1 : ((i0 : Int) == -1) = false := beq_false_of_ne (by omega)
    go_enter Tryz.func61, Tryz.ntmps61
    go_wp2_with (go_at_call 113; (with_reducible refine HIX2.out.mono ?_); rintro e w1 ⟨rfl, hb1⟩)
    go_loopw [5, 6, 7] (fun iv jv _ wr => ∃ (i j : Nat) (c : List Note) (cur : Array Value), i < j ∧ j ≤ l.length ∧ iv = .int .i64 i ∧ jv = .int .i64 j ∧ c.length = l.length ∧ Hid (c.take i = (l.take j).filter q) ∧ Hid (c.drop j = l.drop j) ∧ BoxAt wr g 40 cur ∧ Hid (Rows29 cur c) ∧ BoxAt wr cb 3 #[vi clock] ∧ Below N w wr) (fun _ jv _ _ => l.length - (intOf jv).toNat)
    case atStart => exact ⟨i0, i0 + 1, l, cur0, by omega, by omega, rfl, by simp, rfl, HK0, Lib.hid rfl, hbox.belowAll hb1, HROW, hcb.belowAll hb1, hb1.mono hNw⟩
    case round =>
      obtain ⟨i, j, c, cur, hij, hj, rfl, rfl, hcl2, HT, HD, hb, HR, hc, hB⟩ := hrel
      by_cases hlt : j < l.length
      · obtain ⟨x, hx⟩ : ∃ x, l[j]? = some x := ⟨_, List.getElem?_eq_getElem hlt⟩
        have hcx : c[j]? = some x := by
          have h := congrArg (fun z : List Note => z[0]?) HD.out
          simpa [hx] using h
        have HC : Hid (∀ k, k < (encNote x).size → wr.cell? ⟨g, j * 29 + k, none⟩ = (encNote x)[k]?) := Lib.hid fun k hk => by rw [hb.cell]; exact HR.out j x hcx k hk
        have HX := Lib.hid hx
        have HD2 : Hid (c.drop (j + 1) = l.drop (j + 1)) := Lib.hid (by
          have h := congrArg (fun z : List Note => z.drop 1) HD.out
          simpa [List.drop_drop, Nat.add_comm] using h)
        have hj1 : (j : Int) < (l.length : Int) := by omega
        have HLC := Lib.hid (fun W (hW : BoxAt W cb 3 #[vi clock]) => late_any x cb clock W hW)
        clear hx hcx
        by_cases hp : clock < x.clock
        · have hpd : decide (clock < x.clock) = true := decide_eq_true hp
          have HQX : Hid (q x = false) := Lib.hid (by rw [HQ.out, hpd]; rfl)
          clear hp
          go_wp2_with (first
            | ((with_reducible refine at_dst 25 ?_); refine wpList_load_at rfl 40 _ rfl g (j * 29) rfl (encNote x) _ HC.out Tryz.underlying40 rfl (by kernel_rfl) ?_)
            | ((with_reducible refine at_storeTo 7 ?_); refine wpList_store_box (BoxAt.newN (n := wr.heap.size) _ _ _ rfl) rfl 40 _ _ rfl rfl (.agg (encNote x)) rfl (by kernel_rfl) rfl (one_agg (encNote_one _)) ?_; intro w3 hq3 hT3; have bx := hq3.eqv (splice_whole _ (encNote x) rfl); have hL3 : Below wr.heap.size wr w3 := ((Below.refl _ _).alloc (Nat.le_refl _) _).trans (hT3.below (Nat.le_refl _)); clear hq3 hT3)
            | ((with_reducible refine at_dst 27 ?_); refine wpList_loadB bx rfl 40 _ rfl rfl (encNote x) (whole_cells _) Tryz.underlying40 rfl (by kernel_rfl) ?_)
            | (go_at_call 63; (with_reducible refine (HLC.out _ (hc.belowAll hL3)).mono ?_); rintro e w4 ⟨rfl, hb4⟩))
          go_roundw
          case rel => exact ⟨i, j + 1, c, cur, by omega, by omega, rfl, by go_num, hcl2, Lib.hid (by rw [filter_take_no HX.out HQX.out]; exact HT.out), HD2, (hb.belowAll hL3).belowAll hb4, HR, (hc.belowAll hL3).belowAll hb4, (hB.trans (hL3.mono (Nat.le_trans hNw hB.size))).trans (hb4.mono (Nat.le_trans (Nat.le_trans hNw hB.size) hL3.size))⟩
          case measure => simp [intOf]; omega
        · have hpd : decide (clock < x.clock) = false := decide_eq_false hp
          have HQX : Hid (q x = true) := Lib.hid (by rw [HQ.out, hpd]; rfl)
          have hii : (i : Int) < (l.length : Int) := by omega
          clear hp
          go_wp2_with (first
            | ((with_reducible refine at_dst 25 ?_); refine wpList_load_at rfl 40 _ rfl g (j * 29) rfl (encNote x) _ HC.out Tryz.underlying40 rfl (by kernel_rfl) ?_)
            | ((with_reducible refine at_storeTo 7 ?_); refine wpList_store_box (BoxAt.newN (n := wr.heap.size) _ _ _ rfl) rfl 40 _ _ rfl rfl (.agg (encNote x)) rfl (by kernel_rfl) rfl (one_agg (encNote_one _)) ?_; intro w3 hq3 hT3; have bx := hq3.eqv (splice_whole _ (encNote x) rfl); have hL3 : Below wr.heap.size wr w3 := ((Below.refl _ _).alloc (Nat.le_refl _) _).trans (hT3.below (Nat.le_refl _)); clear hq3 hT3)
            | ((with_reducible refine at_dst 27 ?_); refine wpList_loadB bx rfl 40 _ rfl rfl (encNote x) (whole_cells _) Tryz.underlying40 rfl (by kernel_rfl) ?_)
            | (go_at_call 63; (with_reducible refine (HLC.out _ (hc.belowAll hL3)).mono ?_); rintro e w4 ⟨rfl, hb4⟩; have bx4 := bx.belowAll hb4; have hg4 := (hb.belowAll hL3).belowAll hb4; have hc4 := (hc.belowAll hL3).belowAll hb4; have hB4 := (hB.trans (hL3.mono (Nat.le_trans hNw hB.size))).trans (hb4.mono (Nat.le_trans (Nat.le_trans hNw hB.size) hL3.size)))
            | ((with_reducible refine at_dst 32 ?_); refine wpList_loadB bx4 rfl 40 _ rfl rfl (encNote x) (whole_cells _) Tryz.underlying40 rfl (by kernel_rfl) ?_)
            | ((with_reducible refine at_storeTo 33 ?_); refine wpList_store_box hg4 rfl 40 _ _ rfl rfl (.agg (encNote x)) rfl (by kernel_rfl) (Nat.ble_eq_true_of_le (by have := HR.out.fits (i := i) (by omega); show i * 29 + 29 ≤ cur.size; omega)) (one_agg (encNote_one _)) ?_; intro w5 hb5 hT5))
          go_roundw
          case rel =>
            refine ⟨i + 1, j + 1, c.set i x, _, by omega, by omega, by go_num, by go_num, by simp [hcl2], Lib.hid ?_, Lib.hid ?_, hb5, Lib.hid (HR.out.set (by omega) x), hc4.turn hT5 hne, hB4.trans (hT5.below hN)⟩
            · rw [filter_take_yes HX.out HQX.out, ← HT.out, List.take_add_one, List.getElem?_set_self (by omega), List.take_set_of_le (Nat.le_refl _)]; rfl
            · rw [List.drop_set_of_lt (by omega)]; exact HD2.out
          case measure => simp [intOf]; omega
      · have hjl : j = l.length := by omega
        subst hjl
        have HTF : Hid (c.take i = l.filter q) := Lib.hid (by rw [HT.out, List.take_length])
        have hfl : (l.filter q).length = i := by rw [← HTF.out, List.length_take]; omega
        have hsz := HR.out.fits (i := l.length - 1) (by omega)
        have hcapi : ¬ cap = i := by omega
        have HDR : Hid (∀ W, (Instr.sliceAt 22 (.slice (some ⟨g, 0, none⟩) l.length cap) (some (.int .i64 i)) none none).run Tryz.prog W = .ok (.slice (some ⟨g, i * 29, none⟩) (l.length - i) (cap - i)) W) := Lib.hid fun W => by
          have h := run_dr W ⟨some ⟨g, 0, none⟩, cap, l⟩ i (by show i ≤ l.length; omega)
          rw [dr_length] at h
          have ha : Addr.add ⟨g, 0, none⟩ (i * 29) = ⟨g, i * 29, none⟩ := by unfold Addr.add; split <;> simp_all
          simp only [Sl.dr, if_neg hcapi, Option.map_some, ha] at h
          exact h
        have HTK : Hid (∀ W, (Instr.sliceAt 22 (.slice (some ⟨g, 0, none⟩) l.length cap) none (some (.int .i64 i)) none).run Tryz.prog W = .ok (.slice (some ⟨g, 0, none⟩) i cap) W) := Lib.hid fun W => by
          have h := run_tk W ⟨some ⟨g, 0, none⟩, cap, l⟩ i (by show i ≤ l.length; omega) hle
          rw [tk_length _ _ (by show i ≤ l.length; omega)] at h
          exact h
        have hzl : (Builtin.zeroCells (encNote zNote) (l.length - i)).toList.length = (l.length - i) * 29 := by simp [Builtin.zeroCells, encNote_size]
        have hclr : ∀ ty, (Builtin.clear_ #[22] ty #[.slice (some ⟨g, i * 29, none⟩) (l.length - i) (cap - i)]).run Tryz.prog wr = .ok (.tuple #[]) (wr.setCells g (i * 29) (Builtin.zeroCells (encNote zNote) (l.length - i)).toList) := fun ty =>
          run_clear_rows wr 22 40 ty (.agg (encNote zNote)) Tryz.underlying22 zero_Note (encNote_one _) g (i * 29) (l.length - i) (cap - i) (by omega) (fun k hk => by
            have hk2 : k < (l.length - i) * 29 := hk
            rw [hb.cell, Array.getElem?_eq_getElem (by omega)]; rfl) (fun k _ => hb.frozen _)
        obtain ⟨hb6, hT6⟩ := setCells_box (Builtin.zeroCells (encNote zNote) (l.length - i)).toList (i * 29) cur wr hb
        have HB6 := Lib.hid hb6
        have HT6 := Lib.hid hT6
        have HPX : Hid (Rows29 (splice cur (i * 29) (Builtin.zeroCells (encNote zNote) (l.length - i)).toList) (l.filter q)) := Lib.hid (by rw [← HTF.out]; exact HR.out.prefix (by rw [hzl]; omega))
        have HFL := Lib.hid hfl
        generalize wr.setCells g (i * 29) (Builtin.zeroCells (encNote zNote) (l.length - i)).toList = w6 at hclr HB6 HT6
        clear hb6 hT6 hzl hsz hfl
        go_wp2_with (first
          | ((with_reducible refine at_dst 38 ?_); refine wpList_slice rfl _ _ _ _ _ rfl (.slice (some ⟨g, 0, none⟩) l.length cap) (.slice (some ⟨g, i * 29, none⟩) (l.length - i) (cap - i)) rfl (HDR.out _) ?_)
          | ((with_reducible refine at_dst 41 ?_); refine wpList_slice rfl _ _ _ _ _ rfl (.slice (some ⟨g, 0, none⟩) l.length cap) (.slice (some ⟨g, 0, none⟩) i cap) rfl (HTK.out _) ?_)
          | (simp only [hclr]))
        go_ret
        exact ⟨_, by simp [HFL.out], HB6.out, HPX.out, hB.trans (HT6.out.below hN)⟩

set_option maxRecDepth 20000 in
theorem delete_nil (cb : Nat) (clock : Int) (w : World) (hcb : BoxAt w cb 3 #[vi clock]) : Calls Tryz.prog 61 #[.slice none 0 0, .func (.func 63) #[] #[.pointer (some ⟨cb, 0, none⟩)]] w fun e w' => e = .returned (.slice none 0 0) ∧ Below w.heap.size w w' := by
  have HIX := Lib.hid (index_late (.pointer (some ⟨cb, 0, none⟩)) (fun _ => False) Sl.nil w (Sl.OK.nil _ _ _ _ _) (fun x => decide (clock < x.clock)) (fun x _ W hW => late_any x cb clock W (hcb.belowAll hW)))
  have HIX2 : Hid (Calls Tryz.prog 113 #[.slice none 0 0, .func (.func 63) #[] #[.pointer (some ⟨cb, 0, none⟩)]] w fun e w' => e = .returned (.int .i64 (-1)) ∧ Below w.heap.size w w') := Lib.hid HIX.out
  clear HIX
  go_enter Tryz.func61, Tryz.ntmps61
  go_wp2_with (go_at_call 113; (with_reducible refine HIX2.out.mono ?_); rintro e w1 ⟨rfl, hb1⟩)
  go_ret
  exact ⟨by simp, hb1⟩
/-! AsOf -/
theorem filter_abs (l : List Note) (clock : Int) : (l.filter fun x => !decide (clock < x.clock)).map Note.abs = (l.map Note.abs).filter fun x => !decide (clock < x.clock) := by
  rw [List.filter_map]; rfl
theorem filter_set {l : List NoteA} (h : SetA l) (p : NoteA → Bool) : SetA (l.filter p) := ⟨Nat.le_trans (List.length_filter_le _ _) h.len, fun a ha => h.well a (List.mem_filter.1 ha).1, h.up.filter _⟩
set_option maxRecDepth 20000 in
set_option maxHeartbeats 4000000 in
theorem asOf_any (s : Sl Note) (year clock : Int) (w : World) (hs : s.OK 29 encNote okNote (fun _ => False) w) (hset : SetA (s.val.map Note.abs)) (hy : I64 year) :
    Calls Tryz.prog 30 #[.slice s.a s.val.length s.cap, .int .i64 year, .int .i64 clock] w fun e w' => ∃ R : Register, e = .returned (.tuple #[.agg (encRegister R), .int .i64 0]) ∧ R.abs = foldedA ((s.val.map Note.abs).filter fun x => !decide (clock < x.clock)) year ∧ okRegister (Old w.heap.size) w' R ∧ Below w.heap.size w w' := by
  have hB2 : Below w.heap.size w ((w.alloc (.cells #[vi clock] 3)).alloc (.cells #[.slice none 0 0, .slice none 0 0, .slice none 0 0, .slice none 0 0, .slice none 0 0, .slice none 0 0] 58)) := ((Below.refl _ _).alloc (Nat.le_refl _) _).alloc (by simp) _
  have hcb : BoxAt ((w.alloc (.cells #[vi clock] 3)).alloc (.cells #[.slice none 0 0, .slice none 0 0, .slice none 0 0, .slice none 0 0, .slice none 0 0, .slice none 0 0] 58)) w.heap.size 3 #[vi clock] := (BoxAt.new _ _ _).alloc _
  have hbc : BoxAt ((w.alloc (.cells #[vi clock] 3)).alloc (.cells #[.slice none 0 0, .slice none 0 0, .slice none 0 0, .slice none 0 0, .slice none 0 0, .slice none 0 0] 58)) (w.heap.size + 1) 58 #[.slice none 0 0, .slice none 0 0, .slice none 0 0, .slice none 0 0, .slice none 0 0, .slice none 0 0] := BoxAt.newN _ _ _ (by simp)
  have HSW : Hid (∀ W, Below w.heap.size w W → s.OK 29 encNote okNote (fun _ => False) W) := Lib.hid fun W hW => hs.ext (fun _ hk => okNote.ext hk (.of_below hW)) (.of_below hW)
  have HIS := Lib.hid (isSet_any (fun _ => False) s ((w.alloc (.cells #[vi clock] 3)).alloc (.cells #[.slice none 0 0, .slice none 0 0, .slice none 0 0, .slice none 0 0, .slice none 0 0, .slice none 0 0] 58)) (HSW.out _ hB2))
  have HST : Hid (isSetB s.val = true) := Lib.hid ((isSetB_iff s.val).2 hset)
  have HSET := Lib.hid hset
  have hlen : s.val.length ≤ 400 := by have := hset.len; simpa using this
  have HFS := Lib.hid (filter_set hset fun x => !decide (clock < x.clock))
  clear hs hset
  go_enter Tryz.func30, Tryz.ntmps30
  go_wp2_with (first
    | (go_at_call 46; (with_reducible refine HIS.out.mono ?_); rintro e w1 ⟨rfl, hb1⟩; rw [HST.out]; have hB1 := hB2.trans (hb1.mono hB2.size); have hcb1 := hcb.belowAll hb1; have hbc1 := hbc.belowAll hb1)
    | (go_at_call 62; (with_reducible refine (clone_Note (fun _ => False) s w1 (HSW.out w1 hB1)).mono ?_); rintro e w3 ⟨v, rfl, hov, hnil, hb3⟩; have hB3 := hB1.trans (hb3.mono hB1.size); have hcb3 := hcb1.belowAll hb3; have hbc3 := hbc1.belowAll hb3))
  have HFO : Hid (∀ (t : Sl Note) (W : World), t.OK 29 encNote okNote (fun _ => False) W → t.val = s.val.filter (fun x => !decide (clock < x.clock)) → Calls Tryz.prog 57 #[.slice t.a t.val.length t.cap, .int .i64 year] W fun e w' => ∃ R : Register, e = .returned (.agg (encRegister R)) ∧ R.abs = foldedA ((s.val.map Note.abs).filter fun x => !decide (clock < x.clock)) year ∧ okRegister (Old W.heap.size) w' R ∧ Below W.heap.size W w') := Lib.hid fun t W ht hv => by
    have e : t.val.map Note.abs = (s.val.map Note.abs).filter fun x => !decide (clock < x.clock) := by rw [hv, filter_abs]
    have h := folded_set (fun _ => False) t year W ht (by rw [e]; exact HFS.out) hy
    rw [e] at h; exact h
  rcases hov.rows with ⟨rfl, hnl⟩ | ⟨g, cap, cur, rfl, hg, hgc, hgb, hgr⟩
  · have HDN := Lib.hid (delete_nil w.heap.size clock w3 hcb3)
    have HNL := Lib.hid hnl
    have HFN : Hid (∀ W : World, Calls Tryz.prog 57 #[.slice none 0 0, .int .i64 year] W fun e w' => ∃ R : Register, e = .returned (.agg (encRegister R)) ∧ R.abs = foldedA ((s.val.map Note.abs).filter fun x => !decide (clock < x.clock)) year ∧ okRegister (Old W.heap.size) w' R ∧ Below W.heap.size W w') := Lib.hid fun W => HFO.out Sl.nil W (Sl.OK.nil _ _ _ _ _) (by rw [hnl]; rfl)
    clear hnl hov hnil HNL
    go_wp2_with (first
      | (go_at_call 61; (with_reducible refine HDN.out.mono ?_); rintro e w4 ⟨rfl, hb4⟩; have hB4 := hB3.trans (hb4.mono hB3.size); have hbc4 := hbc3.belowAll hb4)
      | (go_at_call 57; (with_reducible refine (HFN.out w4).mono ?_); rintro e w5 ⟨R, rfl, hRA, hRO, hb5⟩; have hB5 := hB4.trans (hb5.mono hB4.size); have hbc5 := hbc4.belowAll hb5)
      | ((with_reducible refine at_storeT 58 ?_); refine wpList_store_box hbc5 rfl _ _ _ rfl rfl (.agg (encRegister R)) rfl (by kernel_rfl) rfl (one_agg (encRegister_one _)) ?_; intro w6 hb6 hT6))
    refine bodyPost_ret (results_cell_tmp (cs := encRegister R) (.int .i64 0) (hb6.eqv (by simp [splice, encRegister, Value.cells])) rfl rfl rfl Tryz.underlying58 rfl (by kernel_rfl)) rfl ⟨R, rfl, hRA, ?_, hB5.trans (hT6.below (by omega))⟩
    have hx : Ext (Old w4.heap.size) w5 w6 := ⟨Nat.le_of_eq hT6.size.symm, fun k hk hd => hT6.block k (fun e => hd (by have := hbc4.lt; show k < _; omega))⟩
    exact (hRO.ext hx).mono (fun k hk => by have h1 : k < w.heap.size := hk; have h2 := hB4.size; show k < _; omega)
  · have HDL := Lib.hid (delete_late g cap w.heap.size w1.heap.size s.val clock w3 cur (by omega) hgc hgb hgr hg hcb3 (by have := hcb1.lt; omega) hb3.size (fun x hx => (HSW.out w3 hB3).elem x hx))
    clear hov hnil hgr
    go_wp2_with (first
      | (go_at_call 61; (with_reducible refine HDL.out.mono ?_); rintro e w4 ⟨cur4, rfl, hgb4, hgr4, hb4⟩; have hB4 : Below w.heap.size w w4 := hB3.trans (hb4.mono hB1.size); have hbc4 := hbc3.below hb4 hbc1.lt; have HF4 := Lib.hid (HFO.out ⟨some ⟨g, 0, none⟩, cap, s.val.filter fun x => !decide (clock < x.clock)⟩ w4 (hgr4.ok hgb4 (Nat.le_trans (List.length_filter_le _ _) hgc) (Nat.le_trans (List.length_filter_le _ _) (by omega)) (fun h => h) (fun x hx => (HSW.out w4 hB4).elem x (List.mem_filter.1 hx).1)) rfl))
      | (go_at_call 57; (with_reducible refine HF4.out.mono ?_); rintro e w5 ⟨R, rfl, hRA, hRO, hb5⟩; have hB5 := hB4.trans (hb5.mono hB4.size); have hbc5 := hbc4.belowAll hb5)
      | ((with_reducible refine at_storeT 58 ?_); refine wpList_store_box hbc5 rfl _ _ _ rfl rfl (.agg (encRegister R)) rfl (by kernel_rfl) rfl (one_agg (encRegister_one _)) ?_; intro w6 hb6 hT6))
    refine bodyPost_ret (results_cell_tmp (cs := encRegister R) (.int .i64 0) (hb6.eqv (by simp [splice, encRegister, Value.cells])) rfl rfl rfl Tryz.underlying58 rfl (by kernel_rfl)) rfl ⟨R, rfl, hRA, ?_, hB5.trans (hT6.below (by omega))⟩
    have hx : Ext (Old w4.heap.size) w5 w6 := ⟨Nat.le_of_eq hT6.size.symm, fun k hk hd => hT6.block k (fun e => hd (by have := hbc4.lt; show k < _; omega))⟩
    exact (hRO.ext hx).mono (fun k hk => by have h1 : k < w.heap.size := hk; have h2 := hB4.size; show k < _; omega)

set_option maxRecDepth 20000 in
set_option maxHeartbeats 4000000 in
theorem asOf_bad (s : Sl Note) (year clock : Int) (w : World) (hs : s.OK 29 encNote okNote (fun _ => False) w) (hset : isSetB s.val = false) :
    Calls Tryz.prog 30 #[.slice s.a s.val.length s.cap, .int .i64 year, .int .i64 clock] w fun e w' => e = .returned (.tuple #[.agg (encRegister zRegister), .int .i64 1]) ∧ Below w.heap.size w w' := by
  have hB2 : Below w.heap.size w ((w.alloc (.cells #[vi clock] 3)).alloc (.cells #[.slice none 0 0, .slice none 0 0, .slice none 0 0, .slice none 0 0, .slice none 0 0, .slice none 0 0] 58)) := ((Below.refl _ _).alloc (Nat.le_refl _) _).alloc (by simp) _
  have hbc : BoxAt ((w.alloc (.cells #[vi clock] 3)).alloc (.cells #[.slice none 0 0, .slice none 0 0, .slice none 0 0, .slice none 0 0, .slice none 0 0, .slice none 0 0] 58)) (w.heap.size + 1) 58 #[.slice none 0 0, .slice none 0 0, .slice none 0 0, .slice none 0 0, .slice none 0 0, .slice none 0 0] := BoxAt.newN _ _ _ (by simp)
  have HIS := Lib.hid (isSet_any (fun _ => False) s ((w.alloc (.cells #[vi clock] 3)).alloc (.cells #[.slice none 0 0, .slice none 0 0, .slice none 0 0, .slice none 0 0, .slice none 0 0, .slice none 0 0] 58)) (hs.ext (fun _ hk => okNote.ext hk (.of_below hB2)) (.of_below hB2)))
  have HST := Lib.hid hset
  clear hs hset
  go_enter Tryz.func30, Tryz.ntmps30
  go_wp2_with (first
    | (go_at_call 46; (with_reducible refine HIS.out.mono ?_); rintro e w1 ⟨rfl, hb1⟩; rw [HST.out]; have hB1 := hB2.trans (hb1.mono hB2.size); have hbc1 := hbc.belowAll hb1)
    | ((with_reducible refine at_storeT 58 ?_); refine wpList_store_box hbc1 rfl _ _ _ rfl rfl (.agg (encRegister zRegister)) rfl (by kernel_rfl) rfl (one_agg (encRegister_one _)) ?_; intro w6 hb6 hT6))
  refine bodyPost_ret (results_cell_tmp (cs := encRegister zRegister) (.int .i64 1) (hb6.eqv (by simp [splice, encRegister, Value.cells])) rfl rfl rfl Tryz.underlying58 rfl (by kernel_rfl)) rfl ⟨rfl, hB1.trans (hT6.below (by omega))⟩
end Go.Proofs.YtendmmhfjhgdaaaGreat
end
section
set_option linter.unusedVariables false
set_option linter.unusedSimpArgs false
namespace Go.Proofs.YtendmmhfjhgdaaaGreat
open Go.RowKit

theorem foreign_where {cs : Array Value} : Foreign (.cells cs 66 (0, 0)) := fun cur => ⟨fun h => by injection h with _ h2 _; exact absurd h2 (by decide), fun h => by injection h with _ h2 _; exact absurd h2 (by decide)⟩
theorem foreign_stay {cs : Array Value} : Foreign (.cells cs 78 (0, 0)) := fun cur => ⟨fun h => by injection h with _ h2 _; exact absurd h2 (by decide), fun h => by injection h with _ h2 _; exact absurd h2 (by decide)⟩
theorem einfo_Stay : EInfo Tryz.prog 43 78 10 80 := ⟨Tryz.underlying43, by kernel_rfl⟩
theorem buildStay (x : Stay) : Array.foldl (fun cs (x : Value × Nat) => cs.setIfInBounds x.snd x.fst) #[Value.int .i64 0, Value.int .i64 0, Value.int .i64 0, Value.int .i64 0, Value.int .i64 0, Value.int .i64 0, Value.int .i64 0, .bool false, Value.int .i64 0, Value.int .i64 0] (encStay x).zipIdx 0 10 = encStay x := by
  simp [encStay]
theorem OwnL.obj {α : Type} {enc : α → Array Value} {sz base : Nat} {w : World} {e : TypeId} {v : Value} {l : List α} (h : OwnL enc sz w base e v l) {g : Nat} (hg : v.ownBlock = some g) : ∃ cur, w.heap[g]? = some (.cells cur e (0, 0)) := by
  rcases h.2 with ⟨rfl, _⟩ | ⟨g', cap, cur, rfl, h3, h4, _⟩
  · simp [Value.ownBlock] at hg
  · simp [Value.ownBlock] at hg
    subst hg
    exact ⟨cur, h4⟩
theorem OwnL.keeps {α : Type} {enc : α → Array Value} {sz base b : Nat} {w w' : World} {e : TypeId} {v : Value} {l : List α} (h : OwnL enc sz w base e v l) (hk : Keeps b w w') (hf : ∀ cur, Foreign (.cells cur e (0, 0))) (hb : b + 6 < base) : OwnL enc sz w' base e v l := by
  refine h.kept fun g hg => ?_
  obtain ⟨cur, hc⟩ := h.obj hg
  have h1 := h.block g hg
  rw [hc]
  exact hk g _ h1.2 hc (hf cur) (by omega)
theorem BoxAt.keeps {b : Nat} {w w' : World} {g : Nat} {T : TypeId} {cs : Array Value} (h : BoxAt w g T cs) (hk : Keeps b w w') (hf : Foreign (.cells cs T (0, 0))) (hb : b + 6 < g) : BoxAt w' g T cs := hk g _ h.lt h hf (by omega)
/-- a slice that is not the ledger's grows: the ledger stays -/
theorem LedAt.other {b N : Nat} {w w' : World} {L : Led} (h : LedAt b N w L) (hC : Chg b N w w') (hk : ∀ k, k < w.heap.size → (k ≤ b + 6 ∨ ∃ cur, w.heap[k]? = some (.cells cur 117 (0, 0)) ∨ w.heap[k]? = some (.cells cur 31 (0, 0))) → w'.heap[k]? = w.heap[k]?) : LedAt b N w' L := by
  obtain ⟨vr, vc, h1, h2, h3, h4⟩ := h.box
  have hx := hC.ext
  have hlt := h.lt7
  have hm : ∀ k, k ≤ b + 6 → w'.heap[k]? = w.heap[k]? := fun k hk2 => hk k (by omega) (.inl hk2)
  refine ⟨h.lt, Nat.le_trans h.le hC.size, ⟨vr, vc, h1.of_block (hm _ (Nat.le_refl _)), h2.kept fun g hg => ?_, h3.kept fun g hg => ?_, h4⟩,
    h.pieces.of_block (hm _ (by omega)), h.wher.of_block (hm _ (by omega)), h.glass.of_block (hm _ (by omega)), h.items.of_block (hm _ (by omega)), h.trays.of_block (hm _ (by omega)), h.to_.of_block (hm _ (by omega)),
    fun p hp => okPiece.ext (h.okP p hp) hx, fun p hp => h.okW p hp, h.okG, fun p hp => okItem.ext (h.okI p hp) hx, fun p hp => okRelead.ext (h.okR p hp) hx, fun p hp => h.okC p hp,
    fun p hp => okInts_ext (h.okT p hp) hx, h.okO⟩
  · obtain ⟨cur, hc⟩ := h2.obj hg
    exact hk g (h2.block g hg).2 (.inr ⟨cur, .inl hc⟩)
  · obtain ⟨cur, hc⟩ := h3.obj hg
    exact hk g (h3.block g hg).2 (.inr ⟨cur, .inr hc⟩)
/-- the ledger and the stays, note after note -/
def stK (piece : Int) (l : List NoteA) (k : Nat) : LedA × List Stay := stayRun piece (l.take k)
theorem stK_succ {piece : Int} {l : List NoteA} {k : Nat} {x : NoteA} (hx : l[k]? = some x) : stK piece l (k + 1) = stayStep piece (stK piece l k) x := by
  unfold stK stayRun
  rw [take_snoc hx, List.foldl_append]; rfl
theorem stK_led {piece : Int} {l : List NoteA} (hy : ∀ x ∈ l, x.year ≤ 9999) (k : Nat) : (stK piece l k).1 = stA 9999 l k := by
  unfold stK stayRun stA
  rw [stayRun_led, steps_all fun x hx => hy x (List.mem_of_mem_take hx)]
theorem stK_len (piece : Int) (l : List NoteA) : ∀ k, (stK piece l k).2.length ≤ k
  | 0 => by simp [stK, stayRun]
  | k + 1 => by
    have ih := stK_len piece l k
    cases hx : l[k]? with
    | none =>
      have : stK piece l (k + 1) = stK piece l k := by unfold stK; rw [List.take_add_one, hx]; simp
      rw [this]; omega
    | some x =>
      rw [stK_succ hx]
      unfold stayStep
      simp only
      cases aget (enterA (stK piece l k).1 x).wher piece with
      | none => simp only; omega
      | some now =>
        simp only
        split
        · omega
        · simp only [List.length_append, List.length_singleton]; omega

set_option maxRecDepth 20000 in
set_option maxHeartbeats 16000000 in
theorem stays_any (s : Sl Note) (piece : Int) (w : World) (hs : s.OK 29 encNote okNote (fun _ => False) w) (hset : SetA (s.val.map Note.abs)) (hp : I64 piece) :
    Calls Tryz.prog 19 #[.slice s.a s.val.length s.cap, .int .i64 piece] w fun e w' => ∃ v, e = .returned (.tuple #[v, .int .i64 (if staysA (s.val.map Note.abs) piece = [] then 3 else 0)]) ∧ OwnL encStay 10 w' w.heap.size 78 v (staysA (s.val.map Note.abs) piece) ∧ Below w.heap.size w w' := by
  have HIS := Lib.hid (isSet_any (fun _ => False) s w hs)
  have HST : Hid (isSetB s.val = true) := Lib.hid ((isSetB_iff s.val).2 hset)
  have hlen : s.val.length ≤ 400 := by have := hset.len; simpa using this
  have HEF : Hid (∀ W, Below w.heap.size w W → _) := Lib.hid fun W hW => effective_any note_sort (fun _ => False) s W (hs.ext (fun _ hk => okNote.ext hk (.of_below hW)) (.of_below hW)) (by omega) (set_nodup hset)
  obtain ⟨la, hla⟩ : ∃ la, s.val.map Note.abs = la := ⟨_, rfl⟩
  rw [hla] at hset HEF ⊢
  have HP8 := Lib.hid (fun k x hx => set_P8 hset 9999 k x hx)
  have HYR := Lib.hid (eff_years hset)
  have hel : (effA la).length ≤ 400 := Nat.le_trans (eff_length la) hset.len
  have HPI := Lib.hid hp
  clear hs hla hset hp
  go_enter Tryz.func19, Tryz.ntmps19
  go_wp2_with (first
    | (go_at_call 46; (with_reducible refine HIS.out.mono ?_); rintro e w1 ⟨rfl, hb1⟩; rw [HST.out])
    | (go_at_call 47; (with_reducible refine (newLedger_any _).mono ?_); rintro e w2 ⟨rfl, hled, hb2, hs2⟩; have hB2 : Below w.heap.size w w2 := hb1.trans (hb2.mono hb1.size))
    | (go_at_call 48; (with_reducible refine (HEF.out _ hB2).mono ?_); rintro e w3 ⟨s1, s2, rfl, e1, e2, o1, o2, hb3⟩; have hL3 := (hled.below hb3).led (N := w3.heap.size) (by have := hb3.size; omega) (Nat.le_refl _); have hB3 : Below w.heap.size w w3 := hB2.trans (hb3.mono hB2.size); have HE1 := Lib.hid e1; clear e1 e2 o2))
  have hs3 : w1.heap.size + 7 ≤ w3.heap.size := by have := hb3.size; omega
  have hw01 : w.heap.size ≤ w1.heap.size := hb1.size
  have hD : ∀ k, LD w1.heap.size w3.heap.size k → Wide (Old w2.heap.size) w3 k := fun k hk => hk.elim (fun h => .inl (by show k < _; omega)) .inr
  have HS1 : Hid (Sl.OK 29 encNote okNote (LD w1.heap.size w3.heap.size) w3 s1) := Lib.hid ((o1.wide (fun _ h => okNote_wide h)).mono (fun _ h => okNote.mono h hD) hD)
  have hl1 : s1.val.length ≤ 400 := by have h := congrArg List.length HE1.out; simp at h; omega
  clear o1 hled hb3 hb2
  obtain ⟨a1, cap1, val⟩ := s1
  simp only at hl1
  go_loopw [9, 27] (fun vo i wr => ∃ (k : Nat) (L : Led), k ≤ val.length ∧ i = .int .i64 k ∧ Hid (L.abs = stA 9999 (effA la) k) ∧ Hid (LedAt w1.heap.size w3.heap.size wr L) ∧ Hid (Chg w1.heap.size w3.heap.size w3 wr) ∧ Hid (OwnL encStay 10 wr w3.heap.size 78 vo (stK piece (effA la) k).2)) (fun _ i _ => val.length - (intOf i).toNat)
  case atStart => exact ⟨0, ledC, Nat.zero_le _, rfl, Lib.hid (by simp [stA, ledC_abs]), Lib.hid hL3, Lib.hid (Chg.refl _ _ _), Lib.hid (OwnL.nil _ _ _ _ _)⟩
  case round =>
    obtain ⟨k, L, hk, rfl, HLA, HL, HCh, HO⟩ := hrel
    by_cases hlt : k < val.length
    · obtain ⟨x, hx⟩ : ∃ x, val[k]? = some x := ⟨_, List.getElem?_eq_getElem hlt⟩
      obtain ⟨bb, o, rfl, hb, hnd, hok, hcell⟩ := HS1.out.at hx
      have HC : Hid (∀ j, j < (encNote x).size → wr.cell? ⟨bb, o + k * 29 + j, none⟩ = (encNote x)[j]?) := Lib.hid fun j hj => by
        rw [HCh.out.ext.cell hb hnd]; exact hcell j hj
      have hi1 : (k : Int) < (val.length : Int) := by omega
      have hxa : (effA la)[k]? = some x.abs := by rw [← HE1.out]; simp [hx]
      have HXA := Lib.hid hxa
      have HOKX : Hid (∀ W, Below wr.heap.size wr W → okNote (LD w1.heap.size w3.heap.size) W x) := Lib.hid fun W hW => okNote.ext (okNote.ext hok HCh.out.ext) (.of_below hW)
      have HPX : Hid (P8 x.abs L.abs) := Lib.hid (by rw [HLA.out]; exact HP8.out k x.abs hxa)
      have HCC : Hid (L.conflicts.length ≤ 1000000) := Lib.hid (by have h1 := stA_conflicts 9999 (effA la) k; rw [← HLA.out] at h1; have h2 : L.abs.conflicts = L.conflicts := rfl; rw [h2] at h1; omega)
      have HLT : Hid (w1.heap.size + 7 ≤ wr.heap.size) := Lib.hid HL.out.lt7
      have HST1 : Hid ((stK piece (effA la) k).1 = L.abs) := Lib.hid (by rw [stK_led HYR.out, HLA.out])
      have HLA1 : Hid (enterA L.abs x.abs = stA 9999 (effA la) (k + 1)) := Lib.hid (by rw [stA_succ hxa, HLA.out]; unfold stepY; rw [if_pos (HYR.out _ (List.mem_of_getElem? hxa))])
      have hsl : (stK piece (effA la) k).2.length ≤ 400 := Nat.le_trans (stK_len piece (effA la) k) (by omega)
      obtain ⟨was, hwas⟩ : ∃ z, (aget L.wher piece).getD zWhere = z := ⟨_, rfl⟩
      obtain ⟨kn, hkn⟩ : ∃ z, ahas L.wher piece = z := ⟨_, rfl⟩
      obtain ⟨now, hnow⟩ : ∃ z, (aget (enterA L.abs x.abs).wher piece).getD zWhere = z := ⟨_, rfl⟩
      obtain ⟨isb, hisb⟩ : ∃ z, ahas (enterA L.abs x.abs).wher piece = z := ⟨_, rfl⟩
      have HWAS := Lib.hid hwas
      have HKN := Lib.hid hkn
      have HNOW := Lib.hid hnow
      have HISB := Lib.hid hisb
      clear hx hok hcell hb hnd hxa hwas hkn hnow hisb
      cases isb
      · have HAG : Hid (aget (enterA L.abs x.abs).wher piece = none) := Lib.hid (by have h := HISB.out; rw [← aget_isSome] at h; simpa using h)
        go_wp2_with (first
          | ((with_reducible refine at_dst 30 ?_); refine wpList_load_at rfl 40 _ rfl bb (o + k * 29) rfl (encNote x) _ HC.out Tryz.underlying40 rfl (by kernel_rfl) ?_)
          | ((with_reducible refine at_storeTo 11 ?_); refine wpList_store_box (BoxAt.newN (n := wr.heap.size) _ _ _ rfl) rfl 40 _ _ rfl rfl (.agg (encNote x)) rfl (by kernel_rfl) rfl (one_agg (encNote_one _)) ?_; intro w4 hq hT; have bn := hq.eqv (splice_whole _ (encNote x) rfl); have hw4 : Below wr.heap.size wr w4 := ((Below.refl _ _).alloc (Nat.le_refl _) _).trans (hT.below (Nat.le_refl _)); clear hq hT; have HL4 := Lib.hid (HL.out.below hw4); have hcW4 : w4.cell? ⟨w1.heap.size + 6, 1, none⟩ = some (.map (some (w1.heap.size + 1))) := HL4.out.cW; have HO4 := Lib.hid (HO.out.belowAll hw4))
          | ((with_reducible refine at_dst 37 ?_); refine wpList_lookok rfl _ _ 95 rfl intKey Tryz.underlying95 zWhere (zeroWhere _) rfl HL4.out.wher piece HPI.out rfl ?_; rw [HWAS.out, HKN.out])
          | ((with_reducible refine at_storeTo 12 ?_); refine wpList_store_box (BoxAt.newN (n := w4.heap.size) _ _ _ rfl) rfl 66 _ _ rfl rfl (.agg (encWhere was)) rfl (by kernel_rfl) rfl (one_agg (encWhere_one _)) ?_; intro w5 hq hT; have bw := hq.eqv (splice_whole _ (encWhere was) rfl); have hw5 : Below w4.heap.size w4 w5 := ((Below.refl _ _).alloc (Nat.le_refl _) _).trans (hT.below (Nat.le_refl _)); clear hq hT; have HL5 := Lib.hid (HL4.out.below hw5); have bn5 := bn.belowAll hw5; have hw45 := hw4.trans (hw5.mono hw4.size); have HO5 := Lib.hid (HO4.out.belowAll hw5))
          | ((with_reducible refine at_dst 41 ?_); refine wpList_loadB bn5 rfl 40 _ rfl rfl (encNote x) (whole_cells _) Tryz.underlying40 rfl (by kernel_rfl) ?_)
          | (go_at_call 49; refine (enters_k w1.heap.size w3.heap.size L x w5 HPX.out HL5.out (HOKX.out w5 hw45) HCC.out).mono ?_; rintro e w6 ⟨rfl, L', hLa, hL6, hC6, hK6⟩; have hwl := HLT.out; have hw4s := hw4.size; have bn6 := bn5.keeps hK6 foreign_note (by omega); have bw6 := bw.keeps hK6 foreign_where (by omega); have HO6 := Lib.hid (HO5.out.keeps hK6 (fun _ => foreign_stay) (by omega)); have hcW6 : w6.cell? ⟨w1.heap.size + 6, 1, none⟩ = some (.map (some (w1.heap.size + 1))) := hL6.cW; have HW2 : Hid ((aget L'.wher piece).getD zWhere = now ∧ ahas L'.wher piece = false) := Lib.hid (by rw [show L'.wher = L'.abs.wher from rfl, hLa]; exact ⟨HNOW.out, HISB.out⟩); have HLa := Lib.hid hLa; have HL6 := Lib.hid hL6; have HC6 := Lib.hid hC6; clear hLa hL6 hC6 hK6)
          | ((with_reducible refine at_dst 49 ?_); refine wpList_lookok rfl _ _ 95 rfl intKey Tryz.underlying95 zWhere (zeroWhere _) rfl HL6.out.wher piece HPI.out rfl ?_; rw [HW2.out.1, HW2.out.2])
          | ((with_reducible refine at_storeTo 14 ?_); refine wpList_store_box (BoxAt.newN (n := w6.heap.size) _ _ _ rfl) rfl 66 _ _ rfl rfl (.agg (encWhere now)) rfl (by kernel_rfl) rfl (one_agg (encWhere_one _)) ?_; intro w7 hq hT; have bz := hq.eqv (splice_whole _ (encWhere now) rfl); have hw7 : Below w6.heap.size w6 w7 := ((Below.refl _ _).alloc (Nat.le_refl _) _).trans (hT.below (Nat.le_refl _)); clear hq hT; have HL7 := Lib.hid (HL6.out.below hw7); have bn7 := bn6.belowAll hw7; have bw7 := bw6.belowAll hw7; have HO7 := Lib.hid (HO6.out.belowAll hw7); have HC7 := Lib.hid ((HCh.out.trans (Chg.of_below hw45)).trans (HC6.out.trans (Chg.of_below hw7))))
          | ((with_reducible refine at_dst 57 ?_); refine wpList_loadB bz rfl 66 _ rfl rfl (encWhere now) (whole_cells _) Tryz.underlying66 rfl (by kernel_rfl) ?_)
          | ((with_reducible refine at_dst 58 ?_); refine wpList_loadB bw7 rfl 66 _ rfl rfl (encWhere was) (whole_cells _) Tryz.underlying66 rfl (by kernel_rfl) ?_))
        go_roundw
        case rel => exact ⟨k + 1, L', by omega, by go_num, Lib.hid (by rw [HLa.out, HLA1.out]), HL7, HC7, Lib.hid (by
          have h := HO7.out
          rw [stK_succ HXA.out]
          unfold stayStep
          rw [HST1.out]
          simp only [HAG.out]
          exact h)⟩
        case measure => simp [intOf]; omega
      · have HAG : Hid (aget (enterA L.abs x.abs).wher piece = some now) := Lib.hid (by
          have h := HISB.out
          rw [← aget_isSome] at h
          obtain ⟨z, hz⟩ := Option.isSome_iff_exists.1 h
          have h2 := HNOW.out
          rw [hz] at h2 ⊢
          rw [← h2]; rfl)
        cases kn
        · have HAL : Hid (¬ aget L.abs.wher piece = some now) := Lib.hid (by
            have h := HKN.out
            rw [← aget_isSome] at h
            intro e
            rw [show L.wher = L.abs.wher from rfl, e] at h
            cases h)
          go_wp2_with (first
            | ((with_reducible refine at_dst 30 ?_); refine wpList_load_at rfl 40 _ rfl bb (o + k * 29) rfl (encNote x) _ HC.out Tryz.underlying40 rfl (by kernel_rfl) ?_)
            | ((with_reducible refine at_storeTo 11 ?_); refine wpList_store_box (BoxAt.newN (n := wr.heap.size) _ _ _ rfl) rfl 40 _ _ rfl rfl (.agg (encNote x)) rfl (by kernel_rfl) rfl (one_agg (encNote_one _)) ?_; intro w4 hq hT; have bn := hq.eqv (splice_whole _ (encNote x) rfl); have hw4 : Below wr.heap.size wr w4 := ((Below.refl _ _).alloc (Nat.le_refl _) _).trans (hT.below (Nat.le_refl _)); clear hq hT; have HL4 := Lib.hid (HL.out.below hw4); have hcW4 : w4.cell? ⟨w1.heap.size + 6, 1, none⟩ = some (.map (some (w1.heap.size + 1))) := HL4.out.cW; have HO4 := Lib.hid (HO.out.belowAll hw4))
            | ((with_reducible refine at_dst 37 ?_); refine wpList_lookok rfl _ _ 95 rfl intKey Tryz.underlying95 zWhere (zeroWhere _) rfl HL4.out.wher piece HPI.out rfl ?_; rw [HWAS.out, HKN.out])
            | ((with_reducible refine at_storeTo 12 ?_); refine wpList_store_box (BoxAt.newN (n := w4.heap.size) _ _ _ rfl) rfl 66 _ _ rfl rfl (.agg (encWhere was)) rfl (by kernel_rfl) rfl (one_agg (encWhere_one _)) ?_; intro w5 hq hT; have bw := hq.eqv (splice_whole _ (encWhere was) rfl); have hw5 : Below w4.heap.size w4 w5 := ((Below.refl _ _).alloc (Nat.le_refl _) _).trans (hT.below (Nat.le_refl _)); clear hq hT; have HL5 := Lib.hid (HL4.out.below hw5); have bn5 := bn.belowAll hw5; have hw45 := hw4.trans (hw5.mono hw4.size); have HO5 := Lib.hid (HO4.out.belowAll hw5))
            | ((with_reducible refine at_dst 41 ?_); refine wpList_loadB bn5 rfl 40 _ rfl rfl (encNote x) (whole_cells _) Tryz.underlying40 rfl (by kernel_rfl) ?_)
            | (go_at_call 49; refine (enters_k w1.heap.size w3.heap.size L x w5 HPX.out HL5.out (HOKX.out w5 hw45) HCC.out).mono ?_; rintro e w6 ⟨rfl, L', hLa, hL6, hC6, hK6⟩; have hwl := HLT.out; have hw4s := hw4.size; have bn6 := bn5.keeps hK6 foreign_note (by omega); have bw6 := bw.keeps hK6 foreign_where (by omega); have HO6 := Lib.hid (HO5.out.keeps hK6 (fun _ => foreign_stay) (by omega)); have hcW6 : w6.cell? ⟨w1.heap.size + 6, 1, none⟩ = some (.map (some (w1.heap.size + 1))) := hL6.cW; have HW2 : Hid ((aget L'.wher piece).getD zWhere = now ∧ ahas L'.wher piece = true) := Lib.hid (by rw [show L'.wher = L'.abs.wher from rfl, hLa]; exact ⟨HNOW.out, HISB.out⟩); have HLa := Lib.hid hLa; have HL6 := Lib.hid hL6; have HC6 := Lib.hid hC6; clear hLa hL6 hC6 hK6)
            | ((with_reducible refine at_dst 49 ?_); refine wpList_lookok rfl _ _ 95 rfl intKey Tryz.underlying95 zWhere (zeroWhere _) rfl HL6.out.wher piece HPI.out rfl ?_; rw [HW2.out.1, HW2.out.2])
            | ((with_reducible refine at_storeTo 14 ?_); refine wpList_store_box (BoxAt.newN (n := w6.heap.size) _ _ _ rfl) rfl 66 _ _ rfl rfl (.agg (encWhere now)) rfl (by kernel_rfl) rfl (one_agg (encWhere_one _)) ?_; intro w7 hq hT; have bz := hq.eqv (splice_whole _ (encWhere now) rfl); have hw7 : Below w6.heap.size w6 w7 := ((Below.refl _ _).alloc (Nat.le_refl _) _).trans (hT.below (Nat.le_refl _)); clear hq hT; have HL7 := Lib.hid (HL6.out.below hw7); have bn7 := bn6.belowAll hw7; have bw7 := bw6.belowAll hw7; have HO7 := Lib.hid (HO6.out.belowAll hw7); have HC7 := Lib.hid ((HCh.out.trans (Chg.of_below hw45)).trans (HC6.out.trans (Chg.of_below hw7))))
            | ((with_reducible refine at_dst 57 ?_); refine wpList_loadB bz rfl 66 _ rfl rfl (encWhere now) (whole_cells _) Tryz.underlying66 rfl (by kernel_rfl) ?_)
            | ((with_reducible refine at_dst 58 ?_); refine wpList_loadB bw7 rfl 66 _ rfl rfl (encWhere was) (whole_cells _) Tryz.underlying66 rfl (by kernel_rfl) ?_))
          refine wp_region_mark 8 [(0, none), (1, none), (2, some true), (3, some true), (5, some true), (4, some false), (6, none), (7, some false), (8, some false), (9, some false)] rfl (by kernel_rfl) (by kernel_rfl) (fun d _ _ _ _ h => by cases d <;> exact h) ?_
          iterate 2 (refine wpC_pure rfl rfl (fun W => by go_simp; with_reducible rfl) ?_; simp only [pTs, pTn, pTz, pTc])
          refine wpC_fix (v := vi x.year) rfl rfl (fun W hW => by have e : W.cell? ⟨wr.heap.size, 3, none⟩ = some (vi x.year) := ((bn7.drew.belowAll hW).cell 3).trans rfl; go_simp) ?_; simp only [pTs, pTn, pTz, pTc]
          refine wpC_fix (v := .agg (encNote x)) rfl rfl (fun W hW => run_load_box (encNote x) (bn7.drew.belowAll hW) rfl (whole_cells _) Tryz.underlying40 rfl (by kernel_rfl)) ?_; simp only [pTs, pTn, pTz, pTc]
          refine wpC_fix (v := .agg (encWhere now)) rfl rfl (fun W hW => run_load_box (encWhere now) (bz.drew.belowAll hW) rfl (whole_cells _) Tryz.underlying66 rfl (by kernel_rfl)) ?_; simp only [pTs, pTn, pTz, pTc]
          refine wpC_act rfl rfl rfl (fun K hK => ?_)
          go_simp
          refine (refOf_any x _).mono ?_
          rintro e w8 ⟨rfl, hb8⟩
          refine hK _ _ hb8 ?_
          clear hK K
          try simp only [pTs, pTn, pTz, pTc]
          refine wpC_pure (v := .agg (encStay ⟨x.year, refN x, now⟩)) rfl rfl (fun W => by go_simp; simp [encRef, encWhere, encStay, refN]) ?_; simp only [pTs, pTn, pTz, pTc]
          refine wpC_act rfl rfl rfl (fun K hK => ?_)
          go_simp
          refine hK _ _ ((Below.refl _ _).alloc (Nat.le_refl _) _) ?_
          clear hK K
          try simp only [buildStay, pTs, pTn, pTz, pTc]
          refine wpC_mark rfl rfl (fun K hK => ?_)
          refine wp_append_oneAt _ _ 43 rfl w3.heap.size einfo_Stay (fun _ => rfl) (by decide) encStay_one (by decide) u9 (stK piece (effA la) k).2 rfl (((HO7.out.belowAll ((Below.refl _ _).drew)).belowAll hb8).belowAll ((Below.refl _ _).alloc (Nat.le_refl _) _)) w8.heap.size 0 1 ⟨x.year, refN x, now⟩ rfl (fun j hj => cells_of_eq (w := w8) (T := 78) (cs := encStay ⟨x.year, refN x, now⟩) rfl j hj) (by omega) (Nat.le_trans (Nat.le_trans HL7.out.le hb8.size) (by simp)) ?_
          intro v9 w9 ho9 hg9 hat9
          refine hK _ _ ?_
          clear hK K
          try simp only [pTs, pTn, pTz, pTc]
          refine wpC_past rfl rfl (fun K hK => ?_)
          go_simp
          refine hK _ _ ?_
          clear hK K
          try simp only [pTs, pTn, pTz, pTc]
          simp only [wpC]
          go_wp2
          go_roundw
          case rel =>
            have hal : Below w7.heap.size w7 (w8.alloc (.cells (encStay ⟨x.year, refN x, now⟩) 78)) := ((Below.refl _ _).drew.trans hb8).alloc hb8.size _
            have ho7 := HO7.out.belowAll hal
            have hg9' : (w8.alloc (.cells (encStay ⟨x.year, refN x, now⟩) 78)).grownBy w9 u9.ownBlock := hg9
            have hC9 : Chg w1.heap.size w3.heap.size (w8.alloc (.cells (encStay ⟨x.year, refN x, now⟩) 78)) w9 := ⟨hg9'.os, hg9'.tape, hg9'.output, hg9'.size, fun q hq hn => hg9'.block q hq (fun e => hn (.inr (ho7.block q e.symm).1))⟩
            have hL9 : LedAt w1.heap.size w3.heap.size w9 L' := (HL7.out.below hal).other hC9 (fun q hq hor => hg9'.block q hq (fun e => by
              have h1 := ho7.block q e.symm
              rcases hor with h2 | ⟨cur, h2⟩
              · omega
              · obtain ⟨cur2, h3⟩ := ho7.obj e.symm
                rcases h2 with h2 | h2
                · rw [h3] at h2; injection h2 with h2; injection h2 with _ h4 _; exact absurd h4 (by decide)
                · rw [h3] at h2; injection h2 with h2; injection h2 with _ h4 _; exact absurd h4 (by decide)))
            exact ⟨k + 1, L', by omega, by go_num, Lib.hid (by rw [HLa.out, HLA1.out]), Lib.hid hL9, Lib.hid (HC7.out.trans ((Chg.of_below hal).trans hC9)), Lib.hid (by
              have h := ho9
              rw [stK_succ HXA.out]
              unfold stayStep
              rw [HST1.out]
              simp only [HAG.out, if_neg HAL.out]
              exact h)⟩
          case measure => simp [intOf]; omega
        · have HAL : Hid (aget L.abs.wher piece = some was) := Lib.hid (by
            have h := HKN.out
            rw [← aget_isSome] at h
            obtain ⟨z, hz⟩ := Option.isSome_iff_exists.1 h
            have h2 := HWAS.out
            rw [hz] at h2
            rw [show L.abs.wher = L.wher from rfl, hz, ← h2]; rfl)
          by_cases hnw : now = was
          · have hew : eqWhere now was = true := by simp [eqWhere, hnw]
            have HNW : Hid (aget L.abs.wher piece = some now) := Lib.hid (by rw [hnw]; exact HAL.out)
            clear hnw
            go_wp2_with (first
              | ((with_reducible refine at_dst 30 ?_); refine wpList_load_at rfl 40 _ rfl bb (o + k * 29) rfl (encNote x) _ HC.out Tryz.underlying40 rfl (by kernel_rfl) ?_)
              | ((with_reducible refine at_storeTo 11 ?_); refine wpList_store_box (BoxAt.newN (n := wr.heap.size) _ _ _ rfl) rfl 40 _ _ rfl rfl (.agg (encNote x)) rfl (by kernel_rfl) rfl (one_agg (encNote_one _)) ?_; intro w4 hq hT; have bn := hq.eqv (splice_whole _ (encNote x) rfl); have hw4 : Below wr.heap.size wr w4 := ((Below.refl _ _).alloc (Nat.le_refl _) _).trans (hT.below (Nat.le_refl _)); clear hq hT; have HL4 := Lib.hid (HL.out.below hw4); have hcW4 : w4.cell? ⟨w1.heap.size + 6, 1, none⟩ = some (.map (some (w1.heap.size + 1))) := HL4.out.cW; have HO4 := Lib.hid (HO.out.belowAll hw4))
              | ((with_reducible refine at_dst 37 ?_); refine wpList_lookok rfl _ _ 95 rfl intKey Tryz.underlying95 zWhere (zeroWhere _) rfl HL4.out.wher piece HPI.out rfl ?_; rw [HWAS.out, HKN.out])
              | ((with_reducible refine at_storeTo 12 ?_); refine wpList_store_box (BoxAt.newN (n := w4.heap.size) _ _ _ rfl) rfl 66 _ _ rfl rfl (.agg (encWhere was)) rfl (by kernel_rfl) rfl (one_agg (encWhere_one _)) ?_; intro w5 hq hT; have bw := hq.eqv (splice_whole _ (encWhere was) rfl); have hw5 : Below w4.heap.size w4 w5 := ((Below.refl _ _).alloc (Nat.le_refl _) _).trans (hT.below (Nat.le_refl _)); clear hq hT; have HL5 := Lib.hid (HL4.out.below hw5); have bn5 := bn.belowAll hw5; have hw45 := hw4.trans (hw5.mono hw4.size); have HO5 := Lib.hid (HO4.out.belowAll hw5))
              | ((with_reducible refine at_dst 41 ?_); refine wpList_loadB bn5 rfl 40 _ rfl rfl (encNote x) (whole_cells _) Tryz.underlying40 rfl (by kernel_rfl) ?_)
              | (go_at_call 49; refine (enters_k w1.heap.size w3.heap.size L x w5 HPX.out HL5.out (HOKX.out w5 hw45) HCC.out).mono ?_; rintro e w6 ⟨rfl, L', hLa, hL6, hC6, hK6⟩; have hwl := HLT.out; have hw4s := hw4.size; have bn6 := bn5.keeps hK6 foreign_note (by omega); have bw6 := bw.keeps hK6 foreign_where (by omega); have HO6 := Lib.hid (HO5.out.keeps hK6 (fun _ => foreign_stay) (by omega)); have hcW6 : w6.cell? ⟨w1.heap.size + 6, 1, none⟩ = some (.map (some (w1.heap.size + 1))) := hL6.cW; have HW2 : Hid ((aget L'.wher piece).getD zWhere = now ∧ ahas L'.wher piece = true) := Lib.hid (by rw [show L'.wher = L'.abs.wher from rfl, hLa]; exact ⟨HNOW.out, HISB.out⟩); have HLa := Lib.hid hLa; have HL6 := Lib.hid hL6; have HC6 := Lib.hid hC6; clear hLa hL6 hC6 hK6)
              | ((with_reducible refine at_dst 49 ?_); refine wpList_lookok rfl _ _ 95 rfl intKey Tryz.underlying95 zWhere (zeroWhere _) rfl HL6.out.wher piece HPI.out rfl ?_; rw [HW2.out.1, HW2.out.2])
              | ((with_reducible refine at_storeTo 14 ?_); refine wpList_store_box (BoxAt.newN (n := w6.heap.size) _ _ _ rfl) rfl 66 _ _ rfl rfl (.agg (encWhere now)) rfl (by kernel_rfl) rfl (one_agg (encWhere_one _)) ?_; intro w7 hq hT; have bz := hq.eqv (splice_whole _ (encWhere now) rfl); have hw7 : Below w6.heap.size w6 w7 := ((Below.refl _ _).alloc (Nat.le_refl _) _).trans (hT.below (Nat.le_refl _)); clear hq hT; have HL7 := Lib.hid (HL6.out.below hw7); have bn7 := bn6.belowAll hw7; have bw7 := bw6.belowAll hw7; have HO7 := Lib.hid (HO6.out.belowAll hw7); have HC7 := Lib.hid ((HCh.out.trans (Chg.of_below hw45)).trans (HC6.out.trans (Chg.of_below hw7))))
              | ((with_reducible refine at_dst 57 ?_); refine wpList_loadB bz rfl 66 _ rfl rfl (encWhere now) (whole_cells _) Tryz.underlying66 rfl (by kernel_rfl) ?_)
              | ((with_reducible refine at_dst 58 ?_); refine wpList_loadB bw7 rfl 66 _ rfl rfl (encWhere was) (whole_cells _) Tryz.underlying66 rfl (by kernel_rfl) ?_))
            go_roundw
            case rel => exact ⟨k + 1, L', by omega, by go_num, Lib.hid (by rw [HLa.out, HLA1.out]), HL7, HC7, Lib.hid (by
              have h := HO7.out
              rw [stK_succ HXA.out]
              unfold stayStep
              rw [HST1.out]
              simp only [HAG.out, if_pos HNW.out]
              exact h)⟩
            case measure => simp [intOf]; omega
          · have hew : eqWhere now was = false := by simp [eqWhere, hnw]
            have HNW : Hid (¬ aget L.abs.wher piece = some now) := Lib.hid (by rw [HAL.out]; intro e; exact hnw (Option.some.inj e).symm)
            clear hnw
            go_wp2_with (first
              | ((with_reducible refine at_dst 30 ?_); refine wpList_load_at rfl 40 _ rfl bb (o + k * 29) rfl (encNote x) _ HC.out Tryz.underlying40 rfl (by kernel_rfl) ?_)
              | ((with_reducible refine at_storeTo 11 ?_); refine wpList_store_box (BoxAt.newN (n := wr.heap.size) _ _ _ rfl) rfl 40 _ _ rfl rfl (.agg (encNote x)) rfl (by kernel_rfl) rfl (one_agg (encNote_one _)) ?_; intro w4 hq hT; have bn := hq.eqv (splice_whole _ (encNote x) rfl); have hw4 : Below wr.heap.size wr w4 := ((Below.refl _ _).alloc (Nat.le_refl _) _).trans (hT.below (Nat.le_refl _)); clear hq hT; have HL4 := Lib.hid (HL.out.below hw4); have hcW4 : w4.cell? ⟨w1.heap.size + 6, 1, none⟩ = some (.map (some (w1.heap.size + 1))) := HL4.out.cW; have HO4 := Lib.hid (HO.out.belowAll hw4))
              | ((with_reducible refine at_dst 37 ?_); refine wpList_lookok rfl _ _ 95 rfl intKey Tryz.underlying95 zWhere (zeroWhere _) rfl HL4.out.wher piece HPI.out rfl ?_; rw [HWAS.out, HKN.out])
              | ((with_reducible refine at_storeTo 12 ?_); refine wpList_store_box (BoxAt.newN (n := w4.heap.size) _ _ _ rfl) rfl 66 _ _ rfl rfl (.agg (encWhere was)) rfl (by kernel_rfl) rfl (one_agg (encWhere_one _)) ?_; intro w5 hq hT; have bw := hq.eqv (splice_whole _ (encWhere was) rfl); have hw5 : Below w4.heap.size w4 w5 := ((Below.refl _ _).alloc (Nat.le_refl _) _).trans (hT.below (Nat.le_refl _)); clear hq hT; have HL5 := Lib.hid (HL4.out.below hw5); have bn5 := bn.belowAll hw5; have hw45 := hw4.trans (hw5.mono hw4.size); have HO5 := Lib.hid (HO4.out.belowAll hw5))
              | ((with_reducible refine at_dst 41 ?_); refine wpList_loadB bn5 rfl 40 _ rfl rfl (encNote x) (whole_cells _) Tryz.underlying40 rfl (by kernel_rfl) ?_)
              | (go_at_call 49; refine (enters_k w1.heap.size w3.heap.size L x w5 HPX.out HL5.out (HOKX.out w5 hw45) HCC.out).mono ?_; rintro e w6 ⟨rfl, L', hLa, hL6, hC6, hK6⟩; have hwl := HLT.out; have hw4s := hw4.size; have bn6 := bn5.keeps hK6 foreign_note (by omega); have bw6 := bw.keeps hK6 foreign_where (by omega); have HO6 := Lib.hid (HO5.out.keeps hK6 (fun _ => foreign_stay) (by omega)); have hcW6 : w6.cell? ⟨w1.heap.size + 6, 1, none⟩ = some (.map (some (w1.heap.size + 1))) := hL6.cW; have HW2 : Hid ((aget L'.wher piece).getD zWhere = now ∧ ahas L'.wher piece = true) := Lib.hid (by rw [show L'.wher = L'.abs.wher from rfl, hLa]; exact ⟨HNOW.out, HISB.out⟩); have HLa := Lib.hid hLa; have HL6 := Lib.hid hL6; have HC6 := Lib.hid hC6; clear hLa hL6 hC6 hK6)
              | ((with_reducible refine at_dst 49 ?_); refine wpList_lookok rfl _ _ 95 rfl intKey Tryz.underlying95 zWhere (zeroWhere _) rfl HL6.out.wher piece HPI.out rfl ?_; rw [HW2.out.1, HW2.out.2])
              | ((with_reducible refine at_storeTo 14 ?_); refine wpList_store_box (BoxAt.newN (n := w6.heap.size) _ _ _ rfl) rfl 66 _ _ rfl rfl (.agg (encWhere now)) rfl (by kernel_rfl) rfl (one_agg (encWhere_one _)) ?_; intro w7 hq hT; have bz := hq.eqv (splice_whole _ (encWhere now) rfl); have hw7 : Below w6.heap.size w6 w7 := ((Below.refl _ _).alloc (Nat.le_refl _) _).trans (hT.below (Nat.le_refl _)); clear hq hT; have HL7 := Lib.hid (HL6.out.below hw7); have bn7 := bn6.belowAll hw7; have bw7 := bw6.belowAll hw7; have HO7 := Lib.hid (HO6.out.belowAll hw7); have HC7 := Lib.hid ((HCh.out.trans (Chg.of_below hw45)).trans (HC6.out.trans (Chg.of_below hw7))))
              | ((with_reducible refine at_dst 57 ?_); refine wpList_loadB bz rfl 66 _ rfl rfl (encWhere now) (whole_cells _) Tryz.underlying66 rfl (by kernel_rfl) ?_)
              | ((with_reducible refine at_dst 58 ?_); refine wpList_loadB bw7 rfl 66 _ rfl rfl (encWhere was) (whole_cells _) Tryz.underlying66 rfl (by kernel_rfl) ?_))
            refine wp_region_mark 8 [(0, none), (1, none), (2, some true), (3, some true), (5, some true), (4, some false), (6, none), (7, some false), (8, some false), (9, some false)] rfl (by kernel_rfl) (by kernel_rfl) (fun d _ _ _ _ h => by cases d <;> exact h) ?_
            iterate 2 (refine wpC_pure rfl rfl (fun W => by go_simp; with_reducible rfl) ?_; simp only [pTs, pTn, pTz, pTc])
            refine wpC_fix (v := vi x.year) rfl rfl (fun W hW => by have e : W.cell? ⟨wr.heap.size, 3, none⟩ = some (vi x.year) := ((bn7.drew.belowAll hW).cell 3).trans rfl; go_simp) ?_; simp only [pTs, pTn, pTz, pTc]
            refine wpC_fix (v := .agg (encNote x)) rfl rfl (fun W hW => run_load_box (encNote x) (bn7.drew.belowAll hW) rfl (whole_cells _) Tryz.underlying40 rfl (by kernel_rfl)) ?_; simp only [pTs, pTn, pTz, pTc]
            refine wpC_fix (v := .agg (encWhere now)) rfl rfl (fun W hW => run_load_box (encWhere now) (bz.drew.belowAll hW) rfl (whole_cells _) Tryz.underlying66 rfl (by kernel_rfl)) ?_; simp only [pTs, pTn, pTz, pTc]
            refine wpC_act rfl rfl rfl (fun K hK => ?_)
            go_simp
            refine (refOf_any x _).mono ?_
            rintro e w8 ⟨rfl, hb8⟩
            refine hK _ _ hb8 ?_
            clear hK K
            try simp only [pTs, pTn, pTz, pTc]
            refine wpC_pure (v := .agg (encStay ⟨x.year, refN x, now⟩)) rfl rfl (fun W => by go_simp; simp [encRef, encWhere, encStay, refN]) ?_; simp only [pTs, pTn, pTz, pTc]
            refine wpC_act rfl rfl rfl (fun K hK => ?_)
            go_simp
            refine hK _ _ ((Below.refl _ _).alloc (Nat.le_refl _) _) ?_
            clear hK K
            try simp only [buildStay, pTs, pTn, pTz, pTc]
            refine wpC_mark rfl rfl (fun K hK => ?_)
            refine wp_append_oneAt _ _ 43 rfl w3.heap.size einfo_Stay (fun _ => rfl) (by decide) encStay_one (by decide) u9 (stK piece (effA la) k).2 rfl (((HO7.out.belowAll ((Below.refl _ _).drew)).belowAll hb8).belowAll ((Below.refl _ _).alloc (Nat.le_refl _) _)) w8.heap.size 0 1 ⟨x.year, refN x, now⟩ rfl (fun j hj => cells_of_eq (w := w8) (T := 78) (cs := encStay ⟨x.year, refN x, now⟩) rfl j hj) (by omega) (Nat.le_trans (Nat.le_trans HL7.out.le hb8.size) (by simp)) ?_
            intro v9 w9 ho9 hg9 hat9
            refine hK _ _ ?_
            clear hK K
            try simp only [pTs, pTn, pTz, pTc]
            refine wpC_past rfl rfl (fun K hK => ?_)
            go_simp
            refine hK _ _ ?_
            clear hK K
            try simp only [pTs, pTn, pTz, pTc]
            simp only [wpC]
            go_wp2
            go_roundw
            case rel =>
              have hal : Below w7.heap.size w7 (w8.alloc (.cells (encStay ⟨x.year, refN x, now⟩) 78)) := ((Below.refl _ _).drew.trans hb8).alloc hb8.size _
              have ho7 := HO7.out.belowAll hal
              have hg9' : (w8.alloc (.cells (encStay ⟨x.year, refN x, now⟩) 78)).grownBy w9 u9.ownBlock := hg9
              have hC9 : Chg w1.heap.size w3.heap.size (w8.alloc (.cells (encStay ⟨x.year, refN x, now⟩) 78)) w9 := ⟨hg9'.os, hg9'.tape, hg9'.output, hg9'.size, fun q hq hn => hg9'.block q hq (fun e => hn (.inr (ho7.block q e.symm).1))⟩
              have hL9 : LedAt w1.heap.size w3.heap.size w9 L' := (HL7.out.below hal).other hC9 (fun q hq hor => hg9'.block q hq (fun e => by
                have h1 := ho7.block q e.symm
                rcases hor with h2 | ⟨cur, h2⟩
                · omega
                · obtain ⟨cur2, h3⟩ := ho7.obj e.symm
                  rcases h2 with h2 | h2
                  · rw [h3] at h2; injection h2 with h2; injection h2 with _ h4 _; exact absurd h4 (by decide)
                  · rw [h3] at h2; injection h2 with h2; injection h2 with _ h4 _; exact absurd h4 (by decide)))
              exact ⟨k + 1, L', by omega, by go_num, Lib.hid (by rw [HLa.out, HLA1.out]), Lib.hid hL9, Lib.hid (HC7.out.trans ((Chg.of_below hal).trans hC9)), Lib.hid (by
                have h := ho9
                rw [stK_succ HXA.out]
                unfold stayStep
                rw [HST1.out]
                simp only [HAG.out, if_neg HNW.out]
                exact h)⟩
            case measure => simp [intOf]; omega
    · have hkl : k = val.length := by omega
      have HSA : Hid ((stK piece (effA la) k).2 = staysA la piece) := Lib.hid (by
        have h1 : (effA la).length = val.length := by rw [← HE1.out, List.length_map]
        unfold stK staysA
        rw [hkl, ← h1, List.take_length])
      have HO2 : Hid (OwnL encStay 10 wr w3.heap.size 78 u9 (staysA la piece)) := Lib.hid (by have h := HO.out; rw [HSA.out] at h; exact h)
      have HBE : Hid (Below w.heap.size w wr) := Lib.hid (hB3.trans (HCh.out.below (by omega) (by omega) hB3.size))
      obtain ⟨ao, co, rfl⟩ := HO2.out.shape
      have HSZ : Hid (w.heap.size ≤ w3.heap.size) := Lib.hid hB3.size
      clear HO
      by_cases hnil : staysA la piece = []
      · have hn0 : (staysA la piece).length = 0 := by rw [hnil]; rfl
        have HNI := Lib.hid hnil
        clear hnil
        rw [hn0]
        go_wp2
        refine bodyPost_ret (v := .tuple #[.slice none 0 0, .int .i64 3]) (by simp [results, Tryz.results19, go_sem]) rfl ⟨.slice none 0 0, by first | rfl | rw [if_pos HNI.out], by first | exact OwnL.nil _ _ _ _ _ | (rw [HNI.out]; exact OwnL.nil _ _ _ _ _), HBE.out⟩
      · have hn0 : ((staysA la piece).length == 0) = false := by simpa using hnil
        have hn1 : ¬ (staysA la piece).length = 0 := by simpa using hnil
        have hn2 : ((((staysA la piece).length : Nat) : Int) == 0) = false := by simpa using hnil
        have HNI := Lib.hid hnil
        clear hnil
        go_wp2
        refine bodyPost_ret (v := .tuple #[.slice ao (staysA la piece).length co, .int .i64 0]) (by simp [results, Tryz.results19, go_sem]) rfl ⟨.slice ao (staysA la piece).length co, by first | rfl | rw [if_neg HNI.out], HO2.out.base_le HSZ.out, HBE.out⟩
end Go.Proofs.YtendmmhfjhgdaaaGreat
end
section
set_option linter.unusedVariables false
set_option linter.unusedSimpArgs false
namespace Go.Proofs.YtendmmhfjhgdaaaGreat
open Go.RowKit

abbrev NOKc (W : World) (s : Sl Note) : Prop := Sl.OK 29 encNote okNote (fun _ => False) W s
theorem lens_of {l : List NoteA} (hl : SetA l) (year : Int) : (foldedA l year).wher.length ≤ 1000000 ∧ (foldedA l year).pieces.length ≤ 1000000 := by
  have h := (set_small hl year).pieces
  constructor
  · show ((keysUp (ledEnd l year).pieces).map _).length ≤ _
    rw [List.length_map, keysUp_len]; exact h
  · show ((keysUp (ledEnd l year).pieces).map _).length ≤ _
    rw [List.length_map, keysUp_len]; exact h
/-- no clock of a set is greater than the greatest -/
theorem filter_all {l : List NoteA} (hl : SetA l) : l.filter (fun x => !decide ((1048576 : Int) < x.clock)) = l := by
  refine List.filter_eq_self.2 fun x hx => ?_
  have h := hl.well x hx
  unfold wellA wellB at h
  simp only [Bool.and_eq_true, inB, decide_eq_true_eq] at h
  have h2 : x.raw.clock = x.clock := rfl
  have h3 := h.1.1.1.2.2
  rw [h2] at h3
  simp only [Bool.not_eq_true', decide_eq_false_iff_not]; omega
theorem filter_twice (l : List NoteA) (c : Int) : (l.filter fun x => !decide (c < x.clock)).filter (fun x => !decide (c < x.clock)) = l.filter fun x => !decide (c < x.clock) := by
  rw [List.filter_filter]; congr 1; funext x; simp
/-- what the law finds: the last stay by the year -/
theorem where_by {l : List NoteA} (hl : SetA l) (piece year : Int) : ∃ a b, staysA l piece = a ++ b ∧ (∀ x ∈ a, x.year ≤ year) ∧ (∀ x ∈ b, year < x.year) ∧
    ((a = [] ∧ whereIs (foldedA l year).wher piece = (zWhere, 3)) ∨ ∃ r x, a = r ++ [x] ∧ whereIs (foldedA l year).wher piece = (x.where_, 0)) := by
  obtain ⟨a, b, h1, h2, h3, h4⟩ := stays_by hl piece year
  refine ⟨a, b, h1, h2, h3, ?_⟩
  have h5 : (foldedA l year).wher.find? (fun x => decide (x.piece = piece)) = aget (ledOf l year).wher piece := told_where (placed_led hl year) _ piece
  rcases h4 with ⟨h4, h6⟩ | ⟨r, x, h4, h6⟩
  · exact .inl ⟨h4, by unfold whereIs; rw [h5, h6]⟩
  · exact .inr ⟨r, x, h4, by unfold whereIs; rw [h5, h6]⟩
/-- the last one of some stays that is not behind the year: as the law looks for it, among the first k -/
def lastBy (l : List Stay) (year : Int) (k : Nat) : Int := (l.take k).zipIdx.foldl (fun acc p => if p.1.year ≤ year then (p.2 : Int) else acc) (-1)
theorem lastBy_succ {l : List Stay} {year : Int} {k : Nat} {x : Stay} (hx : l[k]? = some x) : lastBy l year (k + 1) = if x.year ≤ year then (k : Int) else lastBy l year k := by
  have hk : k < l.length := (List.getElem?_eq_some_iff.1 hx).1
  unfold lastBy
  rw [List.take_add_one, hx, Option.toList_some, List.zipIdx_append, List.foldl_append]
  simp [List.length_take, Nat.min_eq_left (Nat.le_of_lt hk)]
theorem lastBy_cut {a b : List Stay} {year : Int} (ha : ∀ x ∈ a, x.year ≤ year) (hb : ∀ x ∈ b, year < x.year) : lastBy (a ++ b) year (a ++ b).length = (a.length : Int) - 1 := by
  have h1 : ∀ k, k ≤ a.length → lastBy (a ++ b) year k = (k : Int) - 1 := by
    intro k
    induction k with
    | zero => intro _; rfl
    | succ k ih =>
      intro hk
      have hx : (a ++ b)[k]? = some a[k] := by rw [List.getElem?_append_left (by omega), List.getElem?_eq_getElem]
      rw [lastBy_succ hx, if_pos (ha _ (List.getElem_mem _))]; omega
  have h2 : ∀ n, n ≤ b.length → lastBy (a ++ b) year (a.length + n) = (a.length : Int) - 1 := by
    intro n
    induction n with
    | zero => intro _; exact h1 _ (Nat.le_refl _)
    | succ n ih =>
      intro hn
      have hx : (a ++ b)[a.length + n]? = some b[n] := by rw [List.getElem?_append_right (by omega), Nat.add_sub_cancel_left, List.getElem?_eq_getElem]
      rw [show a.length + (n + 1) = (a.length + n) + 1 by omega, lastBy_succ hx, if_neg (by have := hb b[n] (List.getElem_mem _); omega)]
      exact ih (by omega)
  have := h2 b.length (Nat.le_refl _)
  rwa [← List.length_append] at this
theorem stay_where (x : Stay) : ∀ j, j < (encWhere x.where_).size → (encStay x)[3 + j]? = (encWhere x.where_)[j]? := fun j hj => by
  rcases j with _|_|_|_|_|_|_|j <;> first | rfl | (rw [encWhere_size] at hj; omega)
/-! the walk -/
set_option maxRecDepth 100000 in
set_option maxHeartbeats 16000000 in
theorem clocks_any (s : Sl Note) (year clock : Int) (w : World) (hs : NOKc w s) (hy : I64 year) (hc64 : I64 clock) :
    Calls Tryz.prog 11 #[.slice s.a s.val.length s.cap, .int .i64 year, .int .i64 clock] w fun e w' => e = .returned (.bool true) ∧ Below w.heap.size w w' := by
  have hroom := hs.room
  have HS := Lib.hid hs
  clear hs
  obtain ⟨a, cap, val⟩ := s
  simp only at hroom
  by_cases h150 : (150 : Int) < (val.length : Int)
  · go_enter Tryz.func11, Tryz.ntmps11
    go_wp2_with (go_at_call 12; (with_reducible refine (awake_any _).mono ?_); rintro e wa ⟨rfl, hba⟩)
    go_ret
    exact ⟨by simp, hba⟩
  by_cases hset : isSetB val = true
  rotate_left
  · have HF := Lib.hid (asOf_bad ⟨a, cap, val⟩ year 1048576 w HS.out (by simpa using hset))
    clear hset
    go_enter Tryz.func11, Tryz.ntmps11
    go_wp2_with (first
      | (go_at_call 30; (with_reducible refine HF.out.mono ?_); rintro e w1 ⟨rfl, hb1⟩)
      | ((with_reducible refine at_storeTo 7 ?_); refine wpList_store_box (BoxAt.newN (n := w1.heap.size) _ _ _ rfl) rfl 58 _ _ rfl rfl (.agg (encRegister zRegister)) rfl (by kernel_rfl) rfl (one_agg (encRegister_one _)) ?_; intro u1 hq hT; have hLu1 : Below w1.heap.size w1 u1 := ((Below.refl _ _).alloc (Nat.le_refl _) _).trans (hT.below (Nat.le_refl _)); clear hq hT; have hBu1 : Below w.heap.size w u1 := hb1.trans (hLu1.mono hb1.size))
      | (go_at_call 12; (with_reducible refine (awake_any _).mono ?_); rintro e wa ⟨rfl, hba⟩))
    go_ret
    exact ⟨by simp, hBu1.trans (hba.mono hBu1.size)⟩
  have hset' := (isSetB_iff val).1 hset
  obtain ⟨la, hla⟩ : ∃ la, val.map Note.abs = la := ⟨_, rfl⟩
  have HLA := Lib.hid hla
  have HSET : Hid (SetA la) := Lib.hid (by rw [← hla]; exact hset')
  have HSW : Hid (∀ W, Below w.heap.size w W → NOKc W ⟨a, cap, val⟩) := Lib.hid fun W hW => Sl.OK.ext (w := w) (w' := W) (fun _ h => okNote.ext h (.of_below hW)) HS.out (.of_below hW)
  have HG : Hid (∀ (c : Int) (W : World), Below w.heap.size w W → Calls Tryz.prog 30 #[.slice a val.length cap, .int .i64 year, .int .i64 c] W fun e w' => ∃ R : Register, e = .returned (.tuple #[.agg (encRegister R), .int .i64 0]) ∧ R.abs = foldedA (la.filter fun x => !decide (c < x.clock)) year ∧ okRegister (Old W.heap.size) w' R ∧ Below W.heap.size W w') := Lib.hid fun c W hW => by
    have h := asOf_any ⟨a, cap, val⟩ year c W (HSW.out W hW) hset' hy
    rw [hla] at h; exact h
  have HF : Hid (∀ (W : World), Below w.heap.size w W → Calls Tryz.prog 25 #[.slice a val.length cap] W fun e w' => ∃ R : Register, e = .returned (.tuple #[.agg (encRegister R), .int .i64 0]) ∧ R.abs = foldedA la 9999 ∧ okRegister (Old W.heap.size) w' R ∧ Below W.heap.size W w') := Lib.hid fun W hW => by
    have h := fold_set (fun _ => False) ⟨a, cap, val⟩ W (HSW.out W hW) hset'
    rw [hla] at h; exact h
  have HSY : Hid (∀ (q : Int) (W : World), Below w.heap.size w W → I64 q → staysA la q ≠ [] → Calls Tryz.prog 19 #[.slice a val.length cap, .int .i64 q] W fun e w' => ∃ s1 : Sl Stay, e = .returned (.tuple #[.slice s1.a s1.val.length s1.cap, .int .i64 0]) ∧ s1.val = staysA la q ∧ Sl.OK 10 encStay (fun _ _ _ => True) (fun _ => False) w' s1 ∧ Below W.heap.size W w') := Lib.hid fun q W hW hq hne => by
    have h := stays_any ⟨a, cap, val⟩ q W (HSW.out W hW) hset' hq
    simp only at h
    rw [hla, if_neg hne] at h
    refine h.mono ?_
    rintro e w' ⟨v, he, ho, hb⟩
    obtain ⟨s1, rfl, h2, h3, _⟩ := ho.sl (fun _ => rfl) (fun _ _ _ => True) (fun _ => False) (fun _ _ => trivial) (fun _ _ h => h) (by
      have h4 := stK_len q (effA la) (effA la).length
      have h5 : (stK q (effA la) (effA la).length).2 = staysA la q := by unfold stK staysA; rw [List.take_length]
      have h6 := eff_length la
      have h7 := HSET.out.len
      rw [h5] at h4; omega)
    exact ⟨s1, he, h2, h3, hb⟩
  have HLN := Lib.hid (lens_of HSET.out 9999)
  have HLY := Lib.hid (lens_of HSET.out year)
  have HFA : Hid (la.filter (fun x => !decide ((1048576 : Int) < x.clock)) = la) := Lib.hid (filter_all HSET.out)
  have hl150 : val.length ≤ 150 := by omega
  clear hset hset' hla
  go_enter Tryz.func11, Tryz.ntmps11
  go_wp2_with (first
    | (go_at_call 30; (with_reducible refine (HG.out 1048576 w (Below.refl _ _)).mono ?_); rintro e w1 ⟨R, rfl, hRA, hRO, hb1⟩; rw [HFA.out] at hRA; have HRA := Lib.hid hRA; have HRO := Lib.hid hRO; clear hRA hRO)
    | ((with_reducible refine at_storeTo 7 ?_); refine wpList_store_box (BoxAt.newN (n := w1.heap.size) _ _ _ rfl) rfl 58 _ _ rfl rfl (.agg (encRegister R)) rfl (by kernel_rfl) rfl (one_agg (encRegister_one _)) ?_; intro u1 hq hT; have br := hq.eqv (splice_whole _ (encRegister R) rfl); have hLu1 : Below w1.heap.size w1 u1 := ((Below.refl _ _).alloc (Nat.le_refl _) _).trans (hT.below (Nat.le_refl _)); clear hq hT; have hBu1 : Below w.heap.size w u1 := hb1.trans (hLu1.mono hb1.size))
    | (go_at_call 25; (with_reducible refine (HF.out u1 hBu1).mono ?_); rintro e w2 ⟨X, rfl, hXA, hXO, hb2⟩; have HXA := Lib.hid hXA; have HXO := Lib.hid hXO; clear hXA hXO; have br2 := br.belowAll hb2; have hBw2 : Below w.heap.size w w2 := hBu1.trans (hb2.mono hBu1.size))
    | ((with_reducible refine at_storeTo 9 ?_); refine wpList_store_box (BoxAt.newN (n := w2.heap.size) _ _ _ rfl) rfl 58 _ _ rfl rfl (.agg (encRegister X)) rfl (by kernel_rfl) rfl (one_agg (encRegister_one _)) ?_; intro u2 hq hT; have bx := hq.eqv (splice_whole _ (encRegister X) rfl); have hLu2 : Below w2.heap.size w2 u2 := ((Below.refl _ _).alloc (Nat.le_refl _) _).trans (hT.below (Nat.le_refl _)); clear hq hT; have hBu2 : Below w.heap.size w u2 := hBw2.trans (hLu2.mono hBw2.size); have br3 := br2.belowAll hLu2))
  have hC2 : Below w1.heap.size w1 u2 := (hLu1.trans (hb2.mono hLu1.size)).trans (hLu2.mono (Nat.le_trans hLu1.size hb2.size))
  have HRW : Hid (∀ W, Below u2.heap.size u2 W → Sl.OK 7 encWhere okWhere (fun _ => False) W R.wher) := Lib.hid fun W hW => (okRegister.mono (okRegister.ext HRO.out (.of_below (hC2.trans (hW.mono hC2.size)))) (fun _ h => h.elim)).2.1
  obtain ⟨⟨pa, pcap, pval⟩, hpv⟩ : ∃ s, X.pieces = s := ⟨_, rfl⟩
  have HP0 : Hid ((encRegister X)[0]? = some (.slice pa pval.length pcap)) := Lib.hid (by rw [show (encRegister X)[0]? = some X.pieces.v from rfl, hpv]; rfl)
  have HOP : Hid (Sl.OK 7 encPiece okPiece (fun _ => False) u2 ⟨pa, pcap, pval⟩) := Lib.hid (by
    have h := (okRegister.mono (okRegister.ext HXO.out (.of_below hLu2)) (fun _ h => h.elim) : okRegister (fun _ => False) u2 X).1
    rw [hpv] at h; exact h)
  have HXP : Hid (X.abs.pieces = pval.map Piece.abs) := Lib.hid (by show X.pieces.val.map Piece.abs = _; rw [hpv])
  have hpl : pval.length ≤ 1000000 := by
    have h := HLN.out.2
    rw [← HXA.out, HXP.out, List.length_map] at h; exact h
  have HRL : Hid (R.wher.val.length ≤ 1000000) := Lib.hid (by have h := HLY.out.1; rw [← HRA.out] at h; exact h)
  have HRV : Hid (R.wher.val = (foldedA la year).wher) := Lib.hid (by rw [← HRA.out]; rfl)
  have HBR := Lib.hid br3
  have HBX := Lib.hid bx
  have HBU := Lib.hid hBu2
  have hcp : u2.cell? ⟨w2.heap.size, 0, none⟩ = some (.slice pa pval.length pcap) := (bx.cell 0).trans HP0.out
  clear hpv hC2 br br2 br3 bx
  go_loopw [11] (fun i wr => ∃ m : Nat, m ≤ pval.length ∧ i = .int .i64 m ∧ BoxAt wr w1.heap.size 58 (encRegister R) ∧ BoxAt wr w2.heap.size 58 (encRegister X) ∧ Below u2.heap.size u2 wr) (fun i _ => pval.length - (intOf i).toNat)
  case atStart => exact ⟨0, Nat.zero_le _, rfl, HBR.out, HBX.out, Below.refl _ _⟩
  case round =>
    obtain ⟨m, hm, rfl, br, bx, hC⟩ := hrel
    have hB : Below w.heap.size w wr := HBU.out.trans (hC.mono HBU.out.size)
    have hcp1 : wr.cell? ⟨w2.heap.size, 0, none⟩ = some (.slice pa pval.length pcap) := (bx.cell 0).trans HP0.out
    by_cases hlt : m < pval.length
    · obtain ⟨q, hq⟩ : ∃ q, pval[m]? = some q := ⟨_, List.getElem?_eq_getElem hlt⟩
      obtain ⟨pb, po, rfl, hpb, _, hoq, hpcell⟩ := HOP.out.at hq
      have hq0 : wr.cell? ⟨pb, po + m * 7, none⟩ = some (vi q.id) := (hC.cell (p := ⟨pb, po + m * 7, none⟩) hpb).trans ((hpcell 0 (by show 0 < 7; decide)).trans rfl)
      have hm1 : (m : Int) < (pval.length : Int) := by omega
      have HQI : Hid (I64 q.id) := Lib.hid hoq.1
      have hqm : q.abs ∈ (foldedA la 9999).pieces := by rw [← HXA.out, HXP.out]; exact List.mem_map_of_mem (List.mem_of_getElem? hq)
      have HNE : Hid (staysA la q.id ≠ []) := Lib.hid (stays_known HSET.out hqm)
      have HWB := Lib.hid (where_by HSET.out q.id year)
      have HY1 := Lib.hid (HSY.out q.id wr hB HQI.out HNE.out)
      clear hq hpcell hoq hpb hqm
      go_wp2_with (go_at_call 19; (with_reducible refine HY1.out.mono ?_); rintro e w3 ⟨s1, rfl, hs1, ho1, hb3⟩; obtain ⟨sa, scap, sval⟩ := s1; have HSV : Hid (sval = staysA la q.id) := Lib.hid hs1; have HSO := Lib.hid ho1; clear hs1 ho1; have br3 := br.belowAll hb3; have bx3 := bx.belowAll hb3; have hC3 := hC.trans (hb3.mono hC.size))
      have hsroom : sval.length ≤ 4294967296 := HSO.out.room
      go_loopw [15, 16] (fun lv kv wr => ∃ k : Nat, k ≤ sval.length ∧ kv = .int .i64 k ∧ lv = .int .i64 (lastBy sval year k) ∧ Below w3.heap.size w3 wr) (fun _ kv _ => sval.length - (intOf kv).toNat)
      case atStart => exact ⟨0, Nat.zero_le _, rfl, rfl, Below.refl _ _⟩
      case round =>
        obtain ⟨k, hk, rfl, rfl, hD⟩ := hrel
        by_cases hkl : k < sval.length
        · obtain ⟨x, hx⟩ : ∃ x, sval[k]? = some x := ⟨_, List.getElem?_eq_getElem hkl⟩
          obtain ⟨bs, os, rfl, hbs, _, _, hscell⟩ := HSO.out.at hx
          have hx0 : wr.cell? ⟨bs, os + k * 10, none⟩ = some (vi x.year) := (hD.cell (p := ⟨bs, os + k * 10, none⟩) hbs).trans ((hscell 0 (by show 0 < 10; decide)).trans rfl)
          have hk1 : (k : Int) < (sval.length : Int) := by omega
          have HX := Lib.hid hx
          clear hx hscell hbs
          by_cases hxy : x.year ≤ year
          · go_wp2
            go_roundw
            case rel => exact ⟨k + 1, by omega, by go_num, by rw [lastBy_succ HX.out, if_pos hxy], hD⟩
            case measure => simp [intOf]; omega
          · go_wp2
            go_roundw
            case rel => exact ⟨k + 1, by omega, by go_num, by rw [lastBy_succ HX.out, if_neg (by omega)], hD⟩
            case measure => simp [intOf]; omega
        · have hkl2 : k = sval.length := by omega
          obtain ⟨A, Z, e1, e2, e3, e4⟩ := HWB.out
          have hlast : lastBy sval year k = (A.length : Int) - 1 := by rw [hkl2, HSV.out, e1]; exact lastBy_cut e2 e3
          have br4 := br3.belowAll hD
          have bx4 := bx3.belowAll hD
          have hC4 := hC3.trans (hD.mono hC3.size)
          have hB4 : Below w.heap.size w wr := HBU.out.trans (hC4.mono HBU.out.size)
          have HWC := Lib.hid (whereIs_any (fun _ => False) R q.id wr (HRW.out wr hC4) HRL.out)
          rw [HRV.out] at HWC
          rcases e4 with ⟨rfl, hwi⟩ | ⟨r, x, rfl, hwi⟩
          · have hl1 : lastBy sval year k = -1 := by rw [hlast]; rfl
            rw [hl1]
            rw [hwi] at HWC
            clear hlast e1 e2 e3 hwi hl1
            go_wp2_with (first
              | ((with_reducible refine at_dst 81 ?_); refine wpList_loadB br4 rfl 58 _ rfl rfl (encRegister R) (whole_cells _) Tryz.underlying58 rfl (by kernel_rfl) ?_)
              | (go_at_call 32; (with_reducible refine HWC.out.mono ?_); rintro e w5 ⟨rfl, hb5⟩; have br5 := br4.belowAll hb5; have bx5 := bx4.belowAll hb5; have hC5 := hC4.trans (hb5.mono hC4.size))
              | ((with_reducible refine at_storeTo 17 ?_); refine wpList_store_box (BoxAt.newN (n := w5.heap.size) _ _ _ rfl) rfl 66 _ _ rfl rfl (.agg (encWhere zWhere)) rfl (by kernel_rfl) rfl (one_agg (encWhere_one _)) ?_; intro w6 hq hT; have bw := hq.eqv (splice_whole _ (encWhere zWhere) rfl); have hL6 : Below w5.heap.size w5 w6 := ((Below.refl _ _).alloc (Nat.le_refl _) _).trans (hT.below (Nat.le_refl _)); clear hq hT; have br6 := br5.belowAll hL6; have bx6 := bx5.belowAll hL6; have hC6 := hC5.trans (hL6.mono hC5.size)))
            refine wp_region_ord [(0, true), (1, true), (2, true), (3, true), (4, true), (5, true), (6, true), (7, true), (8, true), (9, true), (10, true), (11, true), (12, true), (13, true), (14, true), (15, true), (16, true), (17, true), (18, true), (19, true), (20, true), (21, true), (22, true)] rfl (by kernel_rfl) (by kernel_rfl) (fun d _ _ _ _ h => by cases d <;> exact h) ?_
            iterate 10 (refine wpB_fix rfl rfl (fun W hW => by go_simp; with_reducible rfl) ?_; simp only [pTs, pTn, pTz, pTc])
            iterate 11 (refine wpB_skip rfl rfl ?_; simp only [pTs, pTn, pTz, pTc])
            iterate 2 (refine wpB_fix rfl rfl (fun W hW => by go_simp; with_reducible rfl) ?_; simp only [pTs, pTn, pTz, pTc])
            simp only [wpB]
            go_wp2
            go_roundw
            case rel => exact ⟨m + 1, by omega, by go_num, br6.drew, bx6.drew, hC6.drew⟩
            case measure => simp [intOf]; omega
          · have hl1 : lastBy sval year k = ((r.length : Nat) : Int) := by rw [hlast]; simp
            have hxs : sval[r.length]? = some x := by rw [HSV.out, e1]; simp
            have hrl : r.length < sval.length := (List.getElem?_eq_some_iff.1 hxs).1
            obtain ⟨bs, os, rfl, hbs, _, _, hscell⟩ := HSO.out.at hxs
            have HSC : Hid (∀ W, Below w3.heap.size w3 W → ∀ j, j < (encStay x).size → W.cell? ⟨bs, os + r.length * 10 + j, none⟩ = (encStay x)[j]?) := Lib.hid fun W hW j hj => (hW.cell (p := ⟨bs, os + r.length * 10 + j, none⟩) hbs).trans (hscell j hj)
            have hee : eqWhere x.where_ x.where_ = true := by simp [eqWhere]
            have hri : (r.length : Int) < (sval.length : Int) := by omega
            have hrn : ¬ (r.length : Int) < 0 := by omega
            have hrd : decide ((r.length : Int) < 0) = false := decide_eq_false hrn
            have hrg : (0 : Int) ≤ (r.length : Int) := by omega
            rw [hl1]
            rw [hwi] at HWC
            clear hlast e1 e2 e3 hwi hl1 hxs hscell hbs
            go_wp2_with (first
              | ((with_reducible refine at_dst 81 ?_); refine wpList_loadB br4 rfl 58 _ rfl rfl (encRegister R) (whole_cells _) Tryz.underlying58 rfl (by kernel_rfl) ?_)
              | (go_at_call 32; (with_reducible refine HWC.out.mono ?_); rintro e w5 ⟨rfl, hb5⟩; have br5 := br4.belowAll hb5; have bx5 := bx4.belowAll hb5; have hC5 := hC4.trans (hb5.mono hC4.size))
              | ((with_reducible refine at_storeTo 17 ?_); refine wpList_store_box (BoxAt.newN (n := w5.heap.size) _ _ _ rfl) rfl 66 _ _ rfl rfl (.agg (encWhere x.where_)) rfl (by kernel_rfl) rfl (one_agg (encWhere_one _)) ?_; intro w6 hq hT; have bw := hq.eqv (splice_whole _ (encWhere x.where_) rfl); have hL6 : Below w5.heap.size w5 w6 := ((Below.refl _ _).alloc (Nat.le_refl _) _).trans (hT.below (Nat.le_refl _)); clear hq hT; have br6 := br5.belowAll hL6; have bx6 := bx5.belowAll hL6; have hC6 := hC5.trans (hL6.mono hC5.size); have hD6 : Below w3.heap.size w3 w6 := (hD.trans (hb5.mono hD.size)).trans (hL6.mono (Nat.le_trans hD.size hb5.size))))
            refine wp_region_ord [(0, true), (1, true), (2, true), (3, true), (4, true), (5, true), (6, true), (7, true), (8, true), (9, true), (10, true), (11, true), (12, true), (13, true), (14, true), (15, true), (16, true), (17, true), (18, true), (19, true), (20, true), (21, true), (22, true)] rfl (by kernel_rfl) (by kernel_rfl) (fun d _ _ _ _ h => by cases d <;> exact h) ?_
            iterate 3 (refine wpB_fix rfl rfl (fun W hW => by go_simp; with_reducible rfl) ?_; simp only [pTs, pTn, pTz, pTc])
            iterate 2 (refine wpB_skip rfl rfl ?_; simp only [pTs, pTn, pTz, pTc])
            iterate 8 (refine wpB_fix rfl rfl (fun W hW => by go_simp; with_reducible rfl) ?_; simp only [pTs, pTn, pTz, pTc])
            refine wpB_fix (v := .agg (encWhere x.where_)) rfl rfl (fun W hW => run_load_box (encWhere x.where_) (bw.drew.belowAll hW) rfl (whole_cells _) Tryz.underlying66 rfl (by kernel_rfl)) ?_; simp only [pTs, pTn, pTz, pTc]
            iterate 4 (refine wpB_fix rfl rfl (fun W hW => by go_simp; with_reducible rfl) ?_; simp only [pTs, pTn, pTz, pTc])
            refine wpB_fix (v := .agg (encWhere x.where_)) rfl rfl (fun W hW => run_load_mem (encWhere x.where_) rfl (fun j hj => by rw [show os + r.length * 10 + 3 + j = os + r.length * 10 + (3 + j) by omega, HSC.out W (hD6.drew.trans (hW.mono hD6.drew.size)) (3 + j) (by have : j < 7 := hj; show 3 + j < 10; omega)]; exact stay_where x j hj) Tryz.underlying66 rfl (by kernel_rfl)) ?_; simp only [pTs, pTn, pTz, pTc]
            iterate 4 (refine wpB_fix rfl rfl (fun W hW => by go_simp; with_reducible rfl) ?_; simp only [pTs, pTn, pTz, pTc])
            simp only [wpB]
            go_wp2
            go_roundw
            case rel => exact ⟨m + 1, by omega, by go_num, br6.drew, bx6.drew, hC6.drew⟩
            case measure => simp [intOf]; omega
    · have hml : m = pval.length := by omega
      obtain ⟨w0, rfl⟩ : ∃ z, z = wr := ⟨_, rfl⟩
      have HB0 := Lib.hid hB
      obtain ⟨Q, hQ⟩ : ∃ Q : Note → Bool, (fun x : Note => !decide (clock < x.clock)) = Q := ⟨_, rfl⟩
      have HQ : Hid (∀ x, Q x = !decide (clock < x.clock)) := Lib.hid fun x => by rw [← hQ]
      have HQE := Lib.hid hQ
      clear hQ hm hml br bx hC hB
      go_wp2
      go_loopw [19, 20] (fun kv i wk => ∃ k : Nat, k ≤ val.length ∧ i = .int .i64 k ∧ Hid (OwnL encNote 29 wk w0.heap.size 40 kv ((val.take k).filter Q)) ∧ Below w0.heap.size w0 wk) (fun _ i _ => val.length - (intOf i).toNat)
      case atStart => exact ⟨0, Nat.zero_le _, rfl, Lib.hid (OwnL.nil _ _ _ _ _), Below.refl _ _⟩
      case round =>
        obtain ⟨k, hk, rfl, HO, hD⟩ := hrel
        have hB : Below w.heap.size w wr := HB0.out.trans (hD.mono HB0.out.size)
        by_cases hkl : k < val.length
        · obtain ⟨x, hx⟩ : ∃ x, val[k]? = some x := ⟨_, List.getElem?_eq_getElem hkl⟩
          obtain ⟨b1, o1, rfl, hb1', _, _, hcell⟩ := HS.out.at hx
          have HC : Hid (∀ j, j < (encNote x).size → wr.cell? ⟨b1, o1 + k * 29 + j, none⟩ = (encNote x)[j]?) := Lib.hid fun j hj => (hB.cell (p := ⟨b1, o1 + k * 29 + j, none⟩) hb1').trans (hcell j hj)
          have hx2 : wr.cell? ⟨b1, o1 + k * 29 + 2, none⟩ = some (vi x.clock) := (HC.out 2 (by show 2 < 29; decide)).trans rfl
          have hk1 : (k : Int) < (val.length : Int) := by omega
          have HX := Lib.hid hx
          have hfl : ((val.take k).filter Q).length ≤ 150 := Nat.le_trans (List.length_filter_le _ _) (by rw [List.length_take]; omega)
          have hD2 := hD.size
          clear hx hcell hb1'
          by_cases hxc : x.clock ≤ clock
          · have HQX : Hid (Q x = true) := Lib.hid (by rw [HQ.out, decide_eq_false (by omega)]; rfl)
            go_wp2_with (first
              | ((with_reducible refine at_dst 126 ?_); refine wpList_load_at rfl 40 _ rfl b1 (o1 + k * 29) rfl (encNote x) _ HC.out Tryz.underlying40 rfl (by kernel_rfl) ?_)
              | ((with_reducible refine at_dst 128 ?_); refine wpList_append_oneAt rfl _ _ 22 rfl w0.heap.size einfo_Note (fun _ => rfl) (by decide) encNote_one (by decide) u19 ((val.take k).filter Q) rfl (HO.out.belowAll ((Below.refl _ _).alloc (Nat.le_refl _) _)) wr.heap.size 0 1 x rfl (cells_of_eq (buildNote x)) (by omega) (Nat.le_trans hD2 (by simp)) ?_; intro v9 w9 ho9 hg9 hne9 hat9; have HO9 := Lib.hid ho9; have hD9 := hD.trans (app_below (n := w0.heap.size) HO.out hg9 (Nat.le_refl _) hD2); clear ho9 hg9 hat9))
            go_roundw
            case rel => exact ⟨k + 1, by omega, by go_num, Lib.hid (by rw [filter_take_yes HX.out HQX.out]; exact HO9.out), hD9⟩
            case measure => simp [intOf]; omega
          · have HQX : Hid (Q x = false) := Lib.hid (by rw [HQ.out, decide_eq_true (by omega)]; rfl)
            go_wp2
            go_roundw
            case rel => exact ⟨k + 1, by omega, by go_num, Lib.hid (by rw [filter_take_no HX.out HQX.out]; exact HO.out), hD⟩
            case measure => simp [intOf]; omega
        · have hkl2 : k = val.length := by omega
          have HO2 : Hid (OwnL encNote 29 wr w0.heap.size 40 u19 (val.filter Q)) := Lib.hid (by have h := HO.out; rw [hkl2, List.take_length] at h; exact h)
          obtain ⟨ks, hks, hkv, hko, _⟩ := HO2.out.sl (fun _ => rfl) okNote (fun _ => False) (fun z hz => (HSW.out wr hB).elem z (List.mem_filter.1 hz).1) (fun _ _ h => h) (by have := List.length_filter_le Q val; omega)
          subst hks
          obtain ⟨ka, kcap, kval⟩ := ks
          simp only at hkv
          have HKA : Hid (kval.map Note.abs = la.filter fun x => !decide (clock < x.clock)) := Lib.hid (by rw [hkv, ← HQE.out, filter_abs, HLA.out])
          have HKW : Hid (∀ W, Below wr.heap.size wr W → NOKc W ⟨ka, kcap, kval⟩) := Lib.hid fun W hW => Sl.OK.ext (w := wr) (w' := W) (fun _ h => okNote.ext h (.of_below hW)) hko (.of_below hW)
          have HG2 : Hid (∀ (W : World), Below wr.heap.size wr W → Calls Tryz.prog 30 #[.slice ka kval.length kcap, .int .i64 year, .int .i64 clock] W fun e w' => ∃ R : Register, e = .returned (.tuple #[.agg (encRegister R), .int .i64 0]) ∧ R.abs = foldedA (la.filter fun x => !decide (clock < x.clock)) year ∧ okRegister (Old W.heap.size) w' R ∧ Below W.heap.size W w') := Lib.hid fun W hW => by
            have h := asOf_any ⟨ka, kcap, kval⟩ year clock W (HKW.out W hW) (by show SetA (kval.map Note.abs); rw [HKA.out]; exact filter_set HSET.out _) hy
            simp only at h
            rw [HKA.out, filter_twice] at h; exact h
          have HG1 := Lib.hid (HG.out clock wr hB)
          have HBQ := Lib.hid hB
          clear hko hkv hkl2 HO HO2 hk
          go_wp2_with (first
            | (go_at_call 30; (with_reducible refine HG1.out.mono ?_); rintro e v1 ⟨R1, rfl, hA1, hO1, hb5⟩; have HA1 := Lib.hid hA1; have HO1 := Lib.hid hO1; clear hA1 hO1)
            | ((with_reducible refine at_storeTo 21 ?_); refine wpList_store_box (BoxAt.newN (n := v1.heap.size) _ _ _ rfl) rfl 58 _ _ rfl rfl (.agg (encRegister R1)) rfl (by kernel_rfl) rfl (one_agg (encRegister_one _)) ?_; intro v2 hq hT; have b1 := hq.eqv (splice_whole _ (encRegister R1) rfl); have hL2 : Below v1.heap.size v1 v2 := ((Below.refl _ _).alloc (Nat.le_refl _) _).trans (hT.below (Nat.le_refl _)); clear hq hT; have hE2 : Below wr.heap.size wr v2 := hb5.trans (hL2.mono hb5.size))
            | (go_at_call 30; (with_reducible refine (HG2.out v2 hE2).mono ?_); rintro e v3 ⟨R2, rfl, hA2, hO2, hb6⟩; have HA2 := Lib.hid hA2; have HO2' := Lib.hid hO2; clear hA2 hO2; have b13 := b1.belowAll hb6; have hE3 := hE2.trans (hb6.mono hE2.size))
            | ((with_reducible refine at_storeTo 23 ?_); refine wpList_store_box (BoxAt.newN (n := v3.heap.size) _ _ _ rfl) rfl 58 _ _ rfl rfl (.agg (encRegister R2)) rfl (by kernel_rfl) rfl (one_agg (encRegister_one _)) ?_; intro v4 hq hT; have b2 := hq.eqv (splice_whole _ (encRegister R2) rfl); have hL4 : Below v3.heap.size v3 v4 := ((Below.refl _ _).alloc (Nat.le_refl _) _).trans (hT.below (Nat.le_refl _)); clear hq hT; have b14 := b13.belowAll hL4; have hE4 := hE3.trans (hL4.mono hE3.size); have hF4 : Below v1.heap.size v1 v4 := (hL2.trans (hb6.mono hL2.size)).trans (hL4.mono (Nat.le_trans hL2.size hb6.size)))
            | ((with_reducible refine at_dst 150 ?_); refine wpList_loadB b14 rfl 58 _ rfl rfl (encRegister R1) (whole_cells _) Tryz.underlying58 rfl (by kernel_rfl) ?_)
            | ((with_reducible refine at_dst 151 ?_); refine wpList_loadB b2 rfl 58 _ rfl rfl (encRegister R2) (whole_cells _) Tryz.underlying58 rfl (by kernel_rfl) ?_)
            | (go_at_call 26; refine (refRegister_eq (fun _ => False) R1 R2 _ (okRegister.mono (okRegister.ext HO1.out (.of_below hF4)) (fun _ h => h.elim)) (okRegister.mono (okRegister.ext HO2'.out (.of_below hL4)) (fun _ h => h.elim)) (by rw [HA1.out, HA2.out])).mono ?_; rintro e v5 ⟨rfl, hb7⟩; have hE5 := hE4.trans (hb7.mono hE4.size))
            | (go_at_call 12; (with_reducible refine (awake_any _).mono ?_); rintro e wa ⟨rfl, hba⟩))
          have hB5 := HBQ.out.trans (hE5.mono HBQ.out.size)
          refine bodyPost_ret (v := .bool true) (by simp [results, Tryz.results11, go_sem]) rfl ⟨rfl, hB5.trans (hba.mono hB5.size)⟩
end Go.Proofs.YtendmmhfjhgdaaaGreat
end
