/-
  What merging two sets of notes amounts to, in plain Lean: it depends on nothing but which notes there are.
  Merging two sorted lists of notes step by step, as the reference does it, comes to their union: plain Lean.
  Notes that are added to a set, all of them judgements of one note: what they do to the register; no program in sight.
-/
import Derived.Test.YtendmmhfjhgdaaaGreatSet
set_option maxHeartbeats 16000000
set_option maxRecDepth 100000
section
set_option linter.unusedVariables false
set_option linter.unusedSimpArgs false
namespace Go.Proofs.YtendmmhfjhgdaaaGreat
def Sl.raw {α : Type} (l : List α) : Sl α := ⟨none, 0, l⟩
def PieceA.raw (x : PieceA) : Piece := ⟨x.id, x.colour, x.reverse, x.made, x.swell, Sl.raw x.gauges, Sl.raw x.marks⟩
def ItemA.raw (x : ItemA) : Item := ⟨x.id, x.kind, x.year, x.film, x.piece, x.lead, x.slack, Sl.raw x.panes, Sl.raw x.colours, x.count, Sl.raw x.sights⟩
def NoteA.raw (x : NoteA) : Note := ⟨x.bench, x.num, x.clock, x.year, x.kind, x.fix, x.piece, x.pane, x.colour, x.to, x.setting, x.ref, Sl.raw x.pieces, Sl.raw x.panes, Sl.raw (x.data.map PieceA.raw), x.item.raw⟩
theorem map_raw_abs (l : List PieceA) : (l.map PieceA.raw).map Piece.abs = l := by
 rw [List.map_map]
 exact (List.map_congr_left fun p _ => rfl).trans (List.map_id _)
theorem raw_abs (x : NoteA) : x.raw.abs = x := by
 show (⟨_, _, _, _, _, _, _, _, _, _, _, _, _, _, (x.data.map PieceA.raw).map Piece.abs, _⟩ : NoteA) = x
 rw [map_raw_abs]
 rfl
theorem chainB_map {α β : Type} (f : α → β) (r : β → β → Bool) : ∀ l : List α, chainB r (l.map f) = chainB (fun a b => r (f a) (f b)) l
 | [] => rfl
 | [_] => rfl
 | a :: b :: t => by
  have := chainB_map f r (b :: t)
  simp only [List.map_cons, chainB] at this ⊢
  rw [this]
theorem piecesUpB_raw (l : List Piece) : piecesUpB ((l.map Piece.abs).map PieceA.raw) = piecesUpB l := by
 unfold piecesUpB
 rw [List.map_map, List.all_map, chainB_map]
 rfl
theorem validPiecesB_raw (l : List Piece) (most : Int) : validPiecesB ((l.map Piece.abs).map PieceA.raw) most = validPiecesB l most := by
 unfold validPiecesB
 rw [piecesUpB_raw, List.length_map, List.length_map]
theorem usedB_raw (kind : Int) (n : Note) : usedB kind n.abs.raw = usedB kind n := by
 have h1 : n.abs.raw.data.val = (n.data.val.map Piece.abs).map PieceA.raw := rfl
 unfold usedB
 rw [h1, validPiecesB_raw, validPiecesB_raw]
 rfl
theorem bareN_raw (kind : Int) (n : Note) : (bareN kind n.abs.raw).abs = (bareN kind n).abs := by
 have hd := map_raw_abs (n.data.val.map Piece.abs)
 have key : ∀ f g : Note → Note, (∀ x, (f x).abs = (g x).abs) → True := fun _ _ _ => trivial
 unfold bareN
 split
 ·rfl
 split
 ·show (⟨_, _, _, _, _, _, _, _, _, _, _, _, _, _, ((n.data.val.map Piece.abs).map PieceA.raw).map Piece.abs, _⟩ : NoteA) = _
  rw [hd]; rfl
 split
 ·show (⟨_, _, _, _, _, _, _, _, _, _, _, _, _, _, ((n.data.val.map Piece.abs).map PieceA.raw).map Piece.abs, _⟩ : NoteA) = _
  rw [hd]; rfl
 split
 ·show (⟨_, _, _, _, _, _, _, _, _, _, _, _, _, _, ((n.data.val.map Piece.abs).map PieceA.raw).map Piece.abs, _⟩ : NoteA) = _
  rw [hd]; rfl
 split
 ·show (⟨_, _, _, _, _, _, _, _, _, _, _, _, _, _, ((n.data.val.map Piece.abs).map PieceA.raw).map Piece.abs, _⟩ : NoteA) = _
  rw [hd]; rfl
 split
 ·show (⟨_, _, _, _, _, _, _, _, _, _, _, _, _, _, ((n.data.val.map Piece.abs).map PieceA.raw).map Piece.abs, _⟩ : NoteA) = _
  rw [hd]; rfl
 split
 ·show (⟨_, _, _, _, _, _, _, _, _, _, _, _, _, _, ((n.data.val.map Piece.abs).map PieceA.raw).map Piece.abs, _⟩ : NoteA) = _
  rw [hd]; rfl
 split
 ·rfl
 ·show (⟨_, _, _, _, _, _, _, _, _, _, _, _, _, _, ((n.data.val.map Piece.abs).map PieceA.raw).map Piece.abs, _⟩ : NoteA) = _
  rw [hd]; rfl
theorem contentB_raw (kind : Int) (n : Note) : contentB kind n.abs.raw = contentB kind n := by
 unfold contentB
 rw [usedB_raw, bareN_raw]
theorem ownB_raw (n : Note) : ownB n.abs.raw = ownB n := by
 have h1 : n.abs.raw.data.val = (n.data.val.map Piece.abs).map PieceA.raw := rfl
 unfold ownB
 rw [h1, List.map_map, List.any_map]
 rfl
theorem wellB_raw (n : Note) : wellB n.abs.raw = wellB n := by
 have h1 : noRef n.abs.raw = (noRef n).abs.raw := rfl
 unfold wellB
 rw [ownB_raw, h1, contentB_raw, contentB_raw]
 rfl
def wellA (a : NoteA) : Bool := wellB a.raw
theorem wellA_abs (n : Note) : wellA n.abs = wellB n := wellB_raw n
def ltName (a b : NoteA) : Prop := ltRef a.name b.name = true
theorem ltRef_trans {a b c : Ref} (h : ltRef a b = true) (k : ltRef b c = true) : ltRef a c = true := by
 simp only [ltRef, decide_eq_true_eq, compareRefsI_lt] at *; omega
theorem ltRef_irr (a : Ref) : ltRef a a = false := by simp only [ltRef, decide_eq_false_iff_not, compareRefsI_lt]; omega
theorem compareRefsI_cases (a b : Ref) : (compareRefsI a b = -1 ∧ ltRef a b = true) ∨ (compareRefsI a b = 0 ∧ ltRef a b = false) ∨ (compareRefsI a b = 1 ∧ ltRef a b = false) := by
 simp only [ltRef, compareRefsI, orI_cons, orI_nil, cmpI]
 split <;> split <;> (try split) <;> simp_all <;> (try omega)
structure SetA (L : List NoteA) : Prop where
 len : L.length ≤ 400
 well : ∀ a ∈ L, wellA a = true
 up : L.Pairwise ltName
theorem setFrom_zero : ∀ (l : List Note) (p : Option Note) (i : Nat), (setFrom p i l).1 = 0 ↔ (∀ n ∈ l, wellB n = true) ∧ (∀ m, p = some m → ∀ n ∈ l, ltRef (refN m) (refN n) = true) ∧ l.Pairwise (fun a b => ltRef (refN a) (refN b) = true)
 | [], p, i => by simp [setFrom]
 | n :: r, p, i => by
  unfold setFrom
  by_cases hw : wellB n = false
  ·rw [if_pos hw]
   simp [hw]
  ·have hw' : wellB n = true := by simpa using hw
   rw [if_neg hw]
   cases p with
   | none =>
    simp only
    rw [setFrom_zero r (some n) (i + 1)]
    simp [hw', List.pairwise_cons]
   | some m =>
    simp only
    have ih := setFrom_zero r (some n) (i + 1)
    rcases compareRefsI_cases (refN m) (refN n) with ⟨h1, h2⟩ | ⟨h1, h2⟩ | ⟨h1, h2⟩
    ·rw [if_neg (by omega), if_neg (by omega), ih]
     constructor
     ·rintro ⟨a, b, c⟩
      refine ⟨fun x hx => ?_, fun q hq x hx => ?_, List.pairwise_cons.2 ⟨b n rfl, c⟩⟩
      ·rcases List.mem_cons.1 hx with rfl | hx
       ·exact hw'
       ·exact a x hx
      ·cases hq
       rcases List.mem_cons.1 hx with rfl | hx
       ·exact h2
       ·exact ltRef_trans h2 (b n rfl x hx)
     ·rintro ⟨a, b, c⟩
      obtain ⟨c1, c2⟩ := List.pairwise_cons.1 c
      exact ⟨fun x hx => a x (List.mem_cons_of_mem _ hx), fun q hq x hx => by cases hq; exact c1 x hx, c2⟩
    ·rw [if_pos h1]
     constructor
     ·intro h; simp at h
     ·rintro ⟨_, b, _⟩
      have := b m rfl n (by simp)
      rw [h2] at this; cases this
    ·rw [if_neg (by omega), if_pos h1]
     constructor
     ·intro h; simp at h
     ·rintro ⟨_, b, _⟩
      have := b m rfl n (by simp)
      rw [h2] at this; cases this
theorem isSetB_iff (l : List Note) : isSetB l = true ↔ SetA (l.map Note.abs) := by
 unfold isSetB checkSetR
 by_cases hl : (400 : Int) < (l.length : Int)
 ·rw [if_pos hl]
  constructor
  ·intro h; simp at h
  ·intro h
   have := h.len
   rw [List.length_map] at this
   omega
 ·rw [if_neg hl]
  simp only [beq_iff_eq]
  rw [setFrom_zero]
  constructor
  ·rintro ⟨a, _, c⟩
   refine ⟨by rw [List.length_map]; omega, fun x hx => ?_, ?_⟩
   ·obtain ⟨n, hn, rfl⟩ := List.mem_map.1 hx
    rw [wellA_abs]; exact a n hn
   ·rw [List.pairwise_map]; exact c
  ·intro h
   have hu := h.up
   rw [List.pairwise_map] at hu
   exact ⟨fun n hn => by rw [← wellA_abs]; exact h.well _ (List.mem_map_of_mem hn), fun m hm => by simp at hm, hu⟩
theorem SetA.nodup {L : List NoteA} (h : L.Pairwise ltName) : L.Nodup := h.imp fun {a b} hab e => by
 subst e
 unfold ltName at hab
 rw [ltRef_irr] at hab; cases hab
theorem name_of_up {L : List NoteA} (h : L.Pairwise ltName) {a b : NoteA} (ha : a ∈ L) (hb : b ∈ L) (e : a.name = b.name) : a = b := by
 induction L with
 | nil => simp at ha
 | cons x L ih =>
  obtain ⟨h1, h2⟩ := List.pairwise_cons.1 h
  have no : ∀ y ∈ L, x.name ≠ y.name := fun y hy e => by
   have := h1 y hy
   unfold ltName at this
   rw [e, ltRef_irr] at this; cases this
  rcases List.mem_cons.1 ha with ha | ha <;> rcases List.mem_cons.1 hb with hb | hb
  ·rw [ha, hb]
  ·rw [ha] at e; exact absurd e (no b hb)
  ·rw [hb] at e; exact absurd e.symm (no a ha)
  ·exact ih h2 ha hb
theorem up_unique {L L' : List NoteA} (h : L.Pairwise ltName) (h' : L'.Pairwise ltName) (hm : ∀ a, a ∈ L ↔ a ∈ L') : L = L' := by
 have hp : L.Perm L' := (List.perm_ext_iff_of_nodup (SetA.nodup h) (SetA.nodup h')).2 hm
 have k : ∀ a ∈ L, ∀ b ∈ L, ltRef a.name b.name = false → ltRef b.name a.name = false → a = b := by
  intro a ha b hb h1 h2
  exact name_of_up h ha hb (ltRef_eq a.name b.name h1 h2)
 have u : ∀ K : List NoteA, K.Pairwise ltName → Up (fun a b : NoteA => ltRef a.name b.name) K := by
  intro K hK
  refine List.Pairwise.imp ?_ hK
  intro a b hab
  exact ltRef_as a.name b.name hab
 exact up_eq k hp (u L h) (u L' h')
def mergeStep (m : List (Ref × NoteA)) (n : NoteA) : Option (List (Ref × NoteA)) := if ahas m n.name = true ∧ aget m n.name ≠ some n then none else some (aput m n.name n)
def mergeFrom : List (Ref × NoteA) → List NoteA → Option (List (Ref × NoteA))
 | m, [] => some m
 | m, n :: r => match mergeStep m n with | none => none | some m' => mergeFrom m' r
def mergeM (L : List NoteA) : Option (List (Ref × NoteA)) := mergeFrom [] L
def listA (m : List (Ref × NoteA)) : List NoteA := (sortBy ltRef (m.map Prod.fst)).map fun r => (aget m r).getD zNote.abs
def unionA (L : List NoteA) : List NoteA × Int := match mergeM L with | none => ([], 91) | some m => if 400 < m.length then ([], 2) else (listA m, 0)
open Classical in
noncomputable def mergeA (A B : List NoteA) : List NoteA × Int := if SetA A ∧ SetA B then unionA (A ++ B) else ([], 1)
structure MInv (m : List (Ref × NoteA)) (L : List NoteA) : Prop where
 nodup : (m.map Prod.fst).Nodup
 into : ∀ n ∈ L, aget m n.name = some n
 from_ : ∀ p ∈ m, p.2 ∈ L ∧ p.2.name = p.1
theorem MInv.step {m m' : List (Ref × NoteA)} {L : List NoteA} {n : NoteA} (h : MInv m L) (hs : mergeStep m n = some m') : MInv m' (L ++ [n]) := by
 unfold mergeStep at hs
 split at hs
 ·cases hs
 ·rename_i hno
  cases hs
  refine ⟨nodup_aput h.nodup _ _, fun x hx => ?_, fun p hp => ?_⟩
  ·rw [aget_aput]
   rcases List.mem_append.1 hx with hx | hx
   ·by_cases e : x.name = n.name
    ·rw [if_pos e]
     have h1 := h.into x hx
     rw [e] at h1
     have hh : ahas m n.name = true := by rw [← aget_isSome, h1]; rfl
     by_cases e2 : aget m n.name = some n
     ·rw [h1] at e2; exact e2.symm
     ·exact absurd ⟨hh, e2⟩ hno
    ·rw [if_neg e]; exact h.into x hx
   ·rw [List.mem_singleton.1 hx, if_pos rfl]
  ·rcases mem_aput hp with rfl | hp
   ·exact ⟨by simp, rfl⟩
   ·obtain ⟨h1, h2⟩ := h.from_ p hp
    exact ⟨List.mem_append_left _ h1, h2⟩
theorem mergeFrom_some : ∀ (r L : List NoteA) (m m' : List (Ref × NoteA)), MInv m L → mergeFrom m r = some m' → MInv m' (L ++ r)
 | [], L, m, m', h, he => by
  simp only [mergeFrom] at he; cases he
  simpa using h
 | n :: r, L, m, m', h, he => by
  simp only [mergeFrom] at he
  cases hs : mergeStep m n with
  | none => rw [hs] at he; cases he
  | some m1 =>
   rw [hs] at he
   have := mergeFrom_some r (L ++ [n]) m1 m' (h.step hs) he
   simpa using this
def ForkA (L : List NoteA) : Prop := ∃ a ∈ L, ∃ b ∈ L, a.name = b.name ∧ a ≠ b
theorem mergeFrom_none : ∀ (r L : List NoteA) (m : List (Ref × NoteA)), MInv m L → mergeFrom m r = none → ForkA (L ++ r)
 | [], L, m, h, he => by simp [mergeFrom] at he
 | n :: r, L, m, h, he => by
  simp only [mergeFrom] at he
  cases hs : mergeStep m n with
  | none =>
   unfold mergeStep at hs
   split at hs
   ·rename_i hh
    obtain ⟨hh, hne⟩ := hh
    rw [← aget_isSome] at hh
    obtain ⟨x, hx⟩ := Option.isSome_iff_exists.1 hh
    obtain ⟨h1, h2⟩ := h.from_ _ (mem_of_aget hx)
    exact ⟨x, by simp [h1], n, by simp, h2, fun e => hne (by rw [hx, e])⟩
   ·cases hs
  | some m1 =>
   rw [hs] at he
   have := mergeFrom_none r (L ++ [n]) m1 (h.step hs) he
   simpa using this
theorem MInv.nil : MInv [] [] := ⟨by simp, by simp, by simp⟩
theorem mergeM_some {L : List NoteA} {m : List (Ref × NoteA)} (h : mergeM L = some m) : MInv m L := by simpa using mergeFrom_some L [] [] m .nil h
theorem mergeM_none {L : List NoteA} (h : mergeM L = none) : ForkA L := by simpa using mergeFrom_none L [] [] .nil h
theorem MInv.noFork {m : List (Ref × NoteA)} {L : List NoteA} (h : MInv m L) : ¬ ForkA L := fun ⟨a, ha, b, hb, e, hne⟩ => hne (by
 have h1 := h.into a ha
 have h2 := h.into b hb
 rw [e, h2] at h1
 exact (Option.some.inj h1).symm)
theorem listA_len (m : List (Ref × NoteA)) : (listA m).length = m.length := by
 unfold listA
 rw [List.length_map, (sortBy_perm ltRef _).length_eq, List.length_map]
theorem MInv.mem {m : List (Ref × NoteA)} {L : List NoteA} (h : MInv m L) (a : NoteA) : a ∈ listA m ↔ a ∈ L := by
 unfold listA
 rw [List.mem_map]
 constructor
 ·rintro ⟨r, hr, rfl⟩
  obtain ⟨p, hp, rfl⟩ := List.mem_map.1 ((sortBy_perm ltRef _).mem_iff.1 hr)
  rw [aget_of_mem h.nodup hp]
  exact (h.from_ p hp).1
 ·intro ha
  refine ⟨a.name, (sortBy_perm ltRef _).mem_iff.2 (List.mem_map.2 ⟨_, mem_of_aget (h.into a ha), rfl⟩), ?_⟩
  rw [h.into a ha]; rfl
theorem MInv.up {m : List (Ref × NoteA)} {L : List NoteA} (h : MInv m L) : (listA m).Pairwise ltName := by
 have hu : Up ltRef (sortBy ltRef (m.map Prod.fst)) := sortBy_up ltRef_tr ltRef_as _
 have hn : (sortBy ltRef (m.map Prod.fst)).Nodup := (sortBy_perm ltRef _).nodup_iff.2 h.nodup
 have hname : ∀ r ∈ sortBy ltRef (m.map Prod.fst), ((aget m r).getD zNote.abs).name = r := fun r hr => by
  obtain ⟨p, hp, rfl⟩ := List.mem_map.1 ((sortBy_perm ltRef _).mem_iff.1 hr)
  rw [aget_of_mem h.nodup hp]
  exact (h.from_ p hp).2
 unfold listA
 rw [List.pairwise_map]
 have hpw : (sortBy ltRef (m.map Prod.fst)).Pairwise (fun a b => ltRef b a = false ∧ a ≠ b) := List.pairwise_and_iff.2 ⟨hu, hn⟩
 refine hpw.imp_of_mem fun {a b} ha hb hab => ?_
 unfold ltName
 rw [hname a ha, hname b hb]
 by_cases hlt : ltRef a b = true
 ·exact hlt
 ·exact absurd (ltRef_eq a b (by simpa using hlt) hab.1) hab.2
theorem unionA_congr {L L' : List NoteA} (hm : ∀ a, a ∈ L ↔ a ∈ L') : unionA L = unionA L' := by
 have hF : ForkA L ↔ ForkA L' := by
  unfold ForkA
  constructor
  ·rintro ⟨a, ha, b, hb, h⟩; exact ⟨a, (hm a).1 ha, b, (hm b).1 hb, h⟩
  ·rintro ⟨a, ha, b, hb, h⟩; exact ⟨a, (hm a).2 ha, b, (hm b).2 hb, h⟩
 unfold unionA
 cases h1 : mergeM L with
 | none =>
  cases h2 : mergeM L' with
  | none => rfl
  | some m' => exact absurd (hF.1 (mergeM_none h1)) (mergeM_some h2).noFork
 | some m =>
  cases h2 : mergeM L' with
  | none => exact absurd (hF.2 (mergeM_none h2)) (mergeM_some h1).noFork
  | some m' =>
   have i1 := mergeM_some h1
   have i2 := mergeM_some h2
   have he : listA m = listA m' := up_unique i1.up i2.up fun a => (i1.mem a).trans ((hm a).trans (i2.mem a).symm)
   have hl : m.length = m'.length := by rw [← listA_len, he, listA_len]
   simp only [he, hl]
theorem unionA_set {L : List NoteA} (h : SetA L) : unionA L = (L, 0) := by
 unfold unionA
 cases h1 : mergeM L with
 | none =>
  obtain ⟨a, ha, b, hb, e, hne⟩ := mergeM_none h1
  exact absurd (name_of_up h.up ha hb e) hne
 | some m =>
  have i1 := mergeM_some h1
  have he : listA m = L := up_unique i1.up h.up i1.mem
  have hl : m.length = L.length := by rw [← listA_len, he]
  have := h.len
  simp only [he]
  rw [if_neg (by omega)]
theorem unionA_ok {L : List NoteA} (hw : ∀ a ∈ L, wellA a = true) (h : (unionA L).2 = 0) : SetA (unionA L).1 ∧ ∀ a, a ∈ (unionA L).1 ↔ a ∈ L := by
 unfold unionA at h ⊢
 cases h1 : mergeM L with
 | none => rw [h1] at h; simp at h
 | some m =>
  rw [h1] at h
  have i1 := mergeM_some h1
  simp only at h ⊢
  by_cases hl : 400 < m.length
  ·rw [if_pos hl] at h; simp at h
  ·rw [if_neg hl]
   exact ⟨⟨by simp only [listA_len]; omega, fun a ha => hw a ((i1.mem a).1 ha), i1.up⟩, i1.mem⟩
theorem unionA_bad {L : List NoteA} (h : (unionA L).2 ≠ 0) : (unionA L).1 = [] := by
 unfold unionA at h ⊢
 cases h1 : mergeM L with
 | none => rfl
 | some m =>
  rw [h1] at h
  simp only at h ⊢
  by_cases hl : 400 < m.length
  ·rw [if_pos hl]
  ·rw [if_neg hl] at h; exact absurd rfl h
theorem mergeA_comm (A B : List NoteA) : mergeA A B = mergeA B A := by
 unfold mergeA
 by_cases h : SetA A ∧ SetA B
 ·rw [if_pos h, if_pos ⟨h.2, h.1⟩]
  exact unionA_congr fun a => by simp only [List.mem_append]; exact or_comm
 ·rw [if_neg h, if_neg fun k => h ⟨k.2, k.1⟩]
theorem mergeA_ok {A B : List NoteA} (h : (mergeA A B).2 = 0) : SetA A ∧ SetA B ∧ SetA (mergeA A B).1 ∧ ∀ a, a ∈ (mergeA A B).1 ↔ a ∈ A ∨ a ∈ B := by
 unfold mergeA at h ⊢
 by_cases hs : SetA A ∧ SetA B
 ·rw [if_pos hs] at h ⊢
  obtain ⟨h1, h2⟩ := unionA_ok (fun a ha => by
   rcases List.mem_append.1 ha with ha | ha
   ·exact hs.1.well a ha
   ·exact hs.2.well a ha) h
  exact ⟨hs.1, hs.2, h1, fun a => (h2 a).trans List.mem_append⟩
 ·rw [if_neg hs] at h; simp at h
theorem mergeA_self {A : List NoteA} (h : (mergeA A A).2 = 0) : (mergeA A A).1 = A := by
 obtain ⟨h1, _, h3, h4⟩ := mergeA_ok h
 exact up_unique h3.up h1.up fun a => (h4 a).trans (by simp)
theorem mergeA_bad {A B : List NoteA} (h : (mergeA A B).2 ≠ 0) : (mergeA A B).1 = [] := by
 unfold mergeA at h ⊢
 by_cases hs : SetA A ∧ SetA B
 ·rw [if_pos hs] at h ⊢; exact unionA_bad h
 ·rw [if_neg hs]
theorem mergeA_assoc {A B C : List NoteA} (h1 : (mergeA A B).2 = 0) (h2 : (mergeA B C).2 = 0) : mergeA (mergeA A B).1 C = mergeA A (mergeA B C).1 := by
 obtain ⟨a1, b1, x1, m1⟩ := mergeA_ok h1
 obtain ⟨b2, c2, x2, m2⟩ := mergeA_ok h2
 generalize (mergeA A B).1 = X at *
 generalize (mergeA B C).1 = Y at *
 unfold mergeA
 rw [if_pos ⟨x1, c2⟩, if_pos ⟨a1, x2⟩]
 exact unionA_congr fun a => by simp only [List.mem_append, m1, m2, or_assoc]
theorem mergeA_absorb {X A : List NoteA} (hX : SetA X) (hA : SetA A) (hm : ∀ a ∈ A, a ∈ X) : mergeA X A = (X, 0) := by
 unfold mergeA
 rw [if_pos ⟨hX, hA⟩, unionA_congr (L' := X) (fun a => by
  rw [List.mem_append]
  exact ⟨fun h => h.elim id (hm a), .inl⟩)]
 exact unionA_set hX
end Go.Proofs.YtendmmhfjhgdaaaGreat
end
section
set_option linter.unusedVariables false
set_option linter.unusedSimpArgs false
namespace Go.Proofs.YtendmmhfjhgdaaaGreat
def merge2 : List NoteA → List NoteA → List NoteA × Bool
 | [], B => (B, false)
 | a :: A, [] => (a :: A, false)
 | a :: A, b :: B =>
  if ltRef a.name b.name = true then (a :: (merge2 A (b :: B)).1, (merge2 A (b :: B)).2)
  else if a.name = b.name then (b :: (merge2 A B).1, !decide (b = a) || (merge2 A B).2)
  else (b :: (merge2 (a :: A) B).1, (merge2 (a :: A) B).2)
termination_by A B => A.length + B.length
theorem merge2_nil (B : List NoteA) : merge2 [] B = (B, false) := by unfold merge2; rfl
theorem merge2_nil' (A : List NoteA) : merge2 A [] = (A, false) := by cases A <;> unfold merge2 <;> rfl
theorem merge2_lt {a b : NoteA} (A B : List NoteA) (h : ltRef a.name b.name = true) : merge2 (a :: A) (b :: B) = (a :: (merge2 A (b :: B)).1, (merge2 A (b :: B)).2) := by
 rw [merge2, if_pos h]
theorem merge2_eq {a b : NoteA} (A B : List NoteA) (h : a.name = b.name) : merge2 (a :: A) (b :: B) = (b :: (merge2 A B).1, !decide (b = a) || (merge2 A B).2) := by
 rw [merge2, if_neg (by rw [h, ltRef_irr]; simp), if_pos h]
theorem merge2_gt {a b : NoteA} (A B : List NoteA) (h : ltRef a.name b.name = false) (h2 : ¬ a.name = b.name) : merge2 (a :: A) (b :: B) = (b :: (merge2 (a :: A) B).1, (merge2 (a :: A) B).2) := by
 rw [merge2, if_neg (by simp [h]), if_neg h2]
theorem ltRef_or {a b : Ref} (h : ltRef a b = false) (h2 : ¬ a = b) : ltRef b a = true := by
 cases hh : ltRef b a
 ·exact absurd (ltRef_eq a b h hh) h2
 ·rfl
theorem merge2_mem (A B : List NoteA) : ∀ x ∈ (merge2 A B).1, x ∈ A ∨ x ∈ B := by
 fun_induction merge2 A B with
 | case1 B => intro x hx; exact .inr hx
 | case2 a A => intro x hx; exact .inl hx
 | case3 a A b B h ih =>
  intro x hx
  rcases List.mem_cons.1 hx with rfl | hx
  ·exact .inl (by simp)
  ·exact (ih x hx).imp (List.mem_cons_of_mem _) id
 | case4 a A b B h h2 ih =>
  intro x hx
  rcases List.mem_cons.1 hx with rfl | hx
  ·exact .inr (by simp)
  ·exact (ih x hx).imp (List.mem_cons_of_mem _) (List.mem_cons_of_mem _)
 | case5 a A b B h h2 ih =>
  intro x hx
  rcases List.mem_cons.1 hx with rfl | hx
  ·exact .inr (by simp)
  ·exact (ih x hx).imp id (List.mem_cons_of_mem _)
theorem merge2_up (A B : List NoteA) : A.Pairwise ltName → B.Pairwise ltName → (merge2 A B).1.Pairwise ltName := by
 fun_induction merge2 A B with
 | case1 B => intro _ h; exact h
 | case2 a A => intro h _; exact h
 | case3 a A b B h ih =>
  intro hA hB
  obtain ⟨a1, a2⟩ := List.pairwise_cons.1 hA
  refine List.pairwise_cons.2 ⟨fun x hx => ?_, ih a2 hB⟩
  rcases merge2_mem _ _ x hx with hx | hx
  ·exact a1 x hx
  ·rcases List.mem_cons.1 hx with rfl | hx
   ·exact h
   ·exact ltRef_trans h ((List.pairwise_cons.1 hB).1 x hx)
 | case4 a A b B h h2 ih =>
  intro hA hB
  obtain ⟨a1, a2⟩ := List.pairwise_cons.1 hA
  obtain ⟨b1, b2⟩ := List.pairwise_cons.1 hB
  refine List.pairwise_cons.2 ⟨fun x hx => ?_, ih a2 b2⟩
  rcases merge2_mem _ _ x hx with hx | hx
  ·have := a1 x hx; unfold ltName at this ⊢; rw [← h2]; exact this
  ·exact b1 x hx
 | case5 a A b B h h2 ih =>
  intro hA hB
  obtain ⟨a1, a2⟩ := List.pairwise_cons.1 hA
  obtain ⟨b1, b2⟩ := List.pairwise_cons.1 hB
  refine List.pairwise_cons.2 ⟨fun x hx => ?_, ih hA b2⟩
  have hba : ltRef b.name a.name = true := ltRef_or (by simpa using h) h2
  rcases merge2_mem _ _ x hx with hx | hx
  ·rcases List.mem_cons.1 hx with rfl | hx
   ·exact hba
   ·exact ltRef_trans hba (a1 x hx)
  ·exact b1 x hx
theorem merge2_has (A B : List NoteA) : (merge2 A B).2 = false → ∀ x, x ∈ A ∨ x ∈ B → x ∈ (merge2 A B).1 := by
 fun_induction merge2 A B with
 | case1 B => intro _ x hx; simpa using hx
 | case2 a A => intro _ x hx; simpa using hx
 | case3 a A b B h ih =>
  intro hf x hx
  rcases hx with hx | hx
  ·rcases List.mem_cons.1 hx with rfl | hx
   ·simp
   ·exact List.mem_cons_of_mem _ (ih hf x (.inl hx))
  ·exact List.mem_cons_of_mem _ (ih hf x (.inr hx))
 | case4 a A b B h h2 ih =>
  intro hf x hx
  simp only [Bool.or_eq_false_iff, Bool.not_eq_false', decide_eq_true_eq] at hf
  rcases hx with hx | hx
  ·rcases List.mem_cons.1 hx with rfl | hx
   ·rw [← hf.1]; simp
   ·exact List.mem_cons_of_mem _ (ih hf.2 x (.inl hx))
  ·rcases List.mem_cons.1 hx with rfl | hx
   ·simp
   ·exact List.mem_cons_of_mem _ (ih hf.2 x (.inr hx))
 | case5 a A b B h h2 ih =>
  intro hf x hx
  rcases hx with hx | hx
  ·exact List.mem_cons_of_mem _ (ih hf x (.inl hx))
  ·rcases List.mem_cons.1 hx with rfl | hx
   ·simp
   ·exact List.mem_cons_of_mem _ (ih hf x (.inr hx))
theorem merge2_fork (A B : List NoteA) : (merge2 A B).2 = true → ∃ a ∈ A, ∃ b ∈ B, a.name = b.name ∧ a ≠ b := by
 fun_induction merge2 A B with
 | case1 B => intro h; cases h
 | case2 a A => intro h; cases h
 | case3 a A b B h ih =>
  intro hf
  obtain ⟨x, hx, y, hy, e⟩ := ih hf
  exact ⟨x, List.mem_cons_of_mem _ hx, y, hy, e⟩
 | case4 a A b B h h2 ih =>
  intro hf
  simp only [Bool.or_eq_true, Bool.not_eq_true', decide_eq_false_iff_not] at hf
  rcases hf with hf | hf
  ·exact ⟨a, by simp, b, by simp, h2, fun e => hf e.symm⟩
  ·obtain ⟨x, hx, y, hy, e⟩ := ih hf
   exact ⟨x, List.mem_cons_of_mem _ hx, y, List.mem_cons_of_mem _ hy, e⟩
 | case5 a A b B h h2 ih =>
  intro hf
  obtain ⟨x, hx, y, hy, e⟩ := ih hf
  exact ⟨x, hx, y, List.mem_cons_of_mem _ hy, e⟩
theorem union_merge2 {A B : List NoteA} (hA : SetA A) (hB : SetA B) : unionA (A ++ B) = if (merge2 A B).2 = true then ([], 91) else if 400 < (merge2 A B).1.length then ([], 2) else ((merge2 A B).1, 0) := by
 by_cases hf : (merge2 A B).2 = true
 ·rw [if_pos hf]
  obtain ⟨a, ha, b, hb, e, hne⟩ := merge2_fork A B hf
  have hk : ForkA (A ++ B) := ⟨a, List.mem_append_left _ ha, b, List.mem_append_right _ hb, e, hne⟩
  unfold unionA
  cases h1 : mergeM (A ++ B) with
  | none => rfl
  | some m => exact absurd hk (mergeM_some h1).noFork
 ·rw [if_neg hf]
  have hf' : (merge2 A B).2 = false := by simpa using hf
  have hup := merge2_up A B hA.up hB.up
  have hmem : ∀ x, x ∈ (merge2 A B).1 ↔ x ∈ A ++ B := fun x => ⟨fun h => List.mem_append.2 (merge2_mem A B x h), fun h => merge2_has A B hf' x (List.mem_append.1 h)⟩
  unfold unionA
  cases h1 : mergeM (A ++ B) with
  | none =>
   obtain ⟨a, ha, b, hb, e, hne⟩ := mergeM_none h1
   exact absurd (name_of_up hup ((hmem a).2 ha) ((hmem b).2 hb) e) hne
  | some m =>
   have i1 := mergeM_some h1
   have he : listA m = (merge2 A B).1 := up_unique i1.up hup fun a => (i1.mem a).trans (hmem a).symm
   have hl : m.length = (merge2 A B).1.length := by rw [← listA_len, he]
   simp only [he, hl]
end Go.Proofs.YtendmmhfjhgdaaaGreat
end
section
set_option linter.unusedVariables false
set_option linter.unusedSimpArgs false
namespace Go.Proofs.YtendmmhfjhgdaaaGreat
theorem filterMap_cong {α β : Type} {f g : α → Option β} : ∀ {l : List α}, (∀ x ∈ l, f x = g x) → l.filterMap f = l.filterMap g
 | [], _ => rfl
 | x :: l, h => by rw [List.filterMap_cons, List.filterMap_cons, h x (by simp), filterMap_cong fun y hy => h y (by simp [hy])]
theorem plain_from : ∀ (L : List NoteA) (m : List (Ref × Bool)) (r : Ref), L.Pairwise ltName → (∀ x ∈ L, ahas m x.name = false) →
  (aget (L.foldl (fun m n => aput m n.name (!judgingI n.kind)) m) r).getD false = ((aget m r).getD false || L.any fun x => decide (x.name = r) && !judgingI x.kind)
 | [], m, r, _, _ => by simp
 | x :: L, m, r, hu, hm => by
  obtain ⟨h1, h2⟩ := List.pairwise_cons.1 hu
  have hne : ∀ y ∈ L, y.name ≠ x.name := fun y hy e => by
   have := h1 y hy
   unfold ltName at this
   rw [e, ltRef_irr] at this; cases this
  have ih := plain_from L (aput m x.name (!judgingI x.kind)) r h2 (fun y hy => by
   rw [ahas_aput, hm y (by simp [hy])]
   simp [hne y hy])
  rw [List.foldl_cons, ih, aget_aput, List.any_cons]
  by_cases e : r = x.name
  ·subst e
   have h0 := hm x (by simp)
   rw [← aget_isSome] at h0
   have h3 : aget m x.name = none := by simpa using h0
   rw [if_pos rfl, h3]
   simp
  ·rw [if_neg e]
   have e' : ¬ x.name = r := fun h => e h.symm
   simp [e']
theorem plain_any {L : List NoteA} (h : L.Pairwise ltName) (r : Ref) : (aget (plainA L) r).getD false = L.any fun x => decide (x.name = r) && !judgingI x.kind := by
 have := plain_from L [] r h (fun x _ => rfl)
 simpa [plainA, aget] using this
theorem later_le {x j : NoteA} (h : 0 < orI [cmpI x.clock j.clock, compareRefsI x.name j.name]) : j.clock ≤ x.clock := by
 rw [orI_cons] at h
 unfold cmpI at h
 by_cases h1 : x.clock < j.clock
 ·simp [h1] at h
 ·omega
theorem earlier_le {x j : NoteA} (h : ¬ 0 < orI [cmpI x.clock j.clock, compareRefsI x.name j.name]) : x.clock ≤ j.clock := by
 rw [orI_cons] at h
 unfold cmpI at h
 by_cases h1 : j.clock < x.clock
 ·have h2 : ¬ x.clock < j.clock := by omega
  simp [h1, h2] at h
 ·omega
structure Bes (r : Ref) (a b : List (Ref × NoteA) × List Ref) (seen : List NoteA) : Prop where
 dang : a.2 = b.2
 other : ∀ q, q ≠ r → aget a.1 q = aget b.1 q
 free : aget b.1 r = none
 best : (seen = [] ∧ aget a.1 r = none) ∨ ∃ j, j ∈ seen ∧ aget a.1 r = some j ∧ ∀ x ∈ seen, x.clock ≤ j.clock
theorem Bes.add {r : Ref} {a b : List (Ref × NoteA) × List Ref} {seen : List NoteA} {p : List (Ref × Bool)} {x : NoteA} (h : Bes r a b seen) (hj : judgingI x.kind = true) (hr : x.ref = r) (hp : (aget p r).getD false = true) : Bes r (judgeA p a x) b (seen ++ [x]) := by
 subst hr
 unfold judgeA
 rw [if_pos hj, if_pos hp]
 split
 ·rename_i hc
  refine ⟨h.dang, fun q hq => ?_, h.free, .inr ⟨x, by simp, ?_, ?_⟩⟩
  ·simp only; rw [aget_aput, if_neg hq]; exact h.other q hq
  ·simp only; rw [aget_aput, if_pos rfl]
  ·intro y hy
   rcases h.best with ⟨rfl, _⟩ | ⟨j, hjs, hj2, hj3⟩
   ·simp only [List.nil_append, List.mem_singleton] at hy; subst hy; exact Int.le_refl _
   ·have hh : ahas a.1 x.ref = true := by rw [← aget_isSome, hj2]; rfl
    rw [hh, hj2] at hc
    simp only [Bool.not_true, Bool.false_or, Option.getD_some, decide_eq_true_eq] at hc
    have h1 := later_le hc
    rcases List.mem_append.1 hy with hy | hy
    ·exact Int.le_trans (hj3 y hy) h1
    ·rw [List.mem_singleton.1 hy]; exact Int.le_refl _
 ·rename_i hc
  simp only [Bool.or_eq_true, not_or, Bool.not_eq_true', Bool.not_eq_false, decide_eq_true_eq] at hc
  rcases h.best with ⟨_, hn⟩ | ⟨j, hjs, hj2, hj3⟩
  ·have hh := hc.1
   rw [← aget_isSome, hn] at hh; cases hh
  ·refine ⟨h.dang, h.other, h.free, .inr ⟨j, by simp [hjs], hj2, fun y hy => ?_⟩⟩
   rcases List.mem_append.1 hy with hy | hy
   ·exact hj3 y hy
   ·rw [List.mem_singleton.1 hy]
    have h2 := hc.2
    rw [hj2] at h2
    exact earlier_le h2
theorem Bes.both {r : Ref} {a b : List (Ref × NoteA) × List Ref} {seen : List NoteA} {p p' : List (Ref × Bool)} {x : NoteA} (h : Bes r a b seen) (hr : judgingI x.kind = true → x.ref ≠ r) (hp : ∀ q, (aget p q).getD false = (aget p' q).getD false) : Bes r (judgeA p a x) (judgeA p' b x) seen := by
 unfold judgeA
 by_cases hj : judgingI x.kind = true
 ·have hne := hr hj
  have h1 := h.other _ hne
  have h2 : ahas a.1 x.ref = ahas b.1 x.ref := by rw [← aget_isSome, ← aget_isSome, h1]
  rw [if_pos hj, if_pos hj, h2, h1, hp, h.dang]
  split
  ·refine ⟨rfl, fun q hq => ?_, ?_, ?_⟩
   ·simp only; rw [aget_aput, aget_aput]
    split
    ·rfl
    ·exact h.other q hq
   ·simp only; rw [aget_aput, if_neg (fun e => hne e.symm)]; exact h.free
   ·simp only; rw [aget_aput, if_neg (fun e => hne e.symm)]; exact h.best
  ·exact ⟨rfl, h.other, h.free, h.best⟩
 ·rw [if_neg hj, if_neg hj]; exact h
theorem Bes.all {r : Ref} {keep : NoteA → Bool} {p p' : List (Ref × Bool)} (hp : ∀ q, (aget p q).getD false = (aget p' q).getD false) (hpr : (aget p r).getD false = true) :
  ∀ (rest seen : List NoteA) (a b : List (Ref × NoteA) × List Ref), (∀ x ∈ rest, keep x = false → judgingI x.kind = true ∧ x.ref = r) → (∀ x ∈ rest, keep x = true → judgingI x.kind = true → x.ref ≠ r) → Bes r a b seen →
   Bes r (rest.foldl (judgeA p) a) ((rest.filter keep).foldl (judgeA p') b) (seen ++ rest.filter fun x => !keep x)
 | [], seen, a, b, _, _, h => by simpa using h
 | x :: rest, seen, a, b, h1, h2, h => by
  have t1 : ∀ y ∈ rest, keep y = false → judgingI y.kind = true ∧ y.ref = r := fun y hy => h1 y (by simp [hy])
  have t2 : ∀ y ∈ rest, keep y = true → judgingI y.kind = true → y.ref ≠ r := fun y hy => h2 y (by simp [hy])
  cases hk : keep x with
  | true =>
   have := Bes.all hp hpr rest seen _ _ t1 t2 (h.both (h2 x (by simp) hk) hp)
   simpa [hk] using this
  | false =>
   obtain ⟨h3, h4⟩ := h1 x (by simp) hk
   have := Bes.all hp hpr rest (seen ++ [x]) _ b t1 t2 (h.add h3 h4 hpr)
   simpa [hk] using this
structure Added (M l : List NoteA) (n : NoteA) (keep : NoteA → Bool) : Prop where
 up : M.Pairwise ltName
 is : M.filter keep = l
 add : ∀ x ∈ M, keep x = false → judgingI x.kind = true ∧ x.ref = n.name
 free : ∀ x ∈ l, judgingI x.kind = true → x.ref ≠ n.name
 mem : n ∈ l
 plain : judgingI n.kind = false
theorem Added.memM {M l : List NoteA} {n : NoteA} {keep : NoteA → Bool} (h : Added M l n keep) : n ∈ M := by
 have h1 := h.mem; rw [← h.is] at h1; exact (List.mem_filter.1 h1).1
theorem Added.upl {M l : List NoteA} {n : NoteA} {keep : NoteA → Bool} (h : Added M l n keep) : l.Pairwise ltName := by rw [← h.is]; exact h.up.filter _
theorem judges_added {M l : List NoteA} {n j : NoteA} {keep : NoteA → Bool} (h : Added M l n keep) (hj : j ∈ M) (hjk : keep j = false) (hbest : ∀ x ∈ M, keep x = false → x ≠ j → x.clock < j.clock) :
  (judgesA M).2 = (judgesA l).2 ∧ (∀ q, q ≠ n.name → aget (judgesA M).1 q = aget (judgesA l).1 q) ∧ aget (judgesA l).1 n.name = none ∧ aget (judgesA M).1 n.name = some j := by
 have hp : ∀ q, (aget (plainA M) q).getD false = (aget (plainA l) q).getD false := by
  intro q
  rw [plain_any h.up, plain_any h.upl, ← h.is, Bool.eq_iff_iff]
  simp only [List.any_eq_true, List.mem_filter, Bool.and_eq_true, decide_eq_true_eq, Bool.not_eq_true']
  constructor
  ·rintro ⟨x, hx, h1, h2⟩
   refine ⟨x, ⟨hx, ?_⟩, h1, h2⟩
   cases hk : keep x with
   | true => rfl
   | false => have := (h.add x hx hk).1; rw [h2] at this; cases this
  ·rintro ⟨x, ⟨hx, _⟩, h1, h2⟩
   exact ⟨x, hx, h1, h2⟩
 have hpr : (aget (plainA M) n.name).getD false = true := by
  rw [plain_any h.up]
  simp only [List.any_eq_true, Bool.and_eq_true, decide_eq_true_eq, Bool.not_eq_true']
  exact ⟨n, h.memM, rfl, h.plain⟩
 have hB := Bes.all (r := n.name) (keep := keep) hp hpr M [] ([], []) ([], []) h.add (fun x hx hk => h.free x (by rw [← h.is]; exact List.mem_filter.2 ⟨hx, hk⟩)) ⟨rfl, fun _ _ => rfl, rfl, .inl ⟨rfl, rfl⟩⟩
 rw [h.is, List.nil_append] at hB
 refine ⟨hB.dang, hB.other, hB.free, ?_⟩
 have hjm : j ∈ M.filter fun x => !keep x := List.mem_filter.2 ⟨hj, by simp [hjk]⟩
 rcases hB.best with ⟨h0, _⟩ | ⟨i, hi, hi2, hi3⟩
 ·rw [h0] at hjm; cases hjm
 ·obtain ⟨hiM, hik⟩ := List.mem_filter.1 hi
  have hik : keep i = false := by simpa using hik
  by_cases e : i = j
  ·rw [← e]; exact hi2
  ·have h1 := hbest i hiM hik e
   have h2 := hi3 j hjm
   omega
theorem fold_kept {M l : List NoteA} {n j : NoteA} {keep : NoteA → Bool} (h : Added M l n keep) (hj : j ∈ M) (hjk : keep j = false) (hbest : ∀ x ∈ M, keep x = false → x ≠ j → x.clock < j.clock) (hk : j.kind ≠ 10) (hf : fixedA j n = n) (year : Int) :
  foldedA M year = foldedA l year := by
 obtain ⟨h1, h2, h3, h4⟩ := judges_added h hj hjk hbest
 have he : effA M = effA l := by
  unfold effA
  congr 1
  rw [← h.is, List.filterMap_filter]
  refine filterMap_cong fun x hx => ?_
  cases hkx : keep x with
  | false => simp only [countsA, (h.add x hx hkx).1, if_true]; rfl
  | true =>
   rw [if_pos rfl, h.is]
   unfold countsA
   by_cases hjx : judgingI x.kind = true
   ·rw [if_pos hjx, if_pos hjx]
   ·rw [if_neg hjx, if_neg hjx]
    by_cases e : x.name = n.name
    ·have hxn := name_of_up h.up hx h.memM e
     subst hxn
     rw [h4, h3]
     simp only
     rw [if_neg hk, hf]
    ·rw [h2 _ e]
 unfold foldedA ledOf dangA
 rw [he, h1]
def lessA (l : List NoteA) (n : NoteA) : List NoteA := l.filter fun x => !decide (x = n)
theorem judges_less {l : List NoteA} {n : NoteA} (hup : l.Pairwise ltName) (hn : n ∈ l) (hj : judgingI n.kind = false) (hfree : ∀ x ∈ l, judgingI x.kind = true → x.ref ≠ n.name) : judgesA (lessA l n) = judgesA l := by
 have hp : ∀ q, q ≠ n.name → (aget (plainA (lessA l n)) q).getD false = (aget (plainA l) q).getD false := by
  intro q hq
  rw [plain_any hup, plain_any (L := lessA l n) (hup.filter _), Bool.eq_iff_iff]
  simp only [lessA, List.any_eq_true, List.mem_filter, Bool.and_eq_true, decide_eq_true_eq, Bool.not_eq_true', decide_eq_false_iff_not]
  constructor
  ·rintro ⟨x, ⟨hx, _⟩, h1, h2⟩
   exact ⟨x, hx, h1, h2⟩
  ·rintro ⟨x, hx, h1, h2⟩
   exact ⟨x, ⟨hx, fun e => hq (by rw [← h1, e])⟩, h1, h2⟩
 have key : ∀ (rest : List NoteA) (st : List (Ref × NoteA) × List Ref), (∀ x ∈ rest, x ∈ l) → (rest.filter fun x => !decide (x = n)).foldl (judgeA (plainA (lessA l n))) st = rest.foldl (judgeA (plainA l)) st := by
  intro rest
  induction rest with
  | nil => exact fun st _ => rfl
  | cons x rest ih =>
   intro st hx
   have ih' := fun st => ih st fun y hy => hx y (by simp [hy])
   by_cases e : x = n
   ·subst e
    have h0 : judgeA (plainA l) st x = st := by unfold judgeA; rw [if_neg (by simp [hj])]
    rw [List.filter_cons_of_neg (by simp), List.foldl_cons, h0]
    exact ih' st
   ·have h0 : judgeA (plainA (lessA l n)) st x = judgeA (plainA l) st x := by
     unfold judgeA
     by_cases hjx : judgingI x.kind = true
     ·rw [if_pos hjx, if_pos hjx, hp _ (hfree x (hx x (by simp)) hjx)]
     ·rw [if_neg hjx, if_neg hjx]
    rw [List.filter_cons_of_pos (by simp [e]), List.foldl_cons, List.foldl_cons, h0]
    exact ih' _
 exact key l ([], []) fun _ h => h
theorem fold_gone {M l : List NoteA} {n j : NoteA} {keep : NoteA → Bool} (h : Added M l n keep) (hj : j ∈ M) (hjk : keep j = false) (hbest : ∀ x ∈ M, keep x = false → x ≠ j → x.clock < j.clock) (hk : j.kind = 10) (year : Int) :
  foldedA M year = foldedA (lessA l n) year := by
 obtain ⟨h1, h2, h3, h4⟩ := judges_added h hj hjk hbest
 have hless := judges_less h.upl h.mem h.plain h.free
 have he : effA M = effA (lessA l n) := by
  unfold effA
  congr 1
  rw [hless, lessA, List.filterMap_filter, ← h.is, List.filterMap_filter]
  refine filterMap_cong fun x hx => ?_
  cases hkx : keep x with
  | false => simp only [countsA, (h.add x hx hkx).1, if_true]; rfl
  | true =>
   rw [if_pos rfl, h.is]
   unfold countsA
   by_cases hjx : judgingI x.kind = true
   ·simp only [if_pos hjx]; split <;> rfl
   ·rw [if_neg hjx]
    by_cases e : x.name = n.name
    ·have hxn := name_of_up h.up hx h.memM e
     subst hxn
     rw [h4]
     simp [hk]
    ·have hxn : ¬ x = n := fun hh => e (by rw [hh])
     rw [h2 _ e, if_pos (by simp [hxn]), if_neg hjx]
 unfold foldedA ledOf dangA
 rw [he, h1, hless]
theorem split_up {l : List NoteA} {n : NoteA} {k : Nat} (hup : l.Pairwise ltName) (hk : l[k]? = some n) : l.take k ++ l.drop (k + 1) = lessA l n := by
 obtain ⟨hkl, rfl⟩ := List.getElem?_eq_some_iff.1 hk
 have e : l = l.take k ++ l[k] :: l.drop (k + 1) := by rw [List.getElem_cons_drop, List.take_append_drop]
 have hnd := SetA.nodup hup
 generalize hn : l[k] = n at e ⊢
 generalize l.take k = a at e ⊢
 generalize l.drop (k + 1) = b at e ⊢
 subst e
 obtain ⟨h1, h2, h3⟩ := List.nodup_append.1 hnd
 have h4 := (List.nodup_cons.1 h2).1
 unfold lessA
 rw [List.filter_append, List.filter_cons_of_neg (by simp), List.filter_eq_self.2, List.filter_eq_self.2]
 ·intro x hx; simp only [Bool.not_eq_true', decide_eq_false_iff_not]; rintro rfl; exact h4 hx
 ·intro x hx; simp only [Bool.not_eq_true', decide_eq_false_iff_not]; exact fun e => h3 x hx n (by simp) e
theorem mergeA_fresh {A B : List NoteA} (hA : SetA A) (hB : SetA B) (hf : ∀ a ∈ A, ∀ b ∈ B, a.name ≠ b.name) (hlen : A.length + B.length ≤ 400) : (mergeA A B).2 = 0 := by
 unfold mergeA unionA
 rw [if_pos ⟨hA, hB⟩]
 cases h1 : mergeM (A ++ B) with
 | none =>
  obtain ⟨a, ha, b, hb, e, hne⟩ := mergeM_none h1
  refine absurd ?_ hne
  rcases List.mem_append.1 ha with ha | ha <;> rcases List.mem_append.1 hb with hb | hb
  ·exact name_of_up hA.up ha hb e
  ·exact absurd e (hf a ha b hb)
  ·exact absurd e.symm (hf b hb a ha)
  ·exact name_of_up hB.up ha hb e
 | some m =>
  have i1 := mergeM_some h1
  have hnd : (A ++ B).Nodup := List.nodup_append.2 ⟨SetA.nodup hA.up, SetA.nodup hB.up, fun a ha b hb e => hf a ha b hb (by rw [e])⟩
  have hp : (listA m).Perm (A ++ B) := (List.perm_ext_iff_of_nodup (SetA.nodup i1.up) hnd).2 i1.mem
  have hl := hp.length_eq
  rw [listA_len, List.length_append] at hl
  simp only
  rw [if_neg (by omega)]
theorem added_up {l B : List NoteA} (hA : SetA l) (hB : SetA B) (hf : ∀ a ∈ l, ∀ b ∈ B, a.name ≠ b.name) (hlen : l.length + B.length ≤ 400) {n : NoteA} (hn : n ∈ l) (hnj : judgingI n.kind = false)
  (hadd : ∀ x ∈ B, judgingI x.kind = true ∧ x.ref = n.name) (hfree : ∀ x ∈ l, judgingI x.kind = true → x.ref ≠ n.name) :
  SetA (mergeA l B).1 ∧ Added (mergeA l B).1 l n (fun x => !decide (x ∈ B)) ∧ ∀ x, x ∈ (mergeA l B).1 ↔ x ∈ l ∨ x ∈ B := by
 obtain ⟨_, _, h1, h2⟩ := mergeA_ok (mergeA_fresh hA hB hf hlen)
 refine ⟨h1, ⟨h1.up, ?_, fun x _ hk => hadd x (by simpa using hk), hfree, hn, hnj⟩, h2⟩
 refine up_unique (h1.up.filter _) hA.up fun a => ?_
 rw [List.mem_filter, h2]
 simp only [Bool.not_eq_true', decide_eq_false_iff_not]
 constructor
 ·rintro ⟨h | h, h3⟩
  ·exact h
  ·exact absurd h h3
 ·exact fun h => ⟨.inl h, fun h3 => hf a h a h3 rfl⟩
end Go.Proofs.YtendmmhfjhgdaaaGreat
end
