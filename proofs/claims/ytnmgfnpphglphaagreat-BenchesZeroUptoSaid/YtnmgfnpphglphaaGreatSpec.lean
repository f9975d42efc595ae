/-
  What package benches computes, in plain Lean: which notes count, the ledger, the register. No program in sight.
  What the panes hold, in plain Lean: the map that is filled, its keys sorted, holds what the insertion of one element after the other yields.
-/
import Derived.Test.YtnmgfnpphglphaaGreatOwn
import Derived.Test.YtnmgfnpphglphaaGreatNotes1
set_option maxHeartbeats 16000000
set_option maxRecDepth 100000
section
set_option linter.unusedVariables false
set_option linter.unusedSimpArgs false
namespace Go.Proofs.YtnmgfnpphglphaaGreat
def zItem : Item := ⟨0, 0, 0, 0, 0, 0, 0, Sl.nil, Sl.nil, ⟨0, 0⟩, Sl.nil⟩
def zNote : Note := ⟨0, 0, 0, 0, 0, 0, 0, 0, 0, 0, ⟨0, false⟩, ⟨0, 0⟩, Sl.nil, Sl.nil, Sl.nil, zItem⟩
def zWhere : Where := ⟨0, 0, 0, ⟨0, false⟩, ⟨0, 0⟩⟩
def zPiece : Piece := ⟨0, 0, 0, 0, 0, Sl.nil, Sl.nil⟩
def NoteA.name (n : NoteA) : Ref := ⟨n.bench, n.num⟩
theorem abs_name (n : Note) : n.abs.name = refN n := rfl
def judgingI (kind : Int) : Bool := decide (kind = 9) || decide (kind = 10)
def whenI (a b : NoteA) : Int := orI [cmpI a.year b.year, cmpI a.clock b.clock, compareRefsI a.name b.name]
def insBy {α : Type} (lt : α → α → Bool) (x : α) : List α → List α
 | [] => [x]
 | y :: r => if lt y x then y :: insBy lt x r else x :: y :: r
def sortBy {α : Type} (lt : α → α → Bool) (l : List α) : List α := l.foldl (fun acc x => insBy lt x acc) []
def ltInt (a b : Int) : Bool := decide (a < b)
def ltRef (a b : Ref) : Bool := decide (compareRefsI a b < 0)
def ltNote (a b : NoteA) : Bool := decide (whenI a b < 0)
def plainA (l : List NoteA) : List (Ref × Bool) := l.foldl (fun m n => aput m n.name (!judgingI n.kind)) []
def judgeA (plain : List (Ref × Bool)) (st : List (Ref × NoteA) × List Ref) (n : NoteA) : List (Ref × NoteA) × List Ref :=
 if judgingI n.kind = true then
  (if !ahas st.1 n.ref || decide (0 < orI [cmpI n.clock ((aget st.1 n.ref).getD zNote.abs).clock, compareRefsI n.name ((aget st.1 n.ref).getD zNote.abs).name]) then aput st.1 n.ref n else st.1,
   if (aget plain n.ref).getD false then st.2 else st.2 ++ [n.name])
 else st
def judgesA (l : List NoteA) : List (Ref × NoteA) × List Ref := l.foldl (judgeA (plainA l)) ([], [])
def fixedA (j n : NoteA) : NoteA := { j with bench := n.bench, num := n.num, clock := n.clock, kind := j.fix, fix := 0, ref := ⟨0, 0⟩ }
def countsA (judges : List (Ref × NoteA)) (n : NoteA) : Option NoteA :=
 if judgingI n.kind then none
 else match aget judges n.name with
  | none => some n
  | some j => if j.kind = 10 then none else some (fixedA j n)
def effA (l : List NoteA) : List NoteA := sortBy ltNote (l.filterMap (countsA (judgesA l).1))
def dangA (l : List NoteA) : List Ref := (judgesA l).2
structure LedA where
 pieces : List (Int × PieceA)
 wher : List (Int × Where)
 glass : List (Int × Int)
 items : List (Int × ItemA)
 releads : List ReleadA
 conflicts : List Ref
 trays : List (Ref × List Int)
 to_ : List (Ref × Int)
def led0 : LedA := ⟨[], [], [], [], [], [], [], []⟩
def atW (m : List (Int × Where)) (piece bench : Int) : Bool := decide (((aget m piece).getD zWhere).kind = 1) && decide (((aget m piece).getD zWhere).at_ = bench)
def benchW (piece bench : Int) : Where := ⟨piece, 1, bench, ⟨0, false⟩, ⟨0, 0⟩⟩
def putW (m : List (Int × Where)) (piece bench : Int) : List (Int × Where) := aput m piece (benchW piece bench)
def putsW (m : List (Int × Where)) (l : List Int) (bench : Int) : List (Int × Where) := l.foldl (fun m p => putW m p bench) m
def registerA (L : LedA) (l : List PieceA) (bench : Int) : LedA := { L with pieces := l.foldl (fun m p => aput m p.id p) L.pieces, wher := putsW L.wher (l.map (·.id)) bench }
def inPane (pane : Int) (w : Where) : Bool := decide (w.kind = 3) && decide (w.at_ = pane)
def holderW (m : List (Int × Where)) (pane : Int) : Option Int := (m.find? (fun p => inPane pane p.2)).map Prod.fst
def knownA (L : LedA) (l : List PieceA) : Bool := l.any fun p => ahas L.pieces p.id
def sendW (m : List (Int × Where)) (l : List Int) (r : Ref) : List (Int × Where) := l.foldl (fun m p => aput m p ⟨p, 2, 0, ⟨0, false⟩, r⟩) m
def sendA (L : LedA) (n : NoteA) : LedA × Bool :=
 if (decide (n.to = n.bench) || n.pieces.any fun p => !atW L.wher p n.bench) = true then (L, false)
 else ({ L with wher := sendW L.wher n.pieces n.name, trays := aput L.trays n.name n.pieces, to_ := aput L.to_ n.name n.to }, true)
def unpackA (L : LedA) (n : NoteA) : LedA × Bool :=
 if (!ahas L.trays n.ref || !decide ((aget L.to_ n.ref).getD 0 = n.bench)) = true then (L, false)
 else ({ L with wher := putsW L.wher ((aget L.trays n.ref).getD []) n.bench, trays := adel L.trays n.ref }, true)
def setA (L : LedA) (n : NoteA) : LedA × Bool :=
 if (!decide (n.bench = 1) || (holderW L.wher n.pane).isSome || ahas L.glass n.pane) = true then (L, false)
 else if n.piece = 0 then ({ L with glass := aput L.glass n.pane n.colour }, true)
 else if (!atW L.wher n.piece 1) = true then (L, false)
 else ({ L with wher := aput L.wher n.piece ⟨n.piece, 3, n.pane, n.setting, ⟨0, 0⟩⟩ }, true)
def takeA (L : LedA) (n : NoteA) : LedA × Bool :=
 if (!decide (n.bench = 1) || (!(holderW L.wher n.pane).isSome && !ahas L.glass n.pane)) = true then (L, false)
 else ({ L with glass := adel L.glass n.pane, wher := match holderW L.wher n.pane with | some p => putW L.wher p 1 | none => L.wher }, true)
def splitA (L : LedA) (n : NoteA) : LedA × Bool :=
 if (!atW L.wher n.piece n.bench || knownA L n.data) = true then (L, false)
 else (registerA { L with wher := aput L.wher n.piece ⟨n.piece, 4, 0, ⟨0, false⟩, ⟨0, 0⟩⟩ } n.data n.bench, true)
def findA (L : LedA) (n : NoteA) : LedA × Bool := if knownA L n.data = true then (L, false) else (registerA L n.data n.bench, true)
def recordA (L : LedA) (n : NoteA) : LedA × Bool := if ahas L.items n.item.id = true then (L, false) else ({ L with items := aput L.items n.item.id n.item }, true)
def releadA (L : LedA) (n : NoteA) : LedA × Bool := ({ L with releads := L.releads ++ [⟨n.year, n.panes⟩] }, true)
def actA (L : LedA) (n : NoteA) : LedA × Bool :=
 if n.kind = 1 then findA L n else if n.kind = 2 then recordA L n else if n.kind = 3 then releadA L n else if n.kind = 4 then sendA L n
 else if n.kind = 5 then unpackA L n else if n.kind = 6 then setA L n else if n.kind = 7 then takeA L n else splitA L n
def enterA (L : LedA) (n : NoteA) : LedA := if (actA L n).2 = true then (actA L n).1 else { (actA L n).1 with conflicts := (actA L n).1.conflicts ++ [n.name] }
def keysUp {ν : Type} (m : List (Int × ν)) : List Int := sortBy ltInt (m.map Prod.fst)
def toldA (L : LedA) : RegisterA where
 pieces := (keysUp L.pieces).map fun k => (aget L.pieces k).getD zPiece.abs
 wher := (keysUp L.pieces).map fun k => (aget L.wher k).getD zWhere
 new_ := (keysUp L.glass).map fun k => ⟨k, 0, (aget L.glass k).getD 0, ⟨0, false⟩⟩
 items := (keysUp L.items).map fun k => (aget L.items k).getD zItem.abs
 releads := L.releads
 conflicts := sortBy ltRef L.conflicts
def ledOf (l : List NoteA) (year : Int) : LedA := (effA l).foldl (fun L n => if n.year ≤ year then enterA L n else L) led0
def foldedA (l : List NoteA) (year : Int) : RegisterA := toldA { ledOf l year with conflicts := (ledOf l year).conflicts ++ dangA l }
theorem insBy_perm {α : Type} (lt : α → α → Bool) (x : α) : ∀ l : List α, (insBy lt x l).Perm (x :: l)
 | [] => .refl _
 | y :: r => by
  unfold insBy
  split
  ·exact ((insBy_perm lt x r).cons y).trans (.swap x y r)
  ·exact .refl _
theorem sortBy_perm_aux {α : Type} (lt : α → α → Bool) : ∀ (l acc : List α), (l.foldl (fun acc x => insBy lt x acc) acc).Perm (acc ++ l)
 | [], acc => by simp
 | x :: l, acc => by
  simp only [List.foldl_cons]
  exact (sortBy_perm_aux lt l _).trans (((insBy_perm lt x acc).append_right l).trans (by simpa using (List.perm_middle (l₁ := acc) (l₂ := l) (a := x)).symm))
theorem sortBy_perm {α : Type} (lt : α → α → Bool) (l : List α) : (sortBy lt l).Perm l := sortBy_perm_aux lt l []
def Up {α : Type} (lt : α → α → Bool) (l : List α) : Prop := l.Pairwise (fun a b => lt b a = false)
theorem insBy_up {α : Type} {lt : α → α → Bool} (htr : ∀ a b c, lt b a = false → lt c b = false → lt c a = false) (has : ∀ a b, lt a b = true → lt b a = false) (x : α) :
  ∀ l : List α, Up lt l → Up lt (insBy lt x l)
 | [], _ => by simp [insBy, Up]
 | y :: r, h => by
  obtain ⟨h1, h2⟩ := List.pairwise_cons.1 h
  unfold insBy
  split
  ·rename_i hyx
   refine List.pairwise_cons.2 ⟨fun z hz => ?_, insBy_up htr has x r h2⟩
   rcases List.mem_cons.1 ((insBy_perm lt x r).mem_iff.1 hz) with rfl | hz
   ·exact has _ _ hyx
   ·exact h1 z hz
  ·rename_i hyx
   have hyx' : lt y x = false := by simpa using hyx
   refine List.pairwise_cons.2 ⟨fun z hz => ?_, h⟩
   rcases List.mem_cons.1 hz with rfl | hz
   ·exact hyx'
   ·exact htr x y z hyx' (h1 z hz)
theorem sortBy_up_aux {α : Type} {lt : α → α → Bool} (htr : ∀ a b c, lt b a = false → lt c b = false → lt c a = false) (has : ∀ a b, lt a b = true → lt b a = false) :
  ∀ (l acc : List α), Up lt acc → Up lt (l.foldl (fun acc x => insBy lt x acc) acc)
 | [], _, h => h
 | x :: l, acc, h => sortBy_up_aux htr has l _ (insBy_up htr has x acc h)
theorem sortBy_up {α : Type} {lt : α → α → Bool} (htr : ∀ a b c, lt b a = false → lt c b = false → lt c a = false) (has : ∀ a b, lt a b = true → lt b a = false) (l : List α) : Up lt (sortBy lt l) :=
 sortBy_up_aux htr has l [] .nil
theorem up_eq {α : Type} {lt : α → α → Bool} : ∀ {l l' : List α}, (∀ a ∈ l, ∀ b ∈ l, lt a b = false → lt b a = false → a = b) → l.Perm l' → Up lt l → Up lt l' → l = l'
 | [], l', _, hp, _, _ => (List.Perm.nil_eq hp)
 | x :: r, l', heq, hp, h, h' => by
  cases l' with
  | nil => exact absurd hp.symm (by simp)
  | cons y r' =>
   obtain ⟨h1, h2⟩ := List.pairwise_cons.1 h
   obtain ⟨h3, h4⟩ := List.pairwise_cons.1 h'
   have hxy : x = y := by
    have hx : x ∈ y :: r' := hp.mem_iff.1 (by simp)
    have hy : y ∈ x :: r := hp.mem_iff.2 (by simp)
    rcases List.mem_cons.1 hx with rfl | hx
    ·rfl
    ·rcases List.mem_cons.1 hy with rfl | hy
     ·rfl
     ·exact heq x (by simp) y (List.mem_cons_of_mem _ hy) (h3 x hx) (h1 y hy)
   subst hxy
   rw [up_eq (fun a ha b hb => heq a (List.mem_cons_of_mem _ ha) b (List.mem_cons_of_mem _ hb)) ((List.perm_cons x).1 hp) h2 h4]
theorem cmpI_lt {x y : Int} : cmpI x y < 0 ↔ x < y := by unfold cmpI; split <;> (try split) <;> omega
theorem cmpI_eq {x y : Int} : cmpI x y = 0 ↔ x = y := by unfold cmpI; split <;> (try split) <;> omega
theorem orI_cons (x : Int) (l : List Int) : orI (x :: l) = if x = 0 then orI l else x := by
 by_cases h : x = 0
 ·simp [orI, List.find?, h]
 ·have : (x != 0) = true := by simp [h]
  simp [orI, List.find?, h, this]
theorem orI_nil : orI [] = 0 := rfl
theorem compareRefsI_lt {a b : Ref} : compareRefsI a b < 0 ↔ a.bench < b.bench ∨ a.bench = b.bench ∧ a.num < b.num := by
 simp only [compareRefsI, orI_cons, orI_nil]
 by_cases h : a.bench = b.bench
 ·rw [if_pos (cmpI_eq.2 h)]
  by_cases h2 : a.num = b.num
  ·rw [if_pos (cmpI_eq.2 h2)]; omega
  ·rw [if_neg (fun e => h2 (cmpI_eq.1 e)), cmpI_lt]; omega
 ·rw [if_neg (fun e => h (cmpI_eq.1 e)), cmpI_lt]; omega
theorem compareRefsI_eq {a b : Ref} : compareRefsI a b = 0 ↔ a = b := by
 obtain ⟨a1, a2⟩ := a; obtain ⟨b1, b2⟩ := b
 simp only [compareRefsI, orI_cons, orI_nil, Ref.mk.injEq]
 by_cases h : a1 = b1
 ·rw [if_pos (cmpI_eq.2 h)]
  by_cases h2 : a2 = b2
  ·rw [if_pos (cmpI_eq.2 h2)]; simp [h, h2]
  ·rw [if_neg (fun e => h2 (cmpI_eq.1 e))]; simp [h2, cmpI_eq]
 ·rw [if_neg (fun e => h (cmpI_eq.1 e))]; simp [h, cmpI_eq]
theorem whenI_lt {a b : NoteA} : whenI a b < 0 ↔ a.year < b.year ∨ a.year = b.year ∧ (a.clock < b.clock ∨ a.clock = b.clock ∧ (a.bench < b.bench ∨ a.bench = b.bench ∧ a.num < b.num)) := by
 simp only [whenI, orI_cons, orI_nil]
 by_cases h : a.year = b.year
 ·rw [if_pos (cmpI_eq.2 h)]
  by_cases h2 : a.clock = b.clock
  ·rw [if_pos (cmpI_eq.2 h2)]
   by_cases h3 : compareRefsI a.name b.name = 0
   ·have h4 := compareRefsI_eq.1 h3
    simp only [NoteA.name, Ref.mk.injEq] at h4
    rw [if_pos h3]; omega
   ·rw [if_neg h3, compareRefsI_lt]; simp only [NoteA.name]; omega
  ·rw [if_neg (fun e => h2 (cmpI_eq.1 e)), cmpI_lt]; omega
 ·rw [if_neg (fun e => h (cmpI_eq.1 e)), cmpI_lt]; omega
theorem ltRef_tr (a b c : Ref) (h : ltRef b a = false) (k : ltRef c b = false) : ltRef c a = false := by
 simp only [ltRef, decide_eq_false_iff_not, compareRefsI_lt] at *; omega
theorem ltRef_as (a b : Ref) (h : ltRef a b = true) : ltRef b a = false := by
 simp only [ltRef, decide_eq_false_iff_not, decide_eq_true_eq, compareRefsI_lt] at *; omega
theorem ltRef_eq (a b : Ref) (h : ltRef a b = false) (k : ltRef b a = false) : a = b := by
 obtain ⟨a1, a2⟩ := a; obtain ⟨b1, b2⟩ := b
 simp only [ltRef, decide_eq_false_iff_not, compareRefsI_lt, Ref.mk.injEq] at *; omega
theorem ltNote_tr (a b c : NoteA) (h : ltNote b a = false) (k : ltNote c b = false) : ltNote c a = false := by
 simp only [ltNote, decide_eq_false_iff_not, whenI_lt] at *; omega
theorem ltNote_as (a b : NoteA) (h : ltNote a b = true) : ltNote b a = false := by
 simp only [ltNote, decide_eq_false_iff_not, decide_eq_true_eq, whenI_lt] at *; omega
theorem ltInt_tr (a b c : Int) (h : ltInt b a = false) (k : ltInt c b = false) : ltInt c a = false := by
 simp only [ltInt, decide_eq_false_iff_not] at *; omega
theorem ltInt_as (a b : Int) (h : ltInt a b = true) : ltInt b a = false := by
 simp only [ltInt, decide_eq_false_iff_not, decide_eq_true_eq] at *; omega
theorem ltInt_eq (a b : Int) (h : ltInt a b = false) (k : ltInt b a = false) : a = b := by
 simp only [ltInt, decide_eq_false_iff_not] at *; omega
end Go.Proofs.YtnmgfnpphglphaaGreat
end
section
set_option linter.unusedVariables false
set_option linter.unusedSimpArgs false
namespace Go.Proofs.YtnmgfnpphglphaaGreat
def zHeld : Held := ⟨0, 0, 0, ⟨0, false⟩⟩
def firstH (m : List (Int × Held)) (h : Held) : List (Int × Held) := if ahas m h.pane = true then m else aput m h.pane h
def holdingR : List Held → Held → List Held
 | [], h => [h]
 | y :: r, h => if y.pane < h.pane then y :: holdingR r h else if y.pane = h.pane then y :: r else h :: y :: r
theorem holdingR_in : ∀ (l : List Held) (h : Held), (l.Pairwise fun a b => a.pane < b.pane) → (∃ x ∈ l, x.pane = h.pane) → holdingR l h = l
 | [], _, _, hx => by simp at hx
 | y :: r, h, hs, hx => by
  obtain ⟨h1, h2⟩ := List.pairwise_cons.1 hs
  obtain ⟨x, hx, he⟩ := hx
  unfold holdingR
  rcases List.mem_cons.1 hx with rfl | hx
  ·rw [if_neg (by omega), if_pos he]
  ·have := h1 x hx
   rw [if_pos (by omega), holdingR_in r h h2 ⟨x, hx, he⟩]
theorem holdingR_out : ∀ (l : List Held) (h : Held), (l.Pairwise fun a b => a.pane < b.pane) → (∀ x ∈ l, x.pane ≠ h.pane) → (holdingR l h).Perm (h :: l) ∧ (holdingR l h).Pairwise (fun a b => a.pane < b.pane)
 | [], h, _, _ => by simp [holdingR]
 | y :: r, h, hs, hx => by
  obtain ⟨h1, h2⟩ := List.pairwise_cons.1 hs
  have hne := hx y (by simp)
  unfold holdingR
  by_cases hlt : y.pane < h.pane
  ·obtain ⟨p1, p2⟩ := holdingR_out r h h2 (fun x hx' => hx x (List.mem_cons_of_mem _ hx'))
   rw [if_pos hlt]
   refine ⟨(p1.cons y).trans (.swap h y r), List.pairwise_cons.2 ⟨fun z hz => ?_, p2⟩⟩
   rcases List.mem_cons.1 (p1.mem_iff.1 hz) with rfl | hz
   ·exact hlt
   ·exact h1 z hz
  ·rw [if_neg hlt, if_neg hne]
   refine ⟨.refl _, List.pairwise_cons.2 ⟨fun z hz => ?_, hs⟩⟩
   rcases List.mem_cons.1 hz with rfl | hz
   ·omega
   ·have := h1 z hz; omega
structure FoundInv (m : List (Int × Held)) (R : List Held) : Prop where
 keys : ∀ p ∈ m, p.2.pane = p.1
 nodup : (m.map Prod.fst).Nodup
 perm : R.Perm (m.map Prod.snd)
 up : R.Pairwise fun a b => a.pane < b.pane
theorem FoundInv.step {m : List (Int × Held)} {R : List Held} (h : FoundInv m R) (x : Held) : FoundInv (firstH m x) (holdingR R x) := by
 unfold firstH
 by_cases hh : ahas m x.pane = true
 ·rw [if_pos hh]
  obtain ⟨p, hp, he⟩ := List.mem_map.1 (ahas_iff.1 hh)
  rw [holdingR_in R x h.up ⟨p.2, h.perm.mem_iff.2 (List.mem_map.2 ⟨p, hp, rfl⟩), (h.keys p hp).trans he⟩]
  exact h
 ·have hh' := ahas_false.1 (by simpa using hh)
  rw [if_neg hh]
  have hout : ∀ y ∈ R, y.pane ≠ x.pane := fun y hy => by
   obtain ⟨p, hp, rfl⟩ := List.mem_map.1 (h.perm.mem_iff.1 hy)
   rw [h.keys p hp]; exact hh' p hp
  obtain ⟨p1, p2⟩ := holdingR_out R x h.up hout
  have hput : aput m x.pane x = m ++ [(x.pane, x)] := by simp [aput, hh]
  refine ⟨fun p hp => ?_, nodup_aput h.nodup _ _, ?_, p2⟩
  ·rcases mem_aput hp with rfl | hp
   ·rfl
   ·exact h.keys p hp
  ·rw [hput, List.map_append]
   exact p1.trans ((h.perm.cons x).trans (by simpa using (List.perm_append_singleton x (m.map Prod.snd)).symm))
end Go.Proofs.YtnmgfnpphglphaaGreat
end
