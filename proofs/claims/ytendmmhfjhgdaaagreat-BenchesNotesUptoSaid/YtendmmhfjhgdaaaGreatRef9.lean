/-
  What the reference calls the same, where one of two lists may be empty: ints, pieces, items, notes: walked.
  What the content of a kind uses, as the reference lays it out: walked.
-/
import Derived.Test.YtendmmhfjhgdaaaGreatRefSame
import Derived.Test.YtendmmhfjhgdaaaGreatRef3
section
set_option linter.unusedVariables false
set_option linter.unusedSimpArgs false
namespace Go.Proofs.YtendmmhfjhgdaaaGreat
open Go.RowKit

theorem refInts_len (a a2 : Option Addr) (l c l2 c2 : Nat) (w : World) (h : l ≠ l2) :
    Calls Tryz.prog 60 #[.slice a l c, .slice a2 l2 c2] w fun e w' => e = .returned (.bool false) ∧ Below w.heap.size w w' := by
  have hne : (((l : Int)) != (l2 : Int)) = true := by simp; omega
  go_enter Tryz.func60, Tryz.ntmps60
  go_wp2
  go_ret
  exact ⟨by simp, Below.refl _ _⟩

theorem refPieces_len (a a2 : Option Addr) (l c l2 c2 : Nat) (w : World) (h : l ≠ l2) :
    Calls Tryz.prog 58 #[.slice a l c, .slice a2 l2 c2] w fun e w' => e = .returned (.bool false) ∧ Below w.heap.size w w' := by
  have hne : (((l : Int)) != (l2 : Int)) = true := by simp; omega
  go_enter Tryz.func58, Tryz.ntmps58
  go_wp2
  go_ret
  exact ⟨by simp, Below.refl _ _⟩

/-- equal, or empty -/
def EqNil {α : Type} (s t : List α) : Prop := t = s ∨ t = []
theorem EqNil.len {α : Type} {s t : List α} (h : EqNil s t) (hne : t ≠ s) : s.length ≠ t.length := by
  rcases h with rfl | rfl
  · exact absurd rfl hne
  · intro e; exact hne (List.eq_nil_of_length_eq_zero (by simpa using e)).symm
theorem refInts_u (D : Nat → Prop) (s t : Sl Int) (w : World) (hs : s.OK 1 encInt okInt D w) (ht : t.OK 1 encInt okInt D w) (h : EqNil s.val t.val) :
    Calls Tryz.prog 60 #[.slice s.a s.val.length s.cap, .slice t.a t.val.length t.cap] w fun e w' => e = .returned (.bool (decide (t.val = s.val))) ∧ Below w.heap.size w w' := by
  by_cases he : t.val = s.val
  · rw [decide_eq_true he]; exact refInts_any D s t w hs ht he
  · rw [decide_eq_false he]; exact refInts_len _ _ _ _ _ _ w (h.len he)
theorem refPieces_u (D : Nat → Prop) (s t : Sl Piece) (w : World) (hs : s.OK 7 encPiece okPiece D w) (ht : t.OK 7 encPiece okPiece D w) (h : EqNil s.val t.val) :
    Calls Tryz.prog 58 #[.slice s.a s.val.length s.cap, .slice t.a t.val.length t.cap] w fun e w' => e = .returned (.bool (decide (t.val.map Piece.abs = s.val.map Piece.abs))) ∧ Below w.heap.size w w' := by
  by_cases he : t.val = s.val
  · rw [decide_eq_true (by rw [he])]; exact refPieces_any D s t w hs ht (by rw [he])
  · have hl := h.len he
    rw [decide_eq_false (fun e => hl (by have := congrArg List.length e; simpa using this.symm))]
    exact refPieces_len _ _ _ _ _ _ w hl

set_option maxRecDepth 20000 in
set_option maxHeartbeats 2000000 in
theorem refItem_d0 (a b : Item) (w : World)  (hd : ¬ a.id = b.id) :
    Calls Tryz.prog 59 #[.agg (encItem a), .agg (encItem b)] w fun e w' => e = .returned (.bool false) ∧ Below w.heap.size w w' := by
  have m : (a.id != b.id) = true := by simpa using hd
  clear hd
  go_enter Tryz.func59, Tryz.ntmps59
  go_wp2
  go_ret
  exact ⟨by simp, ((Below.refl _ _).alloc (Nat.le_refl _) _).alloc (by simp) _⟩

set_option maxRecDepth 20000 in
set_option maxHeartbeats 2000000 in
theorem refItem_d1 (a b : Item) (w : World) (h0 : b.id = a.id) (hd : ¬ a.kind = b.kind) :
    Calls Tryz.prog 59 #[.agg (encItem a), .agg (encItem b)] w fun e w' => e = .returned (.bool false) ∧ Below w.heap.size w w' := by
  have m : (a.kind != b.kind) = true := by simpa using hd
  have m0 : (a.id != b.id) = false := by simp [h0]
  clear hd h0
  go_enter Tryz.func59, Tryz.ntmps59
  go_wp2
  go_ret
  exact ⟨by simp, ((Below.refl _ _).alloc (Nat.le_refl _) _).alloc (by simp) _⟩

set_option maxRecDepth 20000 in
set_option maxHeartbeats 2000000 in
theorem refItem_d2 (a b : Item) (w : World) (h0 : b.id = a.id) (h1 : b.kind = a.kind) (hd : ¬ a.year = b.year) :
    Calls Tryz.prog 59 #[.agg (encItem a), .agg (encItem b)] w fun e w' => e = .returned (.bool false) ∧ Below w.heap.size w w' := by
  have m : (a.year != b.year) = true := by simpa using hd
  have m0 : (a.id != b.id) = false := by simp [h0]
  have m1 : (a.kind != b.kind) = false := by simp [h1]
  clear hd h0 h1
  go_enter Tryz.func59, Tryz.ntmps59
  go_wp2
  go_ret
  exact ⟨by simp, ((Below.refl _ _).alloc (Nat.le_refl _) _).alloc (by simp) _⟩

set_option maxRecDepth 20000 in
set_option maxHeartbeats 2000000 in
theorem refItem_d3 (a b : Item) (w : World) (h0 : b.id = a.id) (h1 : b.kind = a.kind) (h2 : b.year = a.year) (hd : ¬ a.film = b.film) :
    Calls Tryz.prog 59 #[.agg (encItem a), .agg (encItem b)] w fun e w' => e = .returned (.bool false) ∧ Below w.heap.size w w' := by
  have m : (a.film != b.film) = true := by simpa using hd
  have m0 : (a.id != b.id) = false := by simp [h0]
  have m1 : (a.kind != b.kind) = false := by simp [h1]
  have m2 : (a.year != b.year) = false := by simp [h2]
  clear hd h0 h1 h2
  go_enter Tryz.func59, Tryz.ntmps59
  go_wp2
  go_ret
  exact ⟨by simp, ((Below.refl _ _).alloc (Nat.le_refl _) _).alloc (by simp) _⟩

set_option maxRecDepth 20000 in
set_option maxHeartbeats 2000000 in
theorem refItem_d4 (a b : Item) (w : World) (h0 : b.id = a.id) (h1 : b.kind = a.kind) (h2 : b.year = a.year) (h3 : b.film = a.film) (hd : ¬ a.piece = b.piece) :
    Calls Tryz.prog 59 #[.agg (encItem a), .agg (encItem b)] w fun e w' => e = .returned (.bool false) ∧ Below w.heap.size w w' := by
  have m : (a.piece != b.piece) = true := by simpa using hd
  have m0 : (a.id != b.id) = false := by simp [h0]
  have m1 : (a.kind != b.kind) = false := by simp [h1]
  have m2 : (a.year != b.year) = false := by simp [h2]
  have m3 : (a.film != b.film) = false := by simp [h3]
  clear hd h0 h1 h2 h3
  go_enter Tryz.func59, Tryz.ntmps59
  go_wp2
  go_ret
  exact ⟨by simp, ((Below.refl _ _).alloc (Nat.le_refl _) _).alloc (by simp) _⟩

set_option maxRecDepth 20000 in
set_option maxHeartbeats 2000000 in
theorem refItem_d5 (a b : Item) (w : World) (h0 : b.id = a.id) (h1 : b.kind = a.kind) (h2 : b.year = a.year) (h3 : b.film = a.film) (h4 : b.piece = a.piece) (hd : ¬ a.lead = b.lead) :
    Calls Tryz.prog 59 #[.agg (encItem a), .agg (encItem b)] w fun e w' => e = .returned (.bool false) ∧ Below w.heap.size w w' := by
  have m : (a.lead != b.lead) = true := by simpa using hd
  have m0 : (a.id != b.id) = false := by simp [h0]
  have m1 : (a.kind != b.kind) = false := by simp [h1]
  have m2 : (a.year != b.year) = false := by simp [h2]
  have m3 : (a.film != b.film) = false := by simp [h3]
  have m4 : (a.piece != b.piece) = false := by simp [h4]
  clear hd h0 h1 h2 h3 h4
  go_enter Tryz.func59, Tryz.ntmps59
  go_wp2
  go_ret
  exact ⟨by simp, ((Below.refl _ _).alloc (Nat.le_refl _) _).alloc (by simp) _⟩

set_option maxRecDepth 20000 in
set_option maxHeartbeats 2000000 in
theorem refItem_d6 (a b : Item) (w : World) (h0 : b.id = a.id) (h1 : b.kind = a.kind) (h2 : b.year = a.year) (h3 : b.film = a.film) (h4 : b.piece = a.piece) (h5 : b.lead = a.lead) (hd : ¬ a.slack = b.slack) :
    Calls Tryz.prog 59 #[.agg (encItem a), .agg (encItem b)] w fun e w' => e = .returned (.bool false) ∧ Below w.heap.size w w' := by
  have m : (a.slack != b.slack) = true := by simpa using hd
  have m0 : (a.id != b.id) = false := by simp [h0]
  have m1 : (a.kind != b.kind) = false := by simp [h1]
  have m2 : (a.year != b.year) = false := by simp [h2]
  have m3 : (a.film != b.film) = false := by simp [h3]
  have m4 : (a.piece != b.piece) = false := by simp [h4]
  have m5 : (a.lead != b.lead) = false := by simp [h5]
  clear hd h0 h1 h2 h3 h4 h5
  go_enter Tryz.func59, Tryz.ntmps59
  go_wp2
  go_ret
  exact ⟨by simp, ((Below.refl _ _).alloc (Nat.le_refl _) _).alloc (by simp) _⟩

set_option maxRecDepth 20000 in
set_option maxHeartbeats 2000000 in
theorem refItem_d7 (a b : Item) (w : World) (h0 : b.id = a.id) (h1 : b.kind = a.kind) (h2 : b.year = a.year) (h3 : b.film = a.film) (h4 : b.piece = a.piece) (h5 : b.lead = a.lead) (h6 : b.slack = a.slack) (hd : ¬ a.count = b.count) :
    Calls Tryz.prog 59 #[.agg (encItem a), .agg (encItem b)] w fun e w' => e = .returned (.bool false) ∧ Below w.heap.size w w' := by
  have m : eqSpan a.count b.count = false := by simpa [eqSpan] using hd
  have m0 : (a.id != b.id) = false := by simp [h0]
  have m1 : (a.kind != b.kind) = false := by simp [h1]
  have m2 : (a.year != b.year) = false := by simp [h2]
  have m3 : (a.film != b.film) = false := by simp [h3]
  have m4 : (a.piece != b.piece) = false := by simp [h4]
  have m5 : (a.lead != b.lead) = false := by simp [h5]
  have m6 : (a.slack != b.slack) = false := by simp [h6]
  clear hd h0 h1 h2 h3 h4 h5 h6
  go_enter Tryz.func59, Tryz.ntmps59
  go_wp2
  go_ret
  exact ⟨by simp, ((Below.refl _ _).alloc (Nat.le_refl _) _).alloc (by simp) _⟩

set_option maxRecDepth 20000 in
set_option maxHeartbeats 2000000 in
theorem refNote_d0 (a b : Note) (w : World)  (hd : ¬ a.bench = b.bench) :
    Calls Tryz.prog 56 #[.agg (encNote a), .agg (encNote b)] w fun e w' => e = .returned (.bool false) ∧ Below w.heap.size w w' := by
  have m : (a.bench != b.bench) = true := by simpa using hd
  clear hd
  go_enter Tryz.func56, Tryz.ntmps56
  go_wp2
  go_ret
  exact ⟨by simp, ((Below.refl _ _).alloc (Nat.le_refl _) _).alloc (by simp) _⟩

set_option maxRecDepth 20000 in
set_option maxHeartbeats 2000000 in
theorem refNote_d1 (a b : Note) (w : World) (h0 : b.bench = a.bench) (hd : ¬ a.num = b.num) :
    Calls Tryz.prog 56 #[.agg (encNote a), .agg (encNote b)] w fun e w' => e = .returned (.bool false) ∧ Below w.heap.size w w' := by
  have m : (a.num != b.num) = true := by simpa using hd
  have m0 : (a.bench != b.bench) = false := by simp [h0]
  clear hd h0
  go_enter Tryz.func56, Tryz.ntmps56
  go_wp2
  go_ret
  exact ⟨by simp, ((Below.refl _ _).alloc (Nat.le_refl _) _).alloc (by simp) _⟩

set_option maxRecDepth 20000 in
set_option maxHeartbeats 2000000 in
theorem refNote_d2 (a b : Note) (w : World) (h0 : b.bench = a.bench) (h1 : b.num = a.num) (hd : ¬ a.clock = b.clock) :
    Calls Tryz.prog 56 #[.agg (encNote a), .agg (encNote b)] w fun e w' => e = .returned (.bool false) ∧ Below w.heap.size w w' := by
  have m : (a.clock != b.clock) = true := by simpa using hd
  have m0 : (a.bench != b.bench) = false := by simp [h0]
  have m1 : (a.num != b.num) = false := by simp [h1]
  clear hd h0 h1
  go_enter Tryz.func56, Tryz.ntmps56
  go_wp2
  go_ret
  exact ⟨by simp, ((Below.refl _ _).alloc (Nat.le_refl _) _).alloc (by simp) _⟩

set_option maxRecDepth 20000 in
set_option maxHeartbeats 2000000 in
theorem refNote_d3 (a b : Note) (w : World) (h0 : b.bench = a.bench) (h1 : b.num = a.num) (h2 : b.clock = a.clock) (hd : ¬ a.year = b.year) :
    Calls Tryz.prog 56 #[.agg (encNote a), .agg (encNote b)] w fun e w' => e = .returned (.bool false) ∧ Below w.heap.size w w' := by
  have m : (a.year != b.year) = true := by simpa using hd
  have m0 : (a.bench != b.bench) = false := by simp [h0]
  have m1 : (a.num != b.num) = false := by simp [h1]
  have m2 : (a.clock != b.clock) = false := by simp [h2]
  clear hd h0 h1 h2
  go_enter Tryz.func56, Tryz.ntmps56
  go_wp2
  go_ret
  exact ⟨by simp, ((Below.refl _ _).alloc (Nat.le_refl _) _).alloc (by simp) _⟩

set_option maxRecDepth 20000 in
set_option maxHeartbeats 2000000 in
theorem refNote_d4 (a b : Note) (w : World) (h0 : b.bench = a.bench) (h1 : b.num = a.num) (h2 : b.clock = a.clock) (h3 : b.year = a.year) (hd : ¬ a.kind = b.kind) :
    Calls Tryz.prog 56 #[.agg (encNote a), .agg (encNote b)] w fun e w' => e = .returned (.bool false) ∧ Below w.heap.size w w' := by
  have m : (a.kind != b.kind) = true := by simpa using hd
  have m0 : (a.bench != b.bench) = false := by simp [h0]
  have m1 : (a.num != b.num) = false := by simp [h1]
  have m2 : (a.clock != b.clock) = false := by simp [h2]
  have m3 : (a.year != b.year) = false := by simp [h3]
  clear hd h0 h1 h2 h3
  go_enter Tryz.func56, Tryz.ntmps56
  go_wp2
  go_ret
  exact ⟨by simp, ((Below.refl _ _).alloc (Nat.le_refl _) _).alloc (by simp) _⟩

set_option maxRecDepth 20000 in
set_option maxHeartbeats 2000000 in
theorem refNote_d5 (a b : Note) (w : World) (h0 : b.bench = a.bench) (h1 : b.num = a.num) (h2 : b.clock = a.clock) (h3 : b.year = a.year) (h4 : b.kind = a.kind) (hd : ¬ a.fix = b.fix) :
    Calls Tryz.prog 56 #[.agg (encNote a), .agg (encNote b)] w fun e w' => e = .returned (.bool false) ∧ Below w.heap.size w w' := by
  have m : (a.fix != b.fix) = true := by simpa using hd
  have m0 : (a.bench != b.bench) = false := by simp [h0]
  have m1 : (a.num != b.num) = false := by simp [h1]
  have m2 : (a.clock != b.clock) = false := by simp [h2]
  have m3 : (a.year != b.year) = false := by simp [h3]
  have m4 : (a.kind != b.kind) = false := by simp [h4]
  clear hd h0 h1 h2 h3 h4
  go_enter Tryz.func56, Tryz.ntmps56
  go_wp2
  go_ret
  exact ⟨by simp, ((Below.refl _ _).alloc (Nat.le_refl _) _).alloc (by simp) _⟩

set_option maxRecDepth 20000 in
set_option maxHeartbeats 2000000 in
theorem refNote_d6 (a b : Note) (w : World) (h0 : b.bench = a.bench) (h1 : b.num = a.num) (h2 : b.clock = a.clock) (h3 : b.year = a.year) (h4 : b.kind = a.kind) (h5 : b.fix = a.fix) (hd : ¬ a.piece = b.piece) :
    Calls Tryz.prog 56 #[.agg (encNote a), .agg (encNote b)] w fun e w' => e = .returned (.bool false) ∧ Below w.heap.size w w' := by
  have m : (a.piece != b.piece) = true := by simpa using hd
  have m0 : (a.bench != b.bench) = false := by simp [h0]
  have m1 : (a.num != b.num) = false := by simp [h1]
  have m2 : (a.clock != b.clock) = false := by simp [h2]
  have m3 : (a.year != b.year) = false := by simp [h3]
  have m4 : (a.kind != b.kind) = false := by simp [h4]
  have m5 : (a.fix != b.fix) = false := by simp [h5]
  clear hd h0 h1 h2 h3 h4 h5
  go_enter Tryz.func56, Tryz.ntmps56
  go_wp2
  go_ret
  exact ⟨by simp, ((Below.refl _ _).alloc (Nat.le_refl _) _).alloc (by simp) _⟩

set_option maxRecDepth 20000 in
set_option maxHeartbeats 2000000 in
theorem refNote_d7 (a b : Note) (w : World) (h0 : b.bench = a.bench) (h1 : b.num = a.num) (h2 : b.clock = a.clock) (h3 : b.year = a.year) (h4 : b.kind = a.kind) (h5 : b.fix = a.fix) (h6 : b.piece = a.piece) (hd : ¬ a.pane = b.pane) :
    Calls Tryz.prog 56 #[.agg (encNote a), .agg (encNote b)] w fun e w' => e = .returned (.bool false) ∧ Below w.heap.size w w' := by
  have m : (a.pane != b.pane) = true := by simpa using hd
  have m0 : (a.bench != b.bench) = false := by simp [h0]
  have m1 : (a.num != b.num) = false := by simp [h1]
  have m2 : (a.clock != b.clock) = false := by simp [h2]
  have m3 : (a.year != b.year) = false := by simp [h3]
  have m4 : (a.kind != b.kind) = false := by simp [h4]
  have m5 : (a.fix != b.fix) = false := by simp [h5]
  have m6 : (a.piece != b.piece) = false := by simp [h6]
  clear hd h0 h1 h2 h3 h4 h5 h6
  go_enter Tryz.func56, Tryz.ntmps56
  go_wp2
  go_ret
  exact ⟨by simp, ((Below.refl _ _).alloc (Nat.le_refl _) _).alloc (by simp) _⟩

set_option maxRecDepth 20000 in
set_option maxHeartbeats 2000000 in
theorem refNote_d8 (a b : Note) (w : World) (h0 : b.bench = a.bench) (h1 : b.num = a.num) (h2 : b.clock = a.clock) (h3 : b.year = a.year) (h4 : b.kind = a.kind) (h5 : b.fix = a.fix) (h6 : b.piece = a.piece) (h7 : b.pane = a.pane) (hd : ¬ a.colour = b.colour) :
    Calls Tryz.prog 56 #[.agg (encNote a), .agg (encNote b)] w fun e w' => e = .returned (.bool false) ∧ Below w.heap.size w w' := by
  have m : (a.colour != b.colour) = true := by simpa using hd
  have m0 : (a.bench != b.bench) = false := by simp [h0]
  have m1 : (a.num != b.num) = false := by simp [h1]
  have m2 : (a.clock != b.clock) = false := by simp [h2]
  have m3 : (a.year != b.year) = false := by simp [h3]
  have m4 : (a.kind != b.kind) = false := by simp [h4]
  have m5 : (a.fix != b.fix) = false := by simp [h5]
  have m6 : (a.piece != b.piece) = false := by simp [h6]
  have m7 : (a.pane != b.pane) = false := by simp [h7]
  clear hd h0 h1 h2 h3 h4 h5 h6 h7
  go_enter Tryz.func56, Tryz.ntmps56
  go_wp2
  go_ret
  exact ⟨by simp, ((Below.refl _ _).alloc (Nat.le_refl _) _).alloc (by simp) _⟩

set_option maxRecDepth 20000 in
set_option maxHeartbeats 2000000 in
theorem refNote_d9 (a b : Note) (w : World) (h0 : b.bench = a.bench) (h1 : b.num = a.num) (h2 : b.clock = a.clock) (h3 : b.year = a.year) (h4 : b.kind = a.kind) (h5 : b.fix = a.fix) (h6 : b.piece = a.piece) (h7 : b.pane = a.pane) (h8 : b.colour = a.colour) (hd : ¬ a.to = b.to) :
    Calls Tryz.prog 56 #[.agg (encNote a), .agg (encNote b)] w fun e w' => e = .returned (.bool false) ∧ Below w.heap.size w w' := by
  have m : (a.to != b.to) = true := by simpa using hd
  have m0 : (a.bench != b.bench) = false := by simp [h0]
  have m1 : (a.num != b.num) = false := by simp [h1]
  have m2 : (a.clock != b.clock) = false := by simp [h2]
  have m3 : (a.year != b.year) = false := by simp [h3]
  have m4 : (a.kind != b.kind) = false := by simp [h4]
  have m5 : (a.fix != b.fix) = false := by simp [h5]
  have m6 : (a.piece != b.piece) = false := by simp [h6]
  have m7 : (a.pane != b.pane) = false := by simp [h7]
  have m8 : (a.colour != b.colour) = false := by simp [h8]
  clear hd h0 h1 h2 h3 h4 h5 h6 h7 h8
  go_enter Tryz.func56, Tryz.ntmps56
  go_wp2
  go_ret
  exact ⟨by simp, ((Below.refl _ _).alloc (Nat.le_refl _) _).alloc (by simp) _⟩

set_option maxRecDepth 20000 in
set_option maxHeartbeats 2000000 in
theorem refNote_d10 (a b : Note) (w : World) (h0 : b.bench = a.bench) (h1 : b.num = a.num) (h2 : b.clock = a.clock) (h3 : b.year = a.year) (h4 : b.kind = a.kind) (h5 : b.fix = a.fix) (h6 : b.piece = a.piece) (h7 : b.pane = a.pane) (h8 : b.colour = a.colour) (h9 : b.to = a.to) (hd : ¬ a.setting = b.setting) :
    Calls Tryz.prog 56 #[.agg (encNote a), .agg (encNote b)] w fun e w' => e = .returned (.bool false) ∧ Below w.heap.size w w' := by
  have m : eqSetting a.setting b.setting = false := by simpa [eqSetting] using hd
  have m0 : (a.bench != b.bench) = false := by simp [h0]
  have m1 : (a.num != b.num) = false := by simp [h1]
  have m2 : (a.clock != b.clock) = false := by simp [h2]
  have m3 : (a.year != b.year) = false := by simp [h3]
  have m4 : (a.kind != b.kind) = false := by simp [h4]
  have m5 : (a.fix != b.fix) = false := by simp [h5]
  have m6 : (a.piece != b.piece) = false := by simp [h6]
  have m7 : (a.pane != b.pane) = false := by simp [h7]
  have m8 : (a.colour != b.colour) = false := by simp [h8]
  have m9 : (a.to != b.to) = false := by simp [h9]
  clear hd h0 h1 h2 h3 h4 h5 h6 h7 h8 h9
  go_enter Tryz.func56, Tryz.ntmps56
  go_wp2
  go_ret
  exact ⟨by simp, ((Below.refl _ _).alloc (Nat.le_refl _) _).alloc (by simp) _⟩

set_option maxRecDepth 20000 in
set_option maxHeartbeats 2000000 in
theorem refNote_d11 (a b : Note) (w : World) (h0 : b.bench = a.bench) (h1 : b.num = a.num) (h2 : b.clock = a.clock) (h3 : b.year = a.year) (h4 : b.kind = a.kind) (h5 : b.fix = a.fix) (h6 : b.piece = a.piece) (h7 : b.pane = a.pane) (h8 : b.colour = a.colour) (h9 : b.to = a.to) (h10 : b.setting = a.setting) (hd : ¬ a.ref = b.ref) :
    Calls Tryz.prog 56 #[.agg (encNote a), .agg (encNote b)] w fun e w' => e = .returned (.bool false) ∧ Below w.heap.size w w' := by
  have m : eqRef a.ref b.ref = false := by simpa [eqRef] using hd
  have m0 : (a.bench != b.bench) = false := by simp [h0]
  have m1 : (a.num != b.num) = false := by simp [h1]
  have m2 : (a.clock != b.clock) = false := by simp [h2]
  have m3 : (a.year != b.year) = false := by simp [h3]
  have m4 : (a.kind != b.kind) = false := by simp [h4]
  have m5 : (a.fix != b.fix) = false := by simp [h5]
  have m6 : (a.piece != b.piece) = false := by simp [h6]
  have m7 : (a.pane != b.pane) = false := by simp [h7]
  have m8 : (a.colour != b.colour) = false := by simp [h8]
  have m9 : (a.to != b.to) = false := by simp [h9]
  have m10 : eqSetting a.setting b.setting = true := by simp [eqSetting, h10]
  clear hd h0 h1 h2 h3 h4 h5 h6 h7 h8 h9 h10
  go_enter Tryz.func56, Tryz.ntmps56
  go_wp2
  go_ret
  exact ⟨by simp, ((Below.refl _ _).alloc (Nat.le_refl _) _).alloc (by simp) _⟩

set_option maxRecDepth 20000 in
set_option maxHeartbeats 4000000 in
theorem refItem_lists (D : Nat → Prop) (i1 i2 i3 i4 i5 i6 i7 : Int) (i8 : Span) (ga1 ga2 ma1 ma2 ha1 ha2 : Option Addr) (gc1 gc2 mc1 mc2 hc1 hc2 : Nat) (gv1 gv2 mv1 mv2 : List Int) (hv1 hv2 : List Sight) (w : World)
    (p1 : Sl.OK 1 encInt okInt D w ⟨ga1, gc1, gv1⟩) (p2 : Sl.OK 1 encInt okInt D w ⟨ga2, gc2, gv2⟩) (q1 : Sl.OK 1 encInt okInt D w ⟨ma1, mc1, mv1⟩) (q2 : Sl.OK 1 encInt okInt D w ⟨ma2, mc2, mv2⟩)
    (e1 : EqNil gv1 gv2) (e2 : EqNil mv1 mv2) (e3 : EqNil hv1 hv2) (hd : ¬ (gv2 = gv1 ∧ mv2 = mv1 ∧ hv2 = hv1)) :
    Calls Tryz.prog 59 #[.agg (encItem ⟨i1, i2, i3, i4, i5, i6, i7, ⟨ga1, gc1, gv1⟩, ⟨ma1, mc1, mv1⟩, i8, ⟨ha1, hc1, hv1⟩⟩), .agg (encItem ⟨i1, i2, i3, i4, i5, i6, i7, ⟨ga2, gc2, gv2⟩, ⟨ma2, mc2, mv2⟩, i8, ⟨ha2, hc2, hv2⟩⟩)] w fun e w' => e = .returned (.bool false) ∧ Below w.heap.size w w' := by
  have HP : Hid (∀ W, Below w.heap.size w W → Calls Tryz.prog 60 #[.slice ga1 gv1.length gc1, .slice ga2 gv2.length gc2] W fun e w' => e = .returned (.bool (decide (gv2 = gv1))) ∧ Below W.heap.size W w') := Lib.hid fun W hW =>
    refInts_u D ⟨ga1, gc1, gv1⟩ ⟨ga2, gc2, gv2⟩ W (p1.ext (w := w) (fun _ h => h) (.of_below hW)) (p2.ext (w := w) (fun _ h => h) (.of_below hW)) e1
  have HQ : Hid (∀ W, Below w.heap.size w W → Calls Tryz.prog 60 #[.slice ma1 mv1.length mc1, .slice ma2 mv2.length mc2] W fun e w' => e = .returned (.bool (decide (mv2 = mv1))) ∧ Below W.heap.size W w') := Lib.hid fun W hW =>
    refInts_u D ⟨ma1, mc1, mv1⟩ ⟨ma2, mc2, mv2⟩ W (q1.ext (w := w) (fun _ h => h) (.of_below hW)) (q2.ext (w := w) (fun _ h => h) (.of_below hW)) e2
  have hsp : eqSpan i8 i8 = true := by simp [eqSpan]
  have hbA : BoxAt ((w.alloc (.cells (encItem ⟨i1, i2, i3, i4, i5, i6, i7, ⟨ga1, gc1, gv1⟩, ⟨ma1, mc1, mv1⟩, i8, ⟨ha1, hc1, hv1⟩⟩) 38)).alloc (.cells (encItem ⟨i1, i2, i3, i4, i5, i6, i7, ⟨ga2, gc2, gv2⟩, ⟨ma2, mc2, mv2⟩, i8, ⟨ha2, hc2, hv2⟩⟩) 38)) w.heap.size 38 (encItem ⟨i1, i2, i3, i4, i5, i6, i7, ⟨ga1, gc1, gv1⟩, ⟨ma1, mc1, mv1⟩, i8, ⟨ha1, hc1, hv1⟩⟩) := (BoxAt.new _ _ _).alloc _
  have hbB : BoxAt ((w.alloc (.cells (encItem ⟨i1, i2, i3, i4, i5, i6, i7, ⟨ga1, gc1, gv1⟩, ⟨ma1, mc1, mv1⟩, i8, ⟨ha1, hc1, hv1⟩⟩) 38)).alloc (.cells (encItem ⟨i1, i2, i3, i4, i5, i6, i7, ⟨ga2, gc2, gv2⟩, ⟨ma2, mc2, mv2⟩, i8, ⟨ha2, hc2, hv2⟩⟩) 38)) (w.heap.size + 1) 38 (encItem ⟨i1, i2, i3, i4, i5, i6, i7, ⟨ga2, gc2, gv2⟩, ⟨ma2, mc2, mv2⟩, i8, ⟨ha2, hc2, hv2⟩⟩) := by have h := BoxAt.new (w.alloc (.cells (encItem ⟨i1, i2, i3, i4, i5, i6, i7, ⟨ga1, gc1, gv1⟩, ⟨ma1, mc1, mv1⟩, i8, ⟨ha1, hc1, hv1⟩⟩) 38)) 38 (encItem ⟨i1, i2, i3, i4, i5, i6, i7, ⟨ga2, gc2, gv2⟩, ⟨ma2, mc2, mv2⟩, i8, ⟨ha2, hc2, hv2⟩⟩); rw [World.size_alloc] at h; exact h
  have hB : Below w.heap.size w ((w.alloc (.cells (encItem ⟨i1, i2, i3, i4, i5, i6, i7, ⟨ga1, gc1, gv1⟩, ⟨ma1, mc1, mv1⟩, i8, ⟨ha1, hc1, hv1⟩⟩) 38)).alloc (.cells (encItem ⟨i1, i2, i3, i4, i5, i6, i7, ⟨ga2, gc2, gv2⟩, ⟨ma2, mc2, mv2⟩, i8, ⟨ha2, hc2, hv2⟩⟩) 38)) := ((Below.refl _ _).alloc (Nat.le_refl _) _).alloc (by simp) _
  clear p1 p2 q1 q2
  by_cases h1 : gv2 = gv1
  · rw [decide_eq_true h1] at HP
    by_cases h2 : mv2 = mv1
    · rw [decide_eq_true h2] at HQ
      have h3 : (((hv1.length : Int)) != (hv2.length : Int)) = true := by have := e3.len (fun e => hd ⟨h1, h2, e⟩); simp; omega
      clear hd e1 e2 e3 h1 h2
      go_enter Tryz.func59, Tryz.ntmps59
      go_wp2_with (first
    | (go_at_call 60; (with_reducible refine (HP.out _ hB).mono ?_); rintro e w3 ⟨rfl, hb3⟩; replace hbA := hbA.belowAll hb3; replace hbB := hbB.belowAll hb3; replace hB := Below.call hB hb3 (Nat.le_refl _); have hq1 : w3.cell? ⟨w.heap.size, 8, none⟩ = some (.slice ma1 mv1.length mc1) := (hbA.cell 8).trans rfl; have hq2 : w3.cell? ⟨w.heap.size + 1, 8, none⟩ = some (.slice ma2 mv2.length mc2) := (hbB.cell 8).trans rfl)
    | (go_at_call 60; (with_reducible refine (HQ.out _ hB).mono ?_); rintro e w4 ⟨rfl, hb4⟩; replace hbA := hbA.belowAll hb4; replace hbB := hbB.belowAll hb4; replace hB := Below.call hB hb4 (Nat.le_refl _); have hq3 : w4.cell? ⟨w.heap.size, 11, none⟩ = some (.slice ha1 hv1.length hc1) := (hbA.cell 11).trans rfl; have hq4 : w4.cell? ⟨w.heap.size + 1, 11, none⟩ = some (.slice ha2 hv2.length hc2) := (hbB.cell 11).trans rfl))
      go_ret
      exact ⟨by simp, hB⟩
    · rw [decide_eq_false h2] at HQ
      clear hd e1 e2 e3 h1 h2
      go_enter Tryz.func59, Tryz.ntmps59
      go_wp2_with (first
    | (go_at_call 60; (with_reducible refine (HP.out _ hB).mono ?_); rintro e w3 ⟨rfl, hb3⟩; replace hbA := hbA.belowAll hb3; replace hbB := hbB.belowAll hb3; replace hB := Below.call hB hb3 (Nat.le_refl _); have hq1 : w3.cell? ⟨w.heap.size, 8, none⟩ = some (.slice ma1 mv1.length mc1) := (hbA.cell 8).trans rfl; have hq2 : w3.cell? ⟨w.heap.size + 1, 8, none⟩ = some (.slice ma2 mv2.length mc2) := (hbB.cell 8).trans rfl)
    | (go_at_call 60; (with_reducible refine (HQ.out _ hB).mono ?_); rintro e w4 ⟨rfl, hb4⟩; replace hbA := hbA.belowAll hb4; replace hbB := hbB.belowAll hb4; replace hB := Below.call hB hb4 (Nat.le_refl _); have hq3 : w4.cell? ⟨w.heap.size, 11, none⟩ = some (.slice ha1 hv1.length hc1) := (hbA.cell 11).trans rfl; have hq4 : w4.cell? ⟨w.heap.size + 1, 11, none⟩ = some (.slice ha2 hv2.length hc2) := (hbB.cell 11).trans rfl))
      go_ret
      exact ⟨by simp, hB⟩
  · rw [decide_eq_false h1] at HP
    clear hd e1 e2 e3 h1
    go_enter Tryz.func59, Tryz.ntmps59
    go_wp2_with (first
    | (go_at_call 60; (with_reducible refine (HP.out _ hB).mono ?_); rintro e w3 ⟨rfl, hb3⟩; replace hbA := hbA.belowAll hb3; replace hbB := hbB.belowAll hb3; replace hB := Below.call hB hb3 (Nat.le_refl _); have hq1 : w3.cell? ⟨w.heap.size, 8, none⟩ = some (.slice ma1 mv1.length mc1) := (hbA.cell 8).trans rfl; have hq2 : w3.cell? ⟨w.heap.size + 1, 8, none⟩ = some (.slice ma2 mv2.length mc2) := (hbB.cell 8).trans rfl)
    | (go_at_call 60; (with_reducible refine (HQ.out _ hB).mono ?_); rintro e w4 ⟨rfl, hb4⟩; replace hbA := hbA.belowAll hb4; replace hbB := hbB.belowAll hb4; replace hB := Below.call hB hb4 (Nat.le_refl _); have hq3 : w4.cell? ⟨w.heap.size, 11, none⟩ = some (.slice ha1 hv1.length hc1) := (hbA.cell 11).trans rfl; have hq4 : w4.cell? ⟨w.heap.size + 1, 11, none⟩ = some (.slice ha2 hv2.length hc2) := (hbB.cell 11).trans rfl))
    go_ret
    exact ⟨by simp, hB⟩

theorem refItem_u (D : Nat → Prop) (a b : Item) (w : World) (ha : okItem D w a) (hb : okItem D w b) (e1 : EqNil a.panes.val b.panes.val) (e2 : EqNil a.colours.val b.colours.val) (e3 : EqNil a.sights.val b.sights.val) :
    Calls Tryz.prog 59 #[.agg (encItem a), .agg (encItem b)] w fun e w' => e = .returned (.bool (decide (b.abs = a.abs))) ∧ Below w.heap.size w w' := by
  by_cases c0 : a.id = b.id
  rotate_left
  · rw [decide_eq_false (fun e => c0 (show b.abs.id = a.abs.id from by rw [e]).symm)]
    exact refItem_d0 a b w  c0
  by_cases c1 : a.kind = b.kind
  rotate_left
  · rw [decide_eq_false (fun e => c1 (show b.abs.kind = a.abs.kind from by rw [e]).symm)]
    exact refItem_d1 a b w c0.symm c1
  by_cases c2 : a.year = b.year
  rotate_left
  · rw [decide_eq_false (fun e => c2 (show b.abs.year = a.abs.year from by rw [e]).symm)]
    exact refItem_d2 a b w c0.symm c1.symm c2
  by_cases c3 : a.film = b.film
  rotate_left
  · rw [decide_eq_false (fun e => c3 (show b.abs.film = a.abs.film from by rw [e]).symm)]
    exact refItem_d3 a b w c0.symm c1.symm c2.symm c3
  by_cases c4 : a.piece = b.piece
  rotate_left
  · rw [decide_eq_false (fun e => c4 (show b.abs.piece = a.abs.piece from by rw [e]).symm)]
    exact refItem_d4 a b w c0.symm c1.symm c2.symm c3.symm c4
  by_cases c5 : a.lead = b.lead
  rotate_left
  · rw [decide_eq_false (fun e => c5 (show b.abs.lead = a.abs.lead from by rw [e]).symm)]
    exact refItem_d5 a b w c0.symm c1.symm c2.symm c3.symm c4.symm c5
  by_cases c6 : a.slack = b.slack
  rotate_left
  · rw [decide_eq_false (fun e => c6 (show b.abs.slack = a.abs.slack from by rw [e]).symm)]
    exact refItem_d6 a b w c0.symm c1.symm c2.symm c3.symm c4.symm c5.symm c6
  by_cases c7 : a.count = b.count
  rotate_left
  · rw [decide_eq_false (fun e => c7 (show b.abs.count = a.abs.count from by rw [e]).symm)]
    exact refItem_d7 a b w c0.symm c1.symm c2.symm c3.symm c4.symm c5.symm c6.symm c7
  by_cases hd : b.panes.val = a.panes.val ∧ b.colours.val = a.colours.val ∧ b.sights.val = a.sights.val
  · have he : b.abs = a.abs := by simp [Item.abs, *]
    rw [decide_eq_true he]; exact refItem_any D a b w ha hb he
  · rw [decide_eq_false (fun e => hd ⟨show b.abs.panes = a.abs.panes from by rw [e], show b.abs.colours = a.abs.colours from by rw [e], show b.abs.sights = a.abs.sights from by rw [e]⟩)]
    obtain ⟨_, _, _, _, _, _, _, _, _, p1, q1, _⟩ := ha
    obtain ⟨_, _, _, _, _, _, _, _, _, p2, q2, _⟩ := hb
    obtain ⟨i1, i2, i3, i4, i5, i6, i7, ⟨ga1, gc1, gv1⟩, ⟨ma1, mc1, mv1⟩, i8, ⟨ha1, hc1, hv1⟩⟩ := a
    obtain ⟨j1, j2, j3, j4, j5, j6, j7, ⟨ga2, gc2, gv2⟩, ⟨ma2, mc2, mv2⟩, j8, ⟨ha2, hc2, hv2⟩⟩ := b
    simp only at c0 c1 c2 c3 c4 c5 c6 c7
    subst c0 c1 c2 c3 c4 c5 c6 c7
    exact refItem_lists D _ _ _ _ _ _ _ _ _ _ _ _ _ _ _ _ _ _ _ _ _ _ _ _ _ _ w p1 p2 q1 q2 e1 e2 e3 hd

set_option maxRecDepth 100000 in
set_option maxHeartbeats 8000000 in
theorem refNote_p (i1 i2 i3 i4 i5 i6 i7 i8 i9 i10 : Int) (i11 : Setting) (i12 : Ref) (ga1 ga2 ma1 ma2 da1 da2 : Option Addr) (gc1 gc2 mc1 mc2 dc1 dc2 : Nat) (gv1 gv2 mv1 mv2 : List Int) (dv1 dv2 : List Piece) (x1 x2 : Item) (w : World)
    (HP : Hid (∀ W, Below w.heap.size w W → Calls Tryz.prog 60 #[.slice ga1 gv1.length gc1, .slice ga2 gv2.length gc2] W fun e w' => e = .returned (.bool false) ∧ Below W.heap.size W w')) :
    Calls Tryz.prog 56 #[.agg (encNote ⟨i1, i2, i3, i4, i5, i6, i7, i8, i9, i10, i11, i12, ⟨ga1, gc1, gv1⟩, ⟨ma1, mc1, mv1⟩, ⟨da1, dc1, dv1⟩, x1⟩), .agg (encNote ⟨i1, i2, i3, i4, i5, i6, i7, i8, i9, i10, i11, i12, ⟨ga2, gc2, gv2⟩, ⟨ma2, mc2, mv2⟩, ⟨da2, dc2, dv2⟩, x2⟩)] w fun e w' => e = .returned (.bool false) ∧ Below w.heap.size w w' := by
  have hse : eqSetting i11 i11 = true := by simp [eqSetting]
  have hre : eqRef i12 i12 = true := by simp [eqRef]
  have hbA : BoxAt ((w.alloc (.cells (encNote ⟨i1, i2, i3, i4, i5, i6, i7, i8, i9, i10, i11, i12, ⟨ga1, gc1, gv1⟩, ⟨ma1, mc1, mv1⟩, ⟨da1, dc1, dv1⟩, x1⟩) 40)).alloc (.cells (encNote ⟨i1, i2, i3, i4, i5, i6, i7, i8, i9, i10, i11, i12, ⟨ga2, gc2, gv2⟩, ⟨ma2, mc2, mv2⟩, ⟨da2, dc2, dv2⟩, x2⟩) 40)) w.heap.size 40 (encNote ⟨i1, i2, i3, i4, i5, i6, i7, i8, i9, i10, i11, i12, ⟨ga1, gc1, gv1⟩, ⟨ma1, mc1, mv1⟩, ⟨da1, dc1, dv1⟩, x1⟩) := (BoxAt.new _ _ _).alloc _
  have hbB : BoxAt ((w.alloc (.cells (encNote ⟨i1, i2, i3, i4, i5, i6, i7, i8, i9, i10, i11, i12, ⟨ga1, gc1, gv1⟩, ⟨ma1, mc1, mv1⟩, ⟨da1, dc1, dv1⟩, x1⟩) 40)).alloc (.cells (encNote ⟨i1, i2, i3, i4, i5, i6, i7, i8, i9, i10, i11, i12, ⟨ga2, gc2, gv2⟩, ⟨ma2, mc2, mv2⟩, ⟨da2, dc2, dv2⟩, x2⟩) 40)) (w.heap.size + 1) 40 (encNote ⟨i1, i2, i3, i4, i5, i6, i7, i8, i9, i10, i11, i12, ⟨ga2, gc2, gv2⟩, ⟨ma2, mc2, mv2⟩, ⟨da2, dc2, dv2⟩, x2⟩) := by have h := BoxAt.new (w.alloc (.cells (encNote ⟨i1, i2, i3, i4, i5, i6, i7, i8, i9, i10, i11, i12, ⟨ga1, gc1, gv1⟩, ⟨ma1, mc1, mv1⟩, ⟨da1, dc1, dv1⟩, x1⟩) 40)) 40 (encNote ⟨i1, i2, i3, i4, i5, i6, i7, i8, i9, i10, i11, i12, ⟨ga2, gc2, gv2⟩, ⟨ma2, mc2, mv2⟩, ⟨da2, dc2, dv2⟩, x2⟩); rw [World.size_alloc] at h; exact h
  have hB : Below w.heap.size w ((w.alloc (.cells (encNote ⟨i1, i2, i3, i4, i5, i6, i7, i8, i9, i10, i11, i12, ⟨ga1, gc1, gv1⟩, ⟨ma1, mc1, mv1⟩, ⟨da1, dc1, dv1⟩, x1⟩) 40)).alloc (.cells (encNote ⟨i1, i2, i3, i4, i5, i6, i7, i8, i9, i10, i11, i12, ⟨ga2, gc2, gv2⟩, ⟨ma2, mc2, mv2⟩, ⟨da2, dc2, dv2⟩, x2⟩) 40)) := ((Below.refl _ _).alloc (Nat.le_refl _) _).alloc (by simp) _
  go_enter Tryz.func56, Tryz.ntmps56
  go_wp2_with (first
    | (go_at_call 60; (with_reducible refine (HP.out _ hB).mono ?_); rintro e w3 ⟨rfl, hb3⟩; replace hbA := hbA.belowAll hb3; replace hbB := hbB.belowAll hb3; replace hB := Below.call hB hb3 (Nat.le_refl _); have hq3 : w3.cell? ⟨w.heap.size, 15, none⟩ = some (.slice ma1 mv1.length mc1) := (hbA.cell 15).trans rfl; have hr3 : w3.cell? ⟨w.heap.size + 1, 15, none⟩ = some (.slice ma2 mv2.length mc2) := (hbB.cell 15).trans rfl)
    | (go_at_call 60; (with_reducible refine (HQ.out _ hB).mono ?_); rintro e w4 ⟨rfl, hb4⟩; replace hbA := hbA.belowAll hb4; replace hbB := hbB.belowAll hb4; replace hB := Below.call hB hb4 (Nat.le_refl _); have hq4 : w4.cell? ⟨w.heap.size, 16, none⟩ = some (.slice da1 dv1.length dc1) := (hbA.cell 16).trans rfl; have hr4 : w4.cell? ⟨w.heap.size + 1, 16, none⟩ = some (.slice da2 dv2.length dc2) := (hbB.cell 16).trans rfl)
    | (go_at_call 58; (with_reducible refine (HD.out _ hB).mono ?_); rintro e w5 ⟨rfl, hb5⟩; replace hbA := hbA.belowAll hb5; replace hbB := hbB.belowAll hb5; replace hB := Below.call hB hb5 (Nat.le_refl _))
    | (go_at_call 59; (with_reducible refine (HX.out _ hB).mono ?_); rintro e w6 ⟨rfl, hb6⟩; replace hbA := hbA.belowAll hb6; replace hbB := hbB.belowAll hb6; replace hB := Below.call hB hb6 (Nat.le_refl _))
    | ((with_reducible refine at_dst 106 ?_); refine wpList_loadB hbA rfl 38 _ rfl rfl (encItem x1) (encNote_item (⟨i1, i2, i3, i4, i5, i6, i7, i8, i9, i10, i11, i12, ⟨ga1, gc1, gv1⟩, ⟨ma1, mc1, mv1⟩, ⟨da1, dc1, dv1⟩, x1⟩ : Note)) Tryz.underlying38 rfl (by kernel_rfl) ?_)
    | ((with_reducible refine at_dst 108 ?_); refine wpList_loadB hbB rfl 38 _ rfl rfl (encItem x2) (encNote_item (⟨i1, i2, i3, i4, i5, i6, i7, i8, i9, i10, i11, i12, ⟨ga2, gc2, gv2⟩, ⟨ma2, mc2, mv2⟩, ⟨da2, dc2, dv2⟩, x2⟩ : Note)) Tryz.underlying38 rfl (by kernel_rfl) ?_))
  go_ret
  exact ⟨by simp, hB⟩

set_option maxRecDepth 100000 in
set_option maxHeartbeats 8000000 in
theorem refNote_n (i1 i2 i3 i4 i5 i6 i7 i8 i9 i10 : Int) (i11 : Setting) (i12 : Ref) (ga1 ga2 ma1 ma2 da1 da2 : Option Addr) (gc1 gc2 mc1 mc2 dc1 dc2 : Nat) (gv1 gv2 mv1 mv2 : List Int) (dv1 dv2 : List Piece) (x1 x2 : Item) (w : World)
    (HP : Hid (∀ W, Below w.heap.size w W → Calls Tryz.prog 60 #[.slice ga1 gv1.length gc1, .slice ga2 gv2.length gc2] W fun e w' => e = .returned (.bool true) ∧ Below W.heap.size W w'))
    (HQ : Hid (∀ W, Below w.heap.size w W → Calls Tryz.prog 60 #[.slice ma1 mv1.length mc1, .slice ma2 mv2.length mc2] W fun e w' => e = .returned (.bool false) ∧ Below W.heap.size W w')) :
    Calls Tryz.prog 56 #[.agg (encNote ⟨i1, i2, i3, i4, i5, i6, i7, i8, i9, i10, i11, i12, ⟨ga1, gc1, gv1⟩, ⟨ma1, mc1, mv1⟩, ⟨da1, dc1, dv1⟩, x1⟩), .agg (encNote ⟨i1, i2, i3, i4, i5, i6, i7, i8, i9, i10, i11, i12, ⟨ga2, gc2, gv2⟩, ⟨ma2, mc2, mv2⟩, ⟨da2, dc2, dv2⟩, x2⟩)] w fun e w' => e = .returned (.bool false) ∧ Below w.heap.size w w' := by
  have hse : eqSetting i11 i11 = true := by simp [eqSetting]
  have hre : eqRef i12 i12 = true := by simp [eqRef]
  have hbA : BoxAt ((w.alloc (.cells (encNote ⟨i1, i2, i3, i4, i5, i6, i7, i8, i9, i10, i11, i12, ⟨ga1, gc1, gv1⟩, ⟨ma1, mc1, mv1⟩, ⟨da1, dc1, dv1⟩, x1⟩) 40)).alloc (.cells (encNote ⟨i1, i2, i3, i4, i5, i6, i7, i8, i9, i10, i11, i12, ⟨ga2, gc2, gv2⟩, ⟨ma2, mc2, mv2⟩, ⟨da2, dc2, dv2⟩, x2⟩) 40)) w.heap.size 40 (encNote ⟨i1, i2, i3, i4, i5, i6, i7, i8, i9, i10, i11, i12, ⟨ga1, gc1, gv1⟩, ⟨ma1, mc1, mv1⟩, ⟨da1, dc1, dv1⟩, x1⟩) := (BoxAt.new _ _ _).alloc _
  have hbB : BoxAt ((w.alloc (.cells (encNote ⟨i1, i2, i3, i4, i5, i6, i7, i8, i9, i10, i11, i12, ⟨ga1, gc1, gv1⟩, ⟨ma1, mc1, mv1⟩, ⟨da1, dc1, dv1⟩, x1⟩) 40)).alloc (.cells (encNote ⟨i1, i2, i3, i4, i5, i6, i7, i8, i9, i10, i11, i12, ⟨ga2, gc2, gv2⟩, ⟨ma2, mc2, mv2⟩, ⟨da2, dc2, dv2⟩, x2⟩) 40)) (w.heap.size + 1) 40 (encNote ⟨i1, i2, i3, i4, i5, i6, i7, i8, i9, i10, i11, i12, ⟨ga2, gc2, gv2⟩, ⟨ma2, mc2, mv2⟩, ⟨da2, dc2, dv2⟩, x2⟩) := by have h := BoxAt.new (w.alloc (.cells (encNote ⟨i1, i2, i3, i4, i5, i6, i7, i8, i9, i10, i11, i12, ⟨ga1, gc1, gv1⟩, ⟨ma1, mc1, mv1⟩, ⟨da1, dc1, dv1⟩, x1⟩) 40)) 40 (encNote ⟨i1, i2, i3, i4, i5, i6, i7, i8, i9, i10, i11, i12, ⟨ga2, gc2, gv2⟩, ⟨ma2, mc2, mv2⟩, ⟨da2, dc2, dv2⟩, x2⟩); rw [World.size_alloc] at h; exact h
  have hB : Below w.heap.size w ((w.alloc (.cells (encNote ⟨i1, i2, i3, i4, i5, i6, i7, i8, i9, i10, i11, i12, ⟨ga1, gc1, gv1⟩, ⟨ma1, mc1, mv1⟩, ⟨da1, dc1, dv1⟩, x1⟩) 40)).alloc (.cells (encNote ⟨i1, i2, i3, i4, i5, i6, i7, i8, i9, i10, i11, i12, ⟨ga2, gc2, gv2⟩, ⟨ma2, mc2, mv2⟩, ⟨da2, dc2, dv2⟩, x2⟩) 40)) := ((Below.refl _ _).alloc (Nat.le_refl _) _).alloc (by simp) _
  go_enter Tryz.func56, Tryz.ntmps56
  go_wp2_with (first
    | (go_at_call 60; (with_reducible refine (HP.out _ hB).mono ?_); rintro e w3 ⟨rfl, hb3⟩; replace hbA := hbA.belowAll hb3; replace hbB := hbB.belowAll hb3; replace hB := Below.call hB hb3 (Nat.le_refl _); have hq3 : w3.cell? ⟨w.heap.size, 15, none⟩ = some (.slice ma1 mv1.length mc1) := (hbA.cell 15).trans rfl; have hr3 : w3.cell? ⟨w.heap.size + 1, 15, none⟩ = some (.slice ma2 mv2.length mc2) := (hbB.cell 15).trans rfl)
    | (go_at_call 60; (with_reducible refine (HQ.out _ hB).mono ?_); rintro e w4 ⟨rfl, hb4⟩; replace hbA := hbA.belowAll hb4; replace hbB := hbB.belowAll hb4; replace hB := Below.call hB hb4 (Nat.le_refl _); have hq4 : w4.cell? ⟨w.heap.size, 16, none⟩ = some (.slice da1 dv1.length dc1) := (hbA.cell 16).trans rfl; have hr4 : w4.cell? ⟨w.heap.size + 1, 16, none⟩ = some (.slice da2 dv2.length dc2) := (hbB.cell 16).trans rfl)
    | (go_at_call 58; (with_reducible refine (HD.out _ hB).mono ?_); rintro e w5 ⟨rfl, hb5⟩; replace hbA := hbA.belowAll hb5; replace hbB := hbB.belowAll hb5; replace hB := Below.call hB hb5 (Nat.le_refl _))
    | (go_at_call 59; (with_reducible refine (HX.out _ hB).mono ?_); rintro e w6 ⟨rfl, hb6⟩; replace hbA := hbA.belowAll hb6; replace hbB := hbB.belowAll hb6; replace hB := Below.call hB hb6 (Nat.le_refl _))
    | ((with_reducible refine at_dst 106 ?_); refine wpList_loadB hbA rfl 38 _ rfl rfl (encItem x1) (encNote_item (⟨i1, i2, i3, i4, i5, i6, i7, i8, i9, i10, i11, i12, ⟨ga1, gc1, gv1⟩, ⟨ma1, mc1, mv1⟩, ⟨da1, dc1, dv1⟩, x1⟩ : Note)) Tryz.underlying38 rfl (by kernel_rfl) ?_)
    | ((with_reducible refine at_dst 108 ?_); refine wpList_loadB hbB rfl 38 _ rfl rfl (encItem x2) (encNote_item (⟨i1, i2, i3, i4, i5, i6, i7, i8, i9, i10, i11, i12, ⟨ga2, gc2, gv2⟩, ⟨ma2, mc2, mv2⟩, ⟨da2, dc2, dv2⟩, x2⟩ : Note)) Tryz.underlying38 rfl (by kernel_rfl) ?_))
  go_ret
  exact ⟨by simp, hB⟩

set_option maxRecDepth 100000 in
set_option maxHeartbeats 8000000 in
theorem refNote_q (i1 i2 i3 i4 i5 i6 i7 i8 i9 i10 : Int) (i11 : Setting) (i12 : Ref) (ga1 ga2 ma1 ma2 da1 da2 : Option Addr) (gc1 gc2 mc1 mc2 dc1 dc2 : Nat) (gv1 gv2 mv1 mv2 : List Int) (dv1 dv2 : List Piece) (x1 x2 : Item) (w : World)
    (HP : Hid (∀ W, Below w.heap.size w W → Calls Tryz.prog 60 #[.slice ga1 gv1.length gc1, .slice ga2 gv2.length gc2] W fun e w' => e = .returned (.bool true) ∧ Below W.heap.size W w'))
    (HQ : Hid (∀ W, Below w.heap.size w W → Calls Tryz.prog 60 #[.slice ma1 mv1.length mc1, .slice ma2 mv2.length mc2] W fun e w' => e = .returned (.bool true) ∧ Below W.heap.size W w'))
    (HD : Hid (∀ W, Below w.heap.size w W → Calls Tryz.prog 58 #[.slice da1 dv1.length dc1, .slice da2 dv2.length dc2] W fun e w' => e = .returned (.bool false) ∧ Below W.heap.size W w')) :
    Calls Tryz.prog 56 #[.agg (encNote ⟨i1, i2, i3, i4, i5, i6, i7, i8, i9, i10, i11, i12, ⟨ga1, gc1, gv1⟩, ⟨ma1, mc1, mv1⟩, ⟨da1, dc1, dv1⟩, x1⟩), .agg (encNote ⟨i1, i2, i3, i4, i5, i6, i7, i8, i9, i10, i11, i12, ⟨ga2, gc2, gv2⟩, ⟨ma2, mc2, mv2⟩, ⟨da2, dc2, dv2⟩, x2⟩)] w fun e w' => e = .returned (.bool false) ∧ Below w.heap.size w w' := by
  have hse : eqSetting i11 i11 = true := by simp [eqSetting]
  have hre : eqRef i12 i12 = true := by simp [eqRef]
  have hbA : BoxAt ((w.alloc (.cells (encNote ⟨i1, i2, i3, i4, i5, i6, i7, i8, i9, i10, i11, i12, ⟨ga1, gc1, gv1⟩, ⟨ma1, mc1, mv1⟩, ⟨da1, dc1, dv1⟩, x1⟩) 40)).alloc (.cells (encNote ⟨i1, i2, i3, i4, i5, i6, i7, i8, i9, i10, i11, i12, ⟨ga2, gc2, gv2⟩, ⟨ma2, mc2, mv2⟩, ⟨da2, dc2, dv2⟩, x2⟩) 40)) w.heap.size 40 (encNote ⟨i1, i2, i3, i4, i5, i6, i7, i8, i9, i10, i11, i12, ⟨ga1, gc1, gv1⟩, ⟨ma1, mc1, mv1⟩, ⟨da1, dc1, dv1⟩, x1⟩) := (BoxAt.new _ _ _).alloc _
  have hbB : BoxAt ((w.alloc (.cells (encNote ⟨i1, i2, i3, i4, i5, i6, i7, i8, i9, i10, i11, i12, ⟨ga1, gc1, gv1⟩, ⟨ma1, mc1, mv1⟩, ⟨da1, dc1, dv1⟩, x1⟩) 40)).alloc (.cells (encNote ⟨i1, i2, i3, i4, i5, i6, i7, i8, i9, i10, i11, i12, ⟨ga2, gc2, gv2⟩, ⟨ma2, mc2, mv2⟩, ⟨da2, dc2, dv2⟩, x2⟩) 40)) (w.heap.size + 1) 40 (encNote ⟨i1, i2, i3, i4, i5, i6, i7, i8, i9, i10, i11, i12, ⟨ga2, gc2, gv2⟩, ⟨ma2, mc2, mv2⟩, ⟨da2, dc2, dv2⟩, x2⟩) := by have h := BoxAt.new (w.alloc (.cells (encNote ⟨i1, i2, i3, i4, i5, i6, i7, i8, i9, i10, i11, i12, ⟨ga1, gc1, gv1⟩, ⟨ma1, mc1, mv1⟩, ⟨da1, dc1, dv1⟩, x1⟩) 40)) 40 (encNote ⟨i1, i2, i3, i4, i5, i6, i7, i8, i9, i10, i11, i12, ⟨ga2, gc2, gv2⟩, ⟨ma2, mc2, mv2⟩, ⟨da2, dc2, dv2⟩, x2⟩); rw [World.size_alloc] at h; exact h
  have hB : Below w.heap.size w ((w.alloc (.cells (encNote ⟨i1, i2, i3, i4, i5, i6, i7, i8, i9, i10, i11, i12, ⟨ga1, gc1, gv1⟩, ⟨ma1, mc1, mv1⟩, ⟨da1, dc1, dv1⟩, x1⟩) 40)).alloc (.cells (encNote ⟨i1, i2, i3, i4, i5, i6, i7, i8, i9, i10, i11, i12, ⟨ga2, gc2, gv2⟩, ⟨ma2, mc2, mv2⟩, ⟨da2, dc2, dv2⟩, x2⟩) 40)) := ((Below.refl _ _).alloc (Nat.le_refl _) _).alloc (by simp) _
  go_enter Tryz.func56, Tryz.ntmps56
  go_wp2_with (first
    | (go_at_call 60; (with_reducible refine (HP.out _ hB).mono ?_); rintro e w3 ⟨rfl, hb3⟩; replace hbA := hbA.belowAll hb3; replace hbB := hbB.belowAll hb3; replace hB := Below.call hB hb3 (Nat.le_refl _); have hq3 : w3.cell? ⟨w.heap.size, 15, none⟩ = some (.slice ma1 mv1.length mc1) := (hbA.cell 15).trans rfl; have hr3 : w3.cell? ⟨w.heap.size + 1, 15, none⟩ = some (.slice ma2 mv2.length mc2) := (hbB.cell 15).trans rfl)
    | (go_at_call 60; (with_reducible refine (HQ.out _ hB).mono ?_); rintro e w4 ⟨rfl, hb4⟩; replace hbA := hbA.belowAll hb4; replace hbB := hbB.belowAll hb4; replace hB := Below.call hB hb4 (Nat.le_refl _); have hq4 : w4.cell? ⟨w.heap.size, 16, none⟩ = some (.slice da1 dv1.length dc1) := (hbA.cell 16).trans rfl; have hr4 : w4.cell? ⟨w.heap.size + 1, 16, none⟩ = some (.slice da2 dv2.length dc2) := (hbB.cell 16).trans rfl)
    | (go_at_call 58; (with_reducible refine (HD.out _ hB).mono ?_); rintro e w5 ⟨rfl, hb5⟩; replace hbA := hbA.belowAll hb5; replace hbB := hbB.belowAll hb5; replace hB := Below.call hB hb5 (Nat.le_refl _))
    | (go_at_call 59; (with_reducible refine (HX.out _ hB).mono ?_); rintro e w6 ⟨rfl, hb6⟩; replace hbA := hbA.belowAll hb6; replace hbB := hbB.belowAll hb6; replace hB := Below.call hB hb6 (Nat.le_refl _))
    | ((with_reducible refine at_dst 106 ?_); refine wpList_loadB hbA rfl 38 _ rfl rfl (encItem x1) (encNote_item (⟨i1, i2, i3, i4, i5, i6, i7, i8, i9, i10, i11, i12, ⟨ga1, gc1, gv1⟩, ⟨ma1, mc1, mv1⟩, ⟨da1, dc1, dv1⟩, x1⟩ : Note)) Tryz.underlying38 rfl (by kernel_rfl) ?_)
    | ((with_reducible refine at_dst 108 ?_); refine wpList_loadB hbB rfl 38 _ rfl rfl (encItem x2) (encNote_item (⟨i1, i2, i3, i4, i5, i6, i7, i8, i9, i10, i11, i12, ⟨ga2, gc2, gv2⟩, ⟨ma2, mc2, mv2⟩, ⟨da2, dc2, dv2⟩, x2⟩ : Note)) Tryz.underlying38 rfl (by kernel_rfl) ?_))
  go_ret
  exact ⟨by simp, hB⟩

set_option maxRecDepth 100000 in
set_option maxHeartbeats 8000000 in
theorem refNote_x (i1 i2 i3 i4 i5 i6 i7 i8 i9 i10 : Int) (i11 : Setting) (i12 : Ref) (ga1 ga2 ma1 ma2 da1 da2 : Option Addr) (gc1 gc2 mc1 mc2 dc1 dc2 : Nat) (gv1 gv2 mv1 mv2 : List Int) (dv1 dv2 : List Piece) (x1 x2 : Item) (w : World) (ib : Bool)
    (HP : Hid (∀ W, Below w.heap.size w W → Calls Tryz.prog 60 #[.slice ga1 gv1.length gc1, .slice ga2 gv2.length gc2] W fun e w' => e = .returned (.bool true) ∧ Below W.heap.size W w'))
    (HQ : Hid (∀ W, Below w.heap.size w W → Calls Tryz.prog 60 #[.slice ma1 mv1.length mc1, .slice ma2 mv2.length mc2] W fun e w' => e = .returned (.bool true) ∧ Below W.heap.size W w'))
    (HD : Hid (∀ W, Below w.heap.size w W → Calls Tryz.prog 58 #[.slice da1 dv1.length dc1, .slice da2 dv2.length dc2] W fun e w' => e = .returned (.bool true) ∧ Below W.heap.size W w'))
    (HX : Hid (∀ W, Below w.heap.size w W → Calls Tryz.prog 59 #[.agg (encItem x1), .agg (encItem x2)] W fun e w' => e = .returned (.bool ib) ∧ Below W.heap.size W w')) :
    Calls Tryz.prog 56 #[.agg (encNote ⟨i1, i2, i3, i4, i5, i6, i7, i8, i9, i10, i11, i12, ⟨ga1, gc1, gv1⟩, ⟨ma1, mc1, mv1⟩, ⟨da1, dc1, dv1⟩, x1⟩), .agg (encNote ⟨i1, i2, i3, i4, i5, i6, i7, i8, i9, i10, i11, i12, ⟨ga2, gc2, gv2⟩, ⟨ma2, mc2, mv2⟩, ⟨da2, dc2, dv2⟩, x2⟩)] w fun e w' => e = .returned (.bool ib) ∧ Below w.heap.size w w' := by
  have hse : eqSetting i11 i11 = true := by simp [eqSetting]
  have hre : eqRef i12 i12 = true := by simp [eqRef]
  have hbA : BoxAt ((w.alloc (.cells (encNote ⟨i1, i2, i3, i4, i5, i6, i7, i8, i9, i10, i11, i12, ⟨ga1, gc1, gv1⟩, ⟨ma1, mc1, mv1⟩, ⟨da1, dc1, dv1⟩, x1⟩) 40)).alloc (.cells (encNote ⟨i1, i2, i3, i4, i5, i6, i7, i8, i9, i10, i11, i12, ⟨ga2, gc2, gv2⟩, ⟨ma2, mc2, mv2⟩, ⟨da2, dc2, dv2⟩, x2⟩) 40)) w.heap.size 40 (encNote ⟨i1, i2, i3, i4, i5, i6, i7, i8, i9, i10, i11, i12, ⟨ga1, gc1, gv1⟩, ⟨ma1, mc1, mv1⟩, ⟨da1, dc1, dv1⟩, x1⟩) := (BoxAt.new _ _ _).alloc _
  have hbB : BoxAt ((w.alloc (.cells (encNote ⟨i1, i2, i3, i4, i5, i6, i7, i8, i9, i10, i11, i12, ⟨ga1, gc1, gv1⟩, ⟨ma1, mc1, mv1⟩, ⟨da1, dc1, dv1⟩, x1⟩) 40)).alloc (.cells (encNote ⟨i1, i2, i3, i4, i5, i6, i7, i8, i9, i10, i11, i12, ⟨ga2, gc2, gv2⟩, ⟨ma2, mc2, mv2⟩, ⟨da2, dc2, dv2⟩, x2⟩) 40)) (w.heap.size + 1) 40 (encNote ⟨i1, i2, i3, i4, i5, i6, i7, i8, i9, i10, i11, i12, ⟨ga2, gc2, gv2⟩, ⟨ma2, mc2, mv2⟩, ⟨da2, dc2, dv2⟩, x2⟩) := by have h := BoxAt.new (w.alloc (.cells (encNote ⟨i1, i2, i3, i4, i5, i6, i7, i8, i9, i10, i11, i12, ⟨ga1, gc1, gv1⟩, ⟨ma1, mc1, mv1⟩, ⟨da1, dc1, dv1⟩, x1⟩) 40)) 40 (encNote ⟨i1, i2, i3, i4, i5, i6, i7, i8, i9, i10, i11, i12, ⟨ga2, gc2, gv2⟩, ⟨ma2, mc2, mv2⟩, ⟨da2, dc2, dv2⟩, x2⟩); rw [World.size_alloc] at h; exact h
  have hB : Below w.heap.size w ((w.alloc (.cells (encNote ⟨i1, i2, i3, i4, i5, i6, i7, i8, i9, i10, i11, i12, ⟨ga1, gc1, gv1⟩, ⟨ma1, mc1, mv1⟩, ⟨da1, dc1, dv1⟩, x1⟩) 40)).alloc (.cells (encNote ⟨i1, i2, i3, i4, i5, i6, i7, i8, i9, i10, i11, i12, ⟨ga2, gc2, gv2⟩, ⟨ma2, mc2, mv2⟩, ⟨da2, dc2, dv2⟩, x2⟩) 40)) := ((Below.refl _ _).alloc (Nat.le_refl _) _).alloc (by simp) _
  go_enter Tryz.func56, Tryz.ntmps56
  go_wp2_with (first
    | (go_at_call 60; (with_reducible refine (HP.out _ hB).mono ?_); rintro e w3 ⟨rfl, hb3⟩; replace hbA := hbA.belowAll hb3; replace hbB := hbB.belowAll hb3; replace hB := Below.call hB hb3 (Nat.le_refl _); have hq3 : w3.cell? ⟨w.heap.size, 15, none⟩ = some (.slice ma1 mv1.length mc1) := (hbA.cell 15).trans rfl; have hr3 : w3.cell? ⟨w.heap.size + 1, 15, none⟩ = some (.slice ma2 mv2.length mc2) := (hbB.cell 15).trans rfl)
    | (go_at_call 60; (with_reducible refine (HQ.out _ hB).mono ?_); rintro e w4 ⟨rfl, hb4⟩; replace hbA := hbA.belowAll hb4; replace hbB := hbB.belowAll hb4; replace hB := Below.call hB hb4 (Nat.le_refl _); have hq4 : w4.cell? ⟨w.heap.size, 16, none⟩ = some (.slice da1 dv1.length dc1) := (hbA.cell 16).trans rfl; have hr4 : w4.cell? ⟨w.heap.size + 1, 16, none⟩ = some (.slice da2 dv2.length dc2) := (hbB.cell 16).trans rfl)
    | (go_at_call 58; (with_reducible refine (HD.out _ hB).mono ?_); rintro e w5 ⟨rfl, hb5⟩; replace hbA := hbA.belowAll hb5; replace hbB := hbB.belowAll hb5; replace hB := Below.call hB hb5 (Nat.le_refl _))
    | (go_at_call 59; (with_reducible refine (HX.out _ hB).mono ?_); rintro e w6 ⟨rfl, hb6⟩; replace hbA := hbA.belowAll hb6; replace hbB := hbB.belowAll hb6; replace hB := Below.call hB hb6 (Nat.le_refl _))
    | ((with_reducible refine at_dst 106 ?_); refine wpList_loadB hbA rfl 38 _ rfl rfl (encItem x1) (encNote_item (⟨i1, i2, i3, i4, i5, i6, i7, i8, i9, i10, i11, i12, ⟨ga1, gc1, gv1⟩, ⟨ma1, mc1, mv1⟩, ⟨da1, dc1, dv1⟩, x1⟩ : Note)) Tryz.underlying38 rfl (by kernel_rfl) ?_)
    | ((with_reducible refine at_dst 108 ?_); refine wpList_loadB hbB rfl 38 _ rfl rfl (encItem x2) (encNote_item (⟨i1, i2, i3, i4, i5, i6, i7, i8, i9, i10, i11, i12, ⟨ga2, gc2, gv2⟩, ⟨ma2, mc2, mv2⟩, ⟨da2, dc2, dv2⟩, x2⟩ : Note)) Tryz.underlying38 rfl (by kernel_rfl) ?_))
  go_ret
  exact ⟨by simp, hB⟩

theorem refNote_u (D : Nat → Prop) (a b : Note) (w : World) (ha : okNote D w a) (hb : okNote D w b) (e1 : EqNil a.pieces.val b.pieces.val) (e2 : EqNil a.panes.val b.panes.val) (e3 : EqNil a.data.val b.data.val)
    (e4 : EqNil a.item.panes.val b.item.panes.val) (e5 : EqNil a.item.colours.val b.item.colours.val) (e6 : EqNil a.item.sights.val b.item.sights.val) :
    Calls Tryz.prog 56 #[.agg (encNote a), .agg (encNote b)] w fun e w' => e = .returned (.bool (decide (b.abs = a.abs))) ∧ Below w.heap.size w w' := by
  by_cases c0 : a.bench = b.bench
  rotate_left
  · rw [decide_eq_false (fun e => c0 (show b.abs.bench = a.abs.bench from by rw [e]).symm)]
    exact refNote_d0 a b w  c0
  by_cases c1 : a.num = b.num
  rotate_left
  · rw [decide_eq_false (fun e => c1 (show b.abs.num = a.abs.num from by rw [e]).symm)]
    exact refNote_d1 a b w c0.symm c1
  by_cases c2 : a.clock = b.clock
  rotate_left
  · rw [decide_eq_false (fun e => c2 (show b.abs.clock = a.abs.clock from by rw [e]).symm)]
    exact refNote_d2 a b w c0.symm c1.symm c2
  by_cases c3 : a.year = b.year
  rotate_left
  · rw [decide_eq_false (fun e => c3 (show b.abs.year = a.abs.year from by rw [e]).symm)]
    exact refNote_d3 a b w c0.symm c1.symm c2.symm c3
  by_cases c4 : a.kind = b.kind
  rotate_left
  · rw [decide_eq_false (fun e => c4 (show b.abs.kind = a.abs.kind from by rw [e]).symm)]
    exact refNote_d4 a b w c0.symm c1.symm c2.symm c3.symm c4
  by_cases c5 : a.fix = b.fix
  rotate_left
  · rw [decide_eq_false (fun e => c5 (show b.abs.fix = a.abs.fix from by rw [e]).symm)]
    exact refNote_d5 a b w c0.symm c1.symm c2.symm c3.symm c4.symm c5
  by_cases c6 : a.piece = b.piece
  rotate_left
  · rw [decide_eq_false (fun e => c6 (show b.abs.piece = a.abs.piece from by rw [e]).symm)]
    exact refNote_d6 a b w c0.symm c1.symm c2.symm c3.symm c4.symm c5.symm c6
  by_cases c7 : a.pane = b.pane
  rotate_left
  · rw [decide_eq_false (fun e => c7 (show b.abs.pane = a.abs.pane from by rw [e]).symm)]
    exact refNote_d7 a b w c0.symm c1.symm c2.symm c3.symm c4.symm c5.symm c6.symm c7
  by_cases c8 : a.colour = b.colour
  rotate_left
  · rw [decide_eq_false (fun e => c8 (show b.abs.colour = a.abs.colour from by rw [e]).symm)]
    exact refNote_d8 a b w c0.symm c1.symm c2.symm c3.symm c4.symm c5.symm c6.symm c7.symm c8
  by_cases c9 : a.to = b.to
  rotate_left
  · rw [decide_eq_false (fun e => c9 (show b.abs.to = a.abs.to from by rw [e]).symm)]
    exact refNote_d9 a b w c0.symm c1.symm c2.symm c3.symm c4.symm c5.symm c6.symm c7.symm c8.symm c9
  by_cases c10 : a.setting = b.setting
  rotate_left
  · rw [decide_eq_false (fun e => c10 (show b.abs.setting = a.abs.setting from by rw [e]).symm)]
    exact refNote_d10 a b w c0.symm c1.symm c2.symm c3.symm c4.symm c5.symm c6.symm c7.symm c8.symm c9.symm c10
  by_cases c11 : a.ref = b.ref
  rotate_left
  · rw [decide_eq_false (fun e => c11 (show b.abs.ref = a.abs.ref from by rw [e]).symm)]
    exact refNote_d11 a b w c0.symm c1.symm c2.symm c3.symm c4.symm c5.symm c6.symm c7.symm c8.symm c9.symm c10.symm c11
  have HP : Hid (∀ W, Below w.heap.size w W → _) := Lib.hid fun W hW => refInts_u D a.pieces b.pieces W (okNote_pieces (okNote.ext ha (.of_below hW))) (okNote_pieces (okNote.ext hb (.of_below hW))) e1
  have HQ : Hid (∀ W, Below w.heap.size w W → _) := Lib.hid fun W hW => refInts_u D a.panes b.panes W (okNote_panes (okNote.ext ha (.of_below hW))) (okNote_panes (okNote.ext hb (.of_below hW))) e2
  have HD : Hid (∀ W, Below w.heap.size w W → _) := Lib.hid fun W hW => refPieces_u D a.data b.data W (okNote_data (okNote.ext ha (.of_below hW))) (okNote_data (okNote.ext hb (.of_below hW))) e3
  have HX : Hid (∀ W, Below w.heap.size w W → _) := Lib.hid fun W hW => refItem_u D a.item b.item W (okNote_item (okNote.ext ha (.of_below hW))) (okNote_item (okNote.ext hb (.of_below hW))) e4 e5 e6
  have HEQ : decide (b.abs = a.abs) = (decide (b.pieces.val = a.pieces.val) && (decide (b.panes.val = a.panes.val) && (decide (b.data.val.map Piece.abs = a.data.val.map Piece.abs) && decide (b.item.abs = a.item.abs)))) := by
    rw [Bool.eq_iff_iff]; simp [Note.abs, c0, c1, c2, c3, c4, c5, c6, c7, c8, c9, c10, c11]
  rw [HEQ]
  clear HEQ ha hb e1 e2 e3 e4 e5 e6
  obtain ⟨i1, i2, i3, i4, i5, i6, i7, i8, i9, i10, i11, i12, ⟨ga1, gc1, gv1⟩, ⟨ma1, mc1, mv1⟩, ⟨da1, dc1, dv1⟩, x1⟩ := a
  obtain ⟨j1, j2, j3, j4, j5, j6, j7, j8, j9, j10, j11, j12, ⟨ga2, gc2, gv2⟩, ⟨ma2, mc2, mv2⟩, ⟨da2, dc2, dv2⟩, x2⟩ := b
  simp only at c0 c1 c2 c3 c4 c5 c6 c7 c8 c9 c10 c11 HP HQ HD HX ⊢
  subst c0 c1 c2 c3 c4 c5 c6 c7 c8 c9 c10 c11
  generalize decide (gv2 = gv1) = pb at HP ⊢
  generalize decide (mv2 = mv1) = nb at HQ ⊢
  generalize decide (dv2.map Piece.abs = dv1.map Piece.abs) = db at HD ⊢
  generalize decide (x2.abs = x1.abs) = ib at HX ⊢
  cases pb
  · exact refNote_p _ _ _ _ _ _ _ _ _ _ _ _ _ _ _ _ _ _ _ _ _ _ _ _ _ _ _ _ _ _ _ _ w HP
  cases nb
  · exact refNote_n _ _ _ _ _ _ _ _ _ _ _ _ _ _ _ _ _ _ _ _ _ _ _ _ _ _ _ _ _ _ _ _ w HP HQ
  cases db
  · exact refNote_q _ _ _ _ _ _ _ _ _ _ _ _ _ _ _ _ _ _ _ _ _ _ _ _ _ _ _ _ _ _ _ _ w HP HQ HD
  exact refNote_x _ _ _ _ _ _ _ _ _ _ _ _ _ _ _ _ _ _ _ _ _ _ _ _ _ _ _ _ _ _ _ _ w ib HP HQ HD HX
end Go.Proofs.YtendmmhfjhgdaaaGreat
end
section
set_option linter.unusedVariables false
set_option linter.unusedSimpArgs false
namespace Go.Proofs.YtendmmhfjhgdaaaGreat
open Go.RowKit

def usedN (kind : Int) (n : Note) : Note :=
  if kind = 1 then { zNote with data := n.data }
  else if kind = 2 then { zNote with item := n.item }
  else if kind = 3 then { zNote with panes := n.panes }
  else if kind = 4 then { zNote with pieces := n.pieces, to := n.to }
  else if kind = 5 then { zNote with ref := n.ref }
  else if kind = 6 then { zNote with pane := n.pane, piece := n.piece, colour := n.colour, setting := n.setting }
  else if kind = 7 then { zNote with pane := n.pane }
  else if kind = 8 then { zNote with piece := n.piece, data := n.data }
  else zNote

theorem whole_of {cs ds : Array Value} (h : cs = ds) : ∀ j, j < ds.size → cs[0 + j]? = ds[j]? := by subst h; exact whole_cells cs

set_option maxRecDepth 20000 in
set_option maxHeartbeats 4000000 in
theorem used9_1 (kind : Int) (n : Note) (w : World) (hk : kind = 1) :
    Calls Tryz.prog 128 #[.agg (encNote n), .int .i64 kind] w fun e w' => e = .returned (.agg (encNote ({ zNote with data := n.data }))) ∧ Below w.heap.size w w' := by
  subst hk
  have hbA : BoxAt (((w.alloc (.cells (encNote n) 40)).alloc (.cells (encNote zNote) 40)).alloc (.cells (encNote zNote) 40)) w.heap.size 40 (encNote n) := ((BoxAt.new _ _ _).alloc _).alloc _
  have hbR : BoxAt (((w.alloc (.cells (encNote n) 40)).alloc (.cells (encNote zNote) 40)).alloc (.cells (encNote zNote) 40)) (w.heap.size + 1) 40 (encNote zNote) := by have h := (BoxAt.new (w.alloc (.cells (encNote n) 40)) 40 (encNote zNote)).alloc (.cells (encNote zNote) 40); rwa [World.size_alloc] at h
  have hbO : BoxAt (((w.alloc (.cells (encNote n) 40)).alloc (.cells (encNote zNote) 40)).alloc (.cells (encNote zNote) 40)) (w.heap.size + 1 + 1) 40 (encNote zNote) := by have h := BoxAt.new ((w.alloc (.cells (encNote n) 40)).alloc (.cells (encNote zNote) 40)) 40 (encNote zNote); rwa [World.size_alloc, World.size_alloc] at h
  have hB : Below w.heap.size w (((w.alloc (.cells (encNote n) 40)).alloc (.cells (encNote zNote) 40)).alloc (.cells (encNote zNote) 40)) := (((Below.refl _ _).alloc (Nat.le_refl _) _).alloc (by simp) _).alloc (by simp; omega) _
  go_enter Tryz.func128, Tryz.ntmps128
  go_wp2_with (first
    | ((with_reducible refine at_storeT 33 ?_); refine wpList_store_box hbO rfl _ _ _ rfl rfl (.slice n.data.a n.data.val.length n.data.cap) rfl (by kernel_rfl) rfl (one_slice _ _ _) ?_; intro w1 hbO1 hT; replace hbA := hbA.turn hT (by omega); replace hbR := hbR.turn hT (by omega); replace hB := hB.trans (hT.below (by omega)); replace hbO := hbO1; have hcA : ∀ o, w1.cell? ⟨w.heap.size, o, none⟩ = (encNote n)[o]? := fun o => hbA.cell o)
    | ((with_reducible refine at_dst 62 ?_); refine wpList_loadB hbO rfl 40 _ rfl rfl (encNote ({ zNote with data := n.data })) (whole_of (by simp [splice, encNote, zNote, zItem, Value.cells, Sl.v, Sl.nil, encItem, encRef, encSetting])) Tryz.underlying40 rfl (by kernel_rfl) ?_)
    | ((with_reducible refine at_storeT 40 ?_); refine wpList_store_box hbR rfl _ _ _ rfl rfl (.agg (encNote ({ zNote with data := n.data }))) rfl (by kernel_rfl) rfl (one_agg (encNote_one _)) ?_; intro w2 hbR1 hT; replace hB := hB.trans (hT.below (by omega)); clear hT))
  exact bodyPost_ret (results_cell_box (cs := encNote ({ zNote with data := n.data })) (hbR1.eqv (by simp [splice, encNote, zNote, zItem, Value.cells, Sl.v, Sl.nil])) rfl rfl Tryz.underlying40 rfl (by kernel_rfl)) rfl ⟨rfl, hB⟩

set_option maxRecDepth 20000 in
set_option maxHeartbeats 4000000 in
theorem used9_2 (kind : Int) (n : Note) (w : World) (hk : kind = 2) :
    Calls Tryz.prog 128 #[.agg (encNote n), .int .i64 kind] w fun e w' => e = .returned (.agg (encNote ({ zNote with item := n.item }))) ∧ Below w.heap.size w w' := by
  subst hk
  have hbA : BoxAt (((w.alloc (.cells (encNote n) 40)).alloc (.cells (encNote zNote) 40)).alloc (.cells (encNote zNote) 40)) w.heap.size 40 (encNote n) := ((BoxAt.new _ _ _).alloc _).alloc _
  have hbR : BoxAt (((w.alloc (.cells (encNote n) 40)).alloc (.cells (encNote zNote) 40)).alloc (.cells (encNote zNote) 40)) (w.heap.size + 1) 40 (encNote zNote) := by have h := (BoxAt.new (w.alloc (.cells (encNote n) 40)) 40 (encNote zNote)).alloc (.cells (encNote zNote) 40); rwa [World.size_alloc] at h
  have hbO : BoxAt (((w.alloc (.cells (encNote n) 40)).alloc (.cells (encNote zNote) 40)).alloc (.cells (encNote zNote) 40)) (w.heap.size + 1 + 1) 40 (encNote zNote) := by have h := BoxAt.new ((w.alloc (.cells (encNote n) 40)).alloc (.cells (encNote zNote) 40)) 40 (encNote zNote); rwa [World.size_alloc, World.size_alloc] at h
  have hB : Below w.heap.size w (((w.alloc (.cells (encNote n) 40)).alloc (.cells (encNote zNote) 40)).alloc (.cells (encNote zNote) 40)) := (((Below.refl _ _).alloc (Nat.le_refl _) _).alloc (by simp) _).alloc (by simp; omega) _
  go_enter Tryz.func128, Tryz.ntmps128
  go_wp2_with (first
    | ((with_reducible refine at_storeT 38 ?_); refine wpList_store_box hbO rfl _ _ _ rfl rfl (.agg (encItem n.item)) rfl (by kernel_rfl) rfl (one_agg (encItem_one _)) ?_; intro w1 hbO1 hT; replace hbA := hbA.turn hT (by omega); replace hbR := hbR.turn hT (by omega); replace hB := hB.trans (hT.below (by omega)); replace hbO := hbO1; have hcA : ∀ o, w1.cell? ⟨w.heap.size, o, none⟩ = (encNote n)[o]? := fun o => hbA.cell o)
    | ((with_reducible refine at_dst 15 ?_); refine wpList_loadB hbA rfl 38 _ rfl rfl (encItem n.item) (encNote_item n) Tryz.underlying38 rfl (by kernel_rfl) ?_)
    | ((with_reducible refine at_dst 62 ?_); refine wpList_loadB hbO rfl 40 _ rfl rfl (encNote ({ zNote with item := n.item })) (whole_of (by simp [splice, encNote, zNote, zItem, Value.cells, Sl.v, Sl.nil, encItem, encRef, encSetting])) Tryz.underlying40 rfl (by kernel_rfl) ?_)
    | ((with_reducible refine at_storeT 40 ?_); refine wpList_store_box hbR rfl _ _ _ rfl rfl (.agg (encNote ({ zNote with item := n.item }))) rfl (by kernel_rfl) rfl (one_agg (encNote_one _)) ?_; intro w2 hbR1 hT; replace hB := hB.trans (hT.below (by omega)); clear hT))
  exact bodyPost_ret (results_cell_box (cs := encNote ({ zNote with item := n.item })) (hbR1.eqv (by simp [splice, encNote, zNote, zItem, Value.cells, Sl.v, Sl.nil])) rfl rfl Tryz.underlying40 rfl (by kernel_rfl)) rfl ⟨rfl, hB⟩

set_option maxRecDepth 20000 in
set_option maxHeartbeats 4000000 in
theorem used9_3 (kind : Int) (n : Note) (w : World) (hk : kind = 3) :
    Calls Tryz.prog 128 #[.agg (encNote n), .int .i64 kind] w fun e w' => e = .returned (.agg (encNote ({ zNote with panes := n.panes }))) ∧ Below w.heap.size w w' := by
  subst hk
  have hbA : BoxAt (((w.alloc (.cells (encNote n) 40)).alloc (.cells (encNote zNote) 40)).alloc (.cells (encNote zNote) 40)) w.heap.size 40 (encNote n) := ((BoxAt.new _ _ _).alloc _).alloc _
  have hbR : BoxAt (((w.alloc (.cells (encNote n) 40)).alloc (.cells (encNote zNote) 40)).alloc (.cells (encNote zNote) 40)) (w.heap.size + 1) 40 (encNote zNote) := by have h := (BoxAt.new (w.alloc (.cells (encNote n) 40)) 40 (encNote zNote)).alloc (.cells (encNote zNote) 40); rwa [World.size_alloc] at h
  have hbO : BoxAt (((w.alloc (.cells (encNote n) 40)).alloc (.cells (encNote zNote) 40)).alloc (.cells (encNote zNote) 40)) (w.heap.size + 1 + 1) 40 (encNote zNote) := by have h := BoxAt.new ((w.alloc (.cells (encNote n) 40)).alloc (.cells (encNote zNote) 40)) 40 (encNote zNote); rwa [World.size_alloc, World.size_alloc] at h
  have hB : Below w.heap.size w (((w.alloc (.cells (encNote n) 40)).alloc (.cells (encNote zNote) 40)).alloc (.cells (encNote zNote) 40)) := (((Below.refl _ _).alloc (Nat.le_refl _) _).alloc (by simp) _).alloc (by simp; omega) _
  go_enter Tryz.func128, Tryz.ntmps128
  go_wp2_with (first
    | ((with_reducible refine at_storeT 32 ?_); refine wpList_store_box hbO rfl _ _ _ rfl rfl (.slice n.panes.a n.panes.val.length n.panes.cap) rfl (by kernel_rfl) rfl (one_slice _ _ _) ?_; intro w1 hbO1 hT; replace hbA := hbA.turn hT (by omega); replace hbR := hbR.turn hT (by omega); replace hB := hB.trans (hT.below (by omega)); replace hbO := hbO1; have hcA : ∀ o, w1.cell? ⟨w.heap.size, o, none⟩ = (encNote n)[o]? := fun o => hbA.cell o)
    | ((with_reducible refine at_dst 62 ?_); refine wpList_loadB hbO rfl 40 _ rfl rfl (encNote ({ zNote with panes := n.panes })) (whole_of (by simp [splice, encNote, zNote, zItem, Value.cells, Sl.v, Sl.nil, encItem, encRef, encSetting])) Tryz.underlying40 rfl (by kernel_rfl) ?_)
    | ((with_reducible refine at_storeT 40 ?_); refine wpList_store_box hbR rfl _ _ _ rfl rfl (.agg (encNote ({ zNote with panes := n.panes }))) rfl (by kernel_rfl) rfl (one_agg (encNote_one _)) ?_; intro w2 hbR1 hT; replace hB := hB.trans (hT.below (by omega)); clear hT))
  exact bodyPost_ret (results_cell_box (cs := encNote ({ zNote with panes := n.panes })) (hbR1.eqv (by simp [splice, encNote, zNote, zItem, Value.cells, Sl.v, Sl.nil])) rfl rfl Tryz.underlying40 rfl (by kernel_rfl)) rfl ⟨rfl, hB⟩

set_option maxRecDepth 20000 in
set_option maxHeartbeats 4000000 in
theorem used9_4 (kind : Int) (n : Note) (w : World) (hk : kind = 4) :
    Calls Tryz.prog 128 #[.agg (encNote n), .int .i64 kind] w fun e w' => e = .returned (.agg (encNote ({ zNote with pieces := n.pieces, to := n.to }))) ∧ Below w.heap.size w w' := by
  subst hk
  have hbA : BoxAt (((w.alloc (.cells (encNote n) 40)).alloc (.cells (encNote zNote) 40)).alloc (.cells (encNote zNote) 40)) w.heap.size 40 (encNote n) := ((BoxAt.new _ _ _).alloc _).alloc _
  have hbR : BoxAt (((w.alloc (.cells (encNote n) 40)).alloc (.cells (encNote zNote) 40)).alloc (.cells (encNote zNote) 40)) (w.heap.size + 1) 40 (encNote zNote) := by have h := (BoxAt.new (w.alloc (.cells (encNote n) 40)) 40 (encNote zNote)).alloc (.cells (encNote zNote) 40); rwa [World.size_alloc] at h
  have hbO : BoxAt (((w.alloc (.cells (encNote n) 40)).alloc (.cells (encNote zNote) 40)).alloc (.cells (encNote zNote) 40)) (w.heap.size + 1 + 1) 40 (encNote zNote) := by have h := BoxAt.new ((w.alloc (.cells (encNote n) 40)).alloc (.cells (encNote zNote) 40)) 40 (encNote zNote); rwa [World.size_alloc, World.size_alloc] at h
  have hB : Below w.heap.size w (((w.alloc (.cells (encNote n) 40)).alloc (.cells (encNote zNote) 40)).alloc (.cells (encNote zNote) 40)) := (((Below.refl _ _).alloc (Nat.le_refl _) _).alloc (by simp) _).alloc (by simp; omega) _
  go_enter Tryz.func128, Tryz.ntmps128
  go_wp2_with (first
    | ((with_reducible refine at_storeT 32 ?_); refine wpList_store_box hbO rfl _ _ _ rfl rfl (.slice n.pieces.a n.pieces.val.length n.pieces.cap) rfl (by kernel_rfl) rfl (one_slice _ _ _) ?_; intro w1 hbO1 hT; replace hbA := hbA.turn hT (by omega); replace hbR := hbR.turn hT (by omega); replace hB := hB.trans (hT.below (by omega)); replace hbO := hbO1; have hcA : ∀ o, w1.cell? ⟨w.heap.size, o, none⟩ = (encNote n)[o]? := fun o => hbA.cell o)
    | ((with_reducible refine at_storeT 3 ?_); refine wpList_store_box hbO rfl _ _ _ rfl rfl (vi n.to) rfl (by kernel_rfl) rfl (one_vi _) ?_; intro w1 hbO1 hT; replace hbA := hbA.turn hT (by omega); replace hbR := hbR.turn hT (by omega); replace hB := hB.trans (hT.below (by omega)); replace hbO := hbO1; have hcA : ∀ o, w1.cell? ⟨w.heap.size, o, none⟩ = (encNote n)[o]? := fun o => hbA.cell o)
    | ((with_reducible refine at_dst 62 ?_); refine wpList_loadB hbO rfl 40 _ rfl rfl (encNote ({ zNote with pieces := n.pieces, to := n.to })) (whole_of (by simp [splice, encNote, zNote, zItem, Value.cells, Sl.v, Sl.nil, encItem, encRef, encSetting])) Tryz.underlying40 rfl (by kernel_rfl) ?_)
    | ((with_reducible refine at_storeT 40 ?_); refine wpList_store_box hbR rfl _ _ _ rfl rfl (.agg (encNote ({ zNote with pieces := n.pieces, to := n.to }))) rfl (by kernel_rfl) rfl (one_agg (encNote_one _)) ?_; intro w2 hbR1 hT; replace hB := hB.trans (hT.below (by omega)); clear hT))
  exact bodyPost_ret (results_cell_box (cs := encNote ({ zNote with pieces := n.pieces, to := n.to })) (hbR1.eqv (by simp [splice, encNote, zNote, zItem, Value.cells, Sl.v, Sl.nil])) rfl rfl Tryz.underlying40 rfl (by kernel_rfl)) rfl ⟨rfl, hB⟩

set_option maxRecDepth 20000 in
set_option maxHeartbeats 4000000 in
theorem used9_5 (kind : Int) (n : Note) (w : World) (hk : kind = 5) :
    Calls Tryz.prog 128 #[.agg (encNote n), .int .i64 kind] w fun e w' => e = .returned (.agg (encNote ({ zNote with ref := n.ref }))) ∧ Below w.heap.size w w' := by
  subst hk
  have hbA : BoxAt (((w.alloc (.cells (encNote n) 40)).alloc (.cells (encNote zNote) 40)).alloc (.cells (encNote zNote) 40)) w.heap.size 40 (encNote n) := ((BoxAt.new _ _ _).alloc _).alloc _
  have hbR : BoxAt (((w.alloc (.cells (encNote n) 40)).alloc (.cells (encNote zNote) 40)).alloc (.cells (encNote zNote) 40)) (w.heap.size + 1) 40 (encNote zNote) := by have h := (BoxAt.new (w.alloc (.cells (encNote n) 40)) 40 (encNote zNote)).alloc (.cells (encNote zNote) 40); rwa [World.size_alloc] at h
  have hbO : BoxAt (((w.alloc (.cells (encNote n) 40)).alloc (.cells (encNote zNote) 40)).alloc (.cells (encNote zNote) 40)) (w.heap.size + 1 + 1) 40 (encNote zNote) := by have h := BoxAt.new ((w.alloc (.cells (encNote n) 40)).alloc (.cells (encNote zNote) 40)) 40 (encNote zNote); rwa [World.size_alloc, World.size_alloc] at h
  have hB : Below w.heap.size w (((w.alloc (.cells (encNote n) 40)).alloc (.cells (encNote zNote) 40)).alloc (.cells (encNote zNote) 40)) := (((Below.refl _ _).alloc (Nat.le_refl _) _).alloc (by simp) _).alloc (by simp; omega) _
  go_enter Tryz.func128, Tryz.ntmps128
  go_wp2_with (first
    | ((with_reducible refine at_storeT 31 ?_); refine wpList_store_box hbO rfl _ _ _ rfl rfl (.agg (encRef n.ref)) rfl (by kernel_rfl) rfl (one_agg (encRef_one _)) ?_; intro w1 hbO1 hT; replace hbA := hbA.turn hT (by omega); replace hbR := hbR.turn hT (by omega); replace hB := hB.trans (hT.below (by omega)); replace hbO := hbO1; have hcA : ∀ o, w1.cell? ⟨w.heap.size, o, none⟩ = (encNote n)[o]? := fun o => hbA.cell o)
    | ((with_reducible refine at_dst 33 ?_); refine wpList_loadB hbA rfl 31 _ rfl rfl (encRef n.ref) (encNote_ref n) Tryz.underlying31 rfl (by kernel_rfl) ?_)
    | ((with_reducible refine at_dst 62 ?_); refine wpList_loadB hbO rfl 40 _ rfl rfl (encNote ({ zNote with ref := n.ref })) (whole_of (by simp [splice, encNote, zNote, zItem, Value.cells, Sl.v, Sl.nil, encItem, encRef, encSetting])) Tryz.underlying40 rfl (by kernel_rfl) ?_)
    | ((with_reducible refine at_storeT 40 ?_); refine wpList_store_box hbR rfl _ _ _ rfl rfl (.agg (encNote ({ zNote with ref := n.ref }))) rfl (by kernel_rfl) rfl (one_agg (encNote_one _)) ?_; intro w2 hbR1 hT; replace hB := hB.trans (hT.below (by omega)); clear hT))
  exact bodyPost_ret (results_cell_box (cs := encNote ({ zNote with ref := n.ref })) (hbR1.eqv (by simp [splice, encNote, zNote, zItem, Value.cells, Sl.v, Sl.nil])) rfl rfl Tryz.underlying40 rfl (by kernel_rfl)) rfl ⟨rfl, hB⟩

set_option maxRecDepth 20000 in
set_option maxHeartbeats 4000000 in
theorem used9_6 (kind : Int) (n : Note) (w : World) (hk : kind = 6) :
    Calls Tryz.prog 128 #[.agg (encNote n), .int .i64 kind] w fun e w' => e = .returned (.agg (encNote ({ zNote with pane := n.pane, piece := n.piece, colour := n.colour, setting := n.setting }))) ∧ Below w.heap.size w w' := by
  subst hk
  have hbA : BoxAt (((w.alloc (.cells (encNote n) 40)).alloc (.cells (encNote zNote) 40)).alloc (.cells (encNote zNote) 40)) w.heap.size 40 (encNote n) := ((BoxAt.new _ _ _).alloc _).alloc _
  have hbR : BoxAt (((w.alloc (.cells (encNote n) 40)).alloc (.cells (encNote zNote) 40)).alloc (.cells (encNote zNote) 40)) (w.heap.size + 1) 40 (encNote zNote) := by have h := (BoxAt.new (w.alloc (.cells (encNote n) 40)) 40 (encNote zNote)).alloc (.cells (encNote zNote) 40); rwa [World.size_alloc] at h
  have hbO : BoxAt (((w.alloc (.cells (encNote n) 40)).alloc (.cells (encNote zNote) 40)).alloc (.cells (encNote zNote) 40)) (w.heap.size + 1 + 1) 40 (encNote zNote) := by have h := BoxAt.new ((w.alloc (.cells (encNote n) 40)).alloc (.cells (encNote zNote) 40)) 40 (encNote zNote); rwa [World.size_alloc, World.size_alloc] at h
  have hB : Below w.heap.size w (((w.alloc (.cells (encNote n) 40)).alloc (.cells (encNote zNote) 40)).alloc (.cells (encNote zNote) 40)) := (((Below.refl _ _).alloc (Nat.le_refl _) _).alloc (by simp) _).alloc (by simp; omega) _
  go_enter Tryz.func128, Tryz.ntmps128
  go_wp2_with (first
    | ((with_reducible refine at_storeT 3 ?_); refine wpList_store_box hbO rfl _ _ _ rfl rfl (vi n.pane) rfl (by kernel_rfl) rfl (one_vi _) ?_; intro w1 hbO1 hT; replace hbA := hbA.turn hT (by omega); replace hbR := hbR.turn hT (by omega); replace hB := hB.trans (hT.below (by omega)); replace hbO := hbO1; have hcA : ∀ o, w1.cell? ⟨w.heap.size, o, none⟩ = (encNote n)[o]? := fun o => hbA.cell o)
    | ((with_reducible refine at_storeT 3 ?_); refine wpList_store_box hbO rfl _ _ _ rfl rfl (vi n.piece) rfl (by kernel_rfl) rfl (one_vi _) ?_; intro w1 hbO1 hT; replace hbA := hbA.turn hT (by omega); replace hbR := hbR.turn hT (by omega); replace hB := hB.trans (hT.below (by omega)); replace hbO := hbO1; have hcA : ∀ o, w1.cell? ⟨w.heap.size, o, none⟩ = (encNote n)[o]? := fun o => hbA.cell o)
    | ((with_reducible refine at_storeT 3 ?_); refine wpList_store_box hbO rfl _ _ _ rfl rfl (vi n.colour) rfl (by kernel_rfl) rfl (one_vi _) ?_; intro w1 hbO1 hT; replace hbA := hbA.turn hT (by omega); replace hbR := hbR.turn hT (by omega); replace hB := hB.trans (hT.below (by omega)); replace hbO := hbO1; have hcA : ∀ o, w1.cell? ⟨w.heap.size, o, none⟩ = (encNote n)[o]? := fun o => hbA.cell o)
    | ((with_reducible refine at_storeT 29 ?_); refine wpList_store_box hbO rfl _ _ _ rfl rfl (.agg (encSetting n.setting)) rfl (by kernel_rfl) rfl (one_agg (encSetting_one _)) ?_; intro w1 hbO1 hT; replace hbA := hbA.turn hT (by omega); replace hbR := hbR.turn hT (by omega); replace hB := hB.trans (hT.below (by omega)); replace hbO := hbO1; have hcA : ∀ o, w1.cell? ⟨w.heap.size, o, none⟩ = (encNote n)[o]? := fun o => hbA.cell o)
    | ((with_reducible refine at_dst 47 ?_); refine wpList_loadB hbA rfl 29 _ rfl rfl (encSetting n.setting) (encNote_setting n) Tryz.underlying29 rfl (by kernel_rfl) ?_)
    | ((with_reducible refine at_dst 62 ?_); refine wpList_loadB hbO rfl 40 _ rfl rfl (encNote ({ zNote with pane := n.pane, piece := n.piece, colour := n.colour, setting := n.setting })) (whole_of (by simp [splice, encNote, zNote, zItem, Value.cells, Sl.v, Sl.nil, encItem, encRef, encSetting])) Tryz.underlying40 rfl (by kernel_rfl) ?_)
    | ((with_reducible refine at_storeT 40 ?_); refine wpList_store_box hbR rfl _ _ _ rfl rfl (.agg (encNote ({ zNote with pane := n.pane, piece := n.piece, colour := n.colour, setting := n.setting }))) rfl (by kernel_rfl) rfl (one_agg (encNote_one _)) ?_; intro w2 hbR1 hT; replace hB := hB.trans (hT.below (by omega)); clear hT))
  exact bodyPost_ret (results_cell_box (cs := encNote ({ zNote with pane := n.pane, piece := n.piece, colour := n.colour, setting := n.setting })) (hbR1.eqv (by simp [splice, encNote, zNote, zItem, Value.cells, Sl.v, Sl.nil])) rfl rfl Tryz.underlying40 rfl (by kernel_rfl)) rfl ⟨rfl, hB⟩

set_option maxRecDepth 20000 in
set_option maxHeartbeats 4000000 in
theorem used9_7 (kind : Int) (n : Note) (w : World) (hk : kind = 7) :
    Calls Tryz.prog 128 #[.agg (encNote n), .int .i64 kind] w fun e w' => e = .returned (.agg (encNote ({ zNote with pane := n.pane }))) ∧ Below w.heap.size w w' := by
  subst hk
  have hbA : BoxAt (((w.alloc (.cells (encNote n) 40)).alloc (.cells (encNote zNote) 40)).alloc (.cells (encNote zNote) 40)) w.heap.size 40 (encNote n) := ((BoxAt.new _ _ _).alloc _).alloc _
  have hbR : BoxAt (((w.alloc (.cells (encNote n) 40)).alloc (.cells (encNote zNote) 40)).alloc (.cells (encNote zNote) 40)) (w.heap.size + 1) 40 (encNote zNote) := by have h := (BoxAt.new (w.alloc (.cells (encNote n) 40)) 40 (encNote zNote)).alloc (.cells (encNote zNote) 40); rwa [World.size_alloc] at h
  have hbO : BoxAt (((w.alloc (.cells (encNote n) 40)).alloc (.cells (encNote zNote) 40)).alloc (.cells (encNote zNote) 40)) (w.heap.size + 1 + 1) 40 (encNote zNote) := by have h := BoxAt.new ((w.alloc (.cells (encNote n) 40)).alloc (.cells (encNote zNote) 40)) 40 (encNote zNote); rwa [World.size_alloc, World.size_alloc] at h
  have hB : Below w.heap.size w (((w.alloc (.cells (encNote n) 40)).alloc (.cells (encNote zNote) 40)).alloc (.cells (encNote zNote) 40)) := (((Below.refl _ _).alloc (Nat.le_refl _) _).alloc (by simp) _).alloc (by simp; omega) _
  go_enter Tryz.func128, Tryz.ntmps128
  go_wp2_with (first
    | ((with_reducible refine at_storeT 3 ?_); refine wpList_store_box hbO rfl _ _ _ rfl rfl (vi n.pane) rfl (by kernel_rfl) rfl (one_vi _) ?_; intro w1 hbO1 hT; replace hbA := hbA.turn hT (by omega); replace hbR := hbR.turn hT (by omega); replace hB := hB.trans (hT.below (by omega)); replace hbO := hbO1; have hcA : ∀ o, w1.cell? ⟨w.heap.size, o, none⟩ = (encNote n)[o]? := fun o => hbA.cell o)
    | ((with_reducible refine at_dst 62 ?_); refine wpList_loadB hbO rfl 40 _ rfl rfl (encNote ({ zNote with pane := n.pane })) (whole_of (by simp [splice, encNote, zNote, zItem, Value.cells, Sl.v, Sl.nil, encItem, encRef, encSetting])) Tryz.underlying40 rfl (by kernel_rfl) ?_)
    | ((with_reducible refine at_storeT 40 ?_); refine wpList_store_box hbR rfl _ _ _ rfl rfl (.agg (encNote ({ zNote with pane := n.pane }))) rfl (by kernel_rfl) rfl (one_agg (encNote_one _)) ?_; intro w2 hbR1 hT; replace hB := hB.trans (hT.below (by omega)); clear hT))
  exact bodyPost_ret (results_cell_box (cs := encNote ({ zNote with pane := n.pane })) (hbR1.eqv (by simp [splice, encNote, zNote, zItem, Value.cells, Sl.v, Sl.nil])) rfl rfl Tryz.underlying40 rfl (by kernel_rfl)) rfl ⟨rfl, hB⟩

set_option maxRecDepth 20000 in
set_option maxHeartbeats 4000000 in
theorem used9_8 (kind : Int) (n : Note) (w : World) (hk : kind = 8) :
    Calls Tryz.prog 128 #[.agg (encNote n), .int .i64 kind] w fun e w' => e = .returned (.agg (encNote ({ zNote with piece := n.piece, data := n.data }))) ∧ Below w.heap.size w w' := by
  subst hk
  have hbA : BoxAt (((w.alloc (.cells (encNote n) 40)).alloc (.cells (encNote zNote) 40)).alloc (.cells (encNote zNote) 40)) w.heap.size 40 (encNote n) := ((BoxAt.new _ _ _).alloc _).alloc _
  have hbR : BoxAt (((w.alloc (.cells (encNote n) 40)).alloc (.cells (encNote zNote) 40)).alloc (.cells (encNote zNote) 40)) (w.heap.size + 1) 40 (encNote zNote) := by have h := (BoxAt.new (w.alloc (.cells (encNote n) 40)) 40 (encNote zNote)).alloc (.cells (encNote zNote) 40); rwa [World.size_alloc] at h
  have hbO : BoxAt (((w.alloc (.cells (encNote n) 40)).alloc (.cells (encNote zNote) 40)).alloc (.cells (encNote zNote) 40)) (w.heap.size + 1 + 1) 40 (encNote zNote) := by have h := BoxAt.new ((w.alloc (.cells (encNote n) 40)).alloc (.cells (encNote zNote) 40)) 40 (encNote zNote); rwa [World.size_alloc, World.size_alloc] at h
  have hB : Below w.heap.size w (((w.alloc (.cells (encNote n) 40)).alloc (.cells (encNote zNote) 40)).alloc (.cells (encNote zNote) 40)) := (((Below.refl _ _).alloc (Nat.le_refl _) _).alloc (by simp) _).alloc (by simp; omega) _
  go_enter Tryz.func128, Tryz.ntmps128
  go_wp2_with (first
    | ((with_reducible refine at_storeT 3 ?_); refine wpList_store_box hbO rfl _ _ _ rfl rfl (vi n.piece) rfl (by kernel_rfl) rfl (one_vi _) ?_; intro w1 hbO1 hT; replace hbA := hbA.turn hT (by omega); replace hbR := hbR.turn hT (by omega); replace hB := hB.trans (hT.below (by omega)); replace hbO := hbO1; have hcA : ∀ o, w1.cell? ⟨w.heap.size, o, none⟩ = (encNote n)[o]? := fun o => hbA.cell o)
    | ((with_reducible refine at_storeT 33 ?_); refine wpList_store_box hbO rfl _ _ _ rfl rfl (.slice n.data.a n.data.val.length n.data.cap) rfl (by kernel_rfl) rfl (one_slice _ _ _) ?_; intro w1 hbO1 hT; replace hbA := hbA.turn hT (by omega); replace hbR := hbR.turn hT (by omega); replace hB := hB.trans (hT.below (by omega)); replace hbO := hbO1; have hcA : ∀ o, w1.cell? ⟨w.heap.size, o, none⟩ = (encNote n)[o]? := fun o => hbA.cell o)
    | ((with_reducible refine at_dst 62 ?_); refine wpList_loadB hbO rfl 40 _ rfl rfl (encNote ({ zNote with piece := n.piece, data := n.data })) (whole_of (by simp [splice, encNote, zNote, zItem, Value.cells, Sl.v, Sl.nil, encItem, encRef, encSetting])) Tryz.underlying40 rfl (by kernel_rfl) ?_)
    | ((with_reducible refine at_storeT 40 ?_); refine wpList_store_box hbR rfl _ _ _ rfl rfl (.agg (encNote ({ zNote with piece := n.piece, data := n.data }))) rfl (by kernel_rfl) rfl (one_agg (encNote_one _)) ?_; intro w2 hbR1 hT; replace hB := hB.trans (hT.below (by omega)); clear hT))
  exact bodyPost_ret (results_cell_box (cs := encNote ({ zNote with piece := n.piece, data := n.data })) (hbR1.eqv (by simp [splice, encNote, zNote, zItem, Value.cells, Sl.v, Sl.nil])) rfl rfl Tryz.underlying40 rfl (by kernel_rfl)) rfl ⟨rfl, hB⟩

set_option maxRecDepth 20000 in
set_option maxHeartbeats 4000000 in
theorem used9_no (kind : Int) (n : Note) (w : World) (h1 : ¬ kind = 1) (h2 : ¬ kind = 2) (h3 : ¬ kind = 3) (h4 : ¬ kind = 4) (h5 : ¬ kind = 5) (h6 : ¬ kind = 6) (h7 : ¬ kind = 7) (h8 : ¬ kind = 8) :
    Calls Tryz.prog 128 #[.agg (encNote n), .int .i64 kind] w fun e w' => e = .returned (.agg (encNote (zNote))) ∧ Below w.heap.size w w' := by
  have hbA : BoxAt (((w.alloc (.cells (encNote n) 40)).alloc (.cells (encNote zNote) 40)).alloc (.cells (encNote zNote) 40)) w.heap.size 40 (encNote n) := ((BoxAt.new _ _ _).alloc _).alloc _
  have hbR : BoxAt (((w.alloc (.cells (encNote n) 40)).alloc (.cells (encNote zNote) 40)).alloc (.cells (encNote zNote) 40)) (w.heap.size + 1) 40 (encNote zNote) := by have h := (BoxAt.new (w.alloc (.cells (encNote n) 40)) 40 (encNote zNote)).alloc (.cells (encNote zNote) 40); rwa [World.size_alloc] at h
  have hbO : BoxAt (((w.alloc (.cells (encNote n) 40)).alloc (.cells (encNote zNote) 40)).alloc (.cells (encNote zNote) 40)) (w.heap.size + 1 + 1) 40 (encNote zNote) := by have h := BoxAt.new ((w.alloc (.cells (encNote n) 40)).alloc (.cells (encNote zNote) 40)) 40 (encNote zNote); rwa [World.size_alloc, World.size_alloc] at h
  have hB : Below w.heap.size w (((w.alloc (.cells (encNote n) 40)).alloc (.cells (encNote zNote) 40)).alloc (.cells (encNote zNote) 40)) := (((Below.refl _ _).alloc (Nat.le_refl _) _).alloc (by simp) _).alloc (by simp; omega) _
  go_enter Tryz.func128, Tryz.ntmps128
  go_wp2_with (first
    | ((with_reducible refine at_dst 62 ?_); refine wpList_loadB hbO rfl 40 _ rfl rfl (encNote (zNote)) (whole_of (by simp [splice, encNote, zNote, zItem, Value.cells, Sl.v, Sl.nil, encItem, encRef, encSetting])) Tryz.underlying40 rfl (by kernel_rfl) ?_)
    | ((with_reducible refine at_storeT 40 ?_); refine wpList_store_box hbR rfl _ _ _ rfl rfl (.agg (encNote (zNote))) rfl (by kernel_rfl) rfl (one_agg (encNote_one _)) ?_; intro w2 hbR1 hT; replace hB := hB.trans (hT.below (by omega)); clear hT))
  exact bodyPost_ret (results_cell_box (cs := encNote (zNote)) (hbR1.eqv (by simp [splice, encNote, zNote, zItem, Value.cells, Sl.v, Sl.nil])) rfl rfl Tryz.underlying40 rfl (by kernel_rfl)) rfl ⟨rfl, hB⟩

theorem used_ref (kind : Int) (n : Note) (w : World) :
    Calls Tryz.prog 128 #[.agg (encNote n), .int .i64 kind] w fun e w' => e = .returned (.agg (encNote (usedN kind n))) ∧ Below w.heap.size w w' := by
  by_cases h1 : kind = 1
  · have e : usedN kind n = { zNote with data := n.data } := by subst h1; rfl
    rw [e]; exact used9_1 kind n w h1
  by_cases h2 : kind = 2
  · have e : usedN kind n = { zNote with item := n.item } := by subst h2; rfl
    rw [e]; exact used9_2 kind n w h2
  by_cases h3 : kind = 3
  · have e : usedN kind n = { zNote with panes := n.panes } := by subst h3; rfl
    rw [e]; exact used9_3 kind n w h3
  by_cases h4 : kind = 4
  · have e : usedN kind n = { zNote with pieces := n.pieces, to := n.to } := by subst h4; rfl
    rw [e]; exact used9_4 kind n w h4
  by_cases h5 : kind = 5
  · have e : usedN kind n = { zNote with ref := n.ref } := by subst h5; rfl
    rw [e]; exact used9_5 kind n w h5
  by_cases h6 : kind = 6
  · have e : usedN kind n = { zNote with pane := n.pane, piece := n.piece, colour := n.colour, setting := n.setting } := by subst h6; rfl
    rw [e]; exact used9_6 kind n w h6
  by_cases h7 : kind = 7
  · have e : usedN kind n = { zNote with pane := n.pane } := by subst h7; rfl
    rw [e]; exact used9_7 kind n w h7
  by_cases h8 : kind = 8
  · have e : usedN kind n = { zNote with piece := n.piece, data := n.data } := by subst h8; rfl
    rw [e]; exact used9_8 kind n w h8
  have e : usedN kind n = zNote := by simp [usedN, h1, h2, h3, h4, h5, h6, h7, h8]
  rw [e]; exact used9_no kind n w h1 h2 h3 h4 h5 h6 h7 h8
end Go.Proofs.YtendmmhfjhgdaaaGreat
end
