/-
  slices.Clone at the types of this seat, walked: a slice of the call's own that holds the same.
-/
import Derived.Test.YtnmgfnpphglphaaGreatOwn
import Derived.Test.YtnmgfnpphglphaaGreatBox
import Derived.Lib.LazyBuf
set_option maxHeartbeats 16000000
set_option maxRecDepth 100000
set_option linter.unusedVariables false
set_option linter.unusedSimpArgs false
namespace Go.Proofs.YtnmgfnpphglphaaGreat
open Go.RowKit
theorem encInt_one (x : Int) : (encInt x).all (·.oneCell') = true := by simp [encInt, Value.oneCell']
@[go_sem] theorem eqGuardS_Int : Tryz.prog.eqGuardType Tryz.prog.depth 35 = false := by kernel_rfl
@[go_sem high] theorem eqlS_Int (w : World) (a : Option Addr) (l c : Nat) : (binOp .eql 35 (.slice a l c) (.slice none 0 0)).run Tryz.prog w = .ok (.bool a.isNone) w := run_eql_slice_nil w _ _ a l c Tryz.underlying35
theorem einfo_Int : EInfo Tryz.prog 35 3 1 8 := ⟨Tryz.underlying35, by kernel_rfl⟩
@[go_sem] theorem eqGuardS_Gauge : Tryz.prog.eqGuardType Tryz.prog.depth 90 = false := by kernel_rfl
@[go_sem high] theorem eqlS_Gauge (w : World) (a : Option Addr) (l c : Nat) : (binOp .eql 90 (.slice a l c) (.slice none 0 0)).run Tryz.prog w = .ok (.bool a.isNone) w := run_eql_slice_nil w _ _ a l c Tryz.underlying90
theorem einfo_Gauge : EInfo Tryz.prog 90 89 5 40 := ⟨Tryz.underlying90, by kernel_rfl⟩
@[go_sem] theorem eqGuardS_Mark : Tryz.prog.eqGuardType Tryz.prog.depth 91 = false := by kernel_rfl
@[go_sem high] theorem eqlS_Mark (w : World) (a : Option Addr) (l c : Nat) : (binOp .eql 91 (.slice a l c) (.slice none 0 0)).run Tryz.prog w = .ok (.bool a.isNone) w := run_eql_slice_nil w _ _ a l c Tryz.underlying91
theorem einfo_Mark : EInfo Tryz.prog 91 174 3 24 := ⟨Tryz.underlying91, by kernel_rfl⟩
@[go_sem] theorem eqGuardS_Sight : Tryz.prog.eqGuardType Tryz.prog.depth 39 = false := by kernel_rfl
@[go_sem high] theorem eqlS_Sight (w : World) (a : Option Addr) (l c : Nat) : (binOp .eql 39 (.slice a l c) (.slice none 0 0)).run Tryz.prog w = .ok (.bool a.isNone) w := run_eql_slice_nil w _ _ a l c Tryz.underlying39
theorem einfo_Sight : EInfo Tryz.prog 39 169 8 64 := ⟨Tryz.underlying39, by kernel_rfl⟩
@[go_sem] theorem eqGuardS_Piece : Tryz.prog.eqGuardType Tryz.prog.depth 36 = false := by kernel_rfl
@[go_sem high] theorem eqlS_Piece (w : World) (a : Option Addr) (l c : Nat) : (binOp .eql 36 (.slice a l c) (.slice none 0 0)).run Tryz.prog w = .ok (.bool a.isNone) w := run_eql_slice_nil w _ _ a l c Tryz.underlying36
theorem einfo_Piece : EInfo Tryz.prog 36 93 7 88 := ⟨Tryz.underlying36, by kernel_rfl⟩
@[go_sem] theorem eqGuardS_Note : Tryz.prog.eqGuardType Tryz.prog.depth 44 = false := by kernel_rfl
@[go_sem high] theorem eqlS_Note (w : World) (a : Option Addr) (l c : Nat) : (binOp .eql 44 (.slice a l c) (.slice none 0 0)).run Tryz.prog w = .ok (.bool a.isNone) w := run_eql_slice_nil w _ _ a l c Tryz.underlying44
theorem einfo_Note : EInfo Tryz.prog 44 43 29 328 := ⟨Tryz.underlying44, by kernel_rfl⟩
@[go_sem] theorem eqGuardS_Ref : Tryz.prog.eqGuardType Tryz.prog.depth 98 = false := by kernel_rfl
@[go_sem high] theorem eqlS_Ref (w : World) (a : Option Addr) (l c : Nat) : (binOp .eql 98 (.slice a l c) (.slice none 0 0)).run Tryz.prog w = .ok (.bool a.isNone) w := run_eql_slice_nil w _ _ a l c Tryz.underlying98
theorem einfo_Ref : EInfo Tryz.prog 98 34 2 16 := ⟨Tryz.underlying98, by kernel_rfl⟩
@[go_sem] theorem eqGuardS_Held : Tryz.prog.eqGuardType Tryz.prog.depth 95 = false := by kernel_rfl
@[go_sem high] theorem eqlS_Held (w : World) (a : Option Addr) (l c : Nat) : (binOp .eql 95 (.slice a l c) (.slice none 0 0)).run Tryz.prog w = .ok (.bool a.isNone) w := run_eql_slice_nil w _ _ a l c Tryz.underlying95
theorem einfo_Held : EInfo Tryz.prog 95 240 5 40 := ⟨Tryz.underlying95, by kernel_rfl⟩
@[go_sem] theorem eqGuardS_Where : Tryz.prog.eqGuardType Tryz.prog.depth 94 = false := by kernel_rfl
@[go_sem high] theorem eqlS_Where (w : World) (a : Option Addr) (l c : Nat) : (binOp .eql 94 (.slice a l c) (.slice none 0 0)).run Tryz.prog w = .ok (.bool a.isNone) w := run_eql_slice_nil w _ _ a l c Tryz.underlying94
theorem einfo_Where : EInfo Tryz.prog 94 105 7 56 := ⟨Tryz.underlying94, by kernel_rfl⟩
@[go_sem] theorem eqGuardS_Item : Tryz.prog.eqGuardType Tryz.prog.depth 96 = false := by kernel_rfl
@[go_sem high] theorem eqlS_Item (w : World) (a : Option Addr) (l c : Nat) : (binOp .eql 96 (.slice a l c) (.slice none 0 0)).run Tryz.prog w = .ok (.bool a.isNone) w := run_eql_slice_nil w _ _ a l c Tryz.underlying96
theorem einfo_Item : EInfo Tryz.prog 96 41 12 144 := ⟨Tryz.underlying96, by kernel_rfl⟩
@[go_sem] theorem eqGuardS_Relead : Tryz.prog.eqGuardType Tryz.prog.depth 97 = false := by kernel_rfl
@[go_sem high] theorem eqlS_Relead (w : World) (a : Option Addr) (l c : Nat) : (binOp .eql 97 (.slice a l c) (.slice none 0 0)).run Tryz.prog w = .ok (.bool a.isNone) w := run_eql_slice_nil w _ _ a l c Tryz.underlying97
theorem einfo_Relead : EInfo Tryz.prog 97 243 2 32 := ⟨Tryz.underlying97, by kernel_rfl⟩
theorem OwnL.empty {α : Type} (enc : α → Array Value) (sz : Nat) (w : World) (e : TypeId) : OwnL enc sz (w.alloc (.cells #[] e)) w.heap.size e (.slice (some ⟨w.heap.size, 0, none⟩) 0 0) [] :=
 ⟨by simp [flat], .inr ⟨w.heap.size, 0, #[], rfl, Nat.le_refl _, (MapKept.heap_alloc w _).1, Nat.le_refl _, Nat.zero_le _, by simp, by simp [flat]⟩⟩
theorem clone_Int (D : Nat → Prop) (s : Sl Int) (w : World) (hs : s.OK 1 encInt okInt D w) :
  Calls Tryz.prog 69 #[.slice s.a s.val.length s.cap] w fun e w' => ∃ v, e = .returned v ∧ OwnL encInt 1 w' w.heap.size 3 v s.val ∧ (v = .slice none 0 0 ↔ s.a = none) ∧ Below w.heap.size w w' := by
 have hroom := hs.room
 have HS := Lib.hid hs
 clear hs
 obtain ⟨a, cap, val⟩ := s
 simp only at hroom
 cases a with
 | none =>
  obtain ⟨h1, h2⟩ := HS.out.isNil rfl
  simp only at h1 h2
  subst h1; subst h2
  go_enter Tryz.func69, Tryz.ntmps69
  go_wp2
  go_ret
  exact ⟨_, rfl, OwnL.nil _ _ _ _ _, by simp, Below.refl _ _⟩
 | some p =>
  by_cases hz : val = []
  ·subst hz
   go_enter Tryz.func69, Tryz.ntmps69
   go_wp2_with (with_reducible refine at_dst 7 ?_; refine wpList_append_zero rfl _ _ 35 rfl w.heap.size einfo_Int (by decide) (by decide) _ [] rfl (OwnL.empty encInt 1 w _) p cap rfl (by simp) (by simp) ?_; intro v w1 hown hg hnil; replace hnil : v ≠ .slice none 0 0 := fun e => absurd (hnil.1 e) (by simp [Act.eval, Act.put]))
   go_ret
   exact ⟨v, rfl, hown, ⟨fun e => absurd e hnil, fun e => by simp at e⟩, Below.appended (OwnL.empty encInt 1 w _) hg (Nat.le_refl _) (by simp) |> ((Below.refl _ _).alloc (Nat.le_refl _) _).trans⟩
  have hpos := List.length_pos_iff.2 hz
  obtain ⟨b, o, sp⟩ := p
  obtain ⟨h1, h2, h3⟩ := HS.out.place _ rfl hpos
  clear hpos hz
  simp only at h1 h2 h3
  subst h1
  have hE := HS.out.cell b o rfl
  have HC : Hid (∀ i y, val[i]? = some y → ∀ j, j < 1 → (w.alloc (.cells #[] 3)).cell? ⟨b, o + i * 1 + j, none⟩ = (encInt y)[j]?) := Lib.hid fun i y hi j hj => by
   rw [World.cell?_of_block (w := w) ((MapKept.heap_alloc w _).2 b h3)]
   exact hE i y hi j hj
  clear hE
  go_enter Tryz.func69, Tryz.ntmps69
  go_wp2_with (with_reducible refine at_dst 7 ?_; refine wpList_append_more rfl _ _ 35 rfl w.heap.size einfo_Int (fun _ => rfl) (by decide) encInt_one (by decide) _ [] rfl (OwnL.empty _ _ w _) b o cap val rfl HC.out (by simp only [List.length_nil]; omega) (by simp) ?_; intro v w1 hown hg hnil; replace hnil : v ≠ .slice none 0 0 := fun e => absurd (hnil.1 e).1 (by simp [Act.eval, Act.put]))
  go_ret
  exact ⟨v, rfl, hown, ⟨fun e => absurd e hnil, fun e => by simp at e⟩, Below.appended (OwnL.empty encInt 1 w _) hg (Nat.le_refl _) (by simp) |> ((Below.refl _ _).alloc (Nat.le_refl _) _).trans⟩
theorem clone_Gauge (D : Nat → Prop) (s : Sl Gauge) (w : World) (hs : s.OK 5 encGauge okGauge D w) :
  Calls Tryz.prog 148 #[.slice s.a s.val.length s.cap] w fun e w' => ∃ v, e = .returned v ∧ OwnL encGauge 5 w' w.heap.size 89 v s.val ∧ (v = .slice none 0 0 ↔ s.a = none) ∧ Below w.heap.size w w' := by
 have hroom := hs.room
 have HS := Lib.hid hs
 clear hs
 obtain ⟨a, cap, val⟩ := s
 simp only at hroom
 cases a with
 | none =>
  obtain ⟨h1, h2⟩ := HS.out.isNil rfl
  simp only at h1 h2
  subst h1; subst h2
  go_enter Tryz.func148, Tryz.ntmps148
  go_wp2
  go_ret
  exact ⟨_, rfl, OwnL.nil _ _ _ _ _, by simp, Below.refl _ _⟩
 | some p =>
  by_cases hz : val = []
  ·subst hz
   go_enter Tryz.func148, Tryz.ntmps148
   go_wp2_with (with_reducible refine at_dst 7 ?_; refine wpList_append_zero rfl _ _ 90 rfl w.heap.size einfo_Gauge (by decide) (by decide) _ [] rfl (OwnL.empty encGauge 5 w _) p cap rfl (by simp) (by simp) ?_; intro v w1 hown hg hnil; replace hnil : v ≠ .slice none 0 0 := fun e => absurd (hnil.1 e) (by simp [Act.eval, Act.put]))
   go_ret
   exact ⟨v, rfl, hown, ⟨fun e => absurd e hnil, fun e => by simp at e⟩, Below.appended (OwnL.empty encGauge 5 w _) hg (Nat.le_refl _) (by simp) |> ((Below.refl _ _).alloc (Nat.le_refl _) _).trans⟩
  have hpos := List.length_pos_iff.2 hz
  obtain ⟨b, o, sp⟩ := p
  obtain ⟨h1, h2, h3⟩ := HS.out.place _ rfl hpos
  clear hpos hz
  simp only at h1 h2 h3
  subst h1
  have hE := HS.out.cell b o rfl
  have HC : Hid (∀ i y, val[i]? = some y → ∀ j, j < 5 → (w.alloc (.cells #[] 89)).cell? ⟨b, o + i * 5 + j, none⟩ = (encGauge y)[j]?) := Lib.hid fun i y hi j hj => by
   rw [World.cell?_of_block (w := w) ((MapKept.heap_alloc w _).2 b h3)]
   exact hE i y hi j hj
  clear hE
  go_enter Tryz.func148, Tryz.ntmps148
  go_wp2_with (with_reducible refine at_dst 7 ?_; refine wpList_append_more rfl _ _ 90 rfl w.heap.size einfo_Gauge (fun _ => rfl) (by decide) encGauge_one (by decide) _ [] rfl (OwnL.empty _ _ w _) b o cap val rfl HC.out (by simp only [List.length_nil]; omega) (by simp) ?_; intro v w1 hown hg hnil; replace hnil : v ≠ .slice none 0 0 := fun e => absurd (hnil.1 e).1 (by simp [Act.eval, Act.put]))
  go_ret
  exact ⟨v, rfl, hown, ⟨fun e => absurd e hnil, fun e => by simp at e⟩, Below.appended (OwnL.empty encGauge 5 w _) hg (Nat.le_refl _) (by simp) |> ((Below.refl _ _).alloc (Nat.le_refl _) _).trans⟩
theorem clone_Mark (D : Nat → Prop) (s : Sl Mark) (w : World) (hs : s.OK 3 encMark okMark D w) :
  Calls Tryz.prog 149 #[.slice s.a s.val.length s.cap] w fun e w' => ∃ v, e = .returned v ∧ OwnL encMark 3 w' w.heap.size 174 v s.val ∧ (v = .slice none 0 0 ↔ s.a = none) ∧ Below w.heap.size w w' := by
 have hroom := hs.room
 have HS := Lib.hid hs
 clear hs
 obtain ⟨a, cap, val⟩ := s
 simp only at hroom
 cases a with
 | none =>
  obtain ⟨h1, h2⟩ := HS.out.isNil rfl
  simp only at h1 h2
  subst h1; subst h2
  go_enter Tryz.func149, Tryz.ntmps149
  go_wp2
  go_ret
  exact ⟨_, rfl, OwnL.nil _ _ _ _ _, by simp, Below.refl _ _⟩
 | some p =>
  by_cases hz : val = []
  ·subst hz
   go_enter Tryz.func149, Tryz.ntmps149
   go_wp2_with (with_reducible refine at_dst 7 ?_; refine wpList_append_zero rfl _ _ 91 rfl w.heap.size einfo_Mark (by decide) (by decide) _ [] rfl (OwnL.empty encMark 3 w _) p cap rfl (by simp) (by simp) ?_; intro v w1 hown hg hnil; replace hnil : v ≠ .slice none 0 0 := fun e => absurd (hnil.1 e) (by simp [Act.eval, Act.put]))
   go_ret
   exact ⟨v, rfl, hown, ⟨fun e => absurd e hnil, fun e => by simp at e⟩, Below.appended (OwnL.empty encMark 3 w _) hg (Nat.le_refl _) (by simp) |> ((Below.refl _ _).alloc (Nat.le_refl _) _).trans⟩
  have hpos := List.length_pos_iff.2 hz
  obtain ⟨b, o, sp⟩ := p
  obtain ⟨h1, h2, h3⟩ := HS.out.place _ rfl hpos
  clear hpos hz
  simp only at h1 h2 h3
  subst h1
  have hE := HS.out.cell b o rfl
  have HC : Hid (∀ i y, val[i]? = some y → ∀ j, j < 3 → (w.alloc (.cells #[] 174)).cell? ⟨b, o + i * 3 + j, none⟩ = (encMark y)[j]?) := Lib.hid fun i y hi j hj => by
   rw [World.cell?_of_block (w := w) ((MapKept.heap_alloc w _).2 b h3)]
   exact hE i y hi j hj
  clear hE
  go_enter Tryz.func149, Tryz.ntmps149
  go_wp2_with (with_reducible refine at_dst 7 ?_; refine wpList_append_more rfl _ _ 91 rfl w.heap.size einfo_Mark (fun _ => rfl) (by decide) encMark_one (by decide) _ [] rfl (OwnL.empty _ _ w _) b o cap val rfl HC.out (by simp only [List.length_nil]; omega) (by simp) ?_; intro v w1 hown hg hnil; replace hnil : v ≠ .slice none 0 0 := fun e => absurd (hnil.1 e).1 (by simp [Act.eval, Act.put]))
  go_ret
  exact ⟨v, rfl, hown, ⟨fun e => absurd e hnil, fun e => by simp at e⟩, Below.appended (OwnL.empty encMark 3 w _) hg (Nat.le_refl _) (by simp) |> ((Below.refl _ _).alloc (Nat.le_refl _) _).trans⟩
theorem clone_Sight (D : Nat → Prop) (s : Sl Sight) (w : World) (hs : s.OK 8 encSight okSight D w) :
  Calls Tryz.prog 150 #[.slice s.a s.val.length s.cap] w fun e w' => ∃ v, e = .returned v ∧ OwnL encSight 8 w' w.heap.size 169 v s.val ∧ (v = .slice none 0 0 ↔ s.a = none) ∧ Below w.heap.size w w' := by
 have hroom := hs.room
 have HS := Lib.hid hs
 clear hs
 obtain ⟨a, cap, val⟩ := s
 simp only at hroom
 cases a with
 | none =>
  obtain ⟨h1, h2⟩ := HS.out.isNil rfl
  simp only at h1 h2
  subst h1; subst h2
  go_enter Tryz.func150, Tryz.ntmps150
  go_wp2
  go_ret
  exact ⟨_, rfl, OwnL.nil _ _ _ _ _, by simp, Below.refl _ _⟩
 | some p =>
  by_cases hz : val = []
  ·subst hz
   go_enter Tryz.func150, Tryz.ntmps150
   go_wp2_with (with_reducible refine at_dst 7 ?_; refine wpList_append_zero rfl _ _ 39 rfl w.heap.size einfo_Sight (by decide) (by decide) _ [] rfl (OwnL.empty encSight 8 w _) p cap rfl (by simp) (by simp) ?_; intro v w1 hown hg hnil; replace hnil : v ≠ .slice none 0 0 := fun e => absurd (hnil.1 e) (by simp [Act.eval, Act.put]))
   go_ret
   exact ⟨v, rfl, hown, ⟨fun e => absurd e hnil, fun e => by simp at e⟩, Below.appended (OwnL.empty encSight 8 w _) hg (Nat.le_refl _) (by simp) |> ((Below.refl _ _).alloc (Nat.le_refl _) _).trans⟩
  have hpos := List.length_pos_iff.2 hz
  obtain ⟨b, o, sp⟩ := p
  obtain ⟨h1, h2, h3⟩ := HS.out.place _ rfl hpos
  clear hpos hz
  simp only at h1 h2 h3
  subst h1
  have hE := HS.out.cell b o rfl
  have HC : Hid (∀ i y, val[i]? = some y → ∀ j, j < 8 → (w.alloc (.cells #[] 169)).cell? ⟨b, o + i * 8 + j, none⟩ = (encSight y)[j]?) := Lib.hid fun i y hi j hj => by
   rw [World.cell?_of_block (w := w) ((MapKept.heap_alloc w _).2 b h3)]
   exact hE i y hi j hj
  clear hE
  go_enter Tryz.func150, Tryz.ntmps150
  go_wp2_with (with_reducible refine at_dst 7 ?_; refine wpList_append_more rfl _ _ 39 rfl w.heap.size einfo_Sight (fun _ => rfl) (by decide) encSight_one (by decide) _ [] rfl (OwnL.empty _ _ w _) b o cap val rfl HC.out (by simp only [List.length_nil]; omega) (by simp) ?_; intro v w1 hown hg hnil; replace hnil : v ≠ .slice none 0 0 := fun e => absurd (hnil.1 e).1 (by simp [Act.eval, Act.put]))
  go_ret
  exact ⟨v, rfl, hown, ⟨fun e => absurd e hnil, fun e => by simp at e⟩, Below.appended (OwnL.empty encSight 8 w _) hg (Nat.le_refl _) (by simp) |> ((Below.refl _ _).alloc (Nat.le_refl _) _).trans⟩
theorem clone_Piece (D : Nat → Prop) (s : Sl Piece) (w : World) (hs : s.OK 7 encPiece okPiece D w) :
  Calls Tryz.prog 147 #[.slice s.a s.val.length s.cap] w fun e w' => ∃ v, e = .returned v ∧ OwnL encPiece 7 w' w.heap.size 93 v s.val ∧ (v = .slice none 0 0 ↔ s.a = none) ∧ Below w.heap.size w w' := by
 have hroom := hs.room
 have HS := Lib.hid hs
 clear hs
 obtain ⟨a, cap, val⟩ := s
 simp only at hroom
 cases a with
 | none =>
  obtain ⟨h1, h2⟩ := HS.out.isNil rfl
  simp only at h1 h2
  subst h1; subst h2
  go_enter Tryz.func147, Tryz.ntmps147
  go_wp2
  go_ret
  exact ⟨_, rfl, OwnL.nil _ _ _ _ _, by simp, Below.refl _ _⟩
 | some p =>
  by_cases hz : val = []
  ·subst hz
   go_enter Tryz.func147, Tryz.ntmps147
   go_wp2_with (with_reducible refine at_dst 7 ?_; refine wpList_append_zero rfl _ _ 36 rfl w.heap.size einfo_Piece (by decide) (by decide) _ [] rfl (OwnL.empty encPiece 7 w _) p cap rfl (by simp) (by simp) ?_; intro v w1 hown hg hnil; replace hnil : v ≠ .slice none 0 0 := fun e => absurd (hnil.1 e) (by simp [Act.eval, Act.put]))
   go_ret
   exact ⟨v, rfl, hown, ⟨fun e => absurd e hnil, fun e => by simp at e⟩, Below.appended (OwnL.empty encPiece 7 w _) hg (Nat.le_refl _) (by simp) |> ((Below.refl _ _).alloc (Nat.le_refl _) _).trans⟩
  have hpos := List.length_pos_iff.2 hz
  obtain ⟨b, o, sp⟩ := p
  obtain ⟨h1, h2, h3⟩ := HS.out.place _ rfl hpos
  clear hpos hz
  simp only at h1 h2 h3
  subst h1
  have hE := HS.out.cell b o rfl
  have HC : Hid (∀ i y, val[i]? = some y → ∀ j, j < 7 → (w.alloc (.cells #[] 93)).cell? ⟨b, o + i * 7 + j, none⟩ = (encPiece y)[j]?) := Lib.hid fun i y hi j hj => by
   rw [World.cell?_of_block (w := w) ((MapKept.heap_alloc w _).2 b h3)]
   exact hE i y hi j hj
  clear hE
  go_enter Tryz.func147, Tryz.ntmps147
  go_wp2_with (with_reducible refine at_dst 7 ?_; refine wpList_append_more rfl _ _ 36 rfl w.heap.size einfo_Piece (fun _ => rfl) (by decide) encPiece_one (by decide) _ [] rfl (OwnL.empty _ _ w _) b o cap val rfl HC.out (by simp only [List.length_nil]; omega) (by simp) ?_; intro v w1 hown hg hnil; replace hnil : v ≠ .slice none 0 0 := fun e => absurd (hnil.1 e).1 (by simp [Act.eval, Act.put]))
  go_ret
  exact ⟨v, rfl, hown, ⟨fun e => absurd e hnil, fun e => by simp at e⟩, Below.appended (OwnL.empty encPiece 7 w _) hg (Nat.le_refl _) (by simp) |> ((Below.refl _ _).alloc (Nat.le_refl _) _).trans⟩
end Go.Proofs.YtnmgfnpphglphaaGreat
