/-
  slices.Clone at the types of this seat, walked: a slice of the call's own that holds the same.
-/
import Derived.Test.YtjmgnnpddbganaaGreatOwn
import Derived.Test.YtjmgnnpddbganaaGreatBox
import Derived.Lib.LazyBuf
set_option maxHeartbeats 16000000
set_option maxRecDepth 100000
set_option linter.unusedVariables false
set_option linter.unusedSimpArgs false
namespace Go.Proofs.YtjmgnnpddbganaaGreat
open Go.RowKit
theorem encInt_one (x : Int) : (encInt x).all (·.oneCell') = true := by simp [encInt, Value.oneCell']
@[go_sem] theorem eqGuardS_Int : Tryz.prog.eqGuardType Tryz.prog.depth 25 = false := by kernel_rfl
@[go_sem high] theorem eqlS_Int (w : World) (a : Option Addr) (l c : Nat) : (binOp .eql 25 (.slice a l c) (.slice none 0 0)).run Tryz.prog w = .ok (.bool a.isNone) w := run_eql_slice_nil w _ _ a l c Tryz.underlying25
theorem einfo_Int : EInfo Tryz.prog 25 3 1 8 := ⟨Tryz.underlying25, by kernel_rfl⟩
@[go_sem] theorem eqGuardS_Gauge : Tryz.prog.eqGuardType Tryz.prog.depth 66 = false := by kernel_rfl
@[go_sem high] theorem eqlS_Gauge (w : World) (a : Option Addr) (l c : Nat) : (binOp .eql 66 (.slice a l c) (.slice none 0 0)).run Tryz.prog w = .ok (.bool a.isNone) w := run_eql_slice_nil w _ _ a l c Tryz.underlying66
theorem einfo_Gauge : EInfo Tryz.prog 66 65 5 40 := ⟨Tryz.underlying66, by kernel_rfl⟩
@[go_sem] theorem eqGuardS_Mark : Tryz.prog.eqGuardType Tryz.prog.depth 67 = false := by kernel_rfl
@[go_sem high] theorem eqlS_Mark (w : World) (a : Option Addr) (l c : Nat) : (binOp .eql 67 (.slice a l c) (.slice none 0 0)).run Tryz.prog w = .ok (.bool a.isNone) w := run_eql_slice_nil w _ _ a l c Tryz.underlying67
theorem einfo_Mark : EInfo Tryz.prog 67 131 3 24 := ⟨Tryz.underlying67, by kernel_rfl⟩
@[go_sem] theorem eqGuardS_Sight : Tryz.prog.eqGuardType Tryz.prog.depth 46 = false := by kernel_rfl
@[go_sem high] theorem eqlS_Sight (w : World) (a : Option Addr) (l c : Nat) : (binOp .eql 46 (.slice a l c) (.slice none 0 0)).run Tryz.prog w = .ok (.bool a.isNone) w := run_eql_slice_nil w _ _ a l c Tryz.underlying46
theorem einfo_Sight : EInfo Tryz.prog 46 126 8 64 := ⟨Tryz.underlying46, by kernel_rfl⟩
@[go_sem] theorem eqGuardS_Piece : Tryz.prog.eqGuardType Tryz.prog.depth 43 = false := by kernel_rfl
@[go_sem high] theorem eqlS_Piece (w : World) (a : Option Addr) (l c : Nat) : (binOp .eql 43 (.slice a l c) (.slice none 0 0)).run Tryz.prog w = .ok (.bool a.isNone) w := run_eql_slice_nil w _ _ a l c Tryz.underlying43
theorem einfo_Piece : EInfo Tryz.prog 43 69 7 88 := ⟨Tryz.underlying43, by kernel_rfl⟩
@[go_sem] theorem eqGuardS_Note : Tryz.prog.eqGuardType Tryz.prog.depth 51 = false := by kernel_rfl
@[go_sem high] theorem eqlS_Note (w : World) (a : Option Addr) (l c : Nat) : (binOp .eql 51 (.slice a l c) (.slice none 0 0)).run Tryz.prog w = .ok (.bool a.isNone) w := run_eql_slice_nil w _ _ a l c Tryz.underlying51
theorem einfo_Note : EInfo Tryz.prog 51 50 29 328 := ⟨Tryz.underlying51, by kernel_rfl⟩
@[go_sem] theorem eqGuardS_Ref : Tryz.prog.eqGuardType Tryz.prog.depth 74 = false := by kernel_rfl
@[go_sem high] theorem eqlS_Ref (w : World) (a : Option Addr) (l c : Nat) : (binOp .eql 74 (.slice a l c) (.slice none 0 0)).run Tryz.prog w = .ok (.bool a.isNone) w := run_eql_slice_nil w _ _ a l c Tryz.underlying74
theorem einfo_Ref : EInfo Tryz.prog 74 42 2 16 := ⟨Tryz.underlying74, by kernel_rfl⟩
@[go_sem] theorem eqGuardS_Held : Tryz.prog.eqGuardType Tryz.prog.depth 71 = false := by kernel_rfl
@[go_sem high] theorem eqlS_Held (w : World) (a : Option Addr) (l c : Nat) : (binOp .eql 71 (.slice a l c) (.slice none 0 0)).run Tryz.prog w = .ok (.bool a.isNone) w := run_eql_slice_nil w _ _ a l c Tryz.underlying71
theorem einfo_Held : EInfo Tryz.prog 71 180 5 40 := ⟨Tryz.underlying71, by kernel_rfl⟩
@[go_sem] theorem eqGuardS_Where : Tryz.prog.eqGuardType Tryz.prog.depth 70 = false := by kernel_rfl
@[go_sem high] theorem eqlS_Where (w : World) (a : Option Addr) (l c : Nat) : (binOp .eql 70 (.slice a l c) (.slice none 0 0)).run Tryz.prog w = .ok (.bool a.isNone) w := run_eql_slice_nil w _ _ a l c Tryz.underlying70
theorem einfo_Where : EInfo Tryz.prog 70 80 7 56 := ⟨Tryz.underlying70, by kernel_rfl⟩
@[go_sem] theorem eqGuardS_Item : Tryz.prog.eqGuardType Tryz.prog.depth 72 = false := by kernel_rfl
@[go_sem high] theorem eqlS_Item (w : World) (a : Option Addr) (l c : Nat) : (binOp .eql 72 (.slice a l c) (.slice none 0 0)).run Tryz.prog w = .ok (.bool a.isNone) w := run_eql_slice_nil w _ _ a l c Tryz.underlying72
theorem einfo_Item : EInfo Tryz.prog 72 48 12 144 := ⟨Tryz.underlying72, by kernel_rfl⟩
@[go_sem] theorem eqGuardS_Relead : Tryz.prog.eqGuardType Tryz.prog.depth 73 = false := by kernel_rfl
@[go_sem high] theorem eqlS_Relead (w : World) (a : Option Addr) (l c : Nat) : (binOp .eql 73 (.slice a l c) (.slice none 0 0)).run Tryz.prog w = .ok (.bool a.isNone) w := run_eql_slice_nil w _ _ a l c Tryz.underlying73
theorem einfo_Relead : EInfo Tryz.prog 73 184 2 32 := ⟨Tryz.underlying73, by kernel_rfl⟩
theorem OwnL.empty {α : Type} (enc : α → Array Value) (sz : Nat) (w : World) (e : TypeId) : OwnL enc sz (w.alloc (.cells #[] e)) w.heap.size e (.slice (some ⟨w.heap.size, 0, none⟩) 0 0) [] :=
 ⟨by simp [flat], .inr ⟨w.heap.size, 0, #[], rfl, Nat.le_refl _, (MapKept.heap_alloc w _).1, Nat.le_refl _, Nat.zero_le _, by simp, by simp [flat]⟩⟩
theorem clone_Int (D : Nat → Prop) (s : Sl Int) (w : World) (hs : s.OK 1 encInt okInt D w) :
  Calls Tryz.prog 118 #[.slice s.a s.val.length s.cap] w fun e w' => ∃ v, e = .returned v ∧ OwnL encInt 1 w' w.heap.size 3 v s.val ∧ (v = .slice none 0 0 ↔ s.a = none) ∧ Below w.heap.size w w' := by
 have hroom := hs.room
 have HS := Lib.hid hs
 clear hs
 obtain ⟨a, cap, val⟩ := s
 simp only at hroom
 cases a with
 | none =>
  obtain ⟨h1, h2⟩ := HS.out.isNil rfl
  simp only at h1 h2
  subst h1; subst h2
  go_enter Tryz.func118, Tryz.ntmps118
  go_wp2
  go_ret
  exact ⟨_, rfl, OwnL.nil _ _ _ _ _, by simp, Below.refl _ _⟩
 | some p =>
  by_cases hz : val = []
  ·subst hz
   go_enter Tryz.func118, Tryz.ntmps118
   go_wp2_with (with_reducible refine at_dst 7 ?_; refine wpList_append_zero rfl _ _ 25 rfl w.heap.size einfo_Int (by decide) (by decide) _ [] rfl (OwnL.empty encInt 1 w _) p cap rfl (by simp) (by simp) ?_; intro v w1 hown hg hnil; replace hnil : v ≠ .slice none 0 0 := fun e => absurd (hnil.1 e) (by simp [Act.eval, Act.put]))
   go_ret
   exact ⟨v, rfl, hown, ⟨fun e => absurd e hnil, fun e => by simp at e⟩, Below.appended (OwnL.empty encInt 1 w _) hg (Nat.le_refl _) (by simp) |> ((Below.refl _ _).alloc (Nat.le_refl _) _).trans⟩
  have hpos := List.length_pos_iff.2 hz
  obtain ⟨b, o, sp⟩ := p
  obtain ⟨h1, h2, h3⟩ := HS.out.place _ rfl hpos
  clear hpos hz
  simp only at h1 h2 h3
  subst h1
  have hE := HS.out.cell b o rfl
  have HC : Hid (∀ i y, val[i]? = some y → ∀ j, j < 1 → (w.alloc (.cells #[] 3)).cell? ⟨b, o + i * 1 + j, none⟩ = (encInt y)[j]?) := Lib.hid fun i y hi j hj => by
   rw [World.cell?_of_block (w := w) ((MapKept.heap_alloc w _).2 b h3)]
   exact hE i y hi j hj
  clear hE
  go_enter Tryz.func118, Tryz.ntmps118
  go_wp2_with (with_reducible refine at_dst 7 ?_; refine wpList_append_more rfl _ _ 25 rfl w.heap.size einfo_Int (fun _ => rfl) (by decide) encInt_one (by decide) _ [] rfl (OwnL.empty _ _ w _) b o cap val rfl HC.out (by simp only [List.length_nil]; omega) (by simp) ?_; intro v w1 hown hg hnil; replace hnil : v ≠ .slice none 0 0 := fun e => absurd (hnil.1 e).1 (by simp [Act.eval, Act.put]))
  go_ret
  exact ⟨v, rfl, hown, ⟨fun e => absurd e hnil, fun e => by simp at e⟩, Below.appended (OwnL.empty encInt 1 w _) hg (Nat.le_refl _) (by simp) |> ((Below.refl _ _).alloc (Nat.le_refl _) _).trans⟩
theorem clone_Gauge (D : Nat → Prop) (s : Sl Gauge) (w : World) (hs : s.OK 5 encGauge okGauge D w) :
  Calls Tryz.prog 145 #[.slice s.a s.val.length s.cap] w fun e w' => ∃ v, e = .returned v ∧ OwnL encGauge 5 w' w.heap.size 65 v s.val ∧ (v = .slice none 0 0 ↔ s.a = none) ∧ Below w.heap.size w w' := by
 have hroom := hs.room
 have HS := Lib.hid hs
 clear hs
 obtain ⟨a, cap, val⟩ := s
 simp only at hroom
 cases a with
 | none =>
  obtain ⟨h1, h2⟩ := HS.out.isNil rfl
  simp only at h1 h2
  subst h1; subst h2
  go_enter Tryz.func145, Tryz.ntmps145
  go_wp2
  go_ret
  exact ⟨_, rfl, OwnL.nil _ _ _ _ _, by simp, Below.refl _ _⟩
 | some p =>
  by_cases hz : val = []
  ·subst hz
   go_enter Tryz.func145, Tryz.ntmps145
   go_wp2_with (with_reducible refine at_dst 7 ?_; refine wpList_append_zero rfl _ _ 66 rfl w.heap.size einfo_Gauge (by decide) (by decide) _ [] rfl (OwnL.empty encGauge 5 w _) p cap rfl (by simp) (by simp) ?_; intro v w1 hown hg hnil; replace hnil : v ≠ .slice none 0 0 := fun e => absurd (hnil.1 e) (by simp [Act.eval, Act.put]))
   go_ret
   exact ⟨v, rfl, hown, ⟨fun e => absurd e hnil, fun e => by simp at e⟩, Below.appended (OwnL.empty encGauge 5 w _) hg (Nat.le_refl _) (by simp) |> ((Below.refl _ _).alloc (Nat.le_refl _) _).trans⟩
  have hpos := List.length_pos_iff.2 hz
  obtain ⟨b, o, sp⟩ := p
  obtain ⟨h1, h2, h3⟩ := HS.out.place _ rfl hpos
  clear hpos hz
  simp only at h1 h2 h3
  subst h1
  have hE := HS.out.cell b o rfl
  have HC : Hid (∀ i y, val[i]? = some y → ∀ j, j < 5 → (w.alloc (.cells #[] 65)).cell? ⟨b, o + i * 5 + j, none⟩ = (encGauge y)[j]?) := Lib.hid fun i y hi j hj => by
   rw [World.cell?_of_block (w := w) ((MapKept.heap_alloc w _).2 b h3)]
   exact hE i y hi j hj
  clear hE
  go_enter Tryz.func145, Tryz.ntmps145
  go_wp2_with (with_reducible refine at_dst 7 ?_; refine wpList_append_more rfl _ _ 66 rfl w.heap.size einfo_Gauge (fun _ => rfl) (by decide) encGauge_one (by decide) _ [] rfl (OwnL.empty _ _ w _) b o cap val rfl HC.out (by simp only [List.length_nil]; omega) (by simp) ?_; intro v w1 hown hg hnil; replace hnil : v ≠ .slice none 0 0 := fun e => absurd (hnil.1 e).1 (by simp [Act.eval, Act.put]))
  go_ret
  exact ⟨v, rfl, hown, ⟨fun e => absurd e hnil, fun e => by simp at e⟩, Below.appended (OwnL.empty encGauge 5 w _) hg (Nat.le_refl _) (by simp) |> ((Below.refl _ _).alloc (Nat.le_refl _) _).trans⟩
theorem clone_Mark (D : Nat → Prop) (s : Sl Mark) (w : World) (hs : s.OK 3 encMark okMark D w) :
  Calls Tryz.prog 146 #[.slice s.a s.val.length s.cap] w fun e w' => ∃ v, e = .returned v ∧ OwnL encMark 3 w' w.heap.size 131 v s.val ∧ (v = .slice none 0 0 ↔ s.a = none) ∧ Below w.heap.size w w' := by
 have hroom := hs.room
 have HS := Lib.hid hs
 clear hs
 obtain ⟨a, cap, val⟩ := s
 simp only at hroom
 cases a with
 | none =>
  obtain ⟨h1, h2⟩ := HS.out.isNil rfl
  simp only at h1 h2
  subst h1; subst h2
  go_enter Tryz.func146, Tryz.ntmps146
  go_wp2
  go_ret
  exact ⟨_, rfl, OwnL.nil _ _ _ _ _, by simp, Below.refl _ _⟩
 | some p =>
  by_cases hz : val = []
  ·subst hz
   go_enter Tryz.func146, Tryz.ntmps146
   go_wp2_with (with_reducible refine at_dst 7 ?_; refine wpList_append_zero rfl _ _ 67 rfl w.heap.size einfo_Mark (by decide) (by decide) _ [] rfl (OwnL.empty encMark 3 w _) p cap rfl (by simp) (by simp) ?_; intro v w1 hown hg hnil; replace hnil : v ≠ .slice none 0 0 := fun e => absurd (hnil.1 e) (by simp [Act.eval, Act.put]))
   go_ret
   exact ⟨v, rfl, hown, ⟨fun e => absurd e hnil, fun e => by simp at e⟩, Below.appended (OwnL.empty encMark 3 w _) hg (Nat.le_refl _) (by simp) |> ((Below.refl _ _).alloc (Nat.le_refl _) _).trans⟩
  have hpos := List.length_pos_iff.2 hz
  obtain ⟨b, o, sp⟩ := p
  obtain ⟨h1, h2, h3⟩ := HS.out.place _ rfl hpos
  clear hpos hz
  simp only at h1 h2 h3
  subst h1
  have hE := HS.out.cell b o rfl
  have HC : Hid (∀ i y, val[i]? = some y → ∀ j, j < 3 → (w.alloc (.cells #[] 131)).cell? ⟨b, o + i * 3 + j, none⟩ = (encMark y)[j]?) := Lib.hid fun i y hi j hj => by
   rw [World.cell?_of_block (w := w) ((MapKept.heap_alloc w _).2 b h3)]
   exact hE i y hi j hj
  clear hE
  go_enter Tryz.func146, Tryz.ntmps146
  go_wp2_with (with_reducible refine at_dst 7 ?_; refine wpList_append_more rfl _ _ 67 rfl w.heap.size einfo_Mark (fun _ => rfl) (by decide) encMark_one (by decide) _ [] rfl (OwnL.empty _ _ w _) b o cap val rfl HC.out (by simp only [List.length_nil]; omega) (by simp) ?_; intro v w1 hown hg hnil; replace hnil : v ≠ .slice none 0 0 := fun e => absurd (hnil.1 e).1 (by simp [Act.eval, Act.put]))
  go_ret
  exact ⟨v, rfl, hown, ⟨fun e => absurd e hnil, fun e => by simp at e⟩, Below.appended (OwnL.empty encMark 3 w _) hg (Nat.le_refl _) (by simp) |> ((Below.refl _ _).alloc (Nat.le_refl _) _).trans⟩
theorem clone_Sight (D : Nat → Prop) (s : Sl Sight) (w : World) (hs : s.OK 8 encSight okSight D w) :
  Calls Tryz.prog 149 #[.slice s.a s.val.length s.cap] w fun e w' => ∃ v, e = .returned v ∧ OwnL encSight 8 w' w.heap.size 126 v s.val ∧ (v = .slice none 0 0 ↔ s.a = none) ∧ Below w.heap.size w w' := by
 have hroom := hs.room
 have HS := Lib.hid hs
 clear hs
 obtain ⟨a, cap, val⟩ := s
 simp only at hroom
 cases a with
 | none =>
  obtain ⟨h1, h2⟩ := HS.out.isNil rfl
  simp only at h1 h2
  subst h1; subst h2
  go_enter Tryz.func149, Tryz.ntmps149
  go_wp2
  go_ret
  exact ⟨_, rfl, OwnL.nil _ _ _ _ _, by simp, Below.refl _ _⟩
 | some p =>
  by_cases hz : val = []
  ·subst hz
   go_enter Tryz.func149, Tryz.ntmps149
   go_wp2_with (with_reducible refine at_dst 7 ?_; refine wpList_append_zero rfl _ _ 46 rfl w.heap.size einfo_Sight (by decide) (by decide) _ [] rfl (OwnL.empty encSight 8 w _) p cap rfl (by simp) (by simp) ?_; intro v w1 hown hg hnil; replace hnil : v ≠ .slice none 0 0 := fun e => absurd (hnil.1 e) (by simp [Act.eval, Act.put]))
   go_ret
   exact ⟨v, rfl, hown, ⟨fun e => absurd e hnil, fun e => by simp at e⟩, Below.appended (OwnL.empty encSight 8 w _) hg (Nat.le_refl _) (by simp) |> ((Below.refl _ _).alloc (Nat.le_refl _) _).trans⟩
  have hpos := List.length_pos_iff.2 hz
  obtain ⟨b, o, sp⟩ := p
  obtain ⟨h1, h2, h3⟩ := HS.out.place _ rfl hpos
  clear hpos hz
  simp only at h1 h2 h3
  subst h1
  have hE := HS.out.cell b o rfl
  have HC : Hid (∀ i y, val[i]? = some y → ∀ j, j < 8 → (w.alloc (.cells #[] 126)).cell? ⟨b, o + i * 8 + j, none⟩ = (encSight y)[j]?) := Lib.hid fun i y hi j hj => by
   rw [World.cell?_of_block (w := w) ((MapKept.heap_alloc w _).2 b h3)]
   exact hE i y hi j hj
  clear hE
  go_enter Tryz.func149, Tryz.ntmps149
  go_wp2_with (with_reducible refine at_dst 7 ?_; refine wpList_append_more rfl _ _ 46 rfl w.heap.size einfo_Sight (fun _ => rfl) (by decide) encSight_one (by decide) _ [] rfl (OwnL.empty _ _ w _) b o cap val rfl HC.out (by simp only [List.length_nil]; omega) (by simp) ?_; intro v w1 hown hg hnil; replace hnil : v ≠ .slice none 0 0 := fun e => absurd (hnil.1 e).1 (by simp [Act.eval, Act.put]))
  go_ret
  exact ⟨v, rfl, hown, ⟨fun e => absurd e hnil, fun e => by simp at e⟩, Below.appended (OwnL.empty encSight 8 w _) hg (Nat.le_refl _) (by simp) |> ((Below.refl _ _).alloc (Nat.le_refl _) _).trans⟩
theorem clone_Piece (D : Nat → Prop) (s : Sl Piece) (w : World) (hs : s.OK 7 encPiece okPiece D w) :
  Calls Tryz.prog 144 #[.slice s.a s.val.length s.cap] w fun e w' => ∃ v, e = .returned v ∧ OwnL encPiece 7 w' w.heap.size 69 v s.val ∧ (v = .slice none 0 0 ↔ s.a = none) ∧ Below w.heap.size w w' := by
 have hroom := hs.room
 have HS := Lib.hid hs
 clear hs
 obtain ⟨a, cap, val⟩ := s
 simp only at hroom
 cases a with
 | none =>
  obtain ⟨h1, h2⟩ := HS.out.isNil rfl
  simp only at h1 h2
  subst h1; subst h2
  go_enter Tryz.func144, Tryz.ntmps144
  go_wp2
  go_ret
  exact ⟨_, rfl, OwnL.nil _ _ _ _ _, by simp, Below.refl _ _⟩
 | some p =>
  by_cases hz : val = []
  ·subst hz
   go_enter Tryz.func144, Tryz.ntmps144
   go_wp2_with (with_reducible refine at_dst 7 ?_; refine wpList_append_zero rfl _ _ 43 rfl w.heap.size einfo_Piece (by decide) (by decide) _ [] rfl (OwnL.empty encPiece 7 w _) p cap rfl (by simp) (by simp) ?_; intro v w1 hown hg hnil; replace hnil : v ≠ .slice none 0 0 := fun e => absurd (hnil.1 e) (by simp [Act.eval, Act.put]))
   go_ret
   exact ⟨v, rfl, hown, ⟨fun e => absurd e hnil, fun e => by simp at e⟩, Below.appended (OwnL.empty encPiece 7 w _) hg (Nat.le_refl _) (by simp) |> ((Below.refl _ _).alloc (Nat.le_refl _) _).trans⟩
  have hpos := List.length_pos_iff.2 hz
  obtain ⟨b, o, sp⟩ := p
  obtain ⟨h1, h2, h3⟩ := HS.out.place _ rfl hpos
  clear hpos hz
  simp only at h1 h2 h3
  subst h1
  have hE := HS.out.cell b o rfl
  have HC : Hid (∀ i y, val[i]? = some y → ∀ j, j < 7 → (w.alloc (.cells #[] 69)).cell? ⟨b, o + i * 7 + j, none⟩ = (encPiece y)[j]?) := Lib.hid fun i y hi j hj => by
   rw [World.cell?_of_block (w := w) ((MapKept.heap_alloc w _).2 b h3)]
   exact hE i y hi j hj
  clear hE
  go_enter Tryz.func144, Tryz.ntmps144
  go_wp2_with (with_reducible refine at_dst 7 ?_; refine wpList_append_more rfl _ _ 43 rfl w.heap.size einfo_Piece (fun _ => rfl) (by decide) encPiece_one (by decide) _ [] rfl (OwnL.empty _ _ w _) b o cap val rfl HC.out (by simp only [List.length_nil]; omega) (by simp) ?_; intro v w1 hown hg hnil; replace hnil : v ≠ .slice none 0 0 := fun e => absurd (hnil.1 e).1 (by simp [Act.eval, Act.put]))
  go_ret
  exact ⟨v, rfl, hown, ⟨fun e => absurd e hnil, fun e => by simp at e⟩, Below.appended (OwnL.empty encPiece 7 w _) hg (Nat.le_refl _) (by simp) |> ((Below.refl _ _).alloc (Nat.le_refl _) _).trans⟩
end Go.Proofs.YtjmgnnpddbganaaGreat
