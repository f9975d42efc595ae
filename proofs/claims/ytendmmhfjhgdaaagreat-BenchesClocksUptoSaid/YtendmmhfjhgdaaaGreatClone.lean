/-
  slices.Clone at the types of this seat, walked: a slice of the call's own that holds the same.
-/
import Derived.Test.YtendmmhfjhgdaaaGreatOwn
import Derived.Test.YtendmmhfjhgdaaaGreatBox
import Derived.Lib.LazyBuf
set_option linter.unusedVariables false
set_option linter.unusedSimpArgs false
namespace Go.Proofs.YtendmmhfjhgdaaaGreat
open Go.RowKit
theorem encInt_one (x : Int) : (encInt x).all (·.oneCell') = true := by simp [encInt, Value.oneCell']
@[go_sem] theorem eqGuardS_Int : Tryz.prog.eqGuardType Tryz.prog.depth 32 = false := by kernel_rfl
@[go_sem high] theorem eqlS_Int (w : World) (a : Option Addr) (l c : Nat) : (binOp .eql 32 (.slice a l c) (.slice none 0 0)).run Tryz.prog w = .ok (.bool a.isNone) w := run_eql_slice_nil w _ _ a l c Tryz.underlying32
theorem einfo_Int : EInfo Tryz.prog 32 3 1 8 := ⟨Tryz.underlying32, by kernel_rfl⟩
@[go_sem] theorem eqGuardS_Gauge : Tryz.prog.eqGuardType Tryz.prog.depth 73 = false := by kernel_rfl
@[go_sem high] theorem eqlS_Gauge (w : World) (a : Option Addr) (l c : Nat) : (binOp .eql 73 (.slice a l c) (.slice none 0 0)).run Tryz.prog w = .ok (.bool a.isNone) w := run_eql_slice_nil w _ _ a l c Tryz.underlying73
theorem einfo_Gauge : EInfo Tryz.prog 73 80 5 40 := ⟨Tryz.underlying73, by kernel_rfl⟩
@[go_sem] theorem eqGuardS_Mark : Tryz.prog.eqGuardType Tryz.prog.depth 74 = false := by kernel_rfl
@[go_sem high] theorem eqlS_Mark (w : World) (a : Option Addr) (l c : Nat) : (binOp .eql 74 (.slice a l c) (.slice none 0 0)).run Tryz.prog w = .ok (.bool a.isNone) w := run_eql_slice_nil w _ _ a l c Tryz.underlying74
theorem einfo_Mark : EInfo Tryz.prog 74 195 3 24 := ⟨Tryz.underlying74, by kernel_rfl⟩
@[go_sem] theorem eqGuardS_Sight : Tryz.prog.eqGuardType Tryz.prog.depth 36 = false := by kernel_rfl
@[go_sem high] theorem eqlS_Sight (w : World) (a : Option Addr) (l c : Nat) : (binOp .eql 36 (.slice a l c) (.slice none 0 0)).run Tryz.prog w = .ok (.bool a.isNone) w := run_eql_slice_nil w _ _ a l c Tryz.underlying36
theorem einfo_Sight : EInfo Tryz.prog 36 162 8 64 := ⟨Tryz.underlying36, by kernel_rfl⟩
@[go_sem] theorem eqGuardS_Piece : Tryz.prog.eqGuardType Tryz.prog.depth 33 = false := by kernel_rfl
@[go_sem high] theorem eqlS_Piece (w : World) (a : Option Addr) (l c : Nat) : (binOp .eql 33 (.slice a l c) (.slice none 0 0)).run Tryz.prog w = .ok (.bool a.isNone) w := run_eql_slice_nil w _ _ a l c Tryz.underlying33
theorem einfo_Piece : EInfo Tryz.prog 33 76 7 88 := ⟨Tryz.underlying33, by kernel_rfl⟩
@[go_sem] theorem eqGuardS_Note : Tryz.prog.eqGuardType Tryz.prog.depth 22 = false := by kernel_rfl
@[go_sem high] theorem eqlS_Note (w : World) (a : Option Addr) (l c : Nat) : (binOp .eql 22 (.slice a l c) (.slice none 0 0)).run Tryz.prog w = .ok (.bool a.isNone) w := run_eql_slice_nil w _ _ a l c Tryz.underlying22
theorem einfo_Note : EInfo Tryz.prog 22 40 29 328 := ⟨Tryz.underlying22, by kernel_rfl⟩
@[go_sem] theorem eqGuardS_Ref : Tryz.prog.eqGuardType Tryz.prog.depth 56 = false := by kernel_rfl
@[go_sem high] theorem eqlS_Ref (w : World) (a : Option Addr) (l c : Nat) : (binOp .eql 56 (.slice a l c) (.slice none 0 0)).run Tryz.prog w = .ok (.bool a.isNone) w := run_eql_slice_nil w _ _ a l c Tryz.underlying56
theorem einfo_Ref : EInfo Tryz.prog 56 31 2 16 := ⟨Tryz.underlying56, by kernel_rfl⟩
@[go_sem] theorem eqGuardS_Held : Tryz.prog.eqGuardType Tryz.prog.depth 53 = false := by kernel_rfl
@[go_sem high] theorem eqlS_Held (w : World) (a : Option Addr) (l c : Nat) : (binOp .eql 53 (.slice a l c) (.slice none 0 0)).run Tryz.prog w = .ok (.bool a.isNone) w := run_eql_slice_nil w _ _ a l c Tryz.underlying53
theorem einfo_Held : EInfo Tryz.prog 53 114 5 40 := ⟨Tryz.underlying53, by kernel_rfl⟩
@[go_sem] theorem eqGuardS_Where : Tryz.prog.eqGuardType Tryz.prog.depth 52 = false := by kernel_rfl
@[go_sem high] theorem eqlS_Where (w : World) (a : Option Addr) (l c : Nat) : (binOp .eql 52 (.slice a l c) (.slice none 0 0)).run Tryz.prog w = .ok (.bool a.isNone) w := run_eql_slice_nil w _ _ a l c Tryz.underlying52
theorem einfo_Where : EInfo Tryz.prog 52 66 7 56 := ⟨Tryz.underlying52, by kernel_rfl⟩
@[go_sem] theorem eqGuardS_Item : Tryz.prog.eqGuardType Tryz.prog.depth 54 = false := by kernel_rfl
@[go_sem high] theorem eqlS_Item (w : World) (a : Option Addr) (l c : Nat) : (binOp .eql 54 (.slice a l c) (.slice none 0 0)).run Tryz.prog w = .ok (.bool a.isNone) w := run_eql_slice_nil w _ _ a l c Tryz.underlying54
theorem einfo_Item : EInfo Tryz.prog 54 38 12 144 := ⟨Tryz.underlying54, by kernel_rfl⟩
@[go_sem] theorem eqGuardS_Relead : Tryz.prog.eqGuardType Tryz.prog.depth 55 = false := by kernel_rfl
@[go_sem high] theorem eqlS_Relead (w : World) (a : Option Addr) (l c : Nat) : (binOp .eql 55 (.slice a l c) (.slice none 0 0)).run Tryz.prog w = .ok (.bool a.isNone) w := run_eql_slice_nil w _ _ a l c Tryz.underlying55
theorem einfo_Relead : EInfo Tryz.prog 55 117 2 32 := ⟨Tryz.underlying55, by kernel_rfl⟩

theorem OwnL.empty {α : Type} (enc : α → Array Value) (sz : Nat) (w : World) (e : TypeId) : OwnL enc sz (w.alloc (.cells #[] e)) w.heap.size e (.slice (some ⟨w.heap.size, 0, none⟩) 0 0) [] :=
  ⟨by simp [flat], .inr ⟨w.heap.size, 0, #[], rfl, Nat.le_refl _, (MapKept.heap_alloc w _).1, Nat.le_refl _, Nat.zero_le _, by simp, by simp [flat]⟩⟩

set_option maxHeartbeats 1000000 in
theorem clone_Int (D : Nat → Prop) (s : Sl Int) (w : World) (hs : s.OK 1 encInt okInt D w) :
    Calls Tryz.prog 133 #[.slice s.a s.val.length s.cap] w fun e w' => ∃ v, e = .returned v ∧ OwnL encInt 1 w' w.heap.size 3 v s.val ∧ (v = .slice none 0 0 ↔ s.a = none) ∧ Below w.heap.size w w' := by
  have hroom := hs.room
  have HS := Lib.hid hs
  clear hs
  obtain ⟨a, cap, val⟩ := s
  simp only at hroom
  cases a with
  | none =>
    obtain ⟨h1, h2⟩ := HS.out.isNil rfl
    simp only at h1 h2
    subst h1; subst h2
    go_enter Tryz.func133, Tryz.ntmps133
    go_wp2
    go_ret
    exact ⟨_, rfl, OwnL.nil _ _ _ _ _, by simp, Below.refl _ _⟩
  | some p =>
    by_cases hz : val = []
    · subst hz
      go_enter Tryz.func133, Tryz.ntmps133
      go_wp2_with (with_reducible refine at_dst 7 ?_; refine wpList_append_zero rfl _ _ 32 rfl w.heap.size einfo_Int (by decide) (by decide) _ [] rfl (OwnL.empty encInt 1 w _) p cap rfl (by simp) (by simp) ?_; intro v w1 hown hg hnil; replace hnil : v ≠ .slice none 0 0 := fun e => absurd (hnil.1 e) (by simp [Act.eval, Act.put]))
      go_ret
      exact ⟨v, rfl, hown, ⟨fun e => absurd e hnil, fun e => by simp at e⟩, Below.appended (OwnL.empty encInt 1 w _) hg (Nat.le_refl _) (by simp) |> ((Below.refl _ _).alloc (Nat.le_refl _) _).trans⟩
    have hpos := List.length_pos_iff.2 hz
    obtain ⟨b, o, sp⟩ := p
    obtain ⟨h1, h2, h3⟩ := HS.out.place _ rfl hpos
    clear hpos hz
    simp only at h1 h2 h3
    subst h1
    have hE := HS.out.cell b o rfl
    have HC : Hid (∀ i y, val[i]? = some y → ∀ j, j < 1 → (w.alloc (.cells #[] 3)).cell? ⟨b, o + i * 1 + j, none⟩ = (encInt y)[j]?) := Lib.hid fun i y hi j hj => by
      rw [World.cell?_of_block (w := w) ((MapKept.heap_alloc w _).2 b h3)]
      exact hE i y hi j hj
    clear hE
    go_enter Tryz.func133, Tryz.ntmps133
    go_wp2_with (with_reducible refine at_dst 7 ?_; refine wpList_append_more rfl _ _ 32 rfl w.heap.size einfo_Int (fun _ => rfl) (by decide) encInt_one (by decide) _ [] rfl (OwnL.empty _ _ w _) b o cap val rfl HC.out (by simp only [List.length_nil]; omega) (by simp) ?_; intro v w1 hown hg hnil; replace hnil : v ≠ .slice none 0 0 := fun e => absurd (hnil.1 e).1 (by simp [Act.eval, Act.put]))
    go_ret
    exact ⟨v, rfl, hown, ⟨fun e => absurd e hnil, fun e => by simp at e⟩, Below.appended (OwnL.empty encInt 1 w _) hg (Nat.le_refl _) (by simp) |> ((Below.refl _ _).alloc (Nat.le_refl _) _).trans⟩

set_option maxHeartbeats 1000000 in
theorem clone_Gauge (D : Nat → Prop) (s : Sl Gauge) (w : World) (hs : s.OK 5 encGauge okGauge D w) :
    Calls Tryz.prog 178 #[.slice s.a s.val.length s.cap] w fun e w' => ∃ v, e = .returned v ∧ OwnL encGauge 5 w' w.heap.size 80 v s.val ∧ (v = .slice none 0 0 ↔ s.a = none) ∧ Below w.heap.size w w' := by
  have hroom := hs.room
  have HS := Lib.hid hs
  clear hs
  obtain ⟨a, cap, val⟩ := s
  simp only at hroom
  cases a with
  | none =>
    obtain ⟨h1, h2⟩ := HS.out.isNil rfl
    simp only at h1 h2
    subst h1; subst h2
    go_enter Tryz.func178, Tryz.ntmps178
    go_wp2
    go_ret
    exact ⟨_, rfl, OwnL.nil _ _ _ _ _, by simp, Below.refl _ _⟩
  | some p =>
    by_cases hz : val = []
    · subst hz
      go_enter Tryz.func178, Tryz.ntmps178
      go_wp2_with (with_reducible refine at_dst 7 ?_; refine wpList_append_zero rfl _ _ 73 rfl w.heap.size einfo_Gauge (by decide) (by decide) _ [] rfl (OwnL.empty encGauge 5 w _) p cap rfl (by simp) (by simp) ?_; intro v w1 hown hg hnil; replace hnil : v ≠ .slice none 0 0 := fun e => absurd (hnil.1 e) (by simp [Act.eval, Act.put]))
      go_ret
      exact ⟨v, rfl, hown, ⟨fun e => absurd e hnil, fun e => by simp at e⟩, Below.appended (OwnL.empty encGauge 5 w _) hg (Nat.le_refl _) (by simp) |> ((Below.refl _ _).alloc (Nat.le_refl _) _).trans⟩
    have hpos := List.length_pos_iff.2 hz
    obtain ⟨b, o, sp⟩ := p
    obtain ⟨h1, h2, h3⟩ := HS.out.place _ rfl hpos
    clear hpos hz
    simp only at h1 h2 h3
    subst h1
    have hE := HS.out.cell b o rfl
    have HC : Hid (∀ i y, val[i]? = some y → ∀ j, j < 5 → (w.alloc (.cells #[] 80)).cell? ⟨b, o + i * 5 + j, none⟩ = (encGauge y)[j]?) := Lib.hid fun i y hi j hj => by
      rw [World.cell?_of_block (w := w) ((MapKept.heap_alloc w _).2 b h3)]
      exact hE i y hi j hj
    clear hE
    go_enter Tryz.func178, Tryz.ntmps178
    go_wp2_with (with_reducible refine at_dst 7 ?_; refine wpList_append_more rfl _ _ 73 rfl w.heap.size einfo_Gauge (fun _ => rfl) (by decide) encGauge_one (by decide) _ [] rfl (OwnL.empty _ _ w _) b o cap val rfl HC.out (by simp only [List.length_nil]; omega) (by simp) ?_; intro v w1 hown hg hnil; replace hnil : v ≠ .slice none 0 0 := fun e => absurd (hnil.1 e).1 (by simp [Act.eval, Act.put]))
    go_ret
    exact ⟨v, rfl, hown, ⟨fun e => absurd e hnil, fun e => by simp at e⟩, Below.appended (OwnL.empty encGauge 5 w _) hg (Nat.le_refl _) (by simp) |> ((Below.refl _ _).alloc (Nat.le_refl _) _).trans⟩

set_option maxHeartbeats 1000000 in
theorem clone_Mark (D : Nat → Prop) (s : Sl Mark) (w : World) (hs : s.OK 3 encMark okMark D w) :
    Calls Tryz.prog 179 #[.slice s.a s.val.length s.cap] w fun e w' => ∃ v, e = .returned v ∧ OwnL encMark 3 w' w.heap.size 195 v s.val ∧ (v = .slice none 0 0 ↔ s.a = none) ∧ Below w.heap.size w w' := by
  have hroom := hs.room
  have HS := Lib.hid hs
  clear hs
  obtain ⟨a, cap, val⟩ := s
  simp only at hroom
  cases a with
  | none =>
    obtain ⟨h1, h2⟩ := HS.out.isNil rfl
    simp only at h1 h2
    subst h1; subst h2
    go_enter Tryz.func179, Tryz.ntmps179
    go_wp2
    go_ret
    exact ⟨_, rfl, OwnL.nil _ _ _ _ _, by simp, Below.refl _ _⟩
  | some p =>
    by_cases hz : val = []
    · subst hz
      go_enter Tryz.func179, Tryz.ntmps179
      go_wp2_with (with_reducible refine at_dst 7 ?_; refine wpList_append_zero rfl _ _ 74 rfl w.heap.size einfo_Mark (by decide) (by decide) _ [] rfl (OwnL.empty encMark 3 w _) p cap rfl (by simp) (by simp) ?_; intro v w1 hown hg hnil; replace hnil : v ≠ .slice none 0 0 := fun e => absurd (hnil.1 e) (by simp [Act.eval, Act.put]))
      go_ret
      exact ⟨v, rfl, hown, ⟨fun e => absurd e hnil, fun e => by simp at e⟩, Below.appended (OwnL.empty encMark 3 w _) hg (Nat.le_refl _) (by simp) |> ((Below.refl _ _).alloc (Nat.le_refl _) _).trans⟩
    have hpos := List.length_pos_iff.2 hz
    obtain ⟨b, o, sp⟩ := p
    obtain ⟨h1, h2, h3⟩ := HS.out.place _ rfl hpos
    clear hpos hz
    simp only at h1 h2 h3
    subst h1
    have hE := HS.out.cell b o rfl
    have HC : Hid (∀ i y, val[i]? = some y → ∀ j, j < 3 → (w.alloc (.cells #[] 195)).cell? ⟨b, o + i * 3 + j, none⟩ = (encMark y)[j]?) := Lib.hid fun i y hi j hj => by
      rw [World.cell?_of_block (w := w) ((MapKept.heap_alloc w _).2 b h3)]
      exact hE i y hi j hj
    clear hE
    go_enter Tryz.func179, Tryz.ntmps179
    go_wp2_with (with_reducible refine at_dst 7 ?_; refine wpList_append_more rfl _ _ 74 rfl w.heap.size einfo_Mark (fun _ => rfl) (by decide) encMark_one (by decide) _ [] rfl (OwnL.empty _ _ w _) b o cap val rfl HC.out (by simp only [List.length_nil]; omega) (by simp) ?_; intro v w1 hown hg hnil; replace hnil : v ≠ .slice none 0 0 := fun e => absurd (hnil.1 e).1 (by simp [Act.eval, Act.put]))
    go_ret
    exact ⟨v, rfl, hown, ⟨fun e => absurd e hnil, fun e => by simp at e⟩, Below.appended (OwnL.empty encMark 3 w _) hg (Nat.le_refl _) (by simp) |> ((Below.refl _ _).alloc (Nat.le_refl _) _).trans⟩

set_option maxHeartbeats 1000000 in
theorem clone_Sight (D : Nat → Prop) (s : Sl Sight) (w : World) (hs : s.OK 8 encSight okSight D w) :
    Calls Tryz.prog 180 #[.slice s.a s.val.length s.cap] w fun e w' => ∃ v, e = .returned v ∧ OwnL encSight 8 w' w.heap.size 162 v s.val ∧ (v = .slice none 0 0 ↔ s.a = none) ∧ Below w.heap.size w w' := by
  have hroom := hs.room
  have HS := Lib.hid hs
  clear hs
  obtain ⟨a, cap, val⟩ := s
  simp only at hroom
  cases a with
  | none =>
    obtain ⟨h1, h2⟩ := HS.out.isNil rfl
    simp only at h1 h2
    subst h1; subst h2
    go_enter Tryz.func180, Tryz.ntmps180
    go_wp2
    go_ret
    exact ⟨_, rfl, OwnL.nil _ _ _ _ _, by simp, Below.refl _ _⟩
  | some p =>
    by_cases hz : val = []
    · subst hz
      go_enter Tryz.func180, Tryz.ntmps180
      go_wp2_with (with_reducible refine at_dst 7 ?_; refine wpList_append_zero rfl _ _ 36 rfl w.heap.size einfo_Sight (by decide) (by decide) _ [] rfl (OwnL.empty encSight 8 w _) p cap rfl (by simp) (by simp) ?_; intro v w1 hown hg hnil; replace hnil : v ≠ .slice none 0 0 := fun e => absurd (hnil.1 e) (by simp [Act.eval, Act.put]))
      go_ret
      exact ⟨v, rfl, hown, ⟨fun e => absurd e hnil, fun e => by simp at e⟩, Below.appended (OwnL.empty encSight 8 w _) hg (Nat.le_refl _) (by simp) |> ((Below.refl _ _).alloc (Nat.le_refl _) _).trans⟩
    have hpos := List.length_pos_iff.2 hz
    obtain ⟨b, o, sp⟩ := p
    obtain ⟨h1, h2, h3⟩ := HS.out.place _ rfl hpos
    clear hpos hz
    simp only at h1 h2 h3
    subst h1
    have hE := HS.out.cell b o rfl
    have HC : Hid (∀ i y, val[i]? = some y → ∀ j, j < 8 → (w.alloc (.cells #[] 162)).cell? ⟨b, o + i * 8 + j, none⟩ = (encSight y)[j]?) := Lib.hid fun i y hi j hj => by
      rw [World.cell?_of_block (w := w) ((MapKept.heap_alloc w _).2 b h3)]
      exact hE i y hi j hj
    clear hE
    go_enter Tryz.func180, Tryz.ntmps180
    go_wp2_with (with_reducible refine at_dst 7 ?_; refine wpList_append_more rfl _ _ 36 rfl w.heap.size einfo_Sight (fun _ => rfl) (by decide) encSight_one (by decide) _ [] rfl (OwnL.empty _ _ w _) b o cap val rfl HC.out (by simp only [List.length_nil]; omega) (by simp) ?_; intro v w1 hown hg hnil; replace hnil : v ≠ .slice none 0 0 := fun e => absurd (hnil.1 e).1 (by simp [Act.eval, Act.put]))
    go_ret
    exact ⟨v, rfl, hown, ⟨fun e => absurd e hnil, fun e => by simp at e⟩, Below.appended (OwnL.empty encSight 8 w _) hg (Nat.le_refl _) (by simp) |> ((Below.refl _ _).alloc (Nat.le_refl _) _).trans⟩

set_option maxHeartbeats 1000000 in
theorem clone_Piece (D : Nat → Prop) (s : Sl Piece) (w : World) (hs : s.OK 7 encPiece okPiece D w) :
    Calls Tryz.prog 177 #[.slice s.a s.val.length s.cap] w fun e w' => ∃ v, e = .returned v ∧ OwnL encPiece 7 w' w.heap.size 76 v s.val ∧ (v = .slice none 0 0 ↔ s.a = none) ∧ Below w.heap.size w w' := by
  have hroom := hs.room
  have HS := Lib.hid hs
  clear hs
  obtain ⟨a, cap, val⟩ := s
  simp only at hroom
  cases a with
  | none =>
    obtain ⟨h1, h2⟩ := HS.out.isNil rfl
    simp only at h1 h2
    subst h1; subst h2
    go_enter Tryz.func177, Tryz.ntmps177
    go_wp2
    go_ret
    exact ⟨_, rfl, OwnL.nil _ _ _ _ _, by simp, Below.refl _ _⟩
  | some p =>
    by_cases hz : val = []
    · subst hz
      go_enter Tryz.func177, Tryz.ntmps177
      go_wp2_with (with_reducible refine at_dst 7 ?_; refine wpList_append_zero rfl _ _ 33 rfl w.heap.size einfo_Piece (by decide) (by decide) _ [] rfl (OwnL.empty encPiece 7 w _) p cap rfl (by simp) (by simp) ?_; intro v w1 hown hg hnil; replace hnil : v ≠ .slice none 0 0 := fun e => absurd (hnil.1 e) (by simp [Act.eval, Act.put]))
      go_ret
      exact ⟨v, rfl, hown, ⟨fun e => absurd e hnil, fun e => by simp at e⟩, Below.appended (OwnL.empty encPiece 7 w _) hg (Nat.le_refl _) (by simp) |> ((Below.refl _ _).alloc (Nat.le_refl _) _).trans⟩
    have hpos := List.length_pos_iff.2 hz
    obtain ⟨b, o, sp⟩ := p
    obtain ⟨h1, h2, h3⟩ := HS.out.place _ rfl hpos
    clear hpos hz
    simp only at h1 h2 h3
    subst h1
    have hE := HS.out.cell b o rfl
    have HC : Hid (∀ i y, val[i]? = some y → ∀ j, j < 7 → (w.alloc (.cells #[] 76)).cell? ⟨b, o + i * 7 + j, none⟩ = (encPiece y)[j]?) := Lib.hid fun i y hi j hj => by
      rw [World.cell?_of_block (w := w) ((MapKept.heap_alloc w _).2 b h3)]
      exact hE i y hi j hj
    clear hE
    go_enter Tryz.func177, Tryz.ntmps177
    go_wp2_with (with_reducible refine at_dst 7 ?_; refine wpList_append_more rfl _ _ 33 rfl w.heap.size einfo_Piece (fun _ => rfl) (by decide) encPiece_one (by decide) _ [] rfl (OwnL.empty _ _ w _) b o cap val rfl HC.out (by simp only [List.length_nil]; omega) (by simp) ?_; intro v w1 hown hg hnil; replace hnil : v ≠ .slice none 0 0 := fun e => absurd (hnil.1 e).1 (by simp [Act.eval, Act.put]))
    go_ret
    exact ⟨v, rfl, hown, ⟨fun e => absurd e hnil, fun e => by simp at e⟩, Below.appended (OwnL.empty encPiece 7 w _) hg (Nat.le_refl _) (by simp) |> ((Below.refl _ _).alloc (Nat.le_refl _) _).trans⟩

set_option maxHeartbeats 1000000 in
theorem clone_Note (D : Nat → Prop) (s : Sl Note) (w : World) (hs : s.OK 29 encNote okNote D w) :
    Calls Tryz.prog 62 #[.slice s.a s.val.length s.cap] w fun e w' => ∃ v, e = .returned v ∧ OwnL encNote 29 w' w.heap.size 40 v s.val ∧ (v = .slice none 0 0 ↔ s.a = none) ∧ Below w.heap.size w w' := by
  have hroom := hs.room
  have HS := Lib.hid hs
  clear hs
  obtain ⟨a, cap, val⟩ := s
  simp only at hroom
  cases a with
  | none =>
    obtain ⟨h1, h2⟩ := HS.out.isNil rfl
    simp only at h1 h2
    subst h1; subst h2
    go_enter Tryz.func62, Tryz.ntmps62
    go_wp2
    go_ret
    exact ⟨_, rfl, OwnL.nil _ _ _ _ _, by simp, Below.refl _ _⟩
  | some p =>
    by_cases hz : val = []
    · subst hz
      go_enter Tryz.func62, Tryz.ntmps62
      go_wp2_with (with_reducible refine at_dst 7 ?_; refine wpList_append_zero rfl _ _ 22 rfl w.heap.size einfo_Note (by decide) (by decide) _ [] rfl (OwnL.empty encNote 29 w _) p cap rfl (by simp) (by simp) ?_; intro v w1 hown hg hnil; replace hnil : v ≠ .slice none 0 0 := fun e => absurd (hnil.1 e) (by simp [Act.eval, Act.put]))
      go_ret
      exact ⟨v, rfl, hown, ⟨fun e => absurd e hnil, fun e => by simp at e⟩, Below.appended (OwnL.empty encNote 29 w _) hg (Nat.le_refl _) (by simp) |> ((Below.refl _ _).alloc (Nat.le_refl _) _).trans⟩
    have hpos := List.length_pos_iff.2 hz
    obtain ⟨b, o, sp⟩ := p
    obtain ⟨h1, h2, h3⟩ := HS.out.place _ rfl hpos
    clear hpos hz
    simp only at h1 h2 h3
    subst h1
    have hE := HS.out.cell b o rfl
    have HC : Hid (∀ i y, val[i]? = some y → ∀ j, j < 29 → (w.alloc (.cells #[] 40)).cell? ⟨b, o + i * 29 + j, none⟩ = (encNote y)[j]?) := Lib.hid fun i y hi j hj => by
      rw [World.cell?_of_block (w := w) ((MapKept.heap_alloc w _).2 b h3)]
      exact hE i y hi j hj
    clear hE
    go_enter Tryz.func62, Tryz.ntmps62
    go_wp2_with (with_reducible refine at_dst 7 ?_; refine wpList_append_more rfl _ _ 22 rfl w.heap.size einfo_Note (fun _ => rfl) (by decide) encNote_one (by decide) _ [] rfl (OwnL.empty _ _ w _) b o cap val rfl HC.out (by simp only [List.length_nil]; omega) (by simp) ?_; intro v w1 hown hg hnil; replace hnil : v ≠ .slice none 0 0 := fun e => absurd (hnil.1 e).1 (by simp [Act.eval, Act.put]))
    go_ret
    exact ⟨v, rfl, hown, ⟨fun e => absurd e hnil, fun e => by simp at e⟩, Below.appended (OwnL.empty encNote 29 w _) hg (Nat.le_refl _) (by simp) |> ((Below.refl _ _).alloc (Nat.le_refl _) _).trans⟩
end Go.Proofs.YtendmmhfjhgdaaaGreat
