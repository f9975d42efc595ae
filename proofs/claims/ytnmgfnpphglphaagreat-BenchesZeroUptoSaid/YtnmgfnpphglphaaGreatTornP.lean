/-
  long, slices.Clone of bytes, SameBytes, Scan: walked.
  What the law of torn journals needs: a byte stored, a bit inverted, a list cut; where the records end.
-/
import Derived.Test.YtnmgfnpphglphaaGreatSub
import Derived.Test.YtnmgfnpphglphaaGreatOrd
import Derived.Test.YtnmgfnpphglphaaGreatAppR
import Derived.Laws.BytesArg
import Derived.WalkMore
import Derived.Test.YtnmgfnpphglphaaGreatCopyItem
import Derived.Laws.BitsAllLaws
set_option maxHeartbeats 16000000
set_option maxRecDepth 100000
section
set_option linter.unusedVariables false
set_option linter.unusedSimpArgs false
namespace Go.Proofs.YtnmgfnpphglphaaGreat
open Go.RowKit
@[go_sem] theorem eqGuardS_Byte : Tryz.prog.eqGuardType Tryz.prog.depth 30 = false := by kernel_rfl
@[go_sem high] theorem eqlS_Byte (w : World) (a : Option Addr) (l c : Nat) : (binOp .eql 30 (.slice a l c) (.slice none 0 0)).run Tryz.prog w = .ok (.bool a.isNone) w := run_eql_slice_nil w _ _ a l c Tryz.underlying30
def strB (l : List UInt8) : ByteArray := ⟨l.toArray⟩
theorem run_str {D : Nat → Prop} {w : World} {s : Sl UInt8} (hs : okSl D w s) : (convert 30 9 (.slice s.a s.val.length s.cap)).run Tryz.prog w = .ok (.string (strB s.val)) w := by
 obtain ⟨a, cap, val⟩ := s
 cases a with
 | none =>
  obtain ⟨h1, h2⟩ := hs.isNil rfl
  simp only at h1 h2
  subst h1; subst h2
  exact run_convert_bytes_nil w 30 5 Tryz.underlying30 Tryz.underlying5 0 0 9 Tryz.underlying9
 | some p =>
  by_cases hz : val = []
  ·subst hz
   refine (run_convert_bytes_string w 30 9 5 _ _ _ Tryz.underlying30 Tryz.underlying5 Tryz.underlying9).trans ?_
   exact run_bytesToString w p 0 cap [] (run_loadCells_list (P := Tryz.prog) w p [] (by simp))
  ·obtain ⟨b, o, sp⟩ := p
   obtain ⟨h1, h2, h3⟩ := hs.place _ rfl (List.length_pos_iff.2 hz)
   simp only at h1 h2 h3
   subst h1
   refine (run_convert_bytes_arg w 30 5 Tryz.underlying30 Tryz.underlying5 b o val.length cap (val.map fun x => (x.toNat : Int)) (by simp) (fun i hi => ?_) 9 Tryz.underlying9).trans ?_
   ·obtain ⟨x, hx⟩ : ∃ x, val[i]? = some x := ⟨_, List.getElem?_eq_getElem hi⟩
    have := hs.cell b o rfl i x hx 0 (by decide)
    simpa [encByte, List.getD, hx] using this
   ·simp [strOfNums, strB, List.map_map, Function.comp_def]
end Go.Proofs.YtnmgfnpphglphaaGreat
end
section
set_option linter.unusedVariables false
set_option linter.unusedSimpArgs false
namespace Go.Proofs.YtnmgfnpphglphaaGreat
open Go.RowKit
theorem OwnL.shape {α : Type} {enc : α → Array Value} {sz base : Nat} {w : World} {e : TypeId} {v : Value} {l : List α} (h : OwnL enc sz w base e v l) : ∃ a c, v = .slice a l.length c := by
 rcases h.2 with ⟨rfl, h0⟩ | ⟨g, cap, cur, rfl, _⟩
 ·exact ⟨none, 0, by rw [h0]⟩
 ·exact ⟨_, _, rfl⟩
theorem flat_bytes (l : List UInt8) : flat encByte l = l.map fun x => .int .u8 x.toNat := by
 induction l with
 | nil => rfl
 | cons x l ih => simp only [flat, List.flatMap_cons, List.map_cons] at ih ⊢; rw [ih]; rfl
theorem own_byte {w : World} {base : Nat} {v : Value} {l : List UInt8} (h : OwnL encByte 1 w base 5 v l) (h0 : 0 < l.length) :
  ∃ g cap cur, v = .slice (some ⟨g, 0, none⟩) l.length cap ∧ BoxAt w g 5 cur ∧ l.length ≤ cur.size ∧ base ≤ g ∧
   ∀ w' p (y : UInt8), p < l.length → BoxAt w' g 5 (splice cur p [.int .u8 y.toNat]) → OwnL encByte 1 w' base 5 v (l.set p y) := by
 rcases h.2 with ⟨rfl, hn⟩ | ⟨g, cap, cur, rfl, hb, hg, h1, h2, h3, h4⟩
 ·omega
 ·refine ⟨g, cap, cur, rfl, hg, by omega, hb, fun w' p y hp hbx => ⟨by rw [flat_bytes]; simp, .inr ⟨g, cap, splice cur p [.int .u8 y.toNat], by simp, hb, hbx, by simpa using h1, h2, ?_, ?_⟩⟩⟩
  ·simp [splice, h3]
  ·rw [flat_bytes] at h4 ⊢
   simp only [splice, List.length_set, List.map_set, Array.toList_setIfInBounds]
   rw [← h4, List.take_set]
theorem modify_set {l : List UInt8} {p : Nat} {x : UInt8} (f : UInt8 → UInt8) (hx : l[p]? = some x) : l.modify p f = l.set p (f x) := by
 refine List.ext_getElem? fun i => ?_
 rw [List.getElem?_modify, List.getElem?_set]
 by_cases h : p = i
 ·subst h
  have hp : p < l.length := (List.getElem?_eq_some_iff.1 hx).1
  simp [hp, (List.getElem?_eq_some_iff.1 hx).2]
 ·simp [h]
theorem flip_bits (x : UInt8) (j : Nat) (hj : j < 8) : bits .xor .u8 (x.toNat : Int) ((2 ^ j : Nat) : Int) = ((flipB j x).toNat : Int) := by
 have h2 := (pow_le j hj).2
 rw [u8_xor_nat _ _ x.toNat_lt (by omega)]
 have h : ∀ (i : Fin 8) (y : Fin 256), (y.val ^^^ 2 ^ i.val) = ((UInt8.ofNat y.val) ^^^ (1 <<< UInt8.ofNat i.val)).toNat := by decide +kernel
 have h1 := h ⟨j, hj⟩ ⟨x.toNat, x.toNat_lt⟩
 simp only [UInt8.ofNat_toNat] at h1
 rw [h1]; rfl
theorem flip_wrap (x : UInt8) (j : Nat) (hj : j < 8) : bits .xor .u8 (x.toNat : Int) (IntKind.u8.wrap ((2 : Int) ^ j)) = ((flipB j x).toNat : Int) := by
 have h2 := (pow_le j hj).2
 have e : ((2 : Int) ^ j) = ((2 ^ j : Nat) : Int) := by push_cast; rfl
 have e2 : IntKind.u8.wrap ((2 : Int) ^ j) = ((2 ^ j : Nat) : Int) := by
  rw [e]
  generalize 2 ^ j = m at h2
  simp [IntKind.wrap, IntKind.bits, IntKind.signed]
  omega
 rw [e2]
 exact flip_bits x j hj
def Sl.tk {α : Type} (s : Sl α) (k : Nat) : Sl α := ⟨s.a, s.cap, s.val.take k⟩
theorem Sl.OK.tk {α : Type} {sz : Nat} {e : α → Array Value} {ok : (Nat → Prop) → World → α → Prop} {D : Nat → Prop} {w : World} {s : Sl α} (h : s.OK sz e ok D w) (k : Nat) : (s.tk k).OK sz e ok D w := by
 have hl : (s.tk k).val.length ≤ s.val.length := by simp only [Sl.tk, List.length_take]; omega
 have h1 := h.le
 have h2 := h.room
 refine ⟨Nat.le_trans hl h1, Nat.le_trans hl h2, fun hn => ⟨by simp [Sl.tk, (h.isNil hn).1], (h.isNil hn).2⟩, fun p hp h0 => h.place p hp (by omega), fun x hx => h.elem x (List.mem_of_mem_take hx), fun b o ha i x hi j hj => ?_⟩
 refine h.cell b o ha i x ?_ j hj
 simp only [Sl.tk, List.getElem?_take] at hi
 split at hi
 ·exact hi
 ·cases hi
theorem add_zero_addr (a : Option Addr) (s : Nat) : a.map (·.add (0 * s)) = a := by
 cases a with
 | none => rfl
 | some p => simp [Addr.add]
theorem OwnL.slOf {α : Type} {enc : α → Array Value} {sz base : Nat} {w : World} {e : TypeId} {g n c : Nat} {l : List α} (h : OwnL enc sz w base e (.slice (some ⟨g, 0, none⟩) n c) l) (hsz : ∀ x, (enc x).size = sz) (ok : (Nat → Prop) → World → α → Prop) (D : Nat → Prop)
  (hok : ∀ x ∈ l, ok D w x) (hD : ∀ k, base ≤ k → ¬ D k) (hl : l.length ≤ 4294967296) : Sl.OK sz enc ok D w ⟨some ⟨g, 0, none⟩, c, l⟩ := by
 obtain ⟨⟨a, c', l'⟩, h1, h2, h3, _⟩ := h.sl hsz ok D hok hD hl
 simp only [Sl.v, Value.slice.injEq] at h1
 simp only at h2
 obtain ⟨rfl, _, rfl⟩ := h1
 subst h2
 exact h3
end Go.Proofs.YtnmgfnpphglphaaGreat
end
