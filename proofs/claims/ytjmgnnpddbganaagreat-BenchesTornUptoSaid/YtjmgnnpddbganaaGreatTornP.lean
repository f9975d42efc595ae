/-
  What the law of torn journals needs: a byte stored, a bit inverted, a list cut; where the records end.
-/
import Derived.Test.YtjmgnnpddbganaaGreatScanW
import Derived.Test.YtjmgnnpddbganaaGreatCopyItem
import Derived.Laws.BitsAllLaws
set_option maxHeartbeats 16000000
set_option maxRecDepth 100000
set_option linter.unusedVariables false
set_option linter.unusedSimpArgs false
namespace Go.Proofs.YtjmgnnpddbganaaGreat
open Go.RowKit
theorem OwnL.shape {α : Type} {enc : α → Array Value} {sz base : Nat} {w : World} {e : TypeId} {v : Value} {l : List α} (h : OwnL enc sz w base e v l) : ∃ a c, v = .slice a l.length c := by
 rcases h.2 with ⟨rfl, h0⟩ | ⟨g, cap, cur, rfl, _⟩
 ·exact ⟨none, 0, by rw [h0]⟩
 ·exact ⟨_, _, rfl⟩
theorem flat_bytes (l : List UInt8) : flat encByte l = l.map fun x => .int .u8 x.toNat := by
 induction l with
 | nil => rfl
 | cons x l ih => simp only [flat, List.flatMap_cons, List.map_cons] at ih ⊢; rw [ih]; rfl
theorem own_byte {w : World} {base : Nat} {v : Value} {l : List UInt8} (h : OwnL encByte 1 w base 5 v l) (h0 : 0 < l.length) :
  ∃ g cap cur, v = .slice (some ⟨g, 0, none⟩) l.length cap ∧ BoxAt w g 5 cur ∧ l.length ≤ cur.size ∧ base ≤ g ∧
   ∀ w' p (y : UInt8), p < l.length → BoxAt w' g 5 (splice cur p [.int .u8 y.toNat]) → OwnL encByte 1 w' base 5 v (l.set p y) := by
 rcases h.2 with ⟨rfl, hn⟩ | ⟨g, cap, cur, rfl, hb, hg, h1, h2, h3, h4⟩
 ·omega
 ·refine ⟨g, cap, cur, rfl, hg, by omega, hb, fun w' p y hp hbx => ⟨by rw [flat_bytes]; simp, .inr ⟨g, cap, splice cur p [.int .u8 y.toNat], by simp, hb, hbx, by simpa using h1, h2, ?_, ?_⟩⟩⟩
  ·simp [splice, h3]
  ·rw [flat_bytes] at h4 ⊢
   simp only [splice, List.length_set, List.map_set, Array.toList_setIfInBounds]
   rw [← h4, List.take_set]
theorem modify_set {l : List UInt8} {p : Nat} {x : UInt8} (f : UInt8 → UInt8) (hx : l[p]? = some x) : l.modify p f = l.set p (f x) := by
 refine List.ext_getElem? fun i => ?_
 rw [List.getElem?_modify, List.getElem?_set]
 by_cases h : p = i
 ·subst h
  have hp : p < l.length := (List.getElem?_eq_some_iff.1 hx).1
  simp [hp, (List.getElem?_eq_some_iff.1 hx).2]
 ·simp [h]
theorem flip_bits (x : UInt8) (j : Nat) (hj : j < 8) : bits .xor .u8 (x.toNat : Int) ((2 ^ j : Nat) : Int) = ((flipB j x).toNat : Int) := by
 have h2 := (pow_le j hj).2
 rw [u8_xor_nat _ _ x.toNat_lt (by omega)]
 have h : ∀ (i : Fin 8) (y : Fin 256), (y.val ^^^ 2 ^ i.val) = ((UInt8.ofNat y.val) ^^^ (1 <<< UInt8.ofNat i.val)).toNat := by decide +kernel
 have h1 := h ⟨j, hj⟩ ⟨x.toNat, x.toNat_lt⟩
 simp only [UInt8.ofNat_toNat] at h1
 rw [h1]; rfl
theorem flip_wrap (x : UInt8) (j : Nat) (hj : j < 8) : bits .xor .u8 (x.toNat : Int) (IntKind.u8.wrap ((2 : Int) ^ j)) = ((flipB j x).toNat : Int) := by
 have h2 := (pow_le j hj).2
 have e : ((2 : Int) ^ j) = ((2 ^ j : Nat) : Int) := by push_cast; rfl
 have e2 : IntKind.u8.wrap ((2 : Int) ^ j) = ((2 ^ j : Nat) : Int) := by
  rw [e]
  generalize 2 ^ j = m at h2
  simp [IntKind.wrap, IntKind.bits, IntKind.signed]
  omega
 rw [e2]
 exact flip_bits x j hj
def Sl.tk {α : Type} (s : Sl α) (k : Nat) : Sl α := ⟨s.a, s.cap, s.val.take k⟩
theorem tk_length {α : Type} (s : Sl α) (k : Nat) (h : k ≤ s.val.length) : (s.tk k).val.length = k := by simp only [Sl.tk, List.length_take]; omega
theorem Sl.OK.tk {α : Type} {sz : Nat} {e : α → Array Value} {ok : (Nat → Prop) → World → α → Prop} {D : Nat → Prop} {w : World} {s : Sl α} (h : s.OK sz e ok D w) (k : Nat) : (s.tk k).OK sz e ok D w := by
 have hl : (s.tk k).val.length ≤ s.val.length := by simp only [Sl.tk, List.length_take]; omega
 have h1 := h.le
 have h2 := h.room
 refine ⟨Nat.le_trans hl h1, Nat.le_trans hl h2, fun hn => ⟨by simp [Sl.tk, (h.isNil hn).1], (h.isNil hn).2⟩, fun p hp h0 => h.place p hp (by omega), fun x hx => h.elem x (List.mem_of_mem_take hx), fun b o ha i x hi j hj => ?_⟩
 refine h.cell b o ha i x ?_ j hj
 simp only [Sl.tk, List.getElem?_take] at hi
 split at hi
 ·exact hi
 ·cases hi
theorem und_lists : Tryz.prog.underlying 22 = some (.slice (Tryz.prog.elem 22)) := by kernel_rfl
theorem add_zero_addr (a : Option Addr) (s : Nat) : a.map (·.add (0 * s)) = a := by
 cases a with
 | none => rfl
 | some p => simp [Addr.add]
theorem size_list (w : World) : ∃ n, (sizeOf (Tryz.prog.elem 22)).run Tryz.prog w = .ok n w := by
 have e : Tryz.prog.elem 22 = 24 := by kernel_rfl
 have i : (Tryz.prog.info? 24).map (·.size) = some 1 := by kernel_rfl
 rw [e]
 cases h : Tryz.prog.info? 24 with
 | none => rw [h] at i; cases i
 | some j => exact ⟨j.size, by simp [sizeOf, typeInfo, h]⟩
theorem run_tk (w : World) (s : Sl (Sl UInt8)) (k : Nat) (hk : k ≤ s.val.length) (hc : s.val.length ≤ s.cap) : (Instr.sliceAt 22 (.slice s.a s.val.length s.cap) none (some (.int .i64 k)) none).run Tryz.prog w = .ok (.slice (s.tk k).a (s.tk k).val.length (s.tk k).cap) w := by
 obtain ⟨n, hn⟩ := size_list w
 rw [run_sliceAt_slice _ _ _ _ _ _ und_lists, run_slice_h _ _ _ _ _ und_lists .i64 (k : Int) (by omega) (by omega), hn, tk_length s k hk]
 simp only [Result.andThen, sliced, Int.toNat_natCast, Nat.sub_zero, add_zero_addr, ite_self, Sl.tk]
theorem OwnL.slOf {α : Type} {enc : α → Array Value} {sz base : Nat} {w : World} {e : TypeId} {g n c : Nat} {l : List α} (h : OwnL enc sz w base e (.slice (some ⟨g, 0, none⟩) n c) l) (hsz : ∀ x, (enc x).size = sz) (ok : (Nat → Prop) → World → α → Prop) (D : Nat → Prop)
  (hok : ∀ x ∈ l, ok D w x) (hD : ∀ k, base ≤ k → ¬ D k) (hl : l.length ≤ 4294967296) : Sl.OK sz enc ok D w ⟨some ⟨g, 0, none⟩, c, l⟩ := by
 obtain ⟨⟨a, c', l'⟩, h1, h2, h3, _⟩ := h.sl hsz ok D hok hD hl
 simp only [Sl.v, Value.slice.injEq] at h1
 simp only at h2
 obtain ⟨rfl, _, rfl⟩ := h1
 subst h2
 exact h3
theorem scan_count : ∀ (k : Nat) (b : List UInt8), (scanA k b).1.length ≤ k
 | 0, _ => by simp [scanA]
 | k + 1, b => by
  unfold scanA
  split
  ·simp
  ·rename_i x _
   have := scan_count k (b.drop (x.length + 6))
   simp only [List.length_cons]; omega
theorem scan_sl (D : Nat → Prop) (s : Sl UInt8) (w : World) (hs : s.OK 1 encByte okByte D w) (hl : s.val.length ≤ 1000000) :
  Calls Tryz.prog 8 #[.slice s.a s.val.length s.cap] w fun e w' => ∃ x : Sl (Sl UInt8), e = .returned (.tuple #[.slice x.a x.val.length x.cap, .int .i64 (scanA (s.val.length + 1) s.val).2]) ∧ x.OK 1 encSl okSl (fun _ => False) w' ∧ x.val.map (fun y : Sl UInt8 => y.val) = (scanA (s.val.length + 1) s.val).1 ∧ Below w.heap.size w w' := by
 refine (scan_any D s w hs hl).mono ?_
 rintro e w' ⟨v, l, rfl, ho, he, hm, hb⟩
 have hc := scan_count (s.val.length + 1) s.val
 rw [← hm, List.length_map] at hc
 obtain ⟨x, rfl, hx, hok, _⟩ := ho.sl (fun _ => rfl) okSl (fun _ => False) he (fun _ _ h => h) (by omega)
 subst hx
 exact ⟨x, rfl, hok, hm, hb⟩
def endsA (vals : List (List UInt8)) (k : Nat) : List Int := (List.range k).map fun i => ((journalA (vals.take (i + 1))).length : Int)
theorem ends_succ (vals : List (List UInt8)) (k : Nat) : endsA vals (k + 1) = endsA vals k ++ [((journalA (vals.take (k + 1))).length : Int)] := by simp [endsA, List.range_succ]
theorem ends_length (vals : List (List UInt8)) (k : Nat) : (endsA vals k).length = k := by simp [endsA]
theorem ends_at (vals : List (List UInt8)) {k n : Nat} (h : k < n) : (endsA vals n)[k]? = some ((journalA (vals.take (k + 1))).length : Int) := by simp [endsA, h]
theorem journal_snoc {vals : List (List UInt8)} {k : Nat} {x : List UInt8} (h : vals[k]? = some x) : journalA (vals.take (k + 1)) = journalA (vals.take k) ++ framedA x := by
 rw [take_snocB h, journal_append]; simp [journalA]
theorem journal_le {vals : List (List UInt8)} (h : ∀ x ∈ vals, x.length ≤ 300) : vals.length ≤ (journalA vals).length ∧ (journalA vals).length ≤ vals.length * 306 := by
 induction vals with
 | nil => simp [journalA]
 | cons x l ih =>
  have h1 := ih fun y hy => h y (by simp [hy])
  have h2 := h x (by simp)
  rw [journal_cons, List.length_append, framed_length, List.length_cons]; omega
theorem split_at {vals : List (List UInt8)} {k : Nat} {x : List UInt8} (h : vals[k]? = some x) : vals = vals.take k ++ x :: vals.drop (k + 1) := by
 obtain ⟨hk, rfl⟩ := List.getElem?_eq_some_iff.1 h
 rw [List.getElem_cons_drop, List.take_append_drop]
theorem torn_at {vals : List (List UInt8)} (h : ∀ x ∈ vals, x.length ≤ 300) {k p j : Nat} (hj : j < 8) (hk : k < vals.length) (h1 : (journalA (vals.take k)).length ≤ p) (h2 : p < (journalA (vals.take (k + 1))).length) :
  (scanA (((journalA vals).modify p (flipB j)).length + 1) ((journalA vals).modify p (flipB j))).1 = vals.take k := by
 obtain ⟨x, hx⟩ : ∃ x, vals[k]? = some x := ⟨_, List.getElem?_eq_getElem hk⟩
 have hs := split_at hx
 have hl := (journal_le h).1
 have h3 := scan_torn j hj (vals.take k) (vals.drop (k + 1)) x (fun y hy => h y (by rw [hs]; exact hy)) p (((journalA vals).modify p (flipB j)).length + 1) h1 (by rw [← take_snocB hx]; exact h2) (by rw [List.length_take, List.length_modify]; omega)
 rw [← hs] at h3
 exact h3
theorem scan_full {vals : List (List UInt8)} (h : ∀ x ∈ vals, x.length ≤ 300) : scanA ((journalA vals).length + 1) (journalA vals) = (vals, (journalA vals).length) :=
 scan_all vals _ (fun x hx => Nat.le_trans (h x hx) (by decide)) (by have := (journal_le h).1; omega)
end Go.Proofs.YtjmgnnpddbganaaGreat
