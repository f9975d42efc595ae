/-
  framed, Frame: walked, for all bytes.
  Frame of one byte.
-/
import Derived.Test.YtnmgfnpphglphaaGreatConcat
set_option maxHeartbeats 16000000
set_option maxRecDepth 100000
section
set_option linter.unusedVariables false
set_option linter.unusedSimpArgs false
namespace Go.Proofs.YtnmgfnpphglphaaGreat
open Go.RowKit
theorem framed_any (s : Sl UInt8) (w : World) (hs : s.OK 1 encByte okByte (fun _ => False) w) (hl : s.val.length ≤ 8192) :
  Calls Tryz.prog 86 #[.slice s.a s.val.length s.cap] w fun e w' => ∃ v, e = .returned v ∧ OwnL encByte 1 w' w.heap.size 5 v (framedA s.val) ∧ Below w.heap.size w w' := by
 obtain ⟨n, hn⟩ : ∃ n, s.val.length = n := ⟨_, rfl⟩
 have hn2 : n ≤ 8192 := by omega
 obtain ⟨c1, hc1⟩ : ∃ c, checkA (shortA n) = c := ⟨_, rfl⟩
 have hc1b : c1 < 65536 := by rw [← hc1]; exact Nat.lt_trans (check_lt _) (by decide)
 obtain ⟨c2, hc2⟩ : ∃ c, checkA s.val = c := ⟨_, rfl⟩
 have hc2b : c2 < 65536 := by rw [← hc2]; exact Nat.lt_trans (check_lt _) (by decide)
 have hfr : framedA s.val = shortA n ++ shortA c1 ++ s.val ++ shortA c2 := by rw [framedA, hn, hc1, hc2]
 obtain ⟨w1, hw1⟩ : ∃ w1, w.alloc (.cells (sh2 n) 5) = w1 := ⟨_, rfl⟩
 have hs1 : w1.heap.size = w.heap.size + 1 := by rw [← hw1]; simp
 have hB1 : Below w.heap.size w w1 := by rw [← hw1]; exact (Below.refl _ _).alloc (Nat.le_refl _) _
 have hb1 : BoxAt w1 w.heap.size 5 (sh2 n) := by rw [← hw1]; exact BoxAt.new _ _ _
 obtain ⟨w2, hw2⟩ : ∃ w2, w1.alloc (.cells (sh2 c1) 5) = w2 := ⟨_, rfl⟩
 have hs2 : w2.heap.size = w.heap.size + 2 := by rw [← hw2]; simp [hs1]
 have hB2 : Below w1.heap.size w1 w2 := by rw [← hw2]; exact (Below.refl _ _).alloc (Nat.le_refl _) _
 have hb2 : BoxAt w2 (w.heap.size + 1) 5 (sh2 c1) := by rw [← hw2, ← hs1]; exact BoxAt.new _ _ _
 obtain ⟨w3, hw3⟩ : ∃ w3, w2.alloc (.cells (sh2 c2) 5) = w3 := ⟨_, rfl⟩
 have hs3 : w3.heap.size = w.heap.size + 3 := by rw [← hw3]; simp [hs2]
 have hB3 : Below w2.heap.size w2 w3 := by rw [← hw3]; exact (Below.refl _ _).alloc (Nat.le_refl _) _
 have hb3 : BoxAt w3 (w.heap.size + 2) 5 (sh2 c2) := by rw [← hw3, ← hs2]; exact BoxAt.new _ _ _
 obtain ⟨w4, hw4⟩ : ∃ w4, w3.alloc (.cells #[.slice (some ⟨w.heap.size, 0, none⟩) 2 2, .slice (some ⟨w.heap.size + 1, 0, none⟩) 2 2, .slice s.a n s.cap, .slice (some ⟨w.heap.size + 2, 0, none⟩) 2 2] 30) = w4 := ⟨_, rfl⟩
 have hs4 : w4.heap.size = w.heap.size + 4 := by rw [← hw4]; simp [hs3]
 have hB4 : Below w3.heap.size w3 w4 := by rw [← hw4]; exact (Below.refl _ _).alloc (Nat.le_refl _) _
 have hb4 : BoxAt w4 (w.heap.size + 3) 30 #[.slice (some ⟨w.heap.size, 0, none⟩) 2 2, .slice (some ⟨w.heap.size + 1, 0, none⟩) 2 2, .slice s.a n s.cap, .slice (some ⟨w.heap.size + 2, 0, none⟩) 2 2] := by rw [← hw4, ← hs3]; exact BoxAt.new _ _ _
 have hB02 : Below w.heap.size w w2 := hB1.trans (hB2.mono (by omega))
 have hBA : Below w.heap.size w w4 := (hB02.trans (hB3.mono (by omega))).trans (hB4.mono (by omega))
 have hx1 := ((hb1.belowAll hB2).belowAll hB3).belowAll hB4
 have hx2 := (hb2.belowAll hB3).belowAll hB4
 have hx3 := hb3.belowAll hB4
 have hsW : ∀ W, Below w.heap.size w W → s.OK 1 encByte okByte (fun _ => False) W := fun W h => Sl.OK.ext (w := w) (w' := W) (fun _ h => h) hs (.of_below h)
 have H1 : Hid (Calls Tryz.prog 132 #[.int .i64 n] w fun e w' => e = .returned (.slice (some ⟨w.heap.size, 0, none⟩) 2 2) ∧ w1 = w') := Lib.hid ((short_any n w (by omega)).mono fun e w' h => ⟨h.1, (h.2.trans hw1).symm⟩)
 have H2 : Hid (Calls Tryz.prog 125 #[.slice (some ⟨w.heap.size, 0, none⟩) 2 2] w1 fun e w' => e = .returned (.int .i64 c1) ∧ w1 = w') := Lib.hid ((check_any _ _ w1 (okShort hb1)).mono fun e w' h => ⟨by rw [h.1, hc1], h.2.symm⟩)
 have H3 : Hid (Calls Tryz.prog 132 #[.int .i64 c1] w1 fun e w' => e = .returned (.slice (some ⟨w.heap.size + 1, 0, none⟩) 2 2) ∧ w2 = w') := Lib.hid ((short_any c1 w1 hc1b).mono fun e w' h => ⟨by rw [h.1, hs1], (h.2.trans hw2).symm⟩)
 have H4 : Hid (Calls Tryz.prog 125 #[.slice s.a n s.cap] w2 fun e w' => e = .returned (.int .i64 c2) ∧ w2 = w') := Lib.hid (by rw [← hn]; exact (check_any _ s w2 (hsW _ hB02)).mono fun e w' h => ⟨by rw [h.1, hc2], h.2.symm⟩)
 have H5 : Hid (Calls Tryz.prog 132 #[.int .i64 c2] w2 fun e w' => e = .returned (.slice (some ⟨w.heap.size + 2, 0, none⟩) 2 2) ∧ w3 = w') := Lib.hid ((short_any c2 w2 hc2b).mono fun e w' h => ⟨by rw [h.1, hs2], (h.2.trans hw3).symm⟩)
 have H6 : Hid (Calls Tryz.prog 40 #[.slice (some ⟨w.heap.size + 3, 0, none⟩) 4 4] w4 fun e w' => ∃ v, e = .returned v ∧ OwnL encByte 1 w' w4.heap.size 5 v (framedA s.val) ∧ Below w4.heap.size w4 w') := Lib.hid (by
  rw [hfr]
  have h := concat_Byte (fun _ => False) (w.heap.size + 3) 0 4 [⟨some ⟨w.heap.size, 0, none⟩, 2, shortA n⟩, ⟨some ⟨w.heap.size + 1, 0, none⟩, 2, shortA c1⟩, s, ⟨some ⟨w.heap.size + 2, 0, none⟩, 2, shortA c2⟩] w4 (by omega)
   (fun i x hi => by
    rw [hb4.cell]
    rcases i with _ | _ | _ | _ | i
    all_goals simp at hi
    all_goals subst hi
    ·rfl
    ·rfl
    ·rw [← hn]; rfl
    ·rfl)
   (fun x hx => by
    simp only [List.mem_cons, List.not_mem_nil, or_false] at hx
    rcases hx with rfl | rfl | rfl | rfl
    ·exact okShort hx1
    ·exact okShort hx2
    ·exact hsW _ hBA
    ·exact okShort hx3)
   (by simp) (by simp [lens, shortA]; omega)
  simpa [List.append_assoc] using h)
 have HW4 := Lib.hid hw4
 have hbn : Hid (w4.heap.size = w.heap.size + 4) := Lib.hid hs4
 rw [hn]
 clear hw1 hw2 hw3 hw4 hb1 hb2 hb3 hb4 hx1 hx2 hx3 hB1 hB2 hB3 hB4 hB02 hs4 hs1 hs2 hfr hsW hs hc1 hc2 hl hn
 obtain ⟨sa, sc, sv⟩ := s
 go_enter Tryz.func86, Tryz.ntmps86
 go_wp2_with (first
  | (go_at_call 132; (with_reducible refine H1.out.mono ?_); rintro e wq ⟨rfl, hq⟩; subst hq)
  | (go_at_call 125; (with_reducible refine H2.out.mono ?_); rintro e wq ⟨rfl, hq⟩; subst hq)
  | (go_at_call 132; (with_reducible refine H3.out.mono ?_); rintro e wq ⟨rfl, hq⟩; subst hq)
  | (go_at_call 125; (with_reducible refine H4.out.mono ?_); rintro e wq ⟨rfl, hq⟩; subst hq)
  | (go_at_call 132; (with_reducible refine H5.out.mono ?_); rintro e wq ⟨rfl, hq⟩; subst hq)
  | (go_at_call 40; rw [HW4.out]; refine H6.out.mono ?_; rintro e w5 ⟨v, rfl, ho, hb5⟩; have hs4 := hbn.out))
 go_ret
 exact ⟨_, rfl, ho.base_le (by omega), hBA.trans (hb5.mono (by omega))⟩
theorem frame_any (s : Sl UInt8) (w : World) (hs : s.OK 1 encByte okByte (fun _ => False) w) (hl : s.val.length ≤ 8192) :
  Calls Tryz.prog 38 #[.slice s.a s.val.length s.cap] w fun e w' => ∃ v, e = .returned (.tuple #[v, .int .i64 0]) ∧ OwnL encByte 1 w' w.heap.size 5 v (framedA s.val) ∧ Below w.heap.size w w' := by
 have H := Lib.hid (framed_any s w hs hl)
 have hl2 : (s.val.length : Int) ≤ 8192 := by omega
 clear hs
 obtain ⟨sa, sc, sv⟩ := s
 simp only at hl2 hl
 have hl3 : ¬ (8192 : Int) < (sv.length : Int) := by omega
 go_enter Tryz.func38, Tryz.ntmps38
 go_wp2_with (go_at_call 86; refine H.out.mono ?_; rintro e w5 ⟨v, rfl, ho, hb5⟩)
 exact bodyPost_ret (v := .tuple #[v, .int .i64 0]) (by simp [results, Tryz.results38, go_sem]) rfl ⟨_, rfl, ho, hb5⟩
end Go.Proofs.YtnmgfnpphglphaaGreat
end
section
set_option linter.unusedVariables false
set_option linter.unusedSimpArgs false
namespace Go.Proofs.YtnmgfnpphglphaaGreat
open Go.RowKit
theorem framed_seven : framedA [7] = [1, 0, 2, 0, 7, 8, 0] := by decide
theorem frame_7 (w : World) (b o c : Nat) (hb : b < w.heap.size) (hc : 1 ≤ c) (h0 : w.cell? ⟨b, o, none⟩ = some (.int .u8 7)) :
  Calls Tryz.prog 38 #[.slice (some ⟨b, o, none⟩) 1 c] w fun e w' => ∃ v, e = .returned (.tuple #[v, .int .i64 0]) ∧ OwnL encByte 1 w' w.heap.size 5 v [1, 0, 2, 0, 7, 8, 0] ∧ Below w.heap.size w w' := by
 have h := frame_any ⟨some ⟨b, o, none⟩, c, [7]⟩ w (okBytes _ (by simpa using hc) (by simp) hb (fun i x hi => by rcases i with _ | i <;> simp at hi; subst hi; exact h0)) (by simp)
 rw [framed_seven] at h
 exact h
end Go.Proofs.YtnmgfnpphglphaaGreat
end
