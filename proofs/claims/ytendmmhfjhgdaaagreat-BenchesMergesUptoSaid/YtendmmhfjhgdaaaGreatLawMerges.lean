/-
  The law BenchesMerges, walked.
-/
import Derived.Test.YtendmmhfjhgdaaaGreatMerge
import Derived.Test.YtendmmhfjhgdaaaGreatRefMerge
import Derived.Test.YtendmmhfjhgdaaaGreatAwake
set_option maxHeartbeats 16000000
set_option maxRecDepth 100000
set_option linter.unusedVariables false
set_option linter.unusedSimpArgs false
namespace Go.Proofs.YtendmmhfjhgdaaaGreat
open Go.RowKit
theorem refMerge_c (a : Option Addr) (c : Nat) (v : List Note) (a' : Option Addr) (c' : Nat) (v' : List Note) (W : World) (X : List NoteA) (er : Int) (hs : NOK W ⟨a, c, v⟩) (ht : NOK W ⟨a', c', v'⟩) (h1 : v.length ≤ 500) (h2 : v'.length ≤ 500) (hX : mergeA (v.map Note.abs) (v'.map Note.abs) = (X, er)) :
  Calls Tryz.prog 23 #[.slice a v.length c, .slice a' v'.length c'] W fun e w' => ∃ a2 c2 v2, e = .returned (.tuple #[.slice a2 v2.length c2, .int .i64 er]) ∧ NOK w' ⟨a2, c2, v2⟩ ∧ v2.map Note.abs = X ∧ Below W.heap.size W w' := by
 refine (refMerge_any (fun _ => False) ⟨a, c, v⟩ ⟨a', c', v'⟩ W hs ht h1 h2).mono ?_
 rintro e w' ⟨⟨a2, c2, v2⟩, he, hv, ho, hb⟩
 simp only at hv he
 rw [hX] at hv he
 exact ⟨a2, c2, v2, he, ho, hv, hb⟩
theorem merges_any (s t : Sl Note) (w : World) (hs : NOK w s) (ht : NOK w t) :
  Calls Tryz.prog 5 #[.slice s.a s.val.length s.cap, .slice t.a t.val.length t.cap] w fun e w' => e = .returned (.bool true) ∧ Below w.heap.size w w' := by
 obtain ⟨a1, c1, v1⟩ := s
 obtain ⟨a2, c2, v2⟩ := t
 have HA := Lib.hid (awake_any w)
 by_cases h1 : (500 : Int) < (v1.length : Int)
 ·clear hs ht
  go_enter Tryz.func5, Tryz.ntmps5
  go_wp2_with (go_at_call 12; (with_reducible refine HA.out.mono ?_); rintro e w1 ⟨rfl, hb1⟩)
  go_ret
  exact ⟨by simp, hb1⟩
 by_cases h2 : (500 : Int) < (v2.length : Int)
 ·clear hs ht
  go_enter Tryz.func5, Tryz.ntmps5
  go_wp2_with (go_at_call 12; (with_reducible refine HA.out.mono ?_); rintro e w1 ⟨rfl, hb1⟩)
  go_ret
  exact ⟨by simp, hb1⟩
 obtain ⟨X, er, HX⟩ : ∃ X er, Hid (mergeA (v1.map Note.abs) (v2.map Note.abs) = (X, er)) := ⟨_, _, Lib.hid rfl⟩
 clear HA
 go_enter Tryz.func5, Tryz.ntmps5
 go_wp2_with (first
  | (go_at_call 22; (with_reducible refine (merge_c a1 c1 v1 a2 c2 v2 _ X er hs ht (by omega) (by omega) HX.out).mono ?_); rintro e w1 ⟨p1, q1, r1, rfl, ok1, hv1, hl1, hb1⟩; have HV1 := Lib.hid hv1; clear hv1; have hs1 := hs.below hb1; have ht1 := ht.below hb1)
  | (go_at_call 23; (with_reducible refine (refMerge_c a1 c1 v1 a2 c2 v2 _ X er hs1 ht1 (by omega) (by omega) HX.out).mono ?_); rintro e w2 ⟨p2, q2, r2, rfl, ok2, hv2, hb2⟩; have HV2 := Lib.hid hv2; clear hv2; have ok12 := ok1.below hb2; have hB2 := Below.call hb1 hb2 (Nat.le_refl _))
  | (go_at_call 24; (with_reducible refine (same_c p1 q1 r1 p2 q2 r2 _ ok12 ok2 (by rw [HV1.out, HV2.out])).mono ?_); rintro e w3 ⟨rfl, hb3⟩; have hB3 := Below.call hB2 hb3 (Nat.le_refl _))
  | (go_at_call 12; (with_reducible refine (awake_any _).mono ?_); rintro e w4 ⟨rfl, hb4⟩; have hB4 := Below.call hB3 hb4 (Nat.le_refl _)))
 go_ret
 exact ⟨by simp, hB4⟩
end Go.Proofs.YtendmmhfjhgdaaaGreat
