/-
  The law BenchesUnion, walked.
-/
import Derived.Test.YtendmmhfjhgdaaaGreatMerge
import Derived.Test.YtendmmhfjhgdaaaGreatRefSame
import Derived.Test.YtendmmhfjhgdaaaGreatAwake
set_option linter.unusedVariables false
set_option linter.unusedSimpArgs false
namespace Go.Proofs.YtendmmhfjhgdaaaGreat
open Go.RowKit

/-- notes that lie whole in memory -/
abbrev NOK (W : World) (s : Sl Note) : Prop := Sl.OK 29 encNote okNote (fun _ => False) W s
theorem NOK.below {W W' : World} {s : Sl Note} (h : NOK W s) (hb : Below W.heap.size W W') : NOK W' s := Sl.OK.ext (w := W) (fun _ h => okNote.ext h (.of_below hb)) h (.of_below hb)
theorem mergeA_len (A B : List NoteA) : (mergeA A B).1.length ≤ 400 := by
  by_cases h : (mergeA A B).2 = 0
  · exact (mergeA_ok h).2.2.1.len
  · rw [mergeA_bad h]; simp
theorem merge_c (a : Option Addr) (c : Nat) (v : List Note) (a' : Option Addr) (c' : Nat) (v' : List Note) (W : World) (X : List NoteA) (er : Int) (hs : NOK W ⟨a, c, v⟩) (ht : NOK W ⟨a', c', v'⟩) (h1 : v.length ≤ 500) (h2 : v'.length ≤ 500) (hX : mergeA (v.map Note.abs) (v'.map Note.abs) = (X, er)) :
    Calls Tryz.prog 22 #[.slice a v.length c, .slice a' v'.length c'] W fun e w' => ∃ a2 c2 v2, e = .returned (.tuple #[.slice a2 v2.length c2, .int .i64 er]) ∧ NOK w' ⟨a2, c2, v2⟩ ∧ v2.map Note.abs = X ∧ v2.length ≤ 400 ∧ Below W.heap.size W w' := by
  refine (merge_any (fun _ => False) ⟨a, c, v⟩ ⟨a', c', v'⟩ W hs ht h1 h2).mono ?_
  rintro e w' ⟨⟨a2, c2, v2⟩, he, hv, ho, hb⟩
  simp only at hv he
  rw [hX] at hv he
  refine ⟨a2, c2, v2, he, ho.mono (fun _ h => okNote.mono h (fun _ h => h.elim)) (fun _ h => h.elim), hv, ?_, hb⟩
  have h3 := mergeA_len (v.map Note.abs) (v'.map Note.abs)
  rw [hX, ← hv, List.length_map] at h3
  exact h3
theorem same_c (a : Option Addr) (c : Nat) (v : List Note) (a' : Option Addr) (c' : Nat) (v' : List Note) (W : World) (hs : NOK W ⟨a, c, v⟩) (ht : NOK W ⟨a', c', v'⟩) (hX : v'.map Note.abs = v.map Note.abs) :
    Calls Tryz.prog 24 #[.slice a v.length c, .slice a' v'.length c'] W fun e w' => e = .returned (.bool true) ∧ Below W.heap.size W w' := refNotes_any (fun _ => False) ⟨a, c, v⟩ ⟨a', c', v'⟩ W hs ht hX

set_option maxRecDepth 100000 in
set_option maxHeartbeats 8000000 in
theorem union_long (a1 a2 a3 : Option Addr) (l1 c1 l2 c2 l3 c3 : Nat) (w : World) (hl : 150 < l1 ∨ 150 < l2 ∨ 150 < l3) :
    Calls Tryz.prog 6 #[.slice a1 l1 c1, .slice a2 l2 c2, .slice a3 l3 c3] w fun e w' => e = .returned (.bool true) ∧ Below w.heap.size w w' := by
  have HA := Lib.hid (awake_any w)
  by_cases h1 : (150 : Int) < (l1 : Int)
  · clear hl
    go_enter Tryz.func6, Tryz.ntmps6
    go_wp2_with (go_at_call 12; (with_reducible refine HA.out.mono ?_); rintro e w1 ⟨rfl, hb1⟩)
    go_ret
    exact ⟨by simp, hb1⟩
  · by_cases h2 : (150 : Int) < (l2 : Int)
    · clear hl
      go_enter Tryz.func6, Tryz.ntmps6
      go_wp2_with (go_at_call 12; (with_reducible refine HA.out.mono ?_); rintro e w1 ⟨rfl, hb1⟩)
      go_ret
      exact ⟨by simp, hb1⟩
    · have h3 : (150 : Int) < (l3 : Int) := by omega
      clear hl
      go_enter Tryz.func6, Tryz.ntmps6
      go_wp2_with (go_at_call 12; (with_reducible refine HA.out.mono ?_); rintro e w1 ⟨rfl, hb1⟩)
      go_ret
      exact ⟨by simp, hb1⟩
theorem mergeA_absorbed {S T U X1 X4 X5 : List NoteA} (h1 : mergeA S T = (X1, 0)) (h4 : mergeA T U = (X4, 0)) (h6 : mergeA S X4 = (X5, 0)) : mergeA X5 S = (X5, 0) := by
  have h := mergeA_ok (A := S) (B := X4) (by rw [h6])
  rw [h6] at h
  exact mergeA_absorb h.2.2.1 h.1 fun a ha => (h.2.2.2 a).2 (.inl ha)
set_option maxRecDepth 100000 in
set_option maxHeartbeats 16000000 in
theorem union_short (a1 a2 a3 : Option Addr) (c1 c2 c3 : Nat) (v1 v2 v3 : List Note) (w : World) (OKS : NOK w ⟨a1, c1, v1⟩) (OKT : NOK w ⟨a2, c2, v2⟩) (OKU : NOK w ⟨a3, c3, v3⟩) (h1 : v1.length ≤ 150) (h2 : v2.length ≤ 150) (h3 : v3.length ≤ 150) :
    Calls Tryz.prog 6 #[.slice a1 v1.length c1, .slice a2 v2.length c2, .slice a3 v3.length c3] w fun e w' => e = .returned (.bool true) ∧ Below w.heap.size w w' := by
  obtain ⟨X1, e1, HX1⟩ : ∃ X1 e1, Hid (mergeA (v1.map Note.abs) (v2.map Note.abs) = (X1, e1)) := ⟨_, _, Lib.hid rfl⟩
  have HX2 : Hid (mergeA (v2.map Note.abs) (v1.map Note.abs) = (X1, e1)) := Lib.hid (by rw [mergeA_comm]; exact HX1.out)
  obtain ⟨X3, e3, HX3⟩ : ∃ X3 e3, Hid (mergeA (v1.map Note.abs) (v1.map Note.abs) = (X3, e3)) := ⟨_, _, Lib.hid rfl⟩
  obtain ⟨X4, e4, HX4⟩ : ∃ X4 e4, Hid (mergeA (v2.map Note.abs) (v3.map Note.abs) = (X4, e4)) := ⟨_, _, Lib.hid rfl⟩
  obtain ⟨X5, e5, HX5⟩ : ∃ X5 e5, Hid (mergeA X1 (v3.map Note.abs) = (X5, e5)) := ⟨_, _, Lib.hid rfl⟩
  have hB := Below.refl w.heap.size w
  have k1 : ¬ (150 : Int) < (v1.length : Int) := by omega
  have k2 : ¬ (150 : Int) < (v2.length : Int) := by omega
  have k3 : ¬ (150 : Int) < (v3.length : Int) := by omega
  by_cases g : e3 = 0
  · subst g
    have HS3 : Hid (v1.map Note.abs = X3) := Lib.hid (by have h := mergeA_self (A := v1.map Note.abs) (by rw [HX3.out]); rw [HX3.out] at h; exact h.symm)
    by_cases k4 : e1 = 0
    · subst k4
      by_cases k5 : e4 = 0
      · subst k5
        have HX6 : Hid (mergeA (v1.map Note.abs) X4 = (X5, e5)) := Lib.hid (by have h := mergeA_assoc (A := v1.map Note.abs) (B := v2.map Note.abs) (C := v3.map Note.abs) (by rw [HX1.out]) (by rw [HX4.out]); rw [HX1.out, HX4.out] at h; rw [← h]; exact HX5.out)
        by_cases k6 : e5 = 0
        · subst k6
          have HX7 : Hid (mergeA X5 (v1.map Note.abs) = (X5, 0)) := Lib.hid (mergeA_absorbed HX1.out HX4.out HX6.out)
          go_enter Tryz.func6, Tryz.ntmps6
          go_wp2_with (first
            | (go_at_call 22; (with_reducible refine (merge_c a1 c1 v1 a2 c2 v2 _ X1 0 OKS OKT (by omega) (by omega) (HX1.out)).mono ?_); rintro e w1 ⟨p1, q1, r1, rfl, OKR1, hv1, hl1, hb1⟩; have HV1 := Lib.hid hv1; clear hv1; replace OKS := OKS.below hb1; replace OKT := OKT.below hb1; replace OKU := OKU.below hb1; replace hB := hB.trans (hb1.mono hB.size))
            | (go_at_call 22; (with_reducible refine (merge_c a2 c2 v2 a1 c1 v1 _ X1 0 OKT OKS (by omega) (by omega) (HX2.out)).mono ?_); rintro e w2 ⟨p2, q2, r2, rfl, OKR2, hv2, hl2, hb2⟩; have HV2 := Lib.hid hv2; clear hv2; replace OKS := OKS.below hb2; replace OKT := OKT.below hb2; replace OKU := OKU.below hb2; replace OKR1 := OKR1.below hb2; replace hB := hB.trans (hb2.mono hB.size))
            | (go_at_call 22; (with_reducible refine (merge_c a1 c1 v1 a1 c1 v1 _ X3 0 OKS OKS (by omega) (by omega) (HX3.out)).mono ?_); rintro e w3 ⟨p3, q3, r3, rfl, OKR3, hv3, hl3, hb3⟩; have HV3 := Lib.hid hv3; clear hv3; replace OKS := OKS.below hb3; replace OKT := OKT.below hb3; replace OKU := OKU.below hb3; replace OKR1 := OKR1.below hb3; replace OKR2 := OKR2.below hb3; replace hB := hB.trans (hb3.mono hB.size))
            | (go_at_call 24; (with_reducible refine (same_c p1 q1 r1 p2 q2 r2 _ OKR1 OKR2 (by rw [HV1.out, HV2.out])).mono ?_); rintro e w4 ⟨rfl, hb4⟩; replace OKS := OKS.below hb4; replace OKT := OKT.below hb4; replace OKU := OKU.below hb4; replace OKR1 := OKR1.below hb4; replace OKR2 := OKR2.below hb4; replace OKR3 := OKR3.below hb4; replace hB := hB.trans (hb4.mono hB.size))
            | (go_at_call 24; (with_reducible refine (same_c p3 q3 r3 a1 c1 v1 _ OKR3 OKS (by rw [HV3.out, HS3.out])).mono ?_); rintro e w5 ⟨rfl, hb5⟩; replace OKS := OKS.below hb5; replace OKT := OKT.below hb5; replace OKU := OKU.below hb5; replace OKR1 := OKR1.below hb5; replace OKR2 := OKR2.below hb5; replace OKR3 := OKR3.below hb5; replace hB := hB.trans (hb5.mono hB.size))
            | (go_at_call 22; (with_reducible refine (merge_c a2 c2 v2 a3 c3 v3 _ X4 0 OKT OKU (by omega) (by omega) (HX4.out)).mono ?_); rintro e w6 ⟨p4, q4, r4, rfl, OKR4, hv4, hl4, hb6⟩; have HV4 := Lib.hid hv4; clear hv4; replace OKS := OKS.below hb6; replace OKT := OKT.below hb6; replace OKU := OKU.below hb6; replace OKR1 := OKR1.below hb6; replace OKR2 := OKR2.below hb6; replace OKR3 := OKR3.below hb6; replace hB := hB.trans (hb6.mono hB.size))
            | (go_at_call 22; (with_reducible refine (merge_c p1 q1 r1 a3 c3 v3 _ X5 0 OKR1 OKU (by omega) (by omega) (by rw [HV1.out]; exact HX5.out)).mono ?_); rintro e w7 ⟨p5, q5, r5, rfl, OKR5, hv5, hl5, hb7⟩; have HV5 := Lib.hid hv5; clear hv5; replace OKS := OKS.below hb7; replace OKT := OKT.below hb7; replace OKU := OKU.below hb7; replace OKR1 := OKR1.below hb7; replace OKR2 := OKR2.below hb7; replace OKR3 := OKR3.below hb7; replace OKR4 := OKR4.below hb7; replace hB := hB.trans (hb7.mono hB.size))
            | (go_at_call 22; (with_reducible refine (merge_c a1 c1 v1 p4 q4 r4 _ X5 0 OKS OKR4 (by omega) (by omega) (by rw [HV4.out]; exact HX6.out)).mono ?_); rintro e w8 ⟨p6, q6, r6, rfl, OKR6, hv6, hl6, hb8⟩; have HV6 := Lib.hid hv6; clear hv6; replace OKS := OKS.below hb8; replace OKT := OKT.below hb8; replace OKU := OKU.below hb8; replace OKR1 := OKR1.below hb8; replace OKR2 := OKR2.below hb8; replace OKR3 := OKR3.below hb8; replace OKR4 := OKR4.below hb8; replace OKR5 := OKR5.below hb8; replace hB := hB.trans (hb8.mono hB.size))
            | (go_at_call 22; (with_reducible refine (merge_c p5 q5 r5 a1 c1 v1 _ X5 0 OKR5 OKS (by omega) (by omega) (by rw [HV5.out]; exact HX7.out)).mono ?_); rintro e w9 ⟨p7, q7, r7, rfl, OKR7, hv7, hl7, hb9⟩; have HV7 := Lib.hid hv7; clear hv7; replace OKS := OKS.below hb9; replace OKT := OKT.below hb9; replace OKU := OKU.below hb9; replace OKR1 := OKR1.below hb9; replace OKR2 := OKR2.below hb9; replace OKR3 := OKR3.below hb9; replace OKR4 := OKR4.below hb9; replace OKR5 := OKR5.below hb9; replace OKR6 := OKR6.below hb9; replace hB := hB.trans (hb9.mono hB.size))
            | (go_at_call 24; (with_reducible refine (same_c p5 q5 r5 p6 q6 r6 _ OKR5 OKR6 (by rw [HV5.out, HV6.out])).mono ?_); rintro e w10 ⟨rfl, hb10⟩; replace OKS := OKS.below hb10; replace OKT := OKT.below hb10; replace OKU := OKU.below hb10; replace OKR1 := OKR1.below hb10; replace OKR2 := OKR2.below hb10; replace OKR3 := OKR3.below hb10; replace OKR4 := OKR4.below hb10; replace OKR5 := OKR5.below hb10; replace OKR6 := OKR6.below hb10; replace OKR7 := OKR7.below hb10; replace hB := hB.trans (hb10.mono hB.size))
            | (go_at_call 24; (with_reducible refine (same_c p7 q7 r7 p5 q5 r5 _ OKR7 OKR5 (by rw [HV7.out, HV5.out])).mono ?_); rintro e w11 ⟨rfl, hb11⟩; replace OKS := OKS.below hb11; replace OKT := OKT.below hb11; replace OKU := OKU.below hb11; replace OKR1 := OKR1.below hb11; replace OKR2 := OKR2.below hb11; replace OKR3 := OKR3.below hb11; replace OKR4 := OKR4.below hb11; replace OKR5 := OKR5.below hb11; replace OKR6 := OKR6.below hb11; replace OKR7 := OKR7.below hb11; replace hB := hB.trans (hb11.mono hB.size))
            | (go_at_call 12; (with_reducible refine (awake_any _).mono ?_); rintro e w12 ⟨rfl, hb12⟩; replace OKS := OKS.below hb12; replace OKT := OKT.below hb12; replace OKU := OKU.below hb12; replace OKR1 := OKR1.below hb12; replace OKR2 := OKR2.below hb12; replace OKR3 := OKR3.below hb12; replace OKR4 := OKR4.below hb12; replace OKR5 := OKR5.below hb12; replace OKR6 := OKR6.below hb12; replace OKR7 := OKR7.below hb12; replace hB := hB.trans (hb12.mono hB.size)))
          go_ret
          exact ⟨by simp, hB⟩
        · have m6 : (e5 != 0) = true := by simpa using k6
          clear k6
          go_enter Tryz.func6, Tryz.ntmps6
          go_wp2_with (first
            | (go_at_call 22; (with_reducible refine (merge_c a1 c1 v1 a2 c2 v2 _ X1 0 OKS OKT (by omega) (by omega) (HX1.out)).mono ?_); rintro e w1 ⟨p1, q1, r1, rfl, OKR1, hv1, hl1, hb1⟩; have HV1 := Lib.hid hv1; clear hv1; replace OKS := OKS.below hb1; replace OKT := OKT.below hb1; replace OKU := OKU.below hb1; replace hB := hB.trans (hb1.mono hB.size))
            | (go_at_call 22; (with_reducible refine (merge_c a2 c2 v2 a1 c1 v1 _ X1 0 OKT OKS (by omega) (by omega) (HX2.out)).mono ?_); rintro e w2 ⟨p2, q2, r2, rfl, OKR2, hv2, hl2, hb2⟩; have HV2 := Lib.hid hv2; clear hv2; replace OKS := OKS.below hb2; replace OKT := OKT.below hb2; replace OKU := OKU.below hb2; replace OKR1 := OKR1.below hb2; replace hB := hB.trans (hb2.mono hB.size))
            | (go_at_call 22; (with_reducible refine (merge_c a1 c1 v1 a1 c1 v1 _ X3 0 OKS OKS (by omega) (by omega) (HX3.out)).mono ?_); rintro e w3 ⟨p3, q3, r3, rfl, OKR3, hv3, hl3, hb3⟩; have HV3 := Lib.hid hv3; clear hv3; replace OKS := OKS.below hb3; replace OKT := OKT.below hb3; replace OKU := OKU.below hb3; replace OKR1 := OKR1.below hb3; replace OKR2 := OKR2.below hb3; replace hB := hB.trans (hb3.mono hB.size))
            | (go_at_call 24; (with_reducible refine (same_c p1 q1 r1 p2 q2 r2 _ OKR1 OKR2 (by rw [HV1.out, HV2.out])).mono ?_); rintro e w4 ⟨rfl, hb4⟩; replace OKS := OKS.below hb4; replace OKT := OKT.below hb4; replace OKU := OKU.below hb4; replace OKR1 := OKR1.below hb4; replace OKR2 := OKR2.below hb4; replace OKR3 := OKR3.below hb4; replace hB := hB.trans (hb4.mono hB.size))
            | (go_at_call 24; (with_reducible refine (same_c p3 q3 r3 a1 c1 v1 _ OKR3 OKS (by rw [HV3.out, HS3.out])).mono ?_); rintro e w5 ⟨rfl, hb5⟩; replace OKS := OKS.below hb5; replace OKT := OKT.below hb5; replace OKU := OKU.below hb5; replace OKR1 := OKR1.below hb5; replace OKR2 := OKR2.below hb5; replace OKR3 := OKR3.below hb5; replace hB := hB.trans (hb5.mono hB.size))
            | (go_at_call 22; (with_reducible refine (merge_c a2 c2 v2 a3 c3 v3 _ X4 0 OKT OKU (by omega) (by omega) (HX4.out)).mono ?_); rintro e w6 ⟨p4, q4, r4, rfl, OKR4, hv4, hl4, hb6⟩; have HV4 := Lib.hid hv4; clear hv4; replace OKS := OKS.below hb6; replace OKT := OKT.below hb6; replace OKU := OKU.below hb6; replace OKR1 := OKR1.below hb6; replace OKR2 := OKR2.below hb6; replace OKR3 := OKR3.below hb6; replace hB := hB.trans (hb6.mono hB.size))
            | (go_at_call 22; (with_reducible refine (merge_c p1 q1 r1 a3 c3 v3 _ X5 e5 OKR1 OKU (by omega) (by omega) (by rw [HV1.out]; exact HX5.out)).mono ?_); rintro e w7 ⟨p5, q5, r5, rfl, OKR5, hv5, hl5, hb7⟩; have HV5 := Lib.hid hv5; clear hv5; replace OKS := OKS.below hb7; replace OKT := OKT.below hb7; replace OKU := OKU.below hb7; replace OKR1 := OKR1.below hb7; replace OKR2 := OKR2.below hb7; replace OKR3 := OKR3.below hb7; replace OKR4 := OKR4.below hb7; replace hB := hB.trans (hb7.mono hB.size))
            | (go_at_call 22; (with_reducible refine (merge_c a1 c1 v1 p4 q4 r4 _ X5 e5 OKS OKR4 (by omega) (by omega) (by rw [HV4.out]; exact HX6.out)).mono ?_); rintro e w8 ⟨p6, q6, r6, rfl, OKR6, hv6, hl6, hb8⟩; have HV6 := Lib.hid hv6; clear hv6; replace OKS := OKS.below hb8; replace OKT := OKT.below hb8; replace OKU := OKU.below hb8; replace OKR1 := OKR1.below hb8; replace OKR2 := OKR2.below hb8; replace OKR3 := OKR3.below hb8; replace OKR4 := OKR4.below hb8; replace OKR5 := OKR5.below hb8; replace hB := hB.trans (hb8.mono hB.size))
            | (go_at_call 12; (with_reducible refine (awake_any _).mono ?_); rintro e w9 ⟨rfl, hb9⟩; replace OKS := OKS.below hb9; replace OKT := OKT.below hb9; replace OKU := OKU.below hb9; replace OKR1 := OKR1.below hb9; replace OKR2 := OKR2.below hb9; replace OKR3 := OKR3.below hb9; replace OKR4 := OKR4.below hb9; replace OKR5 := OKR5.below hb9; replace OKR6 := OKR6.below hb9; replace hB := hB.trans (hb9.mono hB.size)))
          go_ret
          exact ⟨by simp, hB⟩
      · have m5 : (e4 != 0) = true := by simpa using k5
        clear k5
        go_enter Tryz.func6, Tryz.ntmps6
        go_wp2_with (first
          | (go_at_call 22; (with_reducible refine (merge_c a1 c1 v1 a2 c2 v2 _ X1 0 OKS OKT (by omega) (by omega) (HX1.out)).mono ?_); rintro e w1 ⟨p1, q1, r1, rfl, OKR1, hv1, hl1, hb1⟩; have HV1 := Lib.hid hv1; clear hv1; replace OKS := OKS.below hb1; replace OKT := OKT.below hb1; replace OKU := OKU.below hb1; replace hB := hB.trans (hb1.mono hB.size))
          | (go_at_call 22; (with_reducible refine (merge_c a2 c2 v2 a1 c1 v1 _ X1 0 OKT OKS (by omega) (by omega) (HX2.out)).mono ?_); rintro e w2 ⟨p2, q2, r2, rfl, OKR2, hv2, hl2, hb2⟩; have HV2 := Lib.hid hv2; clear hv2; replace OKS := OKS.below hb2; replace OKT := OKT.below hb2; replace OKU := OKU.below hb2; replace OKR1 := OKR1.below hb2; replace hB := hB.trans (hb2.mono hB.size))
          | (go_at_call 22; (with_reducible refine (merge_c a1 c1 v1 a1 c1 v1 _ X3 0 OKS OKS (by omega) (by omega) (HX3.out)).mono ?_); rintro e w3 ⟨p3, q3, r3, rfl, OKR3, hv3, hl3, hb3⟩; have HV3 := Lib.hid hv3; clear hv3; replace OKS := OKS.below hb3; replace OKT := OKT.below hb3; replace OKU := OKU.below hb3; replace OKR1 := OKR1.below hb3; replace OKR2 := OKR2.below hb3; replace hB := hB.trans (hb3.mono hB.size))
          | (go_at_call 24; (with_reducible refine (same_c p1 q1 r1 p2 q2 r2 _ OKR1 OKR2 (by rw [HV1.out, HV2.out])).mono ?_); rintro e w4 ⟨rfl, hb4⟩; replace OKS := OKS.below hb4; replace OKT := OKT.below hb4; replace OKU := OKU.below hb4; replace OKR1 := OKR1.below hb4; replace OKR2 := OKR2.below hb4; replace OKR3 := OKR3.below hb4; replace hB := hB.trans (hb4.mono hB.size))
          | (go_at_call 24; (with_reducible refine (same_c p3 q3 r3 a1 c1 v1 _ OKR3 OKS (by rw [HV3.out, HS3.out])).mono ?_); rintro e w5 ⟨rfl, hb5⟩; replace OKS := OKS.below hb5; replace OKT := OKT.below hb5; replace OKU := OKU.below hb5; replace OKR1 := OKR1.below hb5; replace OKR2 := OKR2.below hb5; replace OKR3 := OKR3.below hb5; replace hB := hB.trans (hb5.mono hB.size))
          | (go_at_call 22; (with_reducible refine (merge_c a2 c2 v2 a3 c3 v3 _ X4 e4 OKT OKU (by omega) (by omega) (HX4.out)).mono ?_); rintro e w6 ⟨p4, q4, r4, rfl, OKR4, hv4, hl4, hb6⟩; have HV4 := Lib.hid hv4; clear hv4; replace OKS := OKS.below hb6; replace OKT := OKT.below hb6; replace OKU := OKU.below hb6; replace OKR1 := OKR1.below hb6; replace OKR2 := OKR2.below hb6; replace OKR3 := OKR3.below hb6; replace hB := hB.trans (hb6.mono hB.size))
          | (go_at_call 12; (with_reducible refine (awake_any _).mono ?_); rintro e w7 ⟨rfl, hb7⟩; replace OKS := OKS.below hb7; replace OKT := OKT.below hb7; replace OKU := OKU.below hb7; replace OKR1 := OKR1.below hb7; replace OKR2 := OKR2.below hb7; replace OKR3 := OKR3.below hb7; replace OKR4 := OKR4.below hb7; replace hB := hB.trans (hb7.mono hB.size)))
        go_ret
        exact ⟨by simp, hB⟩
    · have m4 : (e1 != 0) = true := by simpa using k4
      clear k4
      go_enter Tryz.func6, Tryz.ntmps6
      go_wp2_with (first
        | (go_at_call 22; (with_reducible refine (merge_c a1 c1 v1 a2 c2 v2 _ X1 e1 OKS OKT (by omega) (by omega) (HX1.out)).mono ?_); rintro e w1 ⟨p1, q1, r1, rfl, OKR1, hv1, hl1, hb1⟩; have HV1 := Lib.hid hv1; clear hv1; replace OKS := OKS.below hb1; replace OKT := OKT.below hb1; replace OKU := OKU.below hb1; replace hB := hB.trans (hb1.mono hB.size))
        | (go_at_call 22; (with_reducible refine (merge_c a2 c2 v2 a1 c1 v1 _ X1 e1 OKT OKS (by omega) (by omega) (HX2.out)).mono ?_); rintro e w2 ⟨p2, q2, r2, rfl, OKR2, hv2, hl2, hb2⟩; have HV2 := Lib.hid hv2; clear hv2; replace OKS := OKS.below hb2; replace OKT := OKT.below hb2; replace OKU := OKU.below hb2; replace OKR1 := OKR1.below hb2; replace hB := hB.trans (hb2.mono hB.size))
        | (go_at_call 22; (with_reducible refine (merge_c a1 c1 v1 a1 c1 v1 _ X3 0 OKS OKS (by omega) (by omega) (HX3.out)).mono ?_); rintro e w3 ⟨p3, q3, r3, rfl, OKR3, hv3, hl3, hb3⟩; have HV3 := Lib.hid hv3; clear hv3; replace OKS := OKS.below hb3; replace OKT := OKT.below hb3; replace OKU := OKU.below hb3; replace OKR1 := OKR1.below hb3; replace OKR2 := OKR2.below hb3; replace hB := hB.trans (hb3.mono hB.size))
        | (go_at_call 24; (with_reducible refine (same_c p1 q1 r1 p2 q2 r2 _ OKR1 OKR2 (by rw [HV1.out, HV2.out])).mono ?_); rintro e w4 ⟨rfl, hb4⟩; replace OKS := OKS.below hb4; replace OKT := OKT.below hb4; replace OKU := OKU.below hb4; replace OKR1 := OKR1.below hb4; replace OKR2 := OKR2.below hb4; replace OKR3 := OKR3.below hb4; replace hB := hB.trans (hb4.mono hB.size))
        | (go_at_call 24; (with_reducible refine (same_c p3 q3 r3 a1 c1 v1 _ OKR3 OKS (by rw [HV3.out, HS3.out])).mono ?_); rintro e w5 ⟨rfl, hb5⟩; replace OKS := OKS.below hb5; replace OKT := OKT.below hb5; replace OKU := OKU.below hb5; replace OKR1 := OKR1.below hb5; replace OKR2 := OKR2.below hb5; replace OKR3 := OKR3.below hb5; replace hB := hB.trans (hb5.mono hB.size))
        | (go_at_call 22; (with_reducible refine (merge_c a2 c2 v2 a3 c3 v3 _ X4 e4 OKT OKU (by omega) (by omega) (HX4.out)).mono ?_); rintro e w6 ⟨p4, q4, r4, rfl, OKR4, hv4, hl4, hb6⟩; have HV4 := Lib.hid hv4; clear hv4; replace OKS := OKS.below hb6; replace OKT := OKT.below hb6; replace OKU := OKU.below hb6; replace OKR1 := OKR1.below hb6; replace OKR2 := OKR2.below hb6; replace OKR3 := OKR3.below hb6; replace hB := hB.trans (hb6.mono hB.size))
        | (go_at_call 12; (with_reducible refine (awake_any _).mono ?_); rintro e w7 ⟨rfl, hb7⟩; replace OKS := OKS.below hb7; replace OKT := OKT.below hb7; replace OKU := OKU.below hb7; replace OKR1 := OKR1.below hb7; replace OKR2 := OKR2.below hb7; replace OKR3 := OKR3.below hb7; replace OKR4 := OKR4.below hb7; replace hB := hB.trans (hb7.mono hB.size)))
      go_ret
      exact ⟨by simp, hB⟩
  · have g1 : (e3 == 0) = false := by simpa using g
    clear g
    by_cases k4 : e1 = 0
    · subst k4
      by_cases k5 : e4 = 0
      · subst k5
        have HX6 : Hid (mergeA (v1.map Note.abs) X4 = (X5, e5)) := Lib.hid (by have h := mergeA_assoc (A := v1.map Note.abs) (B := v2.map Note.abs) (C := v3.map Note.abs) (by rw [HX1.out]) (by rw [HX4.out]); rw [HX1.out, HX4.out] at h; rw [← h]; exact HX5.out)
        by_cases k6 : e5 = 0
        · subst k6
          have HX7 : Hid (mergeA X5 (v1.map Note.abs) = (X5, 0)) := Lib.hid (mergeA_absorbed HX1.out HX4.out HX6.out)
          go_enter Tryz.func6, Tryz.ntmps6
          go_wp2_with (first
            | (go_at_call 22; (with_reducible refine (merge_c a1 c1 v1 a2 c2 v2 _ X1 0 OKS OKT (by omega) (by omega) (HX1.out)).mono ?_); rintro e w1 ⟨p1, q1, r1, rfl, OKR1, hv1, hl1, hb1⟩; have HV1 := Lib.hid hv1; clear hv1; replace OKS := OKS.below hb1; replace OKT := OKT.below hb1; replace OKU := OKU.below hb1; replace hB := hB.trans (hb1.mono hB.size))
            | (go_at_call 22; (with_reducible refine (merge_c a2 c2 v2 a1 c1 v1 _ X1 0 OKT OKS (by omega) (by omega) (HX2.out)).mono ?_); rintro e w2 ⟨p2, q2, r2, rfl, OKR2, hv2, hl2, hb2⟩; have HV2 := Lib.hid hv2; clear hv2; replace OKS := OKS.below hb2; replace OKT := OKT.below hb2; replace OKU := OKU.below hb2; replace OKR1 := OKR1.below hb2; replace hB := hB.trans (hb2.mono hB.size))
            | (go_at_call 22; (with_reducible refine (merge_c a1 c1 v1 a1 c1 v1 _ X3 e3 OKS OKS (by omega) (by omega) (HX3.out)).mono ?_); rintro e w3 ⟨p3, q3, r3, rfl, OKR3, hv3, hl3, hb3⟩; have HV3 := Lib.hid hv3; clear hv3; replace OKS := OKS.below hb3; replace OKT := OKT.below hb3; replace OKU := OKU.below hb3; replace OKR1 := OKR1.below hb3; replace OKR2 := OKR2.below hb3; replace hB := hB.trans (hb3.mono hB.size))
            | (go_at_call 24; (with_reducible refine (same_c p1 q1 r1 p2 q2 r2 _ OKR1 OKR2 (by rw [HV1.out, HV2.out])).mono ?_); rintro e w4 ⟨rfl, hb4⟩; replace OKS := OKS.below hb4; replace OKT := OKT.below hb4; replace OKU := OKU.below hb4; replace OKR1 := OKR1.below hb4; replace OKR2 := OKR2.below hb4; replace OKR3 := OKR3.below hb4; replace hB := hB.trans (hb4.mono hB.size))
            | (go_at_call 22; (with_reducible refine (merge_c a2 c2 v2 a3 c3 v3 _ X4 0 OKT OKU (by omega) (by omega) (HX4.out)).mono ?_); rintro e w5 ⟨p4, q4, r4, rfl, OKR4, hv4, hl4, hb5⟩; have HV4 := Lib.hid hv4; clear hv4; replace OKS := OKS.below hb5; replace OKT := OKT.below hb5; replace OKU := OKU.below hb5; replace OKR1 := OKR1.below hb5; replace OKR2 := OKR2.below hb5; replace OKR3 := OKR3.below hb5; replace hB := hB.trans (hb5.mono hB.size))
            | (go_at_call 22; (with_reducible refine (merge_c p1 q1 r1 a3 c3 v3 _ X5 0 OKR1 OKU (by omega) (by omega) (by rw [HV1.out]; exact HX5.out)).mono ?_); rintro e w6 ⟨p5, q5, r5, rfl, OKR5, hv5, hl5, hb6⟩; have HV5 := Lib.hid hv5; clear hv5; replace OKS := OKS.below hb6; replace OKT := OKT.below hb6; replace OKU := OKU.below hb6; replace OKR1 := OKR1.below hb6; replace OKR2 := OKR2.below hb6; replace OKR3 := OKR3.below hb6; replace OKR4 := OKR4.below hb6; replace hB := hB.trans (hb6.mono hB.size))
            | (go_at_call 22; (with_reducible refine (merge_c a1 c1 v1 p4 q4 r4 _ X5 0 OKS OKR4 (by omega) (by omega) (by rw [HV4.out]; exact HX6.out)).mono ?_); rintro e w7 ⟨p6, q6, r6, rfl, OKR6, hv6, hl6, hb7⟩; have HV6 := Lib.hid hv6; clear hv6; replace OKS := OKS.below hb7; replace OKT := OKT.below hb7; replace OKU := OKU.below hb7; replace OKR1 := OKR1.below hb7; replace OKR2 := OKR2.below hb7; replace OKR3 := OKR3.below hb7; replace OKR4 := OKR4.below hb7; replace OKR5 := OKR5.below hb7; replace hB := hB.trans (hb7.mono hB.size))
            | (go_at_call 22; (with_reducible refine (merge_c p5 q5 r5 a1 c1 v1 _ X5 0 OKR5 OKS (by omega) (by omega) (by rw [HV5.out]; exact HX7.out)).mono ?_); rintro e w8 ⟨p7, q7, r7, rfl, OKR7, hv7, hl7, hb8⟩; have HV7 := Lib.hid hv7; clear hv7; replace OKS := OKS.below hb8; replace OKT := OKT.below hb8; replace OKU := OKU.below hb8; replace OKR1 := OKR1.below hb8; replace OKR2 := OKR2.below hb8; replace OKR3 := OKR3.below hb8; replace OKR4 := OKR4.below hb8; replace OKR5 := OKR5.below hb8; replace OKR6 := OKR6.below hb8; replace hB := hB.trans (hb8.mono hB.size))
            | (go_at_call 24; (with_reducible refine (same_c p5 q5 r5 p6 q6 r6 _ OKR5 OKR6 (by rw [HV5.out, HV6.out])).mono ?_); rintro e w9 ⟨rfl, hb9⟩; replace OKS := OKS.below hb9; replace OKT := OKT.below hb9; replace OKU := OKU.below hb9; replace OKR1 := OKR1.below hb9; replace OKR2 := OKR2.below hb9; replace OKR3 := OKR3.below hb9; replace OKR4 := OKR4.below hb9; replace OKR5 := OKR5.below hb9; replace OKR6 := OKR6.below hb9; replace OKR7 := OKR7.below hb9; replace hB := hB.trans (hb9.mono hB.size))
            | (go_at_call 24; (with_reducible refine (same_c p7 q7 r7 p5 q5 r5 _ OKR7 OKR5 (by rw [HV7.out, HV5.out])).mono ?_); rintro e w10 ⟨rfl, hb10⟩; replace OKS := OKS.below hb10; replace OKT := OKT.below hb10; replace OKU := OKU.below hb10; replace OKR1 := OKR1.below hb10; replace OKR2 := OKR2.below hb10; replace OKR3 := OKR3.below hb10; replace OKR4 := OKR4.below hb10; replace OKR5 := OKR5.below hb10; replace OKR6 := OKR6.below hb10; replace OKR7 := OKR7.below hb10; replace hB := hB.trans (hb10.mono hB.size))
            | (go_at_call 12; (with_reducible refine (awake_any _).mono ?_); rintro e w11 ⟨rfl, hb11⟩; replace OKS := OKS.below hb11; replace OKT := OKT.below hb11; replace OKU := OKU.below hb11; replace OKR1 := OKR1.below hb11; replace OKR2 := OKR2.below hb11; replace OKR3 := OKR3.below hb11; replace OKR4 := OKR4.below hb11; replace OKR5 := OKR5.below hb11; replace OKR6 := OKR6.below hb11; replace OKR7 := OKR7.below hb11; replace hB := hB.trans (hb11.mono hB.size)))
          go_ret
          exact ⟨by simp, hB⟩
        · have m6 : (e5 != 0) = true := by simpa using k6
          clear k6
          go_enter Tryz.func6, Tryz.ntmps6
          go_wp2_with (first
            | (go_at_call 22; (with_reducible refine (merge_c a1 c1 v1 a2 c2 v2 _ X1 0 OKS OKT (by omega) (by omega) (HX1.out)).mono ?_); rintro e w1 ⟨p1, q1, r1, rfl, OKR1, hv1, hl1, hb1⟩; have HV1 := Lib.hid hv1; clear hv1; replace OKS := OKS.below hb1; replace OKT := OKT.below hb1; replace OKU := OKU.below hb1; replace hB := hB.trans (hb1.mono hB.size))
            | (go_at_call 22; (with_reducible refine (merge_c a2 c2 v2 a1 c1 v1 _ X1 0 OKT OKS (by omega) (by omega) (HX2.out)).mono ?_); rintro e w2 ⟨p2, q2, r2, rfl, OKR2, hv2, hl2, hb2⟩; have HV2 := Lib.hid hv2; clear hv2; replace OKS := OKS.below hb2; replace OKT := OKT.below hb2; replace OKU := OKU.below hb2; replace OKR1 := OKR1.below hb2; replace hB := hB.trans (hb2.mono hB.size))
            | (go_at_call 22; (with_reducible refine (merge_c a1 c1 v1 a1 c1 v1 _ X3 e3 OKS OKS (by omega) (by omega) (HX3.out)).mono ?_); rintro e w3 ⟨p3, q3, r3, rfl, OKR3, hv3, hl3, hb3⟩; have HV3 := Lib.hid hv3; clear hv3; replace OKS := OKS.below hb3; replace OKT := OKT.below hb3; replace OKU := OKU.below hb3; replace OKR1 := OKR1.below hb3; replace OKR2 := OKR2.below hb3; replace hB := hB.trans (hb3.mono hB.size))
            | (go_at_call 24; (with_reducible refine (same_c p1 q1 r1 p2 q2 r2 _ OKR1 OKR2 (by rw [HV1.out, HV2.out])).mono ?_); rintro e w4 ⟨rfl, hb4⟩; replace OKS := OKS.below hb4; replace OKT := OKT.below hb4; replace OKU := OKU.below hb4; replace OKR1 := OKR1.below hb4; replace OKR2 := OKR2.below hb4; replace OKR3 := OKR3.below hb4; replace hB := hB.trans (hb4.mono hB.size))
            | (go_at_call 22; (with_reducible refine (merge_c a2 c2 v2 a3 c3 v3 _ X4 0 OKT OKU (by omega) (by omega) (HX4.out)).mono ?_); rintro e w5 ⟨p4, q4, r4, rfl, OKR4, hv4, hl4, hb5⟩; have HV4 := Lib.hid hv4; clear hv4; replace OKS := OKS.below hb5; replace OKT := OKT.below hb5; replace OKU := OKU.below hb5; replace OKR1 := OKR1.below hb5; replace OKR2 := OKR2.below hb5; replace OKR3 := OKR3.below hb5; replace hB := hB.trans (hb5.mono hB.size))
            | (go_at_call 22; (with_reducible refine (merge_c p1 q1 r1 a3 c3 v3 _ X5 e5 OKR1 OKU (by omega) (by omega) (by rw [HV1.out]; exact HX5.out)).mono ?_); rintro e w6 ⟨p5, q5, r5, rfl, OKR5, hv5, hl5, hb6⟩; have HV5 := Lib.hid hv5; clear hv5; replace OKS := OKS.below hb6; replace OKT := OKT.below hb6; replace OKU := OKU.below hb6; replace OKR1 := OKR1.below hb6; replace OKR2 := OKR2.below hb6; replace OKR3 := OKR3.below hb6; replace OKR4 := OKR4.below hb6; replace hB := hB.trans (hb6.mono hB.size))
            | (go_at_call 22; (with_reducible refine (merge_c a1 c1 v1 p4 q4 r4 _ X5 e5 OKS OKR4 (by omega) (by omega) (by rw [HV4.out]; exact HX6.out)).mono ?_); rintro e w7 ⟨p6, q6, r6, rfl, OKR6, hv6, hl6, hb7⟩; have HV6 := Lib.hid hv6; clear hv6; replace OKS := OKS.below hb7; replace OKT := OKT.below hb7; replace OKU := OKU.below hb7; replace OKR1 := OKR1.below hb7; replace OKR2 := OKR2.below hb7; replace OKR3 := OKR3.below hb7; replace OKR4 := OKR4.below hb7; replace OKR5 := OKR5.below hb7; replace hB := hB.trans (hb7.mono hB.size))
            | (go_at_call 12; (with_reducible refine (awake_any _).mono ?_); rintro e w8 ⟨rfl, hb8⟩; replace OKS := OKS.below hb8; replace OKT := OKT.below hb8; replace OKU := OKU.below hb8; replace OKR1 := OKR1.below hb8; replace OKR2 := OKR2.below hb8; replace OKR3 := OKR3.below hb8; replace OKR4 := OKR4.below hb8; replace OKR5 := OKR5.below hb8; replace OKR6 := OKR6.below hb8; replace hB := hB.trans (hb8.mono hB.size)))
          go_ret
          exact ⟨by simp, hB⟩
      · have m5 : (e4 != 0) = true := by simpa using k5
        clear k5
        go_enter Tryz.func6, Tryz.ntmps6
        go_wp2_with (first
          | (go_at_call 22; (with_reducible refine (merge_c a1 c1 v1 a2 c2 v2 _ X1 0 OKS OKT (by omega) (by omega) (HX1.out)).mono ?_); rintro e w1 ⟨p1, q1, r1, rfl, OKR1, hv1, hl1, hb1⟩; have HV1 := Lib.hid hv1; clear hv1; replace OKS := OKS.below hb1; replace OKT := OKT.below hb1; replace OKU := OKU.below hb1; replace hB := hB.trans (hb1.mono hB.size))
          | (go_at_call 22; (with_reducible refine (merge_c a2 c2 v2 a1 c1 v1 _ X1 0 OKT OKS (by omega) (by omega) (HX2.out)).mono ?_); rintro e w2 ⟨p2, q2, r2, rfl, OKR2, hv2, hl2, hb2⟩; have HV2 := Lib.hid hv2; clear hv2; replace OKS := OKS.below hb2; replace OKT := OKT.below hb2; replace OKU := OKU.below hb2; replace OKR1 := OKR1.below hb2; replace hB := hB.trans (hb2.mono hB.size))
          | (go_at_call 22; (with_reducible refine (merge_c a1 c1 v1 a1 c1 v1 _ X3 e3 OKS OKS (by omega) (by omega) (HX3.out)).mono ?_); rintro e w3 ⟨p3, q3, r3, rfl, OKR3, hv3, hl3, hb3⟩; have HV3 := Lib.hid hv3; clear hv3; replace OKS := OKS.below hb3; replace OKT := OKT.below hb3; replace OKU := OKU.below hb3; replace OKR1 := OKR1.below hb3; replace OKR2 := OKR2.below hb3; replace hB := hB.trans (hb3.mono hB.size))
          | (go_at_call 24; (with_reducible refine (same_c p1 q1 r1 p2 q2 r2 _ OKR1 OKR2 (by rw [HV1.out, HV2.out])).mono ?_); rintro e w4 ⟨rfl, hb4⟩; replace OKS := OKS.below hb4; replace OKT := OKT.below hb4; replace OKU := OKU.below hb4; replace OKR1 := OKR1.below hb4; replace OKR2 := OKR2.below hb4; replace OKR3 := OKR3.below hb4; replace hB := hB.trans (hb4.mono hB.size))
          | (go_at_call 22; (with_reducible refine (merge_c a2 c2 v2 a3 c3 v3 _ X4 e4 OKT OKU (by omega) (by omega) (HX4.out)).mono ?_); rintro e w5 ⟨p4, q4, r4, rfl, OKR4, hv4, hl4, hb5⟩; have HV4 := Lib.hid hv4; clear hv4; replace OKS := OKS.below hb5; replace OKT := OKT.below hb5; replace OKU := OKU.below hb5; replace OKR1 := OKR1.below hb5; replace OKR2 := OKR2.below hb5; replace OKR3 := OKR3.below hb5; replace hB := hB.trans (hb5.mono hB.size))
          | (go_at_call 12; (with_reducible refine (awake_any _).mono ?_); rintro e w6 ⟨rfl, hb6⟩; replace OKS := OKS.below hb6; replace OKT := OKT.below hb6; replace OKU := OKU.below hb6; replace OKR1 := OKR1.below hb6; replace OKR2 := OKR2.below hb6; replace OKR3 := OKR3.below hb6; replace OKR4 := OKR4.below hb6; replace hB := hB.trans (hb6.mono hB.size)))
        go_ret
        exact ⟨by simp, hB⟩
    · have m4 : (e1 != 0) = true := by simpa using k4
      clear k4
      go_enter Tryz.func6, Tryz.ntmps6
      go_wp2_with (first
        | (go_at_call 22; (with_reducible refine (merge_c a1 c1 v1 a2 c2 v2 _ X1 e1 OKS OKT (by omega) (by omega) (HX1.out)).mono ?_); rintro e w1 ⟨p1, q1, r1, rfl, OKR1, hv1, hl1, hb1⟩; have HV1 := Lib.hid hv1; clear hv1; replace OKS := OKS.below hb1; replace OKT := OKT.below hb1; replace OKU := OKU.below hb1; replace hB := hB.trans (hb1.mono hB.size))
        | (go_at_call 22; (with_reducible refine (merge_c a2 c2 v2 a1 c1 v1 _ X1 e1 OKT OKS (by omega) (by omega) (HX2.out)).mono ?_); rintro e w2 ⟨p2, q2, r2, rfl, OKR2, hv2, hl2, hb2⟩; have HV2 := Lib.hid hv2; clear hv2; replace OKS := OKS.below hb2; replace OKT := OKT.below hb2; replace OKU := OKU.below hb2; replace OKR1 := OKR1.below hb2; replace hB := hB.trans (hb2.mono hB.size))
        | (go_at_call 22; (with_reducible refine (merge_c a1 c1 v1 a1 c1 v1 _ X3 e3 OKS OKS (by omega) (by omega) (HX3.out)).mono ?_); rintro e w3 ⟨p3, q3, r3, rfl, OKR3, hv3, hl3, hb3⟩; have HV3 := Lib.hid hv3; clear hv3; replace OKS := OKS.below hb3; replace OKT := OKT.below hb3; replace OKU := OKU.below hb3; replace OKR1 := OKR1.below hb3; replace OKR2 := OKR2.below hb3; replace hB := hB.trans (hb3.mono hB.size))
        | (go_at_call 24; (with_reducible refine (same_c p1 q1 r1 p2 q2 r2 _ OKR1 OKR2 (by rw [HV1.out, HV2.out])).mono ?_); rintro e w4 ⟨rfl, hb4⟩; replace OKS := OKS.below hb4; replace OKT := OKT.below hb4; replace OKU := OKU.below hb4; replace OKR1 := OKR1.below hb4; replace OKR2 := OKR2.below hb4; replace OKR3 := OKR3.below hb4; replace hB := hB.trans (hb4.mono hB.size))
        | (go_at_call 22; (with_reducible refine (merge_c a2 c2 v2 a3 c3 v3 _ X4 e4 OKT OKU (by omega) (by omega) (HX4.out)).mono ?_); rintro e w5 ⟨p4, q4, r4, rfl, OKR4, hv4, hl4, hb5⟩; have HV4 := Lib.hid hv4; clear hv4; replace OKS := OKS.below hb5; replace OKT := OKT.below hb5; replace OKU := OKU.below hb5; replace OKR1 := OKR1.below hb5; replace OKR2 := OKR2.below hb5; replace OKR3 := OKR3.below hb5; replace hB := hB.trans (hb5.mono hB.size))
        | (go_at_call 12; (with_reducible refine (awake_any _).mono ?_); rintro e w6 ⟨rfl, hb6⟩; replace OKS := OKS.below hb6; replace OKT := OKT.below hb6; replace OKU := OKU.below hb6; replace OKR1 := OKR1.below hb6; replace OKR2 := OKR2.below hb6; replace OKR3 := OKR3.below hb6; replace OKR4 := OKR4.below hb6; replace hB := hB.trans (hb6.mono hB.size)))
      go_ret
      exact ⟨by simp, hB⟩

theorem union_any (s t u : Sl Note) (w : World) (hs : NOK w s) (ht : NOK w t) (hu : NOK w u) :
    Calls Tryz.prog 6 #[.slice s.a s.val.length s.cap, .slice t.a t.val.length t.cap, .slice u.a u.val.length u.cap] w fun e w' => e = .returned (.bool true) ∧ Below w.heap.size w w' := by
  obtain ⟨a1, c1, v1⟩ := s
  obtain ⟨a2, c2, v2⟩ := t
  obtain ⟨a3, c3, v3⟩ := u
  by_cases h : v1.length ≤ 150 ∧ v2.length ≤ 150 ∧ v3.length ≤ 150
  · exact union_short a1 a2 a3 c1 c2 c3 v1 v2 v3 w hs ht hu h.1 h.2.1 h.2.2
  · exact union_long a1 a2 a3 v1.length c1 v2.length c2 v3.length c3 w (by omega)
end Go.Proofs.YtendmmhfjhgdaaaGreat
