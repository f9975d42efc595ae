/-
  A disk loses power: walked, in the program and in the reference.
-/
import Derived.Test.YtnmgfnpphglphaaGreatDiskW
set_option maxHeartbeats 16000000
set_option maxRecDepth 100000
set_option linter.unusedVariables false
set_option linter.unusedSimpArgs false
namespace Go.Proofs.YtnmgfnpphglphaaGreat
open Go.RowKit
theorem crash_prog_bad {B b : Nat} {w : World} {vd vl : Value} {D L : List UInt8} (h : DiskAt 61 B w b vd vl D L) (hlen : D.length + L.length ≤ 1000000) (keep flip : Int) (hk : I64 keep) (hf : I64 flip) (hbad : badCrash L keep flip = true) :
  Calls Tryz.prog 14 #[.pointer (some ⟨b, 0, none⟩), .int .i64 keep, .int .i64 flip] w fun e w' => e = .returned (.int .i64 1) ∧ w = w' := by
 obtain ⟨ad, cd, rfl, hod⟩ := h.dur.sl' (by omega)
 obtain ⟨al, cl, rfl, hol⟩ := h.pen.sl' (by omega)
 obtain ⟨nD, hnD⟩ : ∃ n, D.length = n := ⟨_, rfl⟩
 obtain ⟨nL, hnL⟩ : ∃ n, L.length = n := ⟨_, rfl⟩
 have hc1 : w.cell? ⟨b, 1, none⟩ = some (.slice al nL cl) := (h.box.cell 1).trans (by rw [← hnL]; rfl)
 unfold badCrash at hbad
 rw [hnL] at hbad
 rw [hnD, hnL] at hlen
 have hbad := of_decide_eq_true hbad
 clear h hod hol hnD hnL
 by_cases hkk : 0 ≤ keep ∧ keep ≤ nL
 ·have h1 : inB keep 0 nL = true := by simp [inB]; omega
  have h2 : inB flip (-1) (8 * keep - 1) = false := by simp [inB]; omega
  have k1 : IntKind.i64.wrap (8 * keep) = 8 * keep := IntWalk.i64_in _ (by omega)
  have k2 : IntKind.i64.wrap (8 * keep - 1) = 8 * keep - 1 := IntWalk.i64_in _ (by omega)
  obtain ⟨h3, h4⟩ := hkk
  clear hk hf hbad
  go_enter Tryz.func14, Tryz.ntmps14
  go_wp2_with (go_at_call 39; (with_reducible refine (within_any _ _ _ _).mono ?_); rintro e w1 ⟨rfl, rfl⟩)
  go_ret
  exact ⟨rfl, rfl⟩
 ·have h1 : inB keep 0 nL = false := by simp [inB]; omega
  clear hk hf hbad hkk
  go_enter Tryz.func14, Tryz.ntmps14
  go_wp2_with (go_at_call 39; (with_reducible refine (within_any _ _ _ _).mono ?_); rintro e w1 ⟨rfl, rfl⟩)
  go_ret
  exact ⟨rfl, rfl⟩
theorem crash_ref_bad {B b : Nat} {w : World} {vd vl : Value} {D L : List UInt8} (h : DiskAt 107 B w b vd vl D L) (hlen : D.length + L.length ≤ 1000000) (keep flip : Int) (hk : I64 keep) (hf : I64 flip) (hbad : badCrash L keep flip = true) :
  Calls Tryz.prog 15 #[.pointer (some ⟨b, 0, none⟩), .int .i64 keep, .int .i64 flip] w fun e w' => e = .returned (.int .i64 1) ∧ w = w' := by
 obtain ⟨ad, cd, rfl, hod⟩ := h.dur.sl' (by omega)
 obtain ⟨al, cl, rfl, hol⟩ := h.pen.sl' (by omega)
 obtain ⟨nD, hnD⟩ : ∃ n, D.length = n := ⟨_, rfl⟩
 obtain ⟨nL, hnL⟩ : ∃ n, L.length = n := ⟨_, rfl⟩
 have hc1 : w.cell? ⟨b, 1, none⟩ = some (.slice al nL cl) := (h.box.cell 1).trans (by rw [← hnL]; rfl)
 unfold badCrash at hbad
 rw [hnL] at hbad
 rw [hnD, hnL] at hlen
 have hbad := of_decide_eq_true hbad
 clear h hod hol hnD hnL
 by_cases h1 : keep < 0
 ·clear hk hf hbad
  go_enter Tryz.func15, Tryz.ntmps15
  go_wp2
  go_ret
  exact ⟨rfl, rfl⟩
 by_cases h2 : (nL : Int) < keep
 ·clear hk hf hbad
  go_enter Tryz.func15, Tryz.ntmps15
  go_wp2
  go_ret
  exact ⟨rfl, rfl⟩
 by_cases h3 : flip < -1
 ·clear hk hf hbad
  go_enter Tryz.func15, Tryz.ntmps15
  go_wp2
  go_ret
  exact ⟨rfl, rfl⟩
 have h4 : 8 * keep ≤ flip := by omega
 have k1 : IntKind.i64.wrap (8 * keep) = 8 * keep := IntWalk.i64_in _ (by omega)
 have h1' : 0 ≤ keep := by omega
 have h2' : keep ≤ nL := by omega
 clear hk hf hbad
 go_enter Tryz.func15, Tryz.ntmps15
 go_wp2
 go_ret
 exact ⟨rfl, rfl⟩
theorem crash_prog_ok {B b : Nat} {w : World} {vd vl : Value} {D L : List UInt8} (h : DiskAt 61 B w b vd vl D L) (hlen : D.length + L.length ≤ 1000000) (keep flip : Int) (hk : I64 keep) (hf : I64 flip) (hbad : badCrash L keep flip = false) :
  Calls Tryz.prog 14 #[.pointer (some ⟨b, 0, none⟩), .int .i64 keep, .int .i64 flip] w fun e w' => e = .returned (.int .i64 0) ∧ ∃ vd', DiskAt 61 B w' b vd' (.slice none 0 0) (D ++ flipAt (L.take keep.toNat) flip) [] ∧ Moved b vd vl w w' vd' (.slice none 0 0) := by
 obtain ⟨ad, cd, rfl, hod⟩ := h.dur.sl' (by omega)
 obtain ⟨al, cl, rfl, hol⟩ := h.pen.sl' (by omega)
 obtain ⟨nD, hnD⟩ : ∃ n, D.length = n := ⟨_, rfl⟩
 obtain ⟨nL, hnL⟩ : ∃ n, L.length = n := ⟨_, rfl⟩
 have hc1 : w.cell? ⟨b, 1, none⟩ = some (.slice al nL cl) := (h.box.cell 1).trans (by rw [← hnL]; rfl)
 unfold badCrash at hbad
 rw [hnL] at hbad
 rw [hnD, hnL] at hlen
 have hbad := of_decide_eq_false hbad
 obtain ⟨k, rfl⟩ : ∃ k : Nat, keep = k := ⟨keep.toNat, by omega⟩
 rw [Int.toNat_natCast]
 have hkL : k ≤ nL := by omega
 have hfk : flip < 8 * k := by omega
 have hf1 : -1 ≤ flip := by omega
 have hcap := hol.le
 simp only [hnL] at hcap
 have H := Lib.hid h
 have HE := Lib.hid hod
 have HO := Lib.hid hol
 have HD := Lib.hid hnD
 have HL := Lib.hid hnL
 have H2 : Hid (DiskAt 61 B w b (.slice ad nD cd) (.slice al nL cl) D L) := Lib.hid (by rw [← HD.out, ← HL.out]; exact H.out)
 have HTL : Hid ((L.take k).length = k) := Lib.hid (by rw [List.length_take, hnL]; omega)
 rw [hnD, hnL]
 have h1 : inB k 0 nL = true := by simp [inB]; omega
 have h2 : inB flip (-1) (8 * k - 1) = true := by simp [inB]; omega
 have k1 : IntKind.i64.wrap (8 * k) = 8 * k := IntWalk.i64_in _ (by omega)
 have k2 : IntKind.i64.wrap (8 * (k : Int) - 1) = 8 * k - 1 := IntWalk.i64_in _ (by omega)
 by_cases hneg : flip < 0
 ·have hfl : flipAt (L.take k) flip = L.take k := if_pos hneg
  have HFL := Lib.hid hfl
  clear h hod hol hnD hnL hbad hk hf hfk hf1 hfl
  go_enter Tryz.func14, Tryz.ntmps14
  go_wp2_with (first
  | (go_at_call 39; (with_reducible refine (within_any _ _ _ _).mono ?_); rintro e w1 ⟨rfl, rfl⟩)
  | ((with_reducible refine at_dst 33 ?_); refine wpList_slice rfl _ _ _ _ _ rfl (.slice al nL cl) (.slice al k cl) rfl (run_tkB _ al nL cl k hkL hcap) ?_)
  | ((with_reducible refine at_store ?_); refine wpList_store_box H2.out.box rfl _ _ _ rfl rfl (.slice al k cl) rfl (by kernel_rfl) rfl (one_slB _ _ _) ?_; intro w2 hb2 hT2; have H3 := Lib.hid (H2.out.set (vd' := .slice ad nD cd) (vl' := .slice al k cl) (hb2.eqv (by simp [splice, Value.cells])) hT2 H2.out.dur (OwnB.take H2.out.pen (k := k) (by rw [HL.out]; exact hkL)) (.inl rfl) (.inl (by cases al <;> rfl))); clear hb2 hT2)
  | (go_at_call 12; refine (sync_prog H3.out.1 (by rw [HTL.out, HD.out]; omega)).mono ?_; rintro e w5 ⟨rfl, vd5, h5, m5⟩))
  go_ret
  rw [HFL.out]
  exact ⟨rfl, _, h5, H3.out.2.trans m5⟩
 ·have hp0 : 0 ≤ flip := by omega
  have hb0 : 0 < L.length := by omega
  obtain ⟨g, c', cur0, hv, -, -, -, -⟩ := own_byte H2.out.pen hb0
  injection hv with ea eb ec; clear eb
  subst ea ec
  obtain ⟨p, hp⟩ : ∃ p, flip.toNat / 8 = p := ⟨_, rfl⟩
  obtain ⟨j, hj⟩ : ∃ j, flip.toNat % 8 = j := ⟨_, rfl⟩
  have hpk : p < k := by omega
  have hj8 : j < 8 := by omega
  have hq1 : flip.tdiv 8 = (p : Int) := by rw [tdiv_8 hp0, hp]
  have hm1 : flip.tmod 8 = (j : Int) := by rw [tmod_8 hp0, hj]
  have hq2 : IntKind.i64.wrap (p : Int) = (p : Int) := IntWalk.i64_in _ (by omega)
  have hm2 : IntKind.i64.wrap (j : Int) = (j : Int) := IntWalk.i64_in _ (by omega)
  obtain ⟨x, hx⟩ : ∃ x, (L.take k)[p]? = some x := ⟨_, List.getElem?_eq_getElem (by rw [HTL.out]; exact hpk)⟩
  have HX := Lib.hid hx
  have hfl : flipAt (L.take k) flip = (L.take k).modify p (flipB j) := by unfold flipAt; rw [if_neg hneg, hp, hj]
  have HFL := Lib.hid hfl
  have hfx := flip_wrap x j hj8
  have HFX := Lib.hid hfx
  have hneg' : decide (0 ≤ flip) = true := decide_eq_true hp0
  clear h hod hol hnD hnL hbad hk hf hfk hf1 hfl hx hfx hp hj hneg hb0
  go_enter Tryz.func14, Tryz.ntmps14
  go_wp2_with (first
  | (go_at_call 39; (with_reducible refine (within_any _ _ _ _).mono ?_); rintro e w1 ⟨rfl, rfl⟩)
  | ((with_reducible refine at_dst 33 ?_); refine wpList_slice rfl _ _ _ _ _ rfl (.slice (some ⟨g, 0, none⟩) nL cl) (.slice (some ⟨g, 0, none⟩) k cl) rfl (run_tkB _ (some ⟨g, 0, none⟩) nL cl k hkL hcap) ?_)
  | ((with_reducible refine at_store ?_); refine wpList_store_box H2.out.box rfl _ _ _ rfl rfl (.slice (some ⟨g, 0, none⟩) k cl) rfl (by kernel_rfl) rfl (one_slB _ _ _) ?_; intro w2 hb2 hT2; have H3 := Lib.hid (H2.out.set (vd' := .slice ad nD cd) (vl' := .slice (some ⟨g, 0, none⟩) k cl) (hb2.eqv (by simp [splice, Value.cells])) hT2 H2.out.dur (OwnB.take H2.out.pen (k := k) (by rw [HL.out]; exact hkL)) (.inl rfl) (.inl rfl)); clear hb2 hT2))
  have hdn : Below w2.heap.size w2 w2.drew := ⟨rfl, rfl, rfl, Nat.le_refl _, fun _ _ => rfl⟩
  have H4 := Lib.hid (H3.out.1.belowAll hdn)
  obtain ⟨g', cap', cur, hv', hbx, hcz, -, hstore⟩ := own_byte H4.out.pen (by rw [HTL.out]; omega)
  simp only [Value.slice.injEq, Option.some.injEq, Addr.mk.injEq, and_true] at hv'
  obtain ⟨rfl, -, -⟩ := hv'
  have hgl := hbx.lt
  have hcx : w2.drew.cell? ⟨g, p, none⟩ = some (.int .u8 x.toNat) := by
   have h := (H4.out.pen.slOf (fun _ => rfl) okByte (fun _ => False) (fun _ _ => trivial) (fun _ _ h => h) (by rw [HTL.out]; omega)).cell g 0 rfl p x HX.out 0 (by decide)
   simpa [encByte] using h
  have hfit : p + 1 ≤ cur.size := by rw [HTL.out] at hcz; omega
  have HST := Lib.hid hstore
  clear hstore
  refine wp_region_mark 13 [(0, none), (1, none), (2, none), (4, none), (5, none), (8, none), (9, none), (10, none), (3, some true), (6, none), (7, some true), (11, none), (12, none), (13, some false)] rfl (by kernel_rfl) (by kernel_rfl) (fun d _ _ _ _ h => by cases d <;> exact h) ?_
  iterate 8 (refine wpC_pure rfl rfl (fun W => by go_simp; with_reducible rfl) ?_; simp only [pTs, pTn, pTz, pTc])
  refine wpC_fix (v := .slice (some ⟨g, 0, none⟩) k cl) rfl rfl (fun W hW => by have e : W.cell? ⟨b, 1, none⟩ = some (.slice (some ⟨g, 0, none⟩) k cl) := ((H4.out.box.belowAll hW).cell 1).trans rfl; go_simp) ?_; simp only [pTs, pTn, pTz, pTc]
  refine wpC_pure rfl rfl (fun W => by go_simp; with_reducible rfl) ?_; simp only [pTs, pTn, pTz, pTc]
  refine wpC_fix (v := .int .u8 x.toNat) rfl rfl (fun W hW => by have e := (hW.cell (p := ⟨g, p, none⟩) hgl).trans hcx; go_simp) ?_; simp only [pTs, pTn, pTz, pTc]
  iterate 2 (refine wpC_pure rfl rfl (fun W => by go_simp; with_reducible rfl) ?_; simp only [pTs, pTn, pTz, pTc])
  refine wpC_mark rfl rfl (fun K hK => ?_)
  refine wp_store_box hbx _ _ _ rfl rfl (.int .u8 ((flipB j x).toNat : Int)) (congrArg (Value.int .u8) HFX.out) (by kernel_rfl) (Nat.ble_eq_true_of_le hfit) (by simp [Value.cells, Value.oneCell']) ?_
  intro wS hbS hTS
  refine hK _ _ ?_
  clear hK K
  try simp only [pTs, pTn, pTz, pTc]
  simp only [wpC]
  have hJM : (L.take k).set p (flipB j x) = (L.take k).modify p (flipB j) := (modify_set (flipB j) HX.out).symm
  have H5 := Lib.hid (H4.out.setL (g := g) rfl hTS (L' := (L.take k).modify p (flipB j)) (by have h := HST.out wS p (flipB j x) (by rw [HTL.out]; exact hpk) hbS; rw [hJM] at h; exact h))
  clear hJM hTS hbS
  go_wp2_with (go_at_call 12; refine (sync_prog H5.out.1 (by rw [List.length_modify, HTL.out, HD.out]; omega)).mono ?_; rintro e w5 ⟨rfl, vd5, h5, m5⟩)
  go_ret
  rw [HFL.out]
  exact ⟨rfl, _, h5, ((H3.out.2.trans (Moved.of_below hdn)).trans H5.out.2).trans m5⟩
theorem OwnB.sl3 {w : World} {B k : Nat} {v : Value} {l : List UInt8} (h : OwnB w B v l) (hl : l.length = k) (hk : k ≤ 4294967296) : ∃ a c, v = .slice a k c ∧ Sl.OK 1 encByte okByte (fun _ => False) w ⟨a, c, l⟩ := by
 subst hl
 exact h.sl' hk
theorem at_storeK (k : Nat) {P : Program} {ops : Array Oper} {rest : List Oper} {tt : TypeId} {y : Operand} {ty : TypeId} {pos : String} {af : Array Edge} {g : Option (Nat × Bool)} {a : Act} {w : World} {Q : Exit → Act → World → Prop}
  (h : wpList P ops Q (⟨none, .store tt (.tmp k) y, ty, pos, af, g⟩ :: rest) a w) : wpList P ops Q (⟨none, .store tt (.tmp k) y, ty, pos, af, g⟩ :: rest) a w := h
theorem crash_ref_ok {B b : Nat} {w : World} {vd vl : Value} {D L : List UInt8} (h : DiskAt 107 B w b vd vl D L) (hlen : D.length + L.length ≤ 1000000) (keep flip : Int) (hk : I64 keep) (hf : I64 flip) (hbad : badCrash L keep flip = false) :
  Calls Tryz.prog 15 #[.pointer (some ⟨b, 0, none⟩), .int .i64 keep, .int .i64 flip] w fun e w' => e = .returned (.int .i64 0) ∧ ∃ vd', DiskAt 107 B w' b vd' (.slice none 0 0) (D ++ flipAt (L.take keep.toNat) flip) [] ∧ Moved b vd vl w w' vd' (.slice none 0 0) := by
 obtain ⟨ad, cd, rfl, hod⟩ := h.dur.sl' (by omega)
 obtain ⟨al, cl, rfl, hol⟩ := h.pen.sl' (by omega)
 obtain ⟨nD, hnD⟩ : ∃ n, D.length = n := ⟨_, rfl⟩
 obtain ⟨nL, hnL⟩ : ∃ n, L.length = n := ⟨_, rfl⟩
 have hc1 : w.cell? ⟨b, 1, none⟩ = some (.slice al nL cl) := (h.box.cell 1).trans (by rw [← hnL]; rfl)
 unfold badCrash at hbad
 rw [hnL] at hbad
 rw [hnD, hnL] at hlen
 have hbad := of_decide_eq_false hbad
 obtain ⟨k, rfl⟩ : ∃ k : Nat, keep = k := ⟨keep.toNat, by omega⟩
 rw [Int.toNat_natCast]
 have hkL : k ≤ nL := by omega
 have hfk : flip < 8 * k := by omega
 have hf1 : -1 ≤ flip := by omega
 have hcap := hol.le
 simp only [hnL] at hcap
 have H := Lib.hid h
 have HE := Lib.hid hod
 have HO := Lib.hid hol
 have HD := Lib.hid hnD
 have HL := Lib.hid hnL
 have H2 : Hid (DiskAt 107 B w b (.slice ad nD cd) (.slice al nL cl) D L) := Lib.hid (by rw [← HD.out, ← HL.out]; exact H.out)
 have HTL : Hid ((L.take k).length = k) := Lib.hid (by rw [List.length_take, hnL]; omega)
 rw [hnD, hnL]
 have hbl := H.out.box.lt
 have hba : Below w.heap.size w (w.alloc (.cells #[] 5)) := (Below.refl _ _).alloc (Nat.le_refl _) _
 have hcl0 : (w.alloc (.cells #[] 5)).cell? ⟨b, 1, none⟩ = some (.slice al nL cl) := ((H2.out.box.alloc _).cell 1).trans rfl
 have HTO : Hid (Sl.OK 1 encByte okByte (fun _ => False) (w.alloc (.cells #[] 5)) ⟨al, cl, L.take k⟩) := Lib.hid ((okB HO.out hba).tk k)
 have g1 : ¬ (k : Int) < 0 := by omega
 have g2 : ¬ (nL : Int) < k := by omega
 have g3 : ¬ flip < -1 := by omega
 have g4 : ¬ 8 * (k : Int) ≤ flip := by omega
 have k1 : IntKind.i64.wrap (8 * k) = 8 * k := IntWalk.i64_in _ (by omega)
 by_cases hneg : flip < 0
 ·have hfl : flipAt (L.take k) flip = L.take k := if_pos hneg
  have HFL := Lib.hid hfl
  have HKL := HTL
  clear h hod hol hnD hnL hbad hk hf hfk hf1 hfl
  go_enter Tryz.func15, Tryz.ntmps15
  go_wp2_with (first
  | ((with_reducible refine at_dst 39 ?_); refine wpList_slice rfl _ _ _ _ _ rfl (.slice al nL cl) (.slice al k cl) rfl (run_tkB _ al nL cl k hkL hcap) ?_)
  | ((with_reducible refine at_dst 40 ?_); refine wpList_append_slAt rfl _ _ 30 rfl w.heap.size einfo_Byte (fun _ => rfl) (by decide) encByte_one (by decide) _ [] rfl (lit_bytes (W := w) (Nat.le_refl _)) ⟨al, cl, L.take k⟩ (by show _ = Value.slice _ _ _; rw [HTL.out]; rfl) HTO.out (by simp only [HTL.out, List.length_nil]; omega) (by simp) ?_; intro v1 w1 ho1 hg1 hat1; rw [List.nil_append] at ho1; have HB := Lib.hid (hba.trans (Below.appended (lit_bytes (W := w) (Nat.le_refl _)) hg1 (Nat.le_refl _) (by simp))); have HK : Hid (OwnB w1 w.heap.size v1 (L.take k)) := Lib.hid ho1; obtain ⟨a1, c1, rfl, hko⟩ := OwnB.sl3 (l := L.take k) ho1 HTL.out (by omega); have HKO := Lib.hid hko; clear ho1 hg1 hat1 hko; have hcl : (w1.alloc (.cells #[] 5)).cell? ⟨b, 0, none⟩ = some (.slice ad nD cd) := (((H2.out.box.below HB.out H2.out.box.lt).alloc _).cell 0).trans rfl; have hbt : Below w1.heap.size w1 (w1.alloc (.cells #[] 5)) := (Below.refl _ _).alloc (Nat.le_refl _) _)
  | ((with_reducible refine at_dst 62 ?_); refine wpList_append_slAt rfl _ _ 30 rfl w1.heap.size einfo_Byte (fun _ => rfl) (by decide) encByte_one (by decide) _ [] rfl (lit_bytes (W := w1) (Nat.le_refl _)) ⟨ad, cd, D⟩ (by show _ = Value.slice _ _ _; rw [HD.out]; rfl) (okB HE.out (HB.out.trans (hbt.mono HB.out.size))) (by simp only [HD.out, List.length_nil]; omega) (by simp) ?_; intro v5 w5 ho5 hg5 hat5; rw [List.nil_append] at ho5; have hB5 := Lib.hid (hbt.trans (Below.appended (lit_bytes (W := w1) (Nat.le_refl _)) hg5 (Nat.le_refl _) (by simp))); have HO5 := Lib.hid ho5; clear ho5 hg5 hat5)
  | ((with_reducible refine at_dst 64 ?_); refine wpList_append_slAt rfl _ _ 30 rfl w1.heap.size einfo_Byte (fun _ => rfl) (by decide) encByte_one (by decide) v5 D rfl HO5.out ⟨a1, c1, L.take k⟩ (by show _ = Value.slice _ _ _; rw [HKL.out]; rfl) (okB HKO.out hB5.out) (by simp only [HD.out, HKL.out]; omega) hB5.out.size ?_; intro v6 w6 ho6 hg6 hat6; obtain ⟨a6, n6, c6, rfl⟩ := OwnB.any ho6; have hB6 := Lib.hid (HB.out.trans ((hB5.out.trans (Below.appended HO5.out hg6 (Nat.le_refl _) hB5.out.size)).mono HB.out.size)); have HO6 := Lib.hid (ho6.base_le HB.out.size); have hbx := H2.out.box.below hB6.out H2.out.box.lt; clear ho6 hg6 hat6)
  | ((with_reducible refine at_storeK 66 ?_); refine wpList_store_box hbx rfl _ _ _ rfl rfl (.slice a6 n6 c6) rfl (by kernel_rfl) rfl (one_slB _ _ _) ?_; intro w7 hb7 hT7; have H7 := Lib.hid (H2.out.freshD hB6.out HO6.out (hb7.eqv (by simp [splice, Value.cells])) hT7); clear hb7 hT7)
  | ((with_reducible refine at_storeK 69 ?_); refine wpList_store_box H7.out.1.box rfl _ _ _ rfl rfl (.slice none 0 0) rfl (by kernel_rfl) rfl (one_slB _ _ _) ?_; intro w8 hb8 hT8))
  go_ret
  have h8 := H7.out.1.set (hb8.eqv (by simp [splice, Value.cells])) hT8 H7.out.1.dur (OwnL.nil _ _ _ _ _) (.inl rfl) (.inr rfl)
  rw [HFL.out]
  exact ⟨rfl, _, h8.1, H7.out.2.trans h8.2⟩
 ·have hp0 : 0 ≤ flip := by omega
  have hneg' : decide (0 ≤ flip) = true := decide_eq_true hp0
  obtain ⟨p, hp⟩ : ∃ p, flip.toNat / 8 = p := ⟨_, rfl⟩
  obtain ⟨j, hj⟩ : ∃ j, flip.toNat % 8 = j := ⟨_, rfl⟩
  have hpk : p < k := by omega
  have hj8 : j < 8 := by omega
  have hq1 : flip.tdiv 8 = (p : Int) := by rw [tdiv_8 hp0, hp]
  have hm1 : flip.tmod 8 = (j : Int) := by rw [tmod_8 hp0, hj]
  have hq2 : IntKind.i64.wrap (p : Int) = (p : Int) := IntWalk.i64_in _ (by omega)
  have hm2 : IntKind.i64.wrap (j : Int) = (j : Int) := IntWalk.i64_in _ (by omega)
  obtain ⟨x, hx⟩ : ∃ x, (L.take k)[p]? = some x := ⟨_, List.getElem?_eq_getElem (by rw [HTL.out]; exact hpk)⟩
  have HX := Lib.hid hx
  have hfl : flipAt (L.take k) flip = (L.take k).modify p (flipB j) := by unfold flipAt; rw [if_neg hneg, hp, hj]
  have HFL := Lib.hid hfl
  have HKL : Hid (((L.take k).modify p (flipB j)).length = k) := Lib.hid (by rw [List.length_modify]; exact HTL.out)
  have hfx := flip_wrap x j hj8
  have HFX := Lib.hid hfx
  clear h hod hol hnD hnL hbad hk hf hfk hf1 hfl hx hfx hp hj hneg
  go_enter Tryz.func15, Tryz.ntmps15
  go_wp2_with (first
  | ((with_reducible refine at_dst 39 ?_); refine wpList_slice rfl _ _ _ _ _ rfl (.slice al nL cl) (.slice al k cl) rfl (run_tkB _ al nL cl k hkL hcap) ?_)
  | ((with_reducible refine at_dst 40 ?_); refine wpList_append_slAt rfl _ _ 30 rfl w.heap.size einfo_Byte (fun _ => rfl) (by decide) encByte_one (by decide) _ [] rfl (lit_bytes (W := w) (Nat.le_refl _)) ⟨al, cl, L.take k⟩ (by show _ = Value.slice _ _ _; rw [HTL.out]; rfl) HTO.out (by simp only [HTL.out, List.length_nil]; omega) (by simp) ?_; intro v1 w1 ho1 hg1 hat1; rw [List.nil_append] at ho1; have HB := Lib.hid (hba.trans (Below.appended (lit_bytes (W := w) (Nat.le_refl _)) hg1 (Nat.le_refl _) (by simp))); have HK : Hid (OwnB w1 w.heap.size v1 (L.take k)) := Lib.hid ho1; obtain ⟨a1, c1, rfl, hko⟩ := OwnB.sl3 (l := L.take k) ho1 HTL.out (by omega); have HKO := Lib.hid hko; clear ho1 hg1 hat1 hko))
  have hdn : Below w1.heap.size w1 w1.drew := ⟨rfl, rfl, rfl, Nat.le_refl _, fun _ _ => rfl⟩
  have HKD := Lib.hid (HK.out.belowAll hdn)
  obtain ⟨g, cap', cur, hv', hbx, hcz, hbg, hstore⟩ := own_byte HKD.out (by rw [HTL.out]; omega)
  simp only [Value.slice.injEq] at hv'
  obtain ⟨rfl, -, -⟩ := hv'
  have hgl := hbx.lt
  have hcx : w1.drew.cell? ⟨g, p, none⟩ = some (.int .u8 x.toNat) := by
   have h := (HKD.out.slOf (fun _ => rfl) okByte (fun _ => False) (fun _ _ => trivial) (fun _ _ h => h) (by rw [HTL.out]; omega)).cell g 0 rfl p x HX.out 0 (by decide)
   simpa [encByte] using h
  have hfit : p + 1 ≤ cur.size := by rw [HTL.out] at hcz; omega
  have HST := Lib.hid hstore
  clear hstore
  refine wp_region_mark 13 [(0, none), (1, none), (2, none), (3, none), (4, none), (5, none), (6, none), (8, none), (9, none), (10, none), (7, some true), (11, none), (12, none), (13, some false)] rfl (by kernel_rfl) (by kernel_rfl) (fun d _ _ _ _ h => by cases d <;> exact h) ?_
  iterate 10 (refine wpC_pure rfl rfl (fun W => by go_simp; with_reducible rfl) ?_; simp only [pTs, pTn, pTz, pTc])
  refine wpC_fix (v := .int .u8 x.toNat) rfl rfl (fun W hW => by have e := (hW.cell (p := ⟨g, p, none⟩) hgl).trans hcx; go_simp) ?_; simp only [pTs, pTn, pTz, pTc]
  iterate 2 (refine wpC_pure rfl rfl (fun W => by go_simp; with_reducible rfl) ?_; simp only [pTs, pTn, pTz, pTc])
  refine wpC_mark rfl rfl (fun K hK => ?_)
  refine wp_store_box hbx _ _ _ rfl rfl (.int .u8 ((flipB j x).toNat : Int)) (congrArg (Value.int .u8) HFX.out) (by kernel_rfl) (Nat.ble_eq_true_of_le hfit) (by simp [Value.cells, Value.oneCell']) ?_
  intro wS hbS hTS
  refine hK _ _ ?_
  clear hK K
  try simp only [pTs, pTn, pTz, pTc]
  simp only [wpC]
  have hJM : (L.take k).set p (flipB j x) = (L.take k).modify p (flipB j) := (modify_set (flipB j) HX.out).symm
  have HKS : Hid (OwnB wS w.heap.size (.slice (some ⟨g, 0, none⟩) k c1) ((L.take k).modify p (flipB j))) := Lib.hid (by have h := HST.out wS p (flipB j x) (by rw [HTL.out]; exact hpk) hbS; rw [hJM] at h; exact h)
  obtain ⟨aS, cS, heS, hkoS⟩ := OwnB.sl3 HKS.out HKL.out (by omega)
  simp only [Value.slice.injEq] at heS
  obtain ⟨rfl, -, rfl⟩ := heS
  have HKOS := Lib.hid hkoS
  have HBS : Hid (Below w.heap.size w wS) := Lib.hid ((HB.out.trans (hdn.mono HB.out.size)).trans (hTS.below hbg))
  have hcl : (wS.alloc (.cells #[] 5)).cell? ⟨b, 0, none⟩ = some (.slice ad nD cd) := (((H2.out.box.below HBS.out H2.out.box.lt).alloc _).cell 0).trans rfl
  have hbt : Below wS.heap.size wS (wS.alloc (.cells #[] 5)) := (Below.refl _ _).alloc (Nat.le_refl _) _
  clear hJM hTS hbS hkoS hcx hgl hfit hcz hbg hbx
  go_wp2_with (first
  | ((with_reducible refine at_dst 62 ?_); refine wpList_append_slAt rfl _ _ 30 rfl wS.heap.size einfo_Byte (fun _ => rfl) (by decide) encByte_one (by decide) _ [] rfl (lit_bytes (W := wS) (Nat.le_refl _)) ⟨ad, cd, D⟩ (by show _ = Value.slice _ _ _; rw [HD.out]; rfl) (okB HE.out (HBS.out.trans (hbt.mono HBS.out.size))) (by simp only [HD.out, List.length_nil]; omega) (by simp) ?_; intro v5 w5 ho5 hg5 hat5; rw [List.nil_append] at ho5; have hB5 := Lib.hid (hbt.trans (Below.appended (lit_bytes (W := wS) (Nat.le_refl _)) hg5 (Nat.le_refl _) (by simp))); have HO5 := Lib.hid ho5; clear ho5 hg5 hat5)
  | ((with_reducible refine at_dst 64 ?_); refine wpList_append_slAt rfl _ _ 30 rfl wS.heap.size einfo_Byte (fun _ => rfl) (by decide) encByte_one (by decide) v5 D rfl HO5.out ⟨(some ⟨g, 0, none⟩), c1, (L.take k).modify p (flipB j)⟩ (by show _ = Value.slice _ _ _; rw [HKL.out]; rfl) (okB HKOS.out hB5.out) (by simp only [HD.out, HKL.out]; omega) hB5.out.size ?_; intro v6 w6 ho6 hg6 hat6; obtain ⟨a6, n6, c6, rfl⟩ := OwnB.any ho6; have hB6 := Lib.hid (HBS.out.trans ((hB5.out.trans (Below.appended HO5.out hg6 (Nat.le_refl _) hB5.out.size)).mono HBS.out.size)); have HO6 := Lib.hid (ho6.base_le HBS.out.size); have hbx := H2.out.box.below hB6.out H2.out.box.lt; clear ho6 hg6 hat6)
  | ((with_reducible refine at_storeK 66 ?_); refine wpList_store_box hbx rfl _ _ _ rfl rfl (.slice a6 n6 c6) rfl (by kernel_rfl) rfl (one_slB _ _ _) ?_; intro w7 hb7 hT7; have H7 := Lib.hid (H2.out.freshD hB6.out HO6.out (hb7.eqv (by simp [splice, Value.cells])) hT7); clear hb7 hT7)
  | ((with_reducible refine at_storeK 69 ?_); refine wpList_store_box H7.out.1.box rfl _ _ _ rfl rfl (.slice none 0 0) rfl (by kernel_rfl) rfl (one_slB _ _ _) ?_; intro w8 hb8 hT8))
  go_ret
  have h8 := H7.out.1.set (hb8.eqv (by simp [splice, Value.cells])) hT8 H7.out.1.dur (OwnL.nil _ _ _ _ _) (.inl rfl) (.inr rfl)
  rw [HFL.out]
  exact ⟨rfl, _, h8.1, H7.out.2.trans h8.2⟩
end Go.Proofs.YtnmgfnpphglphaaGreat
