/-
  The program's disk, and the reference's: walked.
-/
import Derived.Test.YtnmgfnpphglphaaGreatDiskP
import Derived.Test.YtnmgfnpphglphaaGreatConcat
set_option maxHeartbeats 16000000
set_option maxRecDepth 100000
set_option linter.unusedVariables false
set_option linter.unusedSimpArgs false
namespace Go.Proofs.YtnmgfnpphglphaaGreat
open Go.RowKit
theorem okB {D : Nat → Prop} {w w' : World} {s : Sl UInt8} (h : Sl.OK 1 encByte okByte D w s) (hb : Below w.heap.size w w') : Sl.OK 1 encByte okByte D w' s := Sl.OK.ext (w := w) (w' := w') (fun _ h => h) h (.of_below hb)
theorem DiskAt.freshL {T : TypeId} {B b : Nat} {w w1 w2 : World} {vd vl vl' : Value} {D L L' : List UInt8} (h : DiskAt T B w b vd vl D L) (hb1 : Below w.heap.size w w1) (ho : OwnB w1 w.heap.size vl' L')
  (hb : BoxAt w2 b T #[vd, vl']) (hT : Turn b w1 w2) : DiskAt T B w2 b vd vl' D L' ∧ Moved b vd vl w w2 vd vl' := by
 have hb0 := h.box.lt
 have hlo : ∀ g, vl'.ownBlock = some g → w.heap.size ≤ g := fun g hg => (ho.block g hg).1
 have hnl : vl'.ownBlock ≠ some b := fun e => by have := hlo b e; omega
 refine ⟨⟨hb, (h.dur.belowAll hb1).turn hT h.nd, (ho.base_le (Nat.le_trans h.low (Nat.le_of_lt hb0))).turn hT hnl, h.nd, hnl, fun g h1 h2 => ?_, h.low⟩, ⟨(hb1.mono (Nat.zero_le _)).trans (hT.below (Nat.zero_le _)), fun k hk hn => ?_, fun k hk => ?_⟩⟩
 ·have := hlo g h2; have := (h.dur.block g h1).2; omega
 ·rw [hT.block k fun e => hn (.inl e), hb1.block k hk]
 ·rcases hk with hk | hk | hk
  ·exact .inl (.inl hk)
  ·exact .inl (.inr (.inl hk))
  ·exact .inr (hlo k hk)
theorem DiskAt.freshD {T : TypeId} {B b : Nat} {w w1 w2 : World} {vd vl vd' : Value} {D L D' : List UInt8} (h : DiskAt T B w b vd vl D L) (hb1 : Below w.heap.size w w1) (ho : OwnB w1 w.heap.size vd' D')
  (hb : BoxAt w2 b T #[vd', vl]) (hT : Turn b w1 w2) : DiskAt T B w2 b vd' vl D' L ∧ Moved b vd vl w w2 vd' vl := by
 have hb0 := h.box.lt
 have hlo : ∀ g, vd'.ownBlock = some g → w.heap.size ≤ g := fun g hg => (ho.block g hg).1
 have hnd : vd'.ownBlock ≠ some b := fun e => by have := hlo b e; omega
 refine ⟨⟨hb, (ho.base_le (Nat.le_trans h.low (Nat.le_of_lt hb0))).turn hT hnd, (h.pen.belowAll hb1).turn hT h.nl, hnd, h.nl, fun g h1 h2 => ?_, h.low⟩, ⟨(hb1.mono (Nat.zero_le _)).trans (hT.below (Nat.zero_le _)), fun k hk hn => ?_, fun k hk => ?_⟩⟩
 ·have := hlo g h1; have := (h.pen.block g h2).2; omega
 ·rw [hT.block k fun e => hn (.inl e), hb1.block k hk]
 ·rcases hk with hk | hk | hk
  ·exact .inl (.inl hk)
  ·exact .inr (hlo k hk)
  ·exact .inl (.inr (.inr hk))
theorem one_slB (a : Option Addr) (n c : Nat) : (Value.slice a n c).cells.all (·.oneCell') = true := by simp [Value.cells, Value.oneCell']
theorem newDisk_prog (w : World) : Calls Tryz.prog 8 #[] w fun e w' => e = .returned (.pointer (some ⟨w.heap.size, 0, none⟩)) ∧ w.alloc (.cells #[.slice none 0 0, .slice none 0 0] 61) = w' := by
 go_enter Tryz.func8, Tryz.ntmps8
 go_wp2
 go_ret
 exact ⟨rfl, rfl⟩
theorem newDisk_ref (w : World) : Calls Tryz.prog 9 #[] w fun e w' => e = .returned (.pointer (some ⟨w.heap.size, 0, none⟩)) ∧ w.alloc (.cells #[.slice none 0 0, .slice none 0 0] 107) = w' := by
 go_enter Tryz.func9, Tryz.ntmps9
 go_wp2
 go_ret
 exact ⟨rfl, rfl⟩
theorem pending_prog {B b : Nat} {w : World} {vd vl : Value} {D L : List UInt8} (h : DiskAt 61 B w b vd vl D L) :
  Calls Tryz.prog 16 #[.pointer (some ⟨b, 0, none⟩)] w fun e w' => e = .returned (.int .i64 L.length) ∧ w = w' := by
 obtain ⟨a, c, rfl⟩ := h.pen.shape
 have hc : w.cell? ⟨b, 1, none⟩ = some (.slice a L.length c) := (h.box.cell 1).trans rfl
 clear h
 go_enter Tryz.func16, Tryz.ntmps16
 go_wp2
 go_ret
 exact ⟨rfl, rfl⟩
theorem pending_ref {B b : Nat} {w : World} {vd vl : Value} {D L : List UInt8} (h : DiskAt 107 B w b vd vl D L) :
  Calls Tryz.prog 17 #[.pointer (some ⟨b, 0, none⟩)] w fun e w' => e = .returned (.int .i64 L.length) ∧ w = w' := by
 obtain ⟨a, c, rfl⟩ := h.pen.shape
 have hc : w.cell? ⟨b, 1, none⟩ = some (.slice a L.length c) := (h.box.cell 1).trans rfl
 clear h
 go_enter Tryz.func17, Tryz.ntmps17
 go_wp2
 go_ret
 exact ⟨rfl, rfl⟩
theorem write_prog {B b : Nat} {w : World} {vd vl : Value} {D L : List UInt8} (h : DiskAt 61 B w b vd vl D L) (x : Sl UInt8) (hx : x.OK 1 encByte okByte (fun _ => False) w) (hlen : D.length + L.length + x.val.length ≤ 4194304) :
  Calls Tryz.prog 10 #[.pointer (some ⟨b, 0, none⟩), .slice x.a x.val.length x.cap] w fun e w' => e = .returned (.int .i64 0) ∧ ∃ vl', DiskAt 61 B w' b vd vl' D (L ++ x.val) ∧ Moved b vd vl w w' vd vl' := by
 obtain ⟨ad, cd, rfl⟩ := h.dur.shape
 obtain ⟨al, cl, rfl, hol⟩ := h.pen.sl' (by omega)
 obtain ⟨nD, hnD⟩ : ∃ n, D.length = n := ⟨_, rfl⟩
 obtain ⟨nL, hnL⟩ : ∃ n, L.length = n := ⟨_, rfl⟩
 obtain ⟨nx, hnx⟩ : ∃ n, x.val.length = n := ⟨_, rfl⟩
 have hc0 : w.cell? ⟨b, 0, none⟩ = some (.slice ad nD cd) := (h.box.cell 0).trans (by rw [← hnD]; rfl)
 have hc1 : w.cell? ⟨b, 1, none⟩ = some (.slice al nL cl) := (h.box.cell 1).trans (by rw [← hnL]; rfl)
 have H := Lib.hid h
 have HX := Lib.hid hx
 have HO := Lib.hid hol
 have HD := Lib.hid hnD
 have HL := Lib.hid hnL
 have HN := Lib.hid hnx
 rw [hnD, hnL, hnx] at hlen
 rw [hnx]
 have k1 : IntKind.i64.wrap ((nD : Int) + nL) = (nD : Int) + nL := IntWalk.i64_in _ (by omega)
 have k2 : IntKind.i64.wrap ((nD : Int) + nL + nx) = (nD : Int) + nL + nx := IntWalk.i64_in _ (by omega)
 have k3 : decide (4194304 < (nD : Int) + nL + nx) = false := decide_eq_false (by omega)
 clear h hx hol hnD hnL hnx
 go_enter Tryz.func10, Tryz.ntmps10
 go_wp2
 go_quiet (fail)
 have hdn : ∀ n, Below w.heap.size w (w.drewN n) := fun n => ⟨rfl, rfl, rfl, Nat.le_refl _, fun _ _ => rfl⟩
 have H2 : Hid (DiskAt 61 B (w.drewN nq) b (.slice ad nD cd) (.slice al nL cl) D L) := Lib.hid (by rw [← HD.out, ← HL.out]; exact H.out.belowAll (hdn nq))
 have HX2 : Hid (x.OK 1 encByte okByte (fun _ => False) (w.drewN nq)) := Lib.hid (okB HX.out (hdn nq))
 clear k1 k2 k3
 go_wp2_with (first
  | ((with_reducible refine at_dst 28 ?_); refine wpList_append_slAt rfl _ _ 30 rfl B einfo_Byte (fun _ => rfl) (by decide) encByte_one (by decide) (.slice al nL cl) L rfl H2.out.pen x (by show _ = Value.slice _ _ _; rw [HN.out]; rfl) HX2.out (by rw [HL.out, HN.out]; omega) (Nat.le_trans H2.out.low (Nat.le_of_lt H2.out.box.lt)) ?_; intro v1 w1 ho1 hg1 hat1; obtain ⟨a1, n1, c1, rfl⟩ := OwnB.any ho1; have HO1 := Lib.hid ho1; have HG1 := Lib.hid hg1; have HA1 := Lib.hid hat1; have hbx := (H2.out.box.of_block (hg1.block b H2.out.box.lt (fun e => H2.out.nl e.symm))); clear ho1 hg1 hat1)
  | ((with_reducible refine at_store ?_); refine wpList_store_box hbx rfl _ _ _ rfl rfl (.slice a1 n1 c1) rfl (by kernel_rfl) rfl (one_slB _ _ _) ?_; intro w2 hb2 hT2))
 go_ret
 have h3 := H2.out.grewL HO1.out HG1.out HA1.out (hb2.eqv (by simp [splice, Value.cells])) hT2
 rw [← HD.out, ← HL.out] at h3
 exact ⟨by simp, _, h3.1, (Moved.of_below (hdn nq)).trans h3.2⟩
theorem write_ref {B b : Nat} {w : World} {vd vl : Value} {D L : List UInt8} (h : DiskAt 107 B w b vd vl D L) (x : Sl UInt8) (hx : x.OK 1 encByte okByte (fun _ => False) w) (hlen : D.length + L.length + x.val.length ≤ 4194304) :
  Calls Tryz.prog 11 #[.pointer (some ⟨b, 0, none⟩), .slice x.a x.val.length x.cap] w fun e w' => e = .returned (.int .i64 0) ∧ ∃ vl', DiskAt 107 B w' b vd vl' D (L ++ x.val) ∧ Moved b vd vl w w' vd vl' := by
 obtain ⟨ad, cd, rfl⟩ := h.dur.shape
 obtain ⟨al, cl, rfl, hol⟩ := h.pen.sl' (by omega)
 obtain ⟨nD, hnD⟩ : ∃ n, D.length = n := ⟨_, rfl⟩
 obtain ⟨nL, hnL⟩ : ∃ n, L.length = n := ⟨_, rfl⟩
 obtain ⟨nx, hnx⟩ : ∃ n, x.val.length = n := ⟨_, rfl⟩
 have hc0 : w.cell? ⟨b, 0, none⟩ = some (.slice ad nD cd) := (h.box.cell 0).trans (by rw [← hnD]; rfl)
 have hc1 : w.cell? ⟨b, 1, none⟩ = some (.slice al nL cl) := (h.box.cell 1).trans (by rw [← hnL]; rfl)
 have H := Lib.hid h
 have HX := Lib.hid hx
 have HO := Lib.hid hol
 have HD := Lib.hid hnD
 have HL := Lib.hid hnL
 have HN := Lib.hid hnx
 rw [hnD, hnL, hnx] at hlen
 rw [hnx]
 have k1 : IntKind.i64.wrap ((nD : Int) + nL) = (nD : Int) + nL := IntWalk.i64_in _ (by omega)
 have k2 : IntKind.i64.wrap ((nD : Int) + nL + nx) = (nD : Int) + nL + nx := IntWalk.i64_in _ (by omega)
 have k3 : decide (4194304 < (nD : Int) + nL + nx) = false := decide_eq_false (by omega)
 clear h hx hol hnD hnL hnx
 go_enter Tryz.func11, Tryz.ntmps11
 go_wp2
 go_quiet (fail)
 have hdn : ∀ n, Below w.heap.size w (w.drewN n) := fun n => ⟨rfl, rfl, rfl, Nat.le_refl _, fun _ _ => rfl⟩
 have H2 : Hid (DiskAt 107 B (w.drewN nq) b (.slice ad nD cd) (.slice al nL cl) D L) := Lib.hid (by rw [← HD.out, ← HL.out]; exact H.out.belowAll (hdn nq))
 have HX2 : Hid (∀ W, Below w.heap.size (w.drewN nq) W → x.OK 1 encByte okByte (fun _ => False) W) := Lib.hid fun W hW => okB HX.out ((hdn nq).trans hW)
 have HO2 : Hid (∀ W, Below w.heap.size (w.drewN nq) W → Sl.OK 1 encByte okByte (fun _ => False) W ⟨al, cl, L⟩) := Lib.hid fun W hW => okB HO.out ((hdn nq).trans hW)
 have hbl := H.out.box.lt
 have hba : Below w.heap.size (w.drewN nq) ((w.drewN nq).alloc (.cells #[] 5)) := (Below.refl w.heap.size (w.drewN nq)).alloc (Nat.le_refl _) _
 have hcl : ((w.drewN nq).alloc (.cells #[] 5)).cell? ⟨b, 1, none⟩ = some (.slice al nL cl) := (((H2.out.box.alloc _).cell 1)).trans rfl
 clear k1 k2 k3
 go_wp2_with (first
  | ((with_reducible refine at_dst 28 ?_); refine wpList_append_slAt rfl _ _ 30 rfl w.heap.size einfo_Byte (fun _ => rfl) (by decide) encByte_one (by decide) _ [] rfl (lit_bytes (W := w.drewN nq) (Nat.le_refl _)) ⟨al, cl, L⟩ (by show _ = Value.slice _ _ _; rw [HL.out]; rfl) (HO2.out _ hba) (by simp only [HL.out, List.length_nil]; omega) (by simp) ?_; intro v1 w1 ho1 hg1 hat1; rw [List.nil_append] at ho1; have hB1 := Lib.hid (hba.trans (Below.appended (lit_bytes (W := w.drewN nq) (Nat.le_refl _)) hg1 (Nat.le_refl _) (by simp))); have HO1 := Lib.hid ho1; clear ho1 hg1 hat1)
  | ((with_reducible refine at_dst 30 ?_); refine wpList_append_slAt rfl _ _ 30 rfl w.heap.size einfo_Byte (fun _ => rfl) (by decide) encByte_one (by decide) v1 L rfl HO1.out x (by show _ = Value.slice _ _ _; rw [HN.out]; rfl) (HX2.out _ hB1.out) (by rw [HL.out, HN.out]; omega) hB1.out.size ?_; intro v2 w2 ho2 hg2 hat2; obtain ⟨a2, n2, c2, rfl⟩ := OwnB.any ho2; have hB2 := Lib.hid (hB1.out.trans (Below.appended HO1.out hg2 (Nat.le_refl _) hB1.out.size)); have HO3 := Lib.hid ho2; have hbx := H2.out.box.below hB2.out H2.out.box.lt; clear ho2 hg2 hat2)
  | ((with_reducible refine at_store ?_); refine wpList_store_box hbx rfl _ _ _ rfl rfl (.slice a2 n2 c2) rfl (by kernel_rfl) rfl (one_slB _ _ _) ?_; intro w3 hb3 hT3))
 go_ret
 have h3 := H2.out.freshL hB2.out HO3.out (hb3.eqv (by simp [splice, Value.cells])) hT3
 rw [← HD.out, ← HL.out] at h3
 exact ⟨by simp, _, h3.1, (Moved.of_below (hdn nq)).trans h3.2⟩
theorem sync_prog {B b : Nat} {w : World} {vd vl : Value} {D L : List UInt8} (h : DiskAt 61 B w b vd vl D L) (hlen : D.length + L.length ≤ 4194304) :
  Calls Tryz.prog 12 #[.pointer (some ⟨b, 0, none⟩)] w fun e w' => e = .returned (.tuple #[]) ∧ ∃ vd', DiskAt 61 B w' b vd' (.slice none 0 0) (D ++ L) [] ∧ Moved b vd vl w w' vd' (.slice none 0 0) := by
 obtain ⟨ad, cd, rfl, hod⟩ := h.dur.sl' (by omega)
 obtain ⟨al, cl, rfl, hol⟩ := h.pen.sl' (by omega)
 obtain ⟨nD, hnD⟩ : ∃ n, D.length = n := ⟨_, rfl⟩
 obtain ⟨nL, hnL⟩ : ∃ n, L.length = n := ⟨_, rfl⟩
 have hdn : Below w.heap.size w w.drew := ⟨rfl, rfl, rfl, Nat.le_refl _, fun _ _ => rfl⟩
 have H := Lib.hid h
 have HE := Lib.hid hod
 have HO := Lib.hid hol
 have HD := Lib.hid hnD
 have HL := Lib.hid hnL
 have H2 : Hid (DiskAt 61 B w.drew b (.slice ad nD cd) (.slice al nL cl) D L) := Lib.hid (by rw [← HD.out, ← HL.out]; exact H.out.belowAll hdn)
 have HO2 : Hid (∀ W, Below w.heap.size w.drew W → Sl.OK 1 encByte okByte (fun _ => False) W ⟨al, cl, L⟩) := Lib.hid fun W hW => okB HO.out (hdn.trans hW)
 have HE2 : Hid (∀ W, Below w.heap.size w.drew W → Sl.OK 1 encByte okByte (fun _ => False) W ⟨ad, cd, D⟩) := Lib.hid fun W hW => okB HE.out (hdn.trans hW)
 have hlo := Nat.le_trans H.out.low (Nat.le_of_lt H.out.box.lt)
 rw [hnD, hnL] at hlen
 rw [hnD, hnL]
 clear h hol hod hnD hnL
 go_enter Tryz.func12, Tryz.ntmps12
 go_wp2
 refine wp_region_mark 9 [(0, none), (1, none), (2, none), (3, none), (5, none), (6, none), (7, none), (4, some true), (8, some true), (9, some false), (10, none), (11, none), (12, some false)] rfl (by kernel_rfl) (by kernel_rfl) (fun d _ _ _ _ h => by cases d <;> exact h) ?_
 iterate 7 (refine wpC_pure rfl rfl (fun W => by go_simp; with_reducible rfl) ?_; simp only [pTs, pTn, pTz, pTc])
 refine wpC_fix (v := .slice ad nD cd) rfl rfl (fun W hW => by have e : W.cell? ⟨b, 0, none⟩ = some (.slice ad nD cd) := ((H2.out.box.belowAll hW).cell 0).trans rfl; go_simp) ?_; simp only [pTs, pTn, pTz, pTc]
 refine wpC_fix (v := .slice al nL cl) rfl rfl (fun W hW => by have e : W.cell? ⟨b, 1, none⟩ = some (.slice al nL cl) := ((H2.out.box.belowAll hW).cell 1).trans rfl; go_simp) ?_; simp only [pTs, pTn, pTz, pTc]
 refine wpC_mark rfl rfl (fun K hK => ?_)
 refine wp_append_slAt _ _ 30 rfl B einfo_Byte (fun _ => rfl) (by decide) encByte_one (by decide) (.slice ad nD cd) D rfl H2.out.dur ⟨al, cl, L⟩ (by show _ = Value.slice _ _ _; rw [HL.out]; rfl) (HO2.out _ (Below.refl _ _)) (by rw [HD.out, HL.out]; omega) hlo ?_
 intro v1 w1 ho1 hg1 hat1
 obtain ⟨a1, n1, c1, rfl⟩ := OwnB.any ho1
 have hbx := H2.out.box.of_block (hg1.block b H2.out.box.lt (fun e => H2.out.nd e.symm))
 refine hK _ _ ?_
 clear hK K
 try simp only [pTs, pTn, pTz, pTc]
 iterate 2 (refine wpC_pure rfl rfl (fun W => by go_simp; with_reducible rfl) ?_; simp only [pTs, pTn, pTz, pTc])
 refine wpC_past rfl rfl (fun K hK => ?_)
 refine wp_store_box hbx _ _ _ rfl rfl (.slice a1 n1 c1) rfl (by kernel_rfl) rfl (one_slB _ _ _) ?_
 intro w4 hb4 hT4
 refine hK _ _ ?_
 clear hK K
 try simp only [pTs, pTn, pTz, pTc]
 simp only [wpC]
 have h3 := H2.out.grewD ho1 hg1 hat1 (hb4.eqv (by simp [splice, Value.cells])) hT4
 have hb2 := h3.1.box
 go_wp2_with ((with_reducible refine at_store ?_); refine wpList_store_box hb2 rfl _ _ _ rfl rfl (.slice none 0 0) rfl (by kernel_rfl) rfl (one_slB _ _ _) ?_; intro w5 hb5 hT5)
 have h4 := h3.1.set (hb5.eqv (by simp [splice, Value.cells])) hT5 h3.1.dur (OwnL.nil _ _ _ _ _) (.inl rfl) (.inr rfl)
 go_end0
 exact ⟨rfl, _, h4.1, ((Moved.of_below hdn).trans h3.2).trans h4.2⟩
theorem sync_ref {B b : Nat} {w : World} {vd vl : Value} {D L : List UInt8} (h : DiskAt 107 B w b vd vl D L) (hlen : D.length + L.length ≤ 4194304) :
  Calls Tryz.prog 13 #[.pointer (some ⟨b, 0, none⟩)] w fun e w' => e = .returned (.tuple #[]) ∧ ∃ vd', DiskAt 107 B w' b vd' (.slice none 0 0) (D ++ L) [] ∧ Moved b vd vl w w' vd' (.slice none 0 0) := by
 obtain ⟨ad, cd, rfl, hod⟩ := h.dur.sl' (by omega)
 obtain ⟨al, cl, rfl, hol⟩ := h.pen.sl' (by omega)
 obtain ⟨nD, hnD⟩ : ∃ n, D.length = n := ⟨_, rfl⟩
 obtain ⟨nL, hnL⟩ : ∃ n, L.length = n := ⟨_, rfl⟩
 have hdn : Below w.heap.size w w.drew := ⟨rfl, rfl, rfl, Nat.le_refl _, fun _ _ => rfl⟩
 have H := Lib.hid h
 have HE := Lib.hid hod
 have HO := Lib.hid hol
 have HD := Lib.hid hnD
 have HL := Lib.hid hnL
 have H2 : Hid (DiskAt 107 B w.drew b (.slice ad nD cd) (.slice al nL cl) D L) := Lib.hid (by rw [← HD.out, ← HL.out]; exact H.out.belowAll hdn)
 have HO2 : Hid (∀ W, Below w.heap.size w.drew W → Sl.OK 1 encByte okByte (fun _ => False) W ⟨al, cl, L⟩) := Lib.hid fun W hW => okB HO.out (hdn.trans hW)
 have HE2 : Hid (∀ W, Below w.heap.size w.drew W → Sl.OK 1 encByte okByte (fun _ => False) W ⟨ad, cd, D⟩) := Lib.hid fun W hW => okB HE.out (hdn.trans hW)
 have hlo := Nat.le_trans H.out.low (Nat.le_of_lt H.out.box.lt)
 rw [hnD, hnL] at hlen
 rw [hnD, hnL]
 clear h hol hod hnD hnL
 go_enter Tryz.func13, Tryz.ntmps13
 go_wp2
 refine wp_region_markS (fun W => Below w.heap.size w.drew W) 14 [(0, none), (2, none), (3, none), (4, none), (7, none), (8, none), (9, none), (5, some true), (10, some true), (1, some false), (6, some false), (11, some false), (12, none), (13, none), (14, some false)] rfl (by kernel_rfl) (by kernel_rfl) (fun d _ _ _ _ h => by cases d <;> exact h) (Below.refl _ _) ?_
 iterate 7 (refine wpE_pure rfl rfl (fun W => by go_simp; with_reducible rfl) ?_; simp only [pTs, pTn, pTz, pTc])
 refine wpE_fix (v := .slice ad nD cd) rfl rfl (fun W hW => by have e : W.cell? ⟨b, 0, none⟩ = some (.slice ad nD cd) := ((H2.out.box.belowAll hW).cell 0).trans rfl; go_simp) ?_; simp only [pTs, pTn, pTz, pTc]
 refine wpE_fix (v := .slice al nL cl) rfl rfl (fun W hW => by have e : W.cell? ⟨b, 1, none⟩ = some (.slice al nL cl) := ((H2.out.box.belowAll hW).cell 1).trans rfl; go_simp) ?_; simp only [pTs, pTn, pTz, pTc]
 refine wpE_act rfl rfl rfl (fun K hK => ?_)
 go_simp
 refine hK _ _ ((Below.refl w.heap.size w.drew).alloc (Nat.le_refl _) (.cells #[] 5)) ?_
 clear hK K
 try simp only [pTs, pTn, pTz, pTc]
 refine wpE_act rfl rfl rfl (fun K hK => ?_)
 refine wp_append_slAt _ _ 30 rfl w.heap.size einfo_Byte (fun _ => rfl) (by decide) encByte_one (by decide) _ [] rfl (lit_bytes (W := w.drew) (Nat.le_refl _)) ⟨ad, cd, D⟩ (by show _ = Value.slice _ _ _; rw [HD.out]; rfl) (HE2.out _ ((Below.refl w.heap.size w.drew).alloc (Nat.le_refl _) (.cells #[] 5))) (by simp only [HD.out, List.length_nil]; omega) (by simp) ?_
 intro v1 w1 ho1 hg1 hat1
 rw [List.nil_append] at ho1
 have hB1 : Below w.heap.size w.drew w1 := ((Below.refl w.heap.size w.drew).alloc (Nat.le_refl _) (.cells #[] 5)).trans (Below.appended (lit_bytes (W := w.drew) (Nat.le_refl _)) hg1 (Nat.le_refl _) (by simp))
 refine hK _ _ hB1 ?_
 clear hK K
 try simp only [pTs, pTn, pTz, pTc]
 refine wpE_act rfl rfl rfl (fun K hK => ?_)
 refine wp_append_slAt _ _ 30 rfl w.heap.size einfo_Byte (fun _ => rfl) (by decide) encByte_one (by decide) v1 D rfl ho1 ⟨al, cl, L⟩ (by show _ = Value.slice _ _ _; rw [HL.out]; rfl) (HO2.out _ hB1) (by simp only [HD.out, HL.out]; omega) hB1.size ?_
 intro v2 w2 ho2 hg2 hat2
 obtain ⟨a1, n1, c1, rfl⟩ := OwnB.any ho2
 have hB2 : Below w.heap.size w.drew w2 := hB1.trans (Below.appended ho1 hg2 (Nat.le_refl _) hB1.size)
 have hbx := H2.out.box.below hB2 H2.out.box.lt
 refine hK _ _ hB2 ?_
 clear hK K
 try simp only [pTs, pTn, pTz, pTc]
 iterate 2 (refine wpE_pure rfl rfl (fun W => by go_simp; with_reducible rfl) ?_; simp only [pTs, pTn, pTz, pTc])
 refine wpE_mark rfl rfl (fun K hK => ?_)
 refine wp_store_box hbx _ _ _ rfl rfl (.slice a1 n1 c1) rfl (by kernel_rfl) rfl (one_slB _ _ _) ?_
 intro w4 hb4 hT4
 refine hK _ _ ?_
 clear hK K
 try simp only [pTs, pTn, pTz, pTc]
 simp only [wpE]
 have h3 := H2.out.freshD hB2 ho2 (hb4.eqv (by simp [splice, Value.cells])) hT4
 have hb2 := h3.1.box
 go_wp2_with ((with_reducible refine at_store ?_); refine wpList_store_box hb2 rfl _ _ _ rfl rfl (.slice none 0 0) rfl (by kernel_rfl) rfl (one_slB _ _ _) ?_; intro w5 hb5 hT5)
 have h4 := h3.1.set (hb5.eqv (by simp [splice, Value.cells])) hT5 h3.1.dur (OwnL.nil _ _ _ _ _) (.inl rfl) (.inr rfl)
 go_end0
 exact ⟨rfl, _, h4.1, ((Moved.of_below hdn).trans h3.2).trans h4.2⟩
theorem read_prog {B b : Nat} {w : World} {vd vl : Value} {D L : List UInt8} (h : DiskAt 61 B w b vd vl D L) (hlen : D.length + L.length ≤ 1000000) :
  Calls Tryz.prog 18 #[.pointer (some ⟨b, 0, none⟩)] w fun e w' => ∃ v, e = .returned v ∧ OwnB w' w.heap.size v (D ++ L) ∧ Below w.heap.size w w' := by
 obtain ⟨ad, cd, rfl, hod⟩ := h.dur.sl' (by omega)
 obtain ⟨al, cl, rfl, hol⟩ := h.pen.sl' (by omega)
 obtain ⟨nD, hnD⟩ : ∃ n, D.length = n := ⟨_, rfl⟩
 obtain ⟨nL, hnL⟩ : ∃ n, L.length = n := ⟨_, rfl⟩
 have hdn : Below w.heap.size w w.drew := ⟨rfl, rfl, rfl, Nat.le_refl _, fun _ _ => rfl⟩
 have H := Lib.hid h
 have HE := Lib.hid hod
 have HO := Lib.hid hol
 have HD := Lib.hid hnD
 have HL := Lib.hid hnL
 have H2 : Hid (DiskAt 61 B w.drew b (.slice ad nD cd) (.slice al nL cl) D L) := Lib.hid (by rw [← HD.out, ← HL.out]; exact H.out.belowAll hdn)
 have HO2 : Hid (∀ W, Below w.heap.size w.drew W → Sl.OK 1 encByte okByte (fun _ => False) W ⟨al, cl, L⟩) := Lib.hid fun W hW => okB HO.out (hdn.trans hW)
 have HE2 : Hid (∀ W, Below w.heap.size w.drew W → Sl.OK 1 encByte okByte (fun _ => False) W ⟨ad, cd, D⟩) := Lib.hid fun W hW => okB HE.out (hdn.trans hW)
 have hlo := Nat.le_trans H.out.low (Nat.le_of_lt H.out.box.lt)
 rw [hnD, hnL] at hlen
 clear h hol hod hnD hnL
 go_enter Tryz.func18, Tryz.ntmps18
 go_wp2
 refine wp_region_ord [(0, true), (1, true), (2, true), (3, true), (4, true), (5, true), (6, true), (7, true), (8, false), (9, false), (10, true)] rfl (by kernel_rfl) (by kernel_rfl) (fun d _ _ _ _ h => by cases d <;> exact h) ?_
 iterate 3 (refine wpB_fix rfl rfl (fun W hW => by go_simp; with_reducible rfl) ?_; simp only [pTs, pTn, pTz, pTc])
 refine wpB_fix (v := .slice ad nD cd) rfl rfl (fun W hW => by have e : W.cell? ⟨b, 0, none⟩ = some (.slice ad nD cd) := ((H2.out.box.belowAll hW).cell 0).trans rfl; go_simp) ?_; simp only [pTs, pTn, pTz, pTc]
 iterate 3 (refine wpB_fix rfl rfl (fun W hW => by go_simp; with_reducible rfl) ?_; simp only [pTs, pTn, pTz, pTc])
 refine wpB_fix (v := .slice al nL cl) rfl rfl (fun W hW => by have e : W.cell? ⟨b, 1, none⟩ = some (.slice al nL cl) := ((H2.out.box.belowAll hW).cell 1).trans rfl; go_simp) ?_; simp only [pTs, pTn, pTz, pTc]
 refine wpB_act rfl rfl (fun K hK => ?_)
 go_simp
 refine hK _ _ ((Below.refl _ _).alloc (Nat.le_refl _) _) ?_
 clear hK K
 try simp only [pTs, pTn, pTz, pTc]
 refine wpB_act rfl rfl (fun K hK => ?_)
 go_simp
 have hbc : BoxAt (w.drew.alloc (.cells #[.slice ad nD cd, .slice al nL cl] 30)) w.heap.size 30 #[.slice ad nD cd, .slice al nL cl] := BoxAt.new w.drew _ _
 refine (concat_Byte (fun _ => False) w.heap.size 0 2 [⟨ad, cd, D⟩, ⟨al, cl, L⟩] (w.drew.alloc (.cells #[.slice ad nD cd, .slice al nL cl] 30)) (by simp) (fun i x hi => by rw [hbc.cell]; rcases i with _ | _ | i <;> simp at hi <;> subst hi; exact congrArg (fun n => some (Value.slice ad n cd)) HD.out.symm; exact congrArg (fun n => some (Value.slice al n cl)) HL.out.symm) (fun x hx => by simp only [List.mem_cons, List.not_mem_nil, or_false] at hx; rcases hx with rfl | rfl; exact HE2.out _ ((Below.refl w.heap.size w.drew).alloc (Nat.le_refl _) (.cells #[.slice ad nD cd, .slice al nL cl] 30)); exact HO2.out _ ((Below.refl w.heap.size w.drew).alloc (Nat.le_refl _) (.cells #[.slice ad nD cd, .slice al nL cl] 30))) (by simp) (by simp only [lens, List.map_cons, List.map_nil, List.sum_cons, List.sum_nil, HD.out, HL.out]; omega)).mono ?_
 rintro e w1 ⟨v, rfl, ho, hb1⟩
 refine hK _ _ hb1 ?_
 clear hK K
 try simp only [pTs, pTn, pTz, pTc]
 refine wpB_fix rfl rfl (fun W hW => by go_simp; with_reducible rfl) ?_; simp only [pTs, pTn, pTz, pTc]
 simp only [wpB]
 go_wp2
 go_ret
 exact ⟨_, rfl, (by simpa using ho.base_le (by simp)), hdn.trans (((Below.refl w.heap.size w.drew).alloc (Nat.le_refl _) (.cells #[.slice ad nD cd, .slice al nL cl] 30)).trans (hb1.mono (by simp)))⟩
theorem read_ref {B b : Nat} {w : World} {vd vl : Value} {D L : List UInt8} (h : DiskAt 107 B w b vd vl D L) (hlen : D.length + L.length ≤ 1000000) :
  Calls Tryz.prog 19 #[.pointer (some ⟨b, 0, none⟩)] w fun e w' => ∃ v, e = .returned v ∧ OwnB w' w.heap.size v (D ++ L) ∧ Below w.heap.size w w' := by
 obtain ⟨ad, cd, rfl, hod⟩ := h.dur.sl' (by omega)
 obtain ⟨al, cl, rfl, hol⟩ := h.pen.sl' (by omega)
 obtain ⟨nD, hnD⟩ : ∃ n, D.length = n := ⟨_, rfl⟩
 obtain ⟨nL, hnL⟩ : ∃ n, L.length = n := ⟨_, rfl⟩
 have hdn : Below w.heap.size w w.drew := ⟨rfl, rfl, rfl, Nat.le_refl _, fun _ _ => rfl⟩
 have H := Lib.hid h
 have HE := Lib.hid hod
 have HO := Lib.hid hol
 have HD := Lib.hid hnD
 have HL := Lib.hid hnL
 have H2 : Hid (DiskAt 107 B w.drew b (.slice ad nD cd) (.slice al nL cl) D L) := Lib.hid (by rw [← HD.out, ← HL.out]; exact H.out.belowAll hdn)
 have HO2 : Hid (∀ W, Below w.heap.size w.drew W → Sl.OK 1 encByte okByte (fun _ => False) W ⟨al, cl, L⟩) := Lib.hid fun W hW => okB HO.out (hdn.trans hW)
 have HE2 : Hid (∀ W, Below w.heap.size w.drew W → Sl.OK 1 encByte okByte (fun _ => False) W ⟨ad, cd, D⟩) := Lib.hid fun W hW => okB HE.out (hdn.trans hW)
 have hlo := Nat.le_trans H.out.low (Nat.le_of_lt H.out.box.lt)
 rw [hnD, hnL] at hlen
 clear h hol hod hnD hnL
 go_enter Tryz.func19, Tryz.ntmps19
 go_wp2
 refine wp_region_S (fun W => Below w.heap.size w.drew W) [(1, true), (2, true), (3, true), (4, true), (6, true), (7, true), (8, true), (9, true), (0, false), (5, false), (10, false), (11, true)] rfl (by kernel_rfl) (by kernel_rfl) (fun d _ _ _ _ h => by cases d <;> exact h) (Below.refl _ _) ?_
 iterate 3 (refine wpS_fix rfl rfl (fun W hW => by go_simp; with_reducible rfl) ?_; simp only [pTs, pTn, pTz, pTc])
 refine wpS_fix (v := .slice ad nD cd) rfl rfl (fun W hW => by have e : W.cell? ⟨b, 0, none⟩ = some (.slice ad nD cd) := ((H2.out.box.belowAll hW).cell 0).trans rfl; go_simp) ?_; simp only [pTs, pTn, pTz, pTc]
 iterate 3 (refine wpS_fix rfl rfl (fun W hW => by go_simp; with_reducible rfl) ?_; simp only [pTs, pTn, pTz, pTc])
 refine wpS_fix (v := .slice al nL cl) rfl rfl (fun W hW => by have e : W.cell? ⟨b, 1, none⟩ = some (.slice al nL cl) := ((H2.out.box.belowAll hW).cell 1).trans rfl; go_simp) ?_; simp only [pTs, pTn, pTz, pTc]
 refine wpS_act rfl rfl (fun K hK => ?_)
 go_simp
 refine hK _ _ ((Below.refl w.heap.size w.drew).alloc (Nat.le_refl _) (.cells #[] 5)) ?_
 clear hK K
 try simp only [pTs, pTn, pTz, pTc]
 refine wpS_act rfl rfl (fun K hK => ?_)
 refine wp_append_slAt _ _ 30 rfl w.heap.size einfo_Byte (fun _ => rfl) (by decide) encByte_one (by decide) _ [] rfl (lit_bytes (W := w.drew) (Nat.le_refl _)) ⟨ad, cd, D⟩ (by show _ = Value.slice _ _ _; rw [HD.out]; rfl) (HE2.out _ ((Below.refl w.heap.size w.drew).alloc (Nat.le_refl _) (.cells #[] 5))) (by simp only [HD.out, List.length_nil]; omega) (by simp) ?_
 intro v1 w1 ho1 hg1 hat1
 rw [List.nil_append] at ho1
 have hB1 : Below w.heap.size w.drew w1 := ((Below.refl w.heap.size w.drew).alloc (Nat.le_refl _) (.cells #[] 5)).trans (Below.appended (lit_bytes (W := w.drew) (Nat.le_refl _)) hg1 (Nat.le_refl _) (by simp))
 refine hK _ _ hB1 ?_
 clear hK K
 try simp only [pTs, pTn, pTz, pTc]
 refine wpS_act rfl rfl (fun K hK => ?_)
 refine wp_append_slAt _ _ 30 rfl w.heap.size einfo_Byte (fun _ => rfl) (by decide) encByte_one (by decide) v1 D rfl ho1 ⟨al, cl, L⟩ (by show _ = Value.slice _ _ _; rw [HL.out]; rfl) (HO2.out _ hB1) (by simp only [HD.out, HL.out]; omega) hB1.size ?_
 intro v2 w2 ho2 hg2 hat2
 obtain ⟨a1, n1, c1, rfl⟩ := OwnB.any ho2
 have hB2 : Below w.heap.size w.drew w2 := hB1.trans (Below.appended ho1 hg2 (Nat.le_refl _) hB1.size)
 have hbx := H2.out.box.below hB2 H2.out.box.lt
 refine hK _ _ hB2 ?_
 clear hK K
 try simp only [pTs, pTn, pTz, pTc]
 refine wpS_fix rfl rfl (fun W hW => by go_simp; with_reducible rfl) ?_; simp only [pTs, pTn, pTz, pTc]
 simp only [wpS]
 go_wp2
 go_ret
 exact ⟨_, rfl, ho2, hdn.trans hB2⟩
end Go.Proofs.YtnmgfnpphglphaaGreat
