/-
  The law BenchesZero, walked.
-/
import Derived.Test.YtnmgfnpphglphaaGreatZeroW
import Derived.Test.YtnmgfnpphglphaaGreatRefSame
import Derived.Test.YtnmgfnpphglphaaGreatDiskW
import Derived.Test.YtnmgfnpphglphaaGreatAwake
set_option maxHeartbeats 16000000
set_option maxRecDepth 100000
set_option linter.unusedVariables false
set_option linter.unusedSimpArgs false
namespace Go.Proofs.YtnmgfnpphglphaaGreat
open Go.RowKit
theorem encEv_note (k b t i p f : Int) (n : Note) : ∀ j, j < (encNote n).size → (encEv k b t i p f n)[6 + j]? = (encNote n)[j]? := fun j _ => by
 unfold encEv
 rw [Array.getElem?_append_right (by simp)]
 simp
theorem encEv_1 (k b t i p f : Int) (n : Note) : (encEv k b t i p f n)[1]? = some (vi b) := by
 unfold encEv
 rw [Array.getElem?_append_left (by simp)]
 rfl
def zBench : Array Value := #[vi 0, .map none, vi 0, vi 0, vi 0, vi 0, vi 0, vi 0, vi 0, vi 0, vi 0, .pointer none]
theorem zero_any (data : Sl UInt8) (keep flip ek eb et ei ep ef : Int) (n : Note) (counts : Sl Int) (w : World) (hd : data.OK 1 encByte okByte (fun _ => False) w) (hc : counts.OK 1 encInt okInt (fun _ => False) w) :
  Calls Tryz.prog 5 #[.slice data.a data.val.length data.cap, .int .i64 keep, .int .i64 flip, .agg (encEv ek eb et ei ep ef n), .slice counts.a counts.val.length counts.cap] w fun e w' => e = .returned (.bool true) ∧ Below w.heap.size w w' := by
 have hr1 := hd.room
 have hr2 := hc.room
 have HD := Lib.hid hd
 obtain ⟨ca, cc, cv⟩ := counts
 simp only at hr2 hc ⊢
 obtain ⟨nc, hnc⟩ : ∃ k, cv.length = k := ⟨_, rfl⟩
 obtain ⟨nd, hnd⟩ : ∃ k, data.val.length = k := ⟨_, rfl⟩
 have HND := Lib.hid hnd
 rw [hnc] at hr2 ⊢
 rw [hnd] at hr1 ⊢
 have hb0 : Below w.heap.size w (w.alloc (.cells (encEv ek eb et ei ep ef n) 59)) := (Below.refl _ _).alloc (Nat.le_refl _) _
 clear hd hc hnc hnd
 by_cases h1 : 1000 < nd
 ·have h1' : (1000 : Int) < (nd : Int) := by omega
  go_enter Tryz.func5, Tryz.ntmps5
  go_wp2_with (go_at_call 7; (with_reducible refine (awake_any _).mono ?_); rintro e w1 ⟨rfl, hb1⟩)
  go_ret
  exact ⟨by simp, hb0.trans (hb1.mono hb0.size)⟩
 by_cases h2 : 100 < nc
 ·have h1' : ¬ (1000 : Int) < (nd : Int) := by omega
  have h2' : (100 : Int) < (nc : Int) := by omega
  go_enter Tryz.func5, Tryz.ntmps5
  go_wp2_with (go_at_call 7; (with_reducible refine (awake_any _).mono ?_); rintro e w1 ⟨rfl, hb1⟩)
  go_ret
  exact ⟨by simp, hb0.trans (hb1.mono hb0.size)⟩
 have h1' : ¬ (1000 : Int) < (nd : Int) := by omega
 have h2' : ¬ (100 : Int) < (nc : Int) := by omega
 go_enter Tryz.func5, Tryz.ntmps5
 go_wp2_with (first
  | (go_at_call 12; (with_reducible refine (diskSync_nil _).mono ?_); rintro e wq ⟨rfl, rfl⟩)
  | (go_at_call 10; (with_reducible refine (diskWrite_nil _ _ _ _).mono ?_); rintro e wq ⟨rfl, rfl⟩)
  | (go_at_call 18; (with_reducible refine (diskRead_nil _).mono ?_); rintro e wq ⟨rfl, rfl⟩)
  | (go_at_call 16; (with_reducible refine (diskPending_nil _).mono ?_); rintro e wq ⟨rfl, rfl⟩)
  | (go_at_call 14; (with_reducible refine (diskCrash_nil _ _ _).mono ?_); rintro e wq ⟨rfl, rfl⟩))
 have HDK := Lib.hid (DiskAt.new (T := 61) (B := w.heap.size + 1) (w := w.alloc (.cells (encEv ek eb et ei ep ef n) 59)) (by simp))
 obtain ⟨w2, hw2⟩ : ∃ w2, (w.alloc (.cells (encEv ek eb et ei ep ef n) 59)).alloc (.cells #[.slice none 0 0, .slice none 0 0] 61) = w2 := ⟨_, rfl⟩
 have hbE : BoxAt w2 w.heap.size 59 (encEv ek eb et ei ep ef n) := by rw [← hw2]; exact (BoxAt.new _ _ _).alloc _
 have hb2 : Below w.heap.size w w2 := by rw [← hw2]; exact hb0.alloc (by simp) _
 rw [hw2, World.size_alloc] at HDK
 rw [hw2]
 have HDX := Lib.hid (okB HD.out hb2.drew)
 have HDK2 := Lib.hid (HDK.out.belowAll (w' := w2.drew) ⟨rfl, rfl, rfl, Nat.le_refl _, fun _ _ => rfl⟩)
 have hs2 : w2.heap.size = w.heap.size + 2 := by rw [← hw2]; simp
 have HS2 := Lib.hid hs2
 have HWR : Hid (Calls Tryz.prog 10 #[.pointer (some ⟨w.heap.size + 1, 0, none⟩), .slice data.a nd data.cap] w2.drew fun e w' => e = .returned (.int .i64 0) ∧ ∃ vl', DiskAt 61 (w.heap.size + 1) w' (w.heap.size + 1) (.slice none 0 0) vl' [] ([] ++ data.val) ∧ Moved (w.heap.size + 1) (.slice none 0 0) (.slice none 0 0) w2.drew w' (.slice none 0 0) vl') := Lib.hid (by
  have h := write_prog HDK2.out data HDX.out (by rw [HND.out]; simp only [List.length_nil]; omega)
  rw [HND.out] at h
  exact h)
 clear hw2 HDK hb0 hs2
 refine wp_region_S (fun W => Sl.OK 1 encByte okByte (fun _ => False) W data) [(0, true), (1, true), (2, false), (3, true), (4, true), (5, true), (8, true), (9, true), (6, false), (7, false), (10, true), (11, true), (12, true), (13, true), (15, true), (16, true), (14, false), (17, true), (18, true)] rfl (by kernel_rfl) (by kernel_rfl) (fun d _ _ _ _ h => by cases d <;> exact h) HDX.out ?_
 iterate 2 (refine wpS_fix rfl rfl (fun W hW => by go_simp; with_reducible rfl) ?_; simp only [pTs, pTn, pTz, pTc])
 refine wpS_act rfl rfl (fun K hK => ?_)
 go_simp
 refine HWR.out.mono ?_
 rintro e w3 ⟨rfl, vl3, h3, m3⟩
 rw [List.nil_append] at h3
 have HK3 := Lib.hid h3
 have hB3 : Below (w.heap.size + 1) w2 w3 := ((Below.refl _ w2).drew).trans (m3.below HDK2.out)
 clear h3 m3
 refine hK _ _ (okB HD.out (hb2.trans (hB3.mono (Nat.le_succ _)))) ?_
 clear hK K
 try simp only [pTs, pTn, pTz, pTc]
 refine wpS_fix (v := .bool false) rfl rfl (fun W hW => by go_simp) ?_; simp only [pTs, pTn, pTz, pTc]
 iterate 3 (refine wpS_fix rfl rfl (fun W hW => by go_simp; with_reducible rfl) ?_; simp only [pTs, pTn, pTz, pTc])
 refine wpS_fix (v := .string (strB data.val)) rfl rfl (fun W hW => by have e : (convert 30 9 (.slice data.a nd data.cap)).run Tryz.prog W = .ok (.string (strB data.val)) W := by { have e := run_str (s := data) hW; rw [HND.out] at e; exact e }; go_simp) ?_; simp only [pTs, pTn, pTz, pTc]
 refine wpS_act rfl rfl (fun K hK => ?_)
 go_simp
 refine (read_prog HK3.out (by rw [HND.out]; simp only [List.length_nil]; omega)).mono ?_
 rintro e w4 ⟨va4, rfl, ho4, hb4⟩
 rw [List.nil_append] at ho4
 obtain ⟨a4, c4, rfl, hk4⟩ := ho4.sl3 HND.out (by omega)
 have cv1 : (convert 30 9 (.slice a4 nd c4)).run Tryz.prog w4 = .ok (.string (strB data.val)) w4 := by { have e := run_str (s := ⟨a4, c4, data.val⟩) hk4; rw [HND.out] at e; exact e }
 clear ho4 hk4
 refine hK _ _ (okB (okB HD.out (hb2.trans (hB3.mono (Nat.le_succ _)))) hb4) ?_
 clear hK K
 try simp only [pTs, pTn, pTz, pTc]
 refine wpS_act rfl rfl (fun K hK => ?_)
 go_simp
 refine hK _ _ (okB (okB HD.out (hb2.trans (hB3.mono (Nat.le_succ _)))) hb4) ?_
 clear hK K
 try simp only [pTs, pTn, pTz, pTc]
 refine wpS_fix (v := .bool false) rfl rfl (fun W hW => by go_simp) ?_; simp only [pTs, pTn, pTz, pTc]
 iterate 5 (refine wpS_fix rfl rfl (fun W hW => by go_simp; with_reducible rfl) ?_; simp only [pTs, pTn, pTz, pTc])
 refine wpS_act rfl rfl (fun K hK => ?_)
 go_simp
 refine (pending_prog (HK3.out.belowAll hb4)).mono ?_
 rintro e w5 ⟨rfl, rfl⟩
 rw [HND.out]
 refine hK _ _ (okB (okB HD.out (hb2.trans (hB3.mono (Nat.le_succ _)))) hb4) ?_
 clear hK K
 try simp only [pTs, pTn, pTz, pTc]
 refine wpS_fix (v := .bool false) rfl rfl (fun W hW => by go_simp) ?_; simp only [pTs, pTn, pTz, pTc]
 refine wpS_fix rfl rfl (fun W hW => by go_simp; with_reducible rfl) ?_; simp only [pTs, pTn, pTz, pTc]
 simp only [wpS]
 have hbE4 : BoxAt w4 w.heap.size 59 (encEv ek eb et ei ep ef n) := (hbE.below (n := w.heap.size + 1) hB3 (by omega)).belowAll hb4
 have hB4 : Below w.heap.size w w4 := (hb2.trans (hB3.mono (by omega))).trans (hb4.mono (by have := (hb2.trans (hB3.mono (Nat.le_succ _))).size; omega))
 clear hb4 hB3 cv1
 go_wp2
 obtain ⟨ws, hws⟩ : ∃ ws, (w4.alloc (.cells #[vi 0, .map none, vi 0, vi 0, vi 0, vi 0, vi 0, vi 0, vi 0, vi 0, vi 0, .pointer none] 66)).alloc (.cells #[.pointer none, .pointer (some ⟨w4.heap.size, 0, none⟩)] 62) = ws := ⟨_, rfl⟩
 have hE : BoxAt ws w.heap.size 59 (encEv ek eb et ei ep ef n) := by rw [← hws]; exact (hbE4.alloc _).alloc _
 have hZ : BoxAt ws w4.heap.size 66 zBench := by rw [← hws]; exact (BoxAt.new w4 _ _).alloc _
 have hLs : BoxAt ws (w4.heap.size + 1) 62 #[.pointer none, .pointer (some ⟨w4.heap.size, 0, none⟩)] := by rw [← hws]; have := BoxAt.new (w4.alloc (.cells zBench 66)) 62 #[.pointer none, .pointer (some ⟨w4.heap.size, 0, none⟩)]; rw [World.size_alloc] at this; exact this
 have hBs : Below w.heap.size w ws := by rw [← hws]; exact (hB4.alloc hB4.size _).alloc (by have := hB4.size; simp; omega) _
 rw [hws]
 clear hws hbE4 hB4
 obtain ⟨bz, hbz⟩ : ∃ k, w4.heap.size = k := ⟨_, rfl⟩
 rw [hbz] at hZ hLs ⊢
 clear hbz
 go_loopw [15] (fun i wr => ∃ k : Nat, k ≤ 2 ∧ i = .int .i64 k ∧ Below ws.heap.size ws wr) (fun i _ => 2 - (intOf i).toNat)
 case atStart => exact ⟨0, by omega, rfl, Below.refl _ _⟩
 case round =>
  obtain ⟨k, hk, rfl, hB⟩ := hrel
  have hEr := hE.belowAll hB
  have hl0 : wr.cell? ⟨bz + 1, 0, none⟩ = some (.pointer none) := ((hLs.belowAll hB).cell 0).trans rfl
  have hl1 : wr.cell? ⟨bz + 1, 1, none⟩ = some (.pointer (some ⟨bz, 0, none⟩)) := ((hLs.belowAll hB).cell 1).trans rfl
  have HZ : Hid (∀ W, Below ws.heap.size ws W → W.cell? ⟨bz, 11, none⟩ = some (.pointer none)) := Lib.hid fun W hW => ((hZ.belowAll hW).cell 11).trans rfl
  have HZL : Hid (∀ W, Below ws.heap.size ws W → bz < W.heap.size) := Lib.hid fun W hW => (hZ.belowAll hW).lt
  rcases (by omega : k = 0 ∨ k = 1 ∨ k = 2) with rfl | rfl | rfl
  ·rw [show ((0 : Nat) : Int) = 0 from rfl]
   go_wp2_with (first
    | (go_at_call 25; (with_reducible refine (benchSync_nil _).mono ?_); rintro e wq ⟨rfl, rfl⟩)
    | ((with_reducible refine at_dst 100 ?_); refine wpList_loadB hEr rfl 43 _ rfl rfl (encNote n) (encEv_note _ _ _ _ _ _ n) Tryz.underlying43 rfl (by kernel_rfl) ?_)
    | (go_at_call 26; refine (benchDo_nil _ n).mono ?_; rintro e w6 ⟨rfl, hb6⟩; have hB6 := hB.trans (hb6.mono hB.size); have hE6 := hE.belowAll hB6; clear hb6)
    | ((with_reducible refine at_store ?_); refine wpList_store_box (BoxAt.new w6 43 (encNote zNote)) rfl _ _ _ rfl rfl (.agg (encNote zNote)) rfl (by kernel_rfl) rfl (encNote_one _) ?_; intro w7 hb7 hT7; have hB7 : Below ws.heap.size ws w7 := (hB6.alloc hB6.size _).trans (hT7.below hB6.size); have hE7 := hE.belowAll hB7; have hN7 : BoxAt w7 w6.heap.size 43 (encNote zNote) := hb7; clear hb7 hT7)
    | ((with_reducible refine at_dst 107 ?_); refine wpList_loadB hE7 rfl 43 _ rfl rfl (encNote n) (encEv_note _ _ _ _ _ _ n) Tryz.underlying43 rfl (by kernel_rfl) ?_)
    | (go_at_call 27; refine (benchHear_nil _ _ _ _).mono ?_; rintro e wq ⟨rfl, hq⟩; have hB8 : Below ws.heap.size ws wq := by { rw [← hq]; exact hB7.alloc hB7.size _ }; have hN8 : BoxAt wq w6.heap.size 43 (encNote zNote) := by { rw [← hq]; exact hN7.alloc _ }; clear hq)
    | ((with_reducible refine at_dst 115 ?_); refine wpList_loadB hN8 rfl 43 _ rfl rfl (encNote zNote) (whole_cells _) Tryz.underlying43 rfl (by kernel_rfl) ?_)
    | (go_at_call 23; refine (refNote_any (fun _ => False) zNote zNote _ (okNote_zero _ _) (okNote_zero _ _) rfl).mono ?_; rintro e w9 ⟨rfl, hb9⟩; have hB9 := hB8.trans (hb9.mono hB8.size); clear hb9)
    | (go_at_call 28; (with_reducible refine (benchCrash_nil _ _ _).mono ?_); rintro e wq ⟨rfl, rfl⟩)
    | (go_at_call 29; (with_reducible refine (benchNotes_nil _).mono ?_); rintro e wq ⟨rfl, rfl⟩)
    | (go_at_call 30; (with_reducible refine (benchCounts_nil _).mono ?_); rintro e wq ⟨rfl, rfl⟩)
    | (go_at_call 31; (with_reducible refine (benchMissing_nil _ _ _ _).mono ?_); rintro e w10 ⟨rfl, hb10⟩; have hB10 := hB9.trans (hb10.mono hB9.size); clear hb10))
   go_roundw
   case rel => exact ⟨1, by omega, by go_num, hB10⟩
   case measure => simp [intOf]
  ·rw [show ((1 : Nat) : Int) = 1 from rfl]
   go_wp2_with (first
    | (go_at_call 25; (with_reducible refine (benchSync_zero _ bz (HZ.out _ hB)).mono ?_); rintro e wq ⟨rfl, rfl⟩)
    | ((with_reducible refine at_dst 100 ?_); refine wpList_loadB hEr rfl 43 _ rfl rfl (encNote n) (encEv_note _ _ _ _ _ _ n) Tryz.underlying43 rfl (by kernel_rfl) ?_)
    | (go_at_call 26; refine (benchDo_zero _ bz n (HZL.out _ hB) (HZ.out _ hB)).mono ?_; rintro e w6 ⟨rfl, hb6⟩; have hB6 := hB.trans (hb6.mono hB.size); have hE6 := hE.belowAll hB6; clear hb6)
    | ((with_reducible refine at_store ?_); refine wpList_store_box (BoxAt.new w6 43 (encNote zNote)) rfl _ _ _ rfl rfl (.agg (encNote zNote)) rfl (by kernel_rfl) rfl (encNote_one _) ?_; intro w7 hb7 hT7; have hB7 : Below ws.heap.size ws w7 := (hB6.alloc hB6.size _).trans (hT7.below hB6.size); have hE7 := hE.belowAll hB7; have hN7 : BoxAt w7 w6.heap.size 43 (encNote zNote) := hb7; clear hb7 hT7)
    | ((with_reducible refine at_dst 107 ?_); refine wpList_loadB hE7 rfl 43 _ rfl rfl (encNote n) (encEv_note _ _ _ _ _ _ n) Tryz.underlying43 rfl (by kernel_rfl) ?_)
    | (go_at_call 27; refine (benchHear_zero _ bz _ _ _ (HZ.out _ (hB7.alloc hB7.size _))).mono ?_; rintro e wq ⟨rfl, hq⟩; have hB8 : Below ws.heap.size ws wq := by { rw [← hq]; exact hB7.alloc hB7.size _ }; have hN8 : BoxAt wq w6.heap.size 43 (encNote zNote) := by { rw [← hq]; exact hN7.alloc _ }; clear hq)
    | ((with_reducible refine at_dst 115 ?_); refine wpList_loadB hN8 rfl 43 _ rfl rfl (encNote zNote) (whole_cells _) Tryz.underlying43 rfl (by kernel_rfl) ?_)
    | (go_at_call 23; refine (refNote_any (fun _ => False) zNote zNote _ (okNote_zero _ _) (okNote_zero _ _) rfl).mono ?_; rintro e w9 ⟨rfl, hb9⟩; have hB9 := hB8.trans (hb9.mono hB8.size); clear hb9)
    | (go_at_call 28; (with_reducible refine (benchCrash_zero _ bz _ _ (HZ.out _ hB9)).mono ?_); rintro e wq ⟨rfl, rfl⟩)
    | (go_at_call 29; (with_reducible refine (benchNotes_zero _ bz (HZ.out _ hB9)).mono ?_); rintro e wq ⟨rfl, rfl⟩)
    | (go_at_call 30; (with_reducible refine (benchCounts_zero _ bz (HZ.out _ hB9)).mono ?_); rintro e wq ⟨rfl, rfl⟩)
    | (go_at_call 31; (with_reducible refine (benchMissing_zero _ bz _ _ _ (HZL.out _ hB9) (HZ.out _ hB9)).mono ?_); rintro e w10 ⟨rfl, hb10⟩; have hB10 := hB9.trans (hb10.mono hB9.size); clear hb10))
   go_roundw
   case rel => exact ⟨2, by omega, by go_num, hB10⟩
   case measure => simp [intOf]
  ·rw [show ((2 : Nat) : Int) = 2 from rfl]
   clear hl0 hl1 HZ HZL
   have hB5 := hBs.trans (hB.mono hBs.size)
   go_wp2
   obtain ⟨wt, hwt⟩ : ∃ wt, (wr.alloc (.cells #[.slice none 0 0, .slice none 0 0, .slice none 0 0] 78)).alloc (.cells #[.pointer none, .pointer (some ⟨wr.heap.size, 0, none⟩)] 74) = wt := ⟨_, rfl⟩
   have hEt : BoxAt wt w.heap.size 59 (encEv ek eb et ei ep ef n) := by rw [← hwt]; exact (hEr.alloc _).alloc _
   have hY : BoxAt wt wr.heap.size 78 #[.slice none 0 0, .slice none 0 0, .slice none 0 0] := by rw [← hwt]; exact (BoxAt.new wr _ _).alloc _
   have hLt : BoxAt wt (wr.heap.size + 1) 74 #[.pointer none, .pointer (some ⟨wr.heap.size, 0, none⟩)] := by rw [← hwt]; have := BoxAt.new (wr.alloc (.cells #[.slice none 0 0, .slice none 0 0, .slice none 0 0] 78)) 74 #[.pointer none, .pointer (some ⟨wr.heap.size, 0, none⟩)]; rw [World.size_alloc] at this; exact this
   have hBt : Below w.heap.size w wt := by rw [← hwt]; exact (hB5.alloc hB5.size _).alloc (by have := hB5.size; simp; omega) _
   rw [hwt]
   clear hwt hEr hB5
   obtain ⟨by_, hby⟩ : ∃ k, wr.heap.size = k := ⟨_, rfl⟩
   rw [hby] at hY hLt ⊢
   clear hby hB
   go_loopw [23] (fun i wr => ∃ k : Nat, k ≤ 2 ∧ i = .int .i64 k ∧ Below wt.heap.size wt wr) (fun i _ => 2 - (intOf i).toNat)
   case atStart => exact ⟨0, by omega, rfl, Below.refl _ _⟩
   case round =>
    obtain ⟨k, hk, rfl, hB⟩ := hrel
    have hEr := hEt.belowAll hB
    have hcb : wr.cell? ⟨w.heap.size, 1, none⟩ = some (vi eb) := (hEr.cell 1).trans (encEv_1 _ _ _ _ _ _ n)
    have hl0 : wr.cell? ⟨by_ + 1, 0, none⟩ = some (.pointer none) := ((hLt.belowAll hB).cell 0).trans rfl
    have hl1 : wr.cell? ⟨by_ + 1, 1, none⟩ = some (.pointer (some ⟨by_, 0, none⟩)) := ((hLt.belowAll hB).cell 1).trans rfl
    have hYr := hY.belowAll hB
    rcases (by omega : k = 0 ∨ k = 1 ∨ k = 2) with rfl | rfl | rfl
    ·rw [show ((0 : Nat) : Int) = 0 from rfl]
     go_wp2_with (first
      | (go_at_call 32; (with_reducible refine (worldNotes_nil _ _).mono ?_); rintro e wq ⟨rfl, rfl⟩)
      | ((with_reducible refine at_dst 174 ?_); refine wpList_loadB hEr rfl 59 _ rfl rfl (encEv ek eb et ei ep ef n) (whole_cells _) Tryz.underlying59 rfl (by kernel_rfl) ?_)
      | (go_at_call 33; (with_reducible refine (worldStep_nil _ _).mono ?_); rintro e w6 ⟨rfl, hb6⟩; have hB6 := hB.trans (hb6.mono hB.size); have hY6 := hYr.belowAll hb6; clear hb6)
      | (go_at_call 34; (with_reducible refine (worldSettle_nil _).mono ?_); rintro e wq ⟨rfl, rfl⟩)
      | (go_at_call 35; (with_reducible refine (worldMails_nil _).mono ?_); rintro e wq ⟨rfl, rfl⟩)
      | (go_at_call 36; (with_reducible refine (worldTrays_nil _).mono ?_); rintro e wq ⟨rfl, rfl⟩))
     go_roundw
     case rel => exact ⟨1, by omega, by go_num, hB6⟩
     case measure => simp [intOf]
    ·rw [show ((1 : Nat) : Int) = 1 from rfl]
     go_wp2_with (first
      | (go_at_call 32; (with_reducible refine (worldNotes_zero _ by_ _ hYr).mono ?_); rintro e wq ⟨rfl, rfl⟩)
      | ((with_reducible refine at_dst 174 ?_); refine wpList_loadB hEr rfl 59 _ rfl rfl (encEv ek eb et ei ep ef n) (whole_cells _) Tryz.underlying59 rfl (by kernel_rfl) ?_)
      | (go_at_call 33; (with_reducible refine (worldStep_zero _ by_ _ hYr).mono ?_); rintro e w6 ⟨rfl, hb6⟩; have hB6 := hB.trans (hb6.mono hB.size); have hY6 := hYr.belowAll hb6; clear hb6)
      | (go_at_call 34; (with_reducible refine (worldSettle_zero _ by_ hY6).mono ?_); rintro e wq ⟨rfl, rfl⟩)
      | (go_at_call 35; (with_reducible refine (worldMails_zero _ by_ hY6).mono ?_); rintro e wq ⟨rfl, rfl⟩)
      | (go_at_call 36; (with_reducible refine (worldTrays_zero _ by_ hY6).mono ?_); rintro e wq ⟨rfl, rfl⟩))
     go_roundw
     case rel => exact ⟨2, by omega, by go_num, hB6⟩
     case measure => simp [intOf]
    ·rw [show ((2 : Nat) : Int) = 2 from rfl]
     have hB6 := hBt.trans (hB.mono hBt.size)
     go_wp2_with (go_at_call 7; (with_reducible refine (awake_any _).mono ?_); rintro e w1 ⟨rfl, hb1⟩)
     go_ret
     exact ⟨by simp, hB6.trans (hb1.mono hB6.size)⟩
end Go.Proofs.YtnmgfnpphglphaaGreat
