/-
  The law BenchesDisks, walked.
-/
import Derived.Test.YtnmgfnpphglphaaGreatDiskW
import Derived.Test.YtnmgfnpphglphaaGreatAwake
set_option maxHeartbeats 16000000
set_option maxRecDepth 100000
set_option linter.unusedVariables false
set_option linter.unusedSimpArgs false
namespace Go.Proofs.YtnmgfnpphglphaaGreat
open Go.RowKit
structure DAct where
 kind : Int
 keep : Int
 flip : Int
 data : Sl UInt8
 note : Array Value
 na : Option Addr
 nn : Nat
 nc : Nat
 ca : Option Addr
 cn : Nat
 cc : Nat
 deriving Inhabited
def encDAct (x : DAct) : Array Value := #[vi x.kind, vi x.keep, vi x.flip, .slice x.data.a x.data.val.length x.data.cap] ++ x.note ++ #[.slice x.na x.nn x.nc, .slice x.ca x.cn x.cc]
def okDAct (D : Nat → Prop) (w : World) (x : DAct) : Prop := I64 x.keep ∧ I64 x.flip ∧ x.data.OK 1 encByte okByte D w ∧ x.note.size = 29 ∧ x.nn ≤ 4294967296 ∧ x.cn ≤ 4294967296
theorem okDAct.ext {D : Nat → Prop} {w w' : World} {x : DAct} (h : okDAct D w x) (hx : Ext D w w') : okDAct D w' x := ⟨h.1, h.2.1, Sl.OK.ext (w := w) (w' := w') (fun _ h => h) h.2.2.1 hx, h.2.2.2⟩
theorem encDAct_0 (x : DAct) : (encDAct x)[0]? = some (vi x.kind) := by unfold encDAct; rw [Array.append_assoc, Array.getElem?_append_left (by simp)]; rfl
theorem encDAct_1 (x : DAct) : (encDAct x)[1]? = some (vi x.keep) := by unfold encDAct; rw [Array.append_assoc, Array.getElem?_append_left (by simp)]; rfl
theorem encDAct_2 (x : DAct) : (encDAct x)[2]? = some (vi x.flip) := by unfold encDAct; rw [Array.append_assoc, Array.getElem?_append_left (by simp)]; rfl
theorem encDAct_3 (x : DAct) : (encDAct x)[3]? = some (.slice x.data.a x.data.val.length x.data.cap) := by unfold encDAct; rw [Array.append_assoc, Array.getElem?_append_left (by simp)]; rfl
theorem encDAct_33 (x : DAct) (h : x.note.size = 29) : (encDAct x)[33]? = some (.slice x.na x.nn x.nc) := by simp [encDAct, h, Array.getElem?_append]
theorem encDAct_34 (x : DAct) (h : x.note.size = 29) : (encDAct x)[34]? = some (.slice x.ca x.cn x.cc) := by simp [encDAct, h, Array.getElem?_append]
def sz1 (x : DAct) : Nat := x.data.val.length + x.nn + x.cn
def szA (l : List DAct) : Nat := (l.map sz1).sum
theorem szA_snoc {l : List DAct} {k : Nat} {x : DAct} (h : l[k]? = some x) : szA (l.take (k + 1)) = szA (l.take k) + sz1 x := by
 unfold szA; rw [List.take_add_one, h]; simp
theorem szA_le (l : List DAct) (k : Nat) : szA (l.take k) ≤ szA l := by
 have h : szA l = szA (l.take k) + szA (l.drop k) := by
  simp only [szA]
  rw [← List.sum_append, ← List.map_append, List.take_append_drop]
 omega
theorem szA_room {D : Nat → Prop} {w : World} : ∀ l : List DAct, (∀ x ∈ l, okDAct D w x) → szA l ≤ l.length * 12884901888
 | [], _ => by simp [szA]
 | x :: l, h => by
  have h1 := szA_room l fun y hy => h y (List.mem_cons_of_mem _ hy)
  obtain ⟨_, _, h2, _, h3, h4⟩ := h x (by simp)
  have h5 := h2.room
  simp only [szA, List.map_cons, List.sum_cons, List.length_cons, sz1] at h1 ⊢
  omega
theorem size_any (s : Sl DAct) (w : World) (hs : s.OK 35 encDAct okDAct (fun _ => False) w) (hl : s.val.length ≤ 100) :
  Calls Tryz.prog 6 #[.slice s.a s.val.length s.cap] w fun e w' => e = .returned (.int .i64 (szA s.val)) ∧ Below w.heap.size w w' := by
 have HR : Hid (∀ k, szA (s.val.take k) ≤ 1288490188800) := Lib.hid fun k => by have h1 := szA_le s.val k; have h2 := szA_room s.val hs.elem; omega
 have HS := Lib.hid hs
 clear hs
 obtain ⟨a, cap, val⟩ := s
 simp only at hl
 go_enter Tryz.func6, Tryz.ntmps6
 go_wp2
 go_loopw [3, 4] (fun n i wr => ∃ k : Nat, k ≤ val.length ∧ i = .int .i64 k ∧ n = .int .i64 (szA (val.take k)) ∧ Below w.heap.size w wr) (fun _ i _ => val.length - (intOf i).toNat)
 case atStart => exact ⟨0, Nat.zero_le _, rfl, rfl, Below.refl _ _⟩
 case round =>
  obtain ⟨k, hk, rfl, rfl, hB⟩ := hrel
  by_cases hlt : k < val.length
  ·obtain ⟨x, hx⟩ : ∃ x, val[k]? = some x := ⟨_, List.getElem?_eq_getElem hlt⟩
   have hi1 : (k : Int) < (val.length : Int) := by omega
   obtain ⟨b, o, rfl, hb, _, hok, hcell⟩ := HS.out.at hx
   have hsn := szA_snoc hx
   have hr := HR.out (k + 1)
   have hc : ∀ j, j < 35 → wr.cell? ⟨b, o + k * 35 + j, none⟩ = (encDAct x)[j]? := fun j hj => (hB.cell (p := ⟨b, o + k * 35 + j, none⟩) hb).trans (hcell j hj)
   have hc3 : wr.cell? ⟨b, o + k * 35 + 3, none⟩ = some (.slice x.data.a x.data.val.length x.data.cap) := (hc 3 (by decide)).trans (encDAct_3 x)
   have hc33 : wr.cell? ⟨b, o + k * 35 + 33, none⟩ = some (.slice x.na x.nn x.nc) := (hc 33 (by decide)).trans (encDAct_33 x hok.2.2.2.1)
   have hc34 : wr.cell? ⟨b, o + k * 35 + 34, none⟩ = some (.slice x.ca x.cn x.cc) := (hc 34 (by decide)).trans (encDAct_34 x hok.2.2.2.1)
   obtain ⟨n, hn⟩ : ∃ n, szA (val.take k) = n := ⟨_, rfl⟩
   obtain ⟨n1, hn1⟩ : ∃ n1, x.data.val.length = n1 := ⟨_, rfl⟩
   have HN : Hid (szA (val.take (k + 1)) = n + n1 + x.nn + x.cn) := Lib.hid (by rw [hsn, hn, ← hn1]; unfold sz1; omega)
   rw [hsn, hn] at hr
   unfold sz1 at hr
   rw [hn1] at hr hc3
   rw [hn]
   have k1 : IntKind.i64.wrap ((n : Int) + n1) = (n : Int) + n1 := IntWalk.i64_in _ (by omega)
   have k2 : IntKind.i64.wrap ((n : Int) + n1 + x.nn) = (n : Int) + n1 + x.nn := IntWalk.i64_in _ (by omega)
   have k3 : IntKind.i64.wrap ((n : Int) + n1 + x.nn + x.cn) = (n : Int) + n1 + x.nn + x.cn := IntWalk.i64_in _ (by omega)
   clear hsn hn hn1 hc hcell hok hx hb
   go_wp2
   go_quiet (fail)
   clear k1 k2 k3
   go_wp2
   go_roundw
   case rel => exact ⟨k + 1, by omega, by go_num, by rw [HN.out]; go_num, ⟨hB.os, hB.tape, hB.output, hB.size, hB.block⟩⟩
   case measure => simp [intOf]; omega
  ·have hk' : k = val.length := by omega
   have HV : Hid (val.take k = val) := Lib.hid (by rw [hk', List.take_length])
   have hi0 : ¬ (k : Int) < (val.length : Int) := by omega
   obtain ⟨n, hn⟩ : ∃ n, szA (val.take k) = n := ⟨_, rfl⟩
   have HN : Hid (szA val = n) := Lib.hid (by rw [← hn, HV.out])
   rw [hn]
   clear hn hk'
   go_wp2
   go_ret
   rw [HN.out]
   exact ⟨rfl, hB⟩
theorem apartD {T T' : TypeId} {B ba bb : Nat} {w w' : World} {va la vb lb va' la' : Value} {D L D2 L2 : List UInt8} (ha : DiskAt T B w ba va la D L) (hb : DiskAt T' B w bb vb lb D2 L2) (hd : ∀ q, mine ba va la q → ¬ mine bb vb lb q)
  (m : Moved ba va la w w' va' la') : DiskAt T' B w' bb vb lb D2 L2 ∧ ∀ q, mine ba va' la' q → ¬ mine bb vb lb q := by
 refine ⟨hb.kept fun q hq => m.keep q (hb.mine hq).2 fun h => hd q h hq, fun q h hq => ?_⟩
 rcases m.new q h with h1 | h1
 ·exact hd q h1 hq
 ·have := (hb.mine hq).2; omega
def Two (B : Nat) (w : World) (ba bb : Nat) (D L : List UInt8) (va la vb lb : Value) : Prop := DiskAt 61 B w ba va la D L ∧ DiskAt 107 B w bb vb lb D L ∧ ∀ q, mine ba va la q → ¬ mine bb vb lb q
theorem Two.belowAll {B : Nat} {w w' : World} {ba bb : Nat} {D L : List UInt8} {va la vb lb : Value} (h : Two B w ba bb D L va la vb lb) (hb : Below w.heap.size w w') : Two B w' ba bb D L va la vb lb := ⟨h.1.belowAll hb, h.2.1.belowAll hb, h.2.2⟩
theorem Two.both {B : Nat} {w w1 w2 : World} {ba bb : Nat} {D L D' L' : List UInt8} {va la vb lb va' la' vb' lb' : Value} (h : Two B w ba bb D L va la vb lb) (ha : DiskAt 61 B w1 ba va' la' D' L') (ma : Moved ba va la w w1 va' la')
  (hb : DiskAt 107 B w2 bb vb' lb' D' L') (mb : Moved bb vb lb w1 w2 vb' lb') : Two B w2 ba bb D' L' va' la' vb' lb' ∧ Below B w w2 := by
 obtain ⟨h1, h2⟩ := apartD h.1 h.2.1 h.2.2 ma
 obtain ⟨h3, h4⟩ := apartD h1 ha (fun q hq ha' => h2 q ha' hq) mb
 exact ⟨⟨h3, hb, fun q hq hb' => h4 q hb' hq⟩, (ma.below h.1).trans (mb.below h1)⟩
theorem Two.ref {B : Nat} {w w1 : World} {ba bb : Nat} {D L : List UInt8} {va la vb lb va' la' : Value} (h : Two B w ba bb D L va la vb lb) (ma : Moved ba va la w w1 va' la') : DiskAt 107 B w1 bb vb lb D L := (apartD h.1 h.2.1 h.2.2 ma).1
theorem Two.start (w : World) : Two w.heap.size ((w.alloc (.cells #[.slice none 0 0, .slice none 0 0] 61)).alloc (.cells #[.slice none 0 0, .slice none 0 0] 107)) w.heap.size (w.heap.size + 1) [] [] (.slice none 0 0) (.slice none 0 0) (.slice none 0 0) (.slice none 0 0) := by
 have h1 := DiskAt.new (T := 61) (B := w.heap.size) (w := w) (Nat.le_refl _)
 have h2 := DiskAt.new (T := 107) (B := w.heap.size) (w := w.alloc (.cells #[.slice none 0 0, .slice none 0 0] 61)) (by simp)
 rw [World.size_alloc] at h2
 refine ⟨h1.belowAll ((Below.refl _ _).alloc (Nat.le_refl _) _), h2, fun q hq hq2 => ?_⟩
 simp only [mine, Value.ownBlock, reduceCtorEq, or_false] at hq hq2
 omega
theorem disks_any (s : Sl DAct) (w : World) (hs : s.OK 35 encDAct okDAct (fun _ => False) w) :
  Calls Tryz.prog 3 #[.slice s.a s.val.length s.cap] w fun e w' => e = .returned (.bool true) ∧ Below w.heap.size w w' := by
 have hroom := hs.room
 have HS := Lib.hid hs
 by_cases h100 : 100 < s.val.length
 ·obtain ⟨a, cap, val⟩ := s
  simp only at hroom h100
  have h100' : (100 : Int) < (val.length : Int) := by omega
  clear hs
  go_enter Tryz.func3, Tryz.ntmps3
  go_wp2_with (go_at_call 7; (with_reducible refine (awake_any _).mono ?_); rintro e w1 ⟨rfl, hb1⟩)
  go_ret
  exact ⟨by simp, hb1⟩
 have HSZ := Lib.hid (size_any s w hs (by omega))
 obtain ⟨a, cap, val⟩ := s
 simp only at hroom h100 HSZ
 have h100' : ¬ (100 : Int) < (val.length : Int) := by omega
 obtain ⟨n, hn⟩ : ∃ n, szA val = n := ⟨_, rfl⟩
 rw [hn] at HSZ
 clear hs
 by_cases hbig : 20000 < n
 ·have hbig' : (20000 : Int) < (n : Int) := by omega
  clear hn
  go_enter Tryz.func3, Tryz.ntmps3
  go_wp2_with (first
   | (go_at_call 6; (with_reducible refine HSZ.out.mono ?_); rintro e w0 ⟨rfl, hb0⟩)
   | (go_at_call 7; (with_reducible refine (awake_any _).mono ?_); rintro e w1 ⟨rfl, hb1⟩))
  go_ret
  exact ⟨by simp, hb0.trans (hb1.mono hb0.size)⟩
 have hbig' : ¬ (20000 : Int) < (n : Int) := by omega
 have HLE : Hid (∀ k, szA (val.take k) ≤ 20000) := Lib.hid fun k => by have := szA_le val k; omega
 clear hn
 go_enter Tryz.func3, Tryz.ntmps3
 go_wp2_with (first
  | (go_at_call 6; (with_reducible refine HSZ.out.mono ?_); rintro e w0 ⟨rfl, hb0⟩)
  | (go_at_call 8; (with_reducible refine (newDisk_prog _).mono ?_); rintro e wq ⟨rfl, rfl⟩)
  | (go_at_call 9; (with_reducible refine (newDisk_ref _).mono ?_); rintro e wq ⟨rfl, rfl⟩))
 have HT0 := Lib.hid (Two.start w0)
 obtain ⟨ws, hws⟩ : ∃ ws, (w0.alloc (.cells #[.slice none 0 0, .slice none 0 0] 61)).alloc (.cells #[.slice none 0 0, .slice none 0 0] 107) = ws := ⟨_, rfl⟩
 have hb1 : Below w0.heap.size w0 ws := by rw [← hws]; exact ((Below.refl _ _).alloc (Nat.le_refl _) _).alloc (by simp) _
 rw [hws] at HT0 ⊢
 clear hws
 go_loopw [5] (fun i wr => ∃ (k : Nat) (D L : List UInt8) (va la vb lb : Value), k ≤ val.length ∧ i = .int .i64 k ∧ Hid (D.length + L.length ≤ szA (val.take k)) ∧ Hid (Two w0.heap.size wr w0.heap.size (w0.heap.size + 1) D L va la vb lb) ∧ Below w0.heap.size w0 wr) (fun i _ => val.length - (intOf i).toNat)
 case atStart => exact ⟨0, [], [], _, _, _, _, Nat.zero_le _, rfl, Lib.hid (by simp), HT0, hb1⟩
 case round =>
  obtain ⟨k, D, L, va, la, vb, lb, hk, rfl, hsz, HT, hB⟩ := hrel
  have hBw : Below w.heap.size w wr := hb0.trans (hB.mono hb0.size)
  by_cases hlt : k < val.length
  ·obtain ⟨x, hx⟩ : ∃ x, val[k]? = some x := ⟨_, List.getElem?_eq_getElem hlt⟩
   have hi1 : (k : Int) < (val.length : Int) := by omega
   obtain ⟨b, o, rfl, hb, _, hok, hcell⟩ := HS.out.at hx
   have HC : Hid (∀ W, Below w.heap.size w W → ∀ j, j < 35 → W.cell? ⟨b, o + k * 35 + j, none⟩ = (encDAct x)[j]?) := Lib.hid fun W hW j hj => (hW.cell (p := ⟨b, o + k * 35 + j, none⟩) hb).trans (hcell j hj)
   have hc0 : wr.cell? ⟨b, o + k * 35, none⟩ = some (vi x.kind) := (HC.out _ hBw 0 (by decide)).trans (encDAct_0 x)
   obtain ⟨hkp, hfl, hdat, -⟩ := hok
   have HD := Lib.hid hdat
   have hsum0 : Hid (D.length + L.length + x.data.val.length ≤ szA (val.take (k + 1))) := Lib.hid (by rw [szA_snoc hx]; have := hsz.out; unfold sz1; omega)
   have hle := HLE.out (k + 1)
   have HLK := Lib.hid hle
   have HKP := Lib.hid hkp
   have HFL := Lib.hid hfl
   have hbw := hb
   clear hx hcell hb hdat hle hkp hfl
   by_cases g0 : x.kind = 0
   ·have hc3 : wr.cell? ⟨b, o + k * 35 + 3, none⟩ = some (.slice x.data.a x.data.val.length x.data.cap) := (HC.out _ hBw 3 (by decide)).trans (encDAct_3 x)
    have hx0 : (x.kind == 0) = true := beq_iff_eq.2 g0
    have HW1 := Lib.hid (write_prog HT.out.1 x.data (okB HD.out hBw) (by have := hsum0.out; have := HLK.out; omega))
    go_wp2_with (first
     | (go_at_call 10; refine HW1.out.mono ?_; rintro e wa ⟨rfl, la', ha, ma⟩; have hBa := ma.below HT.out.1; have hc3' : wa.cell? ⟨b, o + k * 35 + 3, none⟩ = some (.slice x.data.a x.data.val.length x.data.cap) := (HC.out _ (hBw.trans (hBa.mono hb0.size)) 3 (by decide)).trans (encDAct_3 x); have HDa := Lib.hid (okB HD.out (hBw.trans (hBa.mono hb0.size))))
     | (go_at_call 11; refine (write_ref (HT.out.ref ma) x.data HDa.out (by have := hsum0.out; have := HLK.out; omega)).mono ?_; rintro e wx ⟨rfl, lb', hb', mb⟩))
    obtain ⟨h1, h2⟩ := HT.out.both ha ma hb' mb
    have HT1 := Lib.hid h1
    have hs1 : Hid (D.length + (L ++ x.data.val).length ≤ szA (val.take (k + 1))) := Lib.hid (by have := hsum0.out; rw [List.length_append]; omega)
    have HB1 : Hid (Below w0.heap.size w0 wx) := Lib.hid (hB.trans h2)
    obtain ⟨D1, hD1⟩ : ∃ D1, D = D1 := ⟨_, rfl⟩
    obtain ⟨L1, hL1⟩ : ∃ L1, (L ++ x.data.val) = L1 := ⟨_, rfl⟩
    rw [hD1, hL1] at HT1 hs1
    clear hD1 hL1 h1 h2 ha ma hb' mb HW1
    have hsum : D1.length + L1.length ≤ 1000000 := by have := hs1.out; have := HLK.out; omega
    have HTD := Lib.hid (HT1.out.belowAll (w' := wx.drew) ⟨rfl, rfl, rfl, Nat.le_refl _, fun _ _ => rfl⟩)
    go_wp2
    refine wp_region_ord [(0, true), (1, true), (2, true), (3, true), (4, true), (6, true), (5, false), (7, false), (8, true), (9, true), (10, true), (11, true), (14, true), (12, false), (13, true), (15, false), (16, true), (17, true), (18, true)] rfl (by kernel_rfl) (by kernel_rfl) (fun d _ _ _ _ h => by cases d <;> exact h) ?_
    iterate 6 (refine wpB_fix rfl rfl (fun W hW => by go_simp; with_reducible rfl) ?_; simp only [pTs, pTn, pTz, pTc])
    refine wpB_act rfl rfl (fun K hK => ?_)
    go_simp
    refine (pending_prog (HTD).out.1).mono ?_
    rintro e w2 ⟨rfl, rfl⟩
    refine hK _ _ (Below.refl _ _) ?_
    clear hK K
    try simp only [pTs, pTn, pTz, pTc]
    refine wpB_act rfl rfl (fun K hK => ?_)
    go_simp
    refine (pending_ref (HTD).out.2.1).mono ?_
    rintro e w2 ⟨rfl, rfl⟩
    refine hK _ _ (Below.refl _ _) ?_
    clear hK K
    try simp only [pTs, pTn, pTz, pTc]
    refine wpB_fix (v := .bool false) rfl rfl (fun W hW => by go_simp) ?_; simp only [pTs, pTn, pTz, pTc]
    iterate 4 (refine wpB_fix rfl rfl (fun W hW => by go_simp; with_reducible rfl) ?_; simp only [pTs, pTn, pTz, pTc])
    refine wpB_act rfl rfl (fun K hK => ?_)
    go_simp
    refine (read_prog HTD.out.1 hsum).mono ?_
    rintro e w3 ⟨va3, rfl, ho3, hb3⟩
    obtain ⟨a3, c3, rfl, hk3⟩ := ho3.sl3 (l := D1 ++ L1) rfl (by rw [List.length_append]; omega)
    have HK3 := Lib.hid hk3
    have HN3 : Hid ((D1 ++ L1).length = (D1 ++ L1).length) := Lib.hid rfl
    obtain ⟨n3, hn3⟩ : ∃ n, (D1 ++ L1).length = n := ⟨_, rfl⟩
    rw [hn3]
    have HN3 := Lib.hid hn3
    clear hn3 ho3 hk3
    refine hK _ _ hb3 ?_
    clear hK K
    try simp only [pTs, pTn, pTz, pTc]
    refine wpB_fix (v := .string (strB (D1 ++ L1))) rfl rfl (fun W hW => by have e : (convert 30 9 (.slice a3 n3 c3)).run Tryz.prog W = .ok (.string (strB (D1 ++ L1))) W := by { have e := run_str (s := ⟨a3, c3, D1 ++ L1⟩) (okSl.ext HK3.out (.of_below hW)); rw [HN3.out] at e; exact e }; go_simp) ?_; simp only [pTs, pTn, pTz, pTc]
    refine wpB_act rfl rfl (fun K hK => ?_)
    go_simp
    refine (read_ref (HTD.out.belowAll hb3).2.1 hsum).mono ?_
    rintro e w4 ⟨va4, rfl, ho4, hb4⟩
    obtain ⟨a4, c4, rfl, hk4⟩ := ho4.sl3 (l := D1 ++ L1) HN3.out (by rw [← HN3.out, List.length_append]; omega)
    have HK4 := Lib.hid hk4
    clear ho4 hk4
    refine hK _ _ hb4 ?_
    clear hK K
    try simp only [pTs, pTn, pTz, pTc]
    refine wpB_fix (v := .string (strB (D1 ++ L1))) rfl rfl (fun W hW => by have e : (convert 30 9 (.slice a4 n3 c4)).run Tryz.prog W = .ok (.string (strB (D1 ++ L1))) W := by { have e := run_str (s := ⟨a4, c4, D1 ++ L1⟩) (okSl.ext HK4.out (.of_below hW)); rw [HN3.out] at e; exact e }; go_simp) ?_; simp only [pTs, pTn, pTz, pTc]
    refine wpB_fix (v := .bool false) rfl rfl (fun W hW => by go_simp) ?_; simp only [pTs, pTn, pTz, pTc]
    refine wpB_fix rfl rfl (fun W hW => by go_simp; with_reducible rfl) ?_; simp only [pTs, pTn, pTz, pTc]
    simp only [wpB]
    go_wp2
    go_roundw
    case rel =>
     have hb34 := hb3.trans (hb4.mono hb3.size)
     exact ⟨k + 1, D1, L1, _, _, _, _, by omega, by go_num, hs1, Lib.hid (HTD.out.belowAll hb34), HB1.out.drew.trans (hb34.mono HB1.out.size)⟩
    case measure => simp [intOf]; omega
   by_cases g1 : x.kind = 1
   ·have hx0 : (x.kind == 0) = false := beq_eq_false_iff_ne.2 g0
    have hx1 : (x.kind == 1) = true := beq_iff_eq.2 g1
    have HW1 := Lib.hid (sync_prog HT.out.1 (by have := hsum0.out; have := HLK.out; omega))
    go_wp2_with (first
     | (go_at_call 12; refine HW1.out.mono ?_; rintro e wa ⟨rfl, va', ha, ma⟩)
     | (go_at_call 13; refine (sync_ref (HT.out.ref ma) (by have := hsum0.out; have := HLK.out; omega)).mono ?_; rintro e wx ⟨rfl, vb', hb', mb⟩))
    obtain ⟨h1, h2⟩ := HT.out.both ha ma hb' mb
    have HT1 := Lib.hid h1
    have hs1 : Hid ((D ++ L).length + ([] : List UInt8).length ≤ szA (val.take (k + 1))) := Lib.hid (by have := hsum0.out; rw [List.length_append]; simp only [List.length_nil]; omega)
    have HB1 : Hid (Below w0.heap.size w0 wx) := Lib.hid (hB.trans h2)
    obtain ⟨D1, hD1⟩ : ∃ D1, (D ++ L) = D1 := ⟨_, rfl⟩
    obtain ⟨L1, hL1⟩ : ∃ L1, ([] : List UInt8) = L1 := ⟨_, rfl⟩
    rw [hD1, hL1] at HT1 hs1
    clear hD1 hL1 h1 h2 ha ma hb' mb HW1
    have hsum : D1.length + L1.length ≤ 1000000 := by have := hs1.out; have := HLK.out; omega
    have HTD := Lib.hid (HT1.out.belowAll (w' := wx.drew) ⟨rfl, rfl, rfl, Nat.le_refl _, fun _ _ => rfl⟩)
    go_wp2
    refine wp_region_ord [(0, true), (1, true), (2, true), (3, true), (4, true), (6, true), (5, false), (7, false), (8, true), (9, true), (10, true), (11, true), (14, true), (12, false), (13, true), (15, false), (16, true), (17, true), (18, true)] rfl (by kernel_rfl) (by kernel_rfl) (fun d _ _ _ _ h => by cases d <;> exact h) ?_
    iterate 6 (refine wpB_fix rfl rfl (fun W hW => by go_simp; with_reducible rfl) ?_; simp only [pTs, pTn, pTz, pTc])
    refine wpB_act rfl rfl (fun K hK => ?_)
    go_simp
    refine (pending_prog (HTD).out.1).mono ?_
    rintro e w2 ⟨rfl, rfl⟩
    refine hK _ _ (Below.refl _ _) ?_
    clear hK K
    try simp only [pTs, pTn, pTz, pTc]
    refine wpB_act rfl rfl (fun K hK => ?_)
    go_simp
    refine (pending_ref (HTD).out.2.1).mono ?_
    rintro e w2 ⟨rfl, rfl⟩
    refine hK _ _ (Below.refl _ _) ?_
    clear hK K
    try simp only [pTs, pTn, pTz, pTc]
    refine wpB_fix (v := .bool false) rfl rfl (fun W hW => by go_simp) ?_; simp only [pTs, pTn, pTz, pTc]
    iterate 4 (refine wpB_fix rfl rfl (fun W hW => by go_simp; with_reducible rfl) ?_; simp only [pTs, pTn, pTz, pTc])
    refine wpB_act rfl rfl (fun K hK => ?_)
    go_simp
    refine (read_prog HTD.out.1 hsum).mono ?_
    rintro e w3 ⟨va3, rfl, ho3, hb3⟩
    obtain ⟨a3, c3, rfl, hk3⟩ := ho3.sl3 (l := D1 ++ L1) rfl (by rw [List.length_append]; omega)
    have HK3 := Lib.hid hk3
    have HN3 : Hid ((D1 ++ L1).length = (D1 ++ L1).length) := Lib.hid rfl
    obtain ⟨n3, hn3⟩ : ∃ n, (D1 ++ L1).length = n := ⟨_, rfl⟩
    rw [hn3]
    have HN3 := Lib.hid hn3
    clear hn3 ho3 hk3
    refine hK _ _ hb3 ?_
    clear hK K
    try simp only [pTs, pTn, pTz, pTc]
    refine wpB_fix (v := .string (strB (D1 ++ L1))) rfl rfl (fun W hW => by have e : (convert 30 9 (.slice a3 n3 c3)).run Tryz.prog W = .ok (.string (strB (D1 ++ L1))) W := by { have e := run_str (s := ⟨a3, c3, D1 ++ L1⟩) (okSl.ext HK3.out (.of_below hW)); rw [HN3.out] at e; exact e }; go_simp) ?_; simp only [pTs, pTn, pTz, pTc]
    refine wpB_act rfl rfl (fun K hK => ?_)
    go_simp
    refine (read_ref (HTD.out.belowAll hb3).2.1 hsum).mono ?_
    rintro e w4 ⟨va4, rfl, ho4, hb4⟩
    obtain ⟨a4, c4, rfl, hk4⟩ := ho4.sl3 (l := D1 ++ L1) HN3.out (by rw [← HN3.out, List.length_append]; omega)
    have HK4 := Lib.hid hk4
    clear ho4 hk4
    refine hK _ _ hb4 ?_
    clear hK K
    try simp only [pTs, pTn, pTz, pTc]
    refine wpB_fix (v := .string (strB (D1 ++ L1))) rfl rfl (fun W hW => by have e : (convert 30 9 (.slice a4 n3 c4)).run Tryz.prog W = .ok (.string (strB (D1 ++ L1))) W := by { have e := run_str (s := ⟨a4, c4, D1 ++ L1⟩) (okSl.ext HK4.out (.of_below hW)); rw [HN3.out] at e; exact e }; go_simp) ?_; simp only [pTs, pTn, pTz, pTc]
    refine wpB_fix (v := .bool false) rfl rfl (fun W hW => by go_simp) ?_; simp only [pTs, pTn, pTz, pTc]
    refine wpB_fix rfl rfl (fun W hW => by go_simp; with_reducible rfl) ?_; simp only [pTs, pTn, pTz, pTc]
    simp only [wpB]
    go_wp2
    go_roundw
    case rel =>
     have hb34 := hb3.trans (hb4.mono hb3.size)
     exact ⟨k + 1, D1, L1, _, _, _, _, by omega, by go_num, hs1, Lib.hid (HTD.out.belowAll hb34), HB1.out.drew.trans (hb34.mono HB1.out.size)⟩
    case measure => simp [intOf]; omega
   by_cases g2 : x.kind = 2
   ·have hx0 : (x.kind == 0) = false := beq_eq_false_iff_ne.2 g0
    have hx1 : (x.kind == 1) = false := beq_eq_false_iff_ne.2 g1
    have hx2 : (x.kind == 2) = true := beq_iff_eq.2 g2
    have hdn : Below wr.heap.size wr wr.drew := ⟨rfl, rfl, rfl, Nat.le_refl _, fun _ _ => rfl⟩
    have HTd := HT.out.belowAll hdn
    have hl1 : b < wr.drew.heap.size := Nat.lt_of_lt_of_le hbw hBw.size
    have hc1 : wr.cell? ⟨b, o + k * 35 + 1, none⟩ = some (vi x.keep) := (HC.out _ hBw 1 (by decide)).trans (encDAct_1 x)
    have hc2 : wr.cell? ⟨b, o + k * 35 + 2, none⟩ = some (vi x.flip) := (HC.out _ hBw 2 (by decide)).trans (encDAct_2 x)
    rcases hbad : badCrash L x.keep x.flip
    ·have HW1 := Lib.hid (fun (W : World) (hW : Below wr.heap.size wr W) => crash_prog_ok (HT.out.belowAll hW).1 (by have := hsum0.out; have := HLK.out; omega) x.keep x.flip HKP.out HFL.out hbad)
     have HW2 := Lib.hid (fun (W : World) (h : DiskAt 107 w0.heap.size W (w0.heap.size + 1) vb lb D L) => crash_ref_ok h (by have := hsum0.out; have := HLK.out; omega) x.keep x.flip HKP.out HFL.out hbad)
     clear hbad
     go_wp2
     refine wp_region_mark 11 [(0, none), (1, none), (2, none), (3, none), (4, none), (6, none), (7, none), (8, none), (9, none), (5, some true), (10, some true), (11, some false), (12, some false)] rfl (by kernel_rfl) (by kernel_rfl) (fun d _ _ _ _ h => by cases d <;> exact h) ?_
     iterate 9 (refine wpC_pure rfl rfl (fun W => by go_simp; with_reducible rfl) ?_; simp only [pTs, pTn, pTz, pTc])
     refine wpC_fix (v := .int .i64 x.keep) rfl rfl (fun W hW => by have e := (hW.cell (p := ⟨b, o + k * 35 + 1, none⟩) hl1).trans hc1; go_simp) ?_; simp only [pTs, pTn, pTz, pTc]
     refine wpC_fix (v := .int .i64 x.flip) rfl rfl (fun W hW => by have e := (hW.cell (p := ⟨b, o + k * 35 + 2, none⟩) hl1).trans hc2; go_simp) ?_; simp only [pTs, pTn, pTz, pTc]
     refine wpC_mark rfl rfl (fun K hK => ?_)
     go_simp
     refine (HW1.out wr.drew hdn).mono ?_
     rintro e wa ⟨rfl, va', ha, ma⟩
     refine hK _ _ ?_
     clear hK K
     try simp only [pTs, pTn, pTz, pTc]
     refine wpC_past rfl rfl (fun K hK => ?_)
     go_simp
     refine hK _ _ ?_
     clear hK K
     try simp only [pTs, pTn, pTz, pTc]
     simp only [wpC]
     have hdn2 : Below wa.heap.size wa wa.drew := ⟨rfl, rfl, rfl, Nat.le_refl _, fun _ _ => rfl⟩
     have ha2 := ha.belowAll hdn2
     have ma2 := ma.trans (Moved.of_below hdn2)
     have hBa := (hBw.trans (hdn.mono hBw.size)).trans ((ma2.below HTd.1).mono hb0.size)
     have hc1' : wa.drew.cell? ⟨b, o + k * 35 + 1, none⟩ = some (.int .i64 x.keep) := (HC.out _ hBa 1 (by decide)).trans (encDAct_1 x)
     have hc2' : wa.drew.cell? ⟨b, o + k * 35 + 2, none⟩ = some (.int .i64 x.flip) := (HC.out _ hBa 2 (by decide)).trans (encDAct_2 x)
     have hl2 : b < wa.drew.heap.size := Nat.lt_of_lt_of_le hbw hBa.size
     go_wp2
     refine wp_region_mark 11 [(0, none), (1, none), (2, none), (3, none), (4, none), (6, none), (7, none), (8, none), (9, none), (5, some true), (10, some true), (11, some false), (12, some false)] rfl (by kernel_rfl) (by kernel_rfl) (fun d _ _ _ _ h => by cases d <;> exact h) ?_
     iterate 9 (refine wpC_pure rfl rfl (fun W => by go_simp; with_reducible rfl) ?_; simp only [pTs, pTn, pTz, pTc])
     refine wpC_fix (v := .int .i64 x.keep) rfl rfl (fun W hW => by have e := (hW.cell (p := ⟨b, o + k * 35 + 1, none⟩) hl2).trans hc1'; go_simp) ?_; simp only [pTs, pTn, pTz, pTc]
     refine wpC_fix (v := .int .i64 x.flip) rfl rfl (fun W hW => by have e := (hW.cell (p := ⟨b, o + k * 35 + 2, none⟩) hl2).trans hc2'; go_simp) ?_; simp only [pTs, pTn, pTz, pTc]
     refine wpC_mark rfl rfl (fun K hK => ?_)
     go_simp
     refine (HW2.out wa.drew (HTd.ref ma2)).mono ?_
     rintro e wx ⟨rfl, vb', hb', mb⟩
     refine hK _ _ ?_
     clear hK K
     try simp only [pTs, pTn, pTz, pTc]
     refine wpC_past rfl rfl (fun K hK => ?_)
     go_simp
     refine hK _ _ ?_
     clear hK K
     try simp only [pTs, pTn, pTz, pTc]
     simp only [wpC]
     obtain ⟨h1, h2⟩ := HTd.both ha2 ma2 hb' mb
     have hB := hB.drew
     have HT1 := Lib.hid h1
     have hs1 : Hid ((D ++ flipAt (L.take x.keep.toNat) x.flip).length + ([] : List UInt8).length ≤ szA (val.take (k + 1))) := Lib.hid (by have := hsum0.out; rw [List.length_append, flipAt_length, List.length_take]; simp only [List.length_nil]; omega)
     have HB1 : Hid (Below w0.heap.size w0 wx) := Lib.hid (hB.trans h2)
     obtain ⟨D1, hD1⟩ : ∃ D1, (D ++ flipAt (L.take x.keep.toNat) x.flip) = D1 := ⟨_, rfl⟩
     obtain ⟨L1, hL1⟩ : ∃ L1, ([] : List UInt8) = L1 := ⟨_, rfl⟩
     rw [hD1, hL1] at HT1 hs1
     clear hD1 hL1 h1 h2 ha ma ha2 ma2 hb' mb HW1 HW2 HTd hBa hc1 hc2 hc1' hc2' hl1 hl2
     have hsum : D1.length + L1.length ≤ 1000000 := by have := hs1.out; have := HLK.out; omega
     have HTD := Lib.hid (HT1.out.belowAll (w' := wx.drew) ⟨rfl, rfl, rfl, Nat.le_refl _, fun _ _ => rfl⟩)
     go_wp2
     refine wp_region_ord [(0, true), (1, true), (2, true), (3, true), (4, true), (6, true), (5, false), (7, false), (8, true), (9, true), (10, true), (11, true), (14, true), (12, false), (13, true), (15, false), (16, true), (17, true), (18, true)] rfl (by kernel_rfl) (by kernel_rfl) (fun d _ _ _ _ h => by cases d <;> exact h) ?_
     iterate 6 (refine wpB_fix rfl rfl (fun W hW => by go_simp; with_reducible rfl) ?_; simp only [pTs, pTn, pTz, pTc])
     refine wpB_act rfl rfl (fun K hK => ?_)
     go_simp
     refine (pending_prog (HTD).out.1).mono ?_
     rintro e w2 ⟨rfl, rfl⟩
     refine hK _ _ (Below.refl _ _) ?_
     clear hK K
     try simp only [pTs, pTn, pTz, pTc]
     refine wpB_act rfl rfl (fun K hK => ?_)
     go_simp
     refine (pending_ref (HTD).out.2.1).mono ?_
     rintro e w2 ⟨rfl, rfl⟩
     refine hK _ _ (Below.refl _ _) ?_
     clear hK K
     try simp only [pTs, pTn, pTz, pTc]
     refine wpB_fix (v := .bool false) rfl rfl (fun W hW => by go_simp) ?_; simp only [pTs, pTn, pTz, pTc]
     iterate 4 (refine wpB_fix rfl rfl (fun W hW => by go_simp; with_reducible rfl) ?_; simp only [pTs, pTn, pTz, pTc])
     refine wpB_act rfl rfl (fun K hK => ?_)
     go_simp
     refine (read_prog HTD.out.1 hsum).mono ?_
     rintro e w3 ⟨va3, rfl, ho3, hb3⟩
     obtain ⟨a3, c3, rfl, hk3⟩ := ho3.sl3 (l := D1 ++ L1) rfl (by rw [List.length_append]; omega)
     have HK3 := Lib.hid hk3
     have HN3 : Hid ((D1 ++ L1).length = (D1 ++ L1).length) := Lib.hid rfl
     obtain ⟨n3, hn3⟩ : ∃ n, (D1 ++ L1).length = n := ⟨_, rfl⟩
     rw [hn3]
     have HN3 := Lib.hid hn3
     clear hn3 ho3 hk3
     refine hK _ _ hb3 ?_
     clear hK K
     try simp only [pTs, pTn, pTz, pTc]
     refine wpB_fix (v := .string (strB (D1 ++ L1))) rfl rfl (fun W hW => by have e : (convert 30 9 (.slice a3 n3 c3)).run Tryz.prog W = .ok (.string (strB (D1 ++ L1))) W := by { have e := run_str (s := ⟨a3, c3, D1 ++ L1⟩) (okSl.ext HK3.out (.of_below hW)); rw [HN3.out] at e; exact e }; go_simp) ?_; simp only [pTs, pTn, pTz, pTc]
     refine wpB_act rfl rfl (fun K hK => ?_)
     go_simp
     refine (read_ref (HTD.out.belowAll hb3).2.1 hsum).mono ?_
     rintro e w4 ⟨va4, rfl, ho4, hb4⟩
     obtain ⟨a4, c4, rfl, hk4⟩ := ho4.sl3 (l := D1 ++ L1) HN3.out (by rw [← HN3.out, List.length_append]; omega)
     have HK4 := Lib.hid hk4
     clear ho4 hk4
     refine hK _ _ hb4 ?_
     clear hK K
     try simp only [pTs, pTn, pTz, pTc]
     refine wpB_fix (v := .string (strB (D1 ++ L1))) rfl rfl (fun W hW => by have e : (convert 30 9 (.slice a4 n3 c4)).run Tryz.prog W = .ok (.string (strB (D1 ++ L1))) W := by { have e := run_str (s := ⟨a4, c4, D1 ++ L1⟩) (okSl.ext HK4.out (.of_below hW)); rw [HN3.out] at e; exact e }; go_simp) ?_; simp only [pTs, pTn, pTz, pTc]
     refine wpB_fix (v := .bool false) rfl rfl (fun W hW => by go_simp) ?_; simp only [pTs, pTn, pTz, pTc]
     refine wpB_fix rfl rfl (fun W hW => by go_simp; with_reducible rfl) ?_; simp only [pTs, pTn, pTz, pTc]
     simp only [wpB]
     go_wp2
     go_roundw
     case rel =>
      have hb34 := hb3.trans (hb4.mono hb3.size)
      exact ⟨k + 1, D1, L1, _, _, _, _, by omega, by go_num, hs1, Lib.hid (HTD.out.belowAll hb34), HB1.out.drew.trans (hb34.mono HB1.out.size)⟩
     case measure => simp [intOf]; omega
    ·have HW1 := Lib.hid (fun (W : World) (hW : Below wr.heap.size wr W) => crash_prog_bad (HT.out.belowAll hW).1 (by have := hsum0.out; have := HLK.out; omega) x.keep x.flip HKP.out HFL.out hbad)
     have HW2 := Lib.hid (fun (W : World) (hW : Below wr.heap.size wr W) => crash_ref_bad (HT.out.belowAll hW).2.1 (by have := hsum0.out; have := HLK.out; omega) x.keep x.flip HKP.out HFL.out hbad)
     clear hbad
     go_wp2
     refine wp_region_mark 11 [(0, none), (1, none), (2, none), (3, none), (4, none), (6, none), (7, none), (8, none), (9, none), (5, some true), (10, some true), (11, some false), (12, some false)] rfl (by kernel_rfl) (by kernel_rfl) (fun d _ _ _ _ h => by cases d <;> exact h) ?_
     iterate 9 (refine wpC_pure rfl rfl (fun W => by go_simp; with_reducible rfl) ?_; simp only [pTs, pTn, pTz, pTc])
     refine wpC_fix (v := .int .i64 x.keep) rfl rfl (fun W hW => by have e := (hW.cell (p := ⟨b, o + k * 35 + 1, none⟩) hl1).trans hc1; go_simp) ?_; simp only [pTs, pTn, pTz, pTc]
     refine wpC_fix (v := .int .i64 x.flip) rfl rfl (fun W hW => by have e := (hW.cell (p := ⟨b, o + k * 35 + 2, none⟩) hl1).trans hc2; go_simp) ?_; simp only [pTs, pTn, pTz, pTc]
     refine wpC_mark rfl rfl (fun K hK => ?_)
     go_simp
     refine (HW1.out wr.drew hdn).mono ?_
     rintro e wz ⟨rfl, rfl⟩
     refine hK _ _ ?_
     clear hK K
     try simp only [pTs, pTn, pTz, pTc]
     refine wpC_past rfl rfl (fun K hK => ?_)
     go_simp
     refine hK _ _ ?_
     clear hK K
     try simp only [pTs, pTn, pTz, pTc]
     simp only [wpC]
     go_wp2
     refine wp_region_mark 11 [(0, none), (1, none), (2, none), (3, none), (4, none), (6, none), (7, none), (8, none), (9, none), (5, some true), (10, some true), (11, some false), (12, some false)] rfl (by kernel_rfl) (by kernel_rfl) (fun d _ _ _ _ h => by cases d <;> exact h) ?_
     iterate 9 (refine wpC_pure rfl rfl (fun W => by go_simp; with_reducible rfl) ?_; simp only [pTs, pTn, pTz, pTc])
     refine wpC_fix (v := .int .i64 x.keep) rfl rfl (fun W hW => by have e := (hW.cell (p := ⟨b, o + k * 35 + 1, none⟩) hl1).trans hc1; go_simp) ?_; simp only [pTs, pTn, pTz, pTc]
     refine wpC_fix (v := .int .i64 x.flip) rfl rfl (fun W hW => by have e := (hW.cell (p := ⟨b, o + k * 35 + 2, none⟩) hl1).trans hc2; go_simp) ?_; simp only [pTs, pTn, pTz, pTc]
     refine wpC_mark rfl rfl (fun K hK => ?_)
     go_simp
     refine (HW2.out wr.drew.drew ⟨rfl, rfl, rfl, Nat.le_refl _, fun _ _ => rfl⟩).mono ?_
     rintro e wz ⟨rfl, rfl⟩
     refine hK _ _ ?_
     clear hK K
     try simp only [pTs, pTn, pTz, pTc]
     refine wpC_past rfl rfl (fun K hK => ?_)
     go_simp
     refine hK _ _ ?_
     clear hK K
     try simp only [pTs, pTn, pTz, pTc]
     simp only [wpC]
     obtain ⟨wx, hwx⟩ : ∃ wx, wr.drew.drew = wx := ⟨_, rfl⟩
     rw [hwx]
     have HT1 : Hid (Two w0.heap.size wx w0.heap.size (w0.heap.size + 1) D L va la vb lb) := Lib.hid (by rw [← hwx]; exact HT.out.belowAll ⟨rfl, rfl, rfl, Nat.le_refl _, fun _ _ => rfl⟩)
     have h2 : Below w0.heap.size wr wx := by rw [← hwx]; exact ⟨rfl, rfl, rfl, Nat.le_refl _, fun _ _ => rfl⟩
     have hs1 : Hid (D.length + L.length ≤ szA (val.take (k + 1))) := Lib.hid (by have := hsum0.out; omega)
     clear hwx
     have HB1 : Hid (Below w0.heap.size w0 wx) := Lib.hid (hB.trans h2)
     obtain ⟨D1, hD1⟩ : ∃ D1, D = D1 := ⟨_, rfl⟩
     obtain ⟨L1, hL1⟩ : ∃ L1, L = L1 := ⟨_, rfl⟩
     rw [hD1, hL1] at HT1 hs1
     clear hD1 hL1 h2 HW1 HW2 hc1 hc2 hl1 HTd
     have hsum : D1.length + L1.length ≤ 1000000 := by have := hs1.out; have := HLK.out; omega
     have HTD := Lib.hid (HT1.out.belowAll (w' := wx.drew) ⟨rfl, rfl, rfl, Nat.le_refl _, fun _ _ => rfl⟩)
     go_wp2
     refine wp_region_ord [(0, true), (1, true), (2, true), (3, true), (4, true), (6, true), (5, false), (7, false), (8, true), (9, true), (10, true), (11, true), (14, true), (12, false), (13, true), (15, false), (16, true), (17, true), (18, true)] rfl (by kernel_rfl) (by kernel_rfl) (fun d _ _ _ _ h => by cases d <;> exact h) ?_
     iterate 6 (refine wpB_fix rfl rfl (fun W hW => by go_simp; with_reducible rfl) ?_; simp only [pTs, pTn, pTz, pTc])
     refine wpB_act rfl rfl (fun K hK => ?_)
     go_simp
     refine (pending_prog (HTD).out.1).mono ?_
     rintro e w2 ⟨rfl, rfl⟩
     refine hK _ _ (Below.refl _ _) ?_
     clear hK K
     try simp only [pTs, pTn, pTz, pTc]
     refine wpB_act rfl rfl (fun K hK => ?_)
     go_simp
     refine (pending_ref (HTD).out.2.1).mono ?_
     rintro e w2 ⟨rfl, rfl⟩
     refine hK _ _ (Below.refl _ _) ?_
     clear hK K
     try simp only [pTs, pTn, pTz, pTc]
     refine wpB_fix (v := .bool false) rfl rfl (fun W hW => by go_simp) ?_; simp only [pTs, pTn, pTz, pTc]
     iterate 4 (refine wpB_fix rfl rfl (fun W hW => by go_simp; with_reducible rfl) ?_; simp only [pTs, pTn, pTz, pTc])
     refine wpB_act rfl rfl (fun K hK => ?_)
     go_simp
     refine (read_prog HTD.out.1 hsum).mono ?_
     rintro e w3 ⟨va3, rfl, ho3, hb3⟩
     obtain ⟨a3, c3, rfl, hk3⟩ := ho3.sl3 (l := D1 ++ L1) rfl (by rw [List.length_append]; omega)
     have HK3 := Lib.hid hk3
     have HN3 : Hid ((D1 ++ L1).length = (D1 ++ L1).length) := Lib.hid rfl
     obtain ⟨n3, hn3⟩ : ∃ n, (D1 ++ L1).length = n := ⟨_, rfl⟩
     rw [hn3]
     have HN3 := Lib.hid hn3
     clear hn3 ho3 hk3
     refine hK _ _ hb3 ?_
     clear hK K
     try simp only [pTs, pTn, pTz, pTc]
     refine wpB_fix (v := .string (strB (D1 ++ L1))) rfl rfl (fun W hW => by have e : (convert 30 9 (.slice a3 n3 c3)).run Tryz.prog W = .ok (.string (strB (D1 ++ L1))) W := by { have e := run_str (s := ⟨a3, c3, D1 ++ L1⟩) (okSl.ext HK3.out (.of_below hW)); rw [HN3.out] at e; exact e }; go_simp) ?_; simp only [pTs, pTn, pTz, pTc]
     refine wpB_act rfl rfl (fun K hK => ?_)
     go_simp
     refine (read_ref (HTD.out.belowAll hb3).2.1 hsum).mono ?_
     rintro e w4 ⟨va4, rfl, ho4, hb4⟩
     obtain ⟨a4, c4, rfl, hk4⟩ := ho4.sl3 (l := D1 ++ L1) HN3.out (by rw [← HN3.out, List.length_append]; omega)
     have HK4 := Lib.hid hk4
     clear ho4 hk4
     refine hK _ _ hb4 ?_
     clear hK K
     try simp only [pTs, pTn, pTz, pTc]
     refine wpB_fix (v := .string (strB (D1 ++ L1))) rfl rfl (fun W hW => by have e : (convert 30 9 (.slice a4 n3 c4)).run Tryz.prog W = .ok (.string (strB (D1 ++ L1))) W := by { have e := run_str (s := ⟨a4, c4, D1 ++ L1⟩) (okSl.ext HK4.out (.of_below hW)); rw [HN3.out] at e; exact e }; go_simp) ?_; simp only [pTs, pTn, pTz, pTc]
     refine wpB_fix (v := .bool false) rfl rfl (fun W hW => by go_simp) ?_; simp only [pTs, pTn, pTz, pTc]
     refine wpB_fix rfl rfl (fun W hW => by go_simp; with_reducible rfl) ?_; simp only [pTs, pTn, pTz, pTc]
     simp only [wpB]
     go_wp2
     go_roundw
     case rel =>
      have hb34 := hb3.trans (hb4.mono hb3.size)
      exact ⟨k + 1, D1, L1, _, _, _, _, by omega, by go_num, hs1, Lib.hid (HTD.out.belowAll hb34), HB1.out.drew.trans (hb34.mono HB1.out.size)⟩
     case measure => simp [intOf]; omega
   ·have hx0 : (x.kind == 0) = false := beq_eq_false_iff_ne.2 g0
    have hx1 : (x.kind == 1) = false := beq_eq_false_iff_ne.2 g1
    have hx2 : (x.kind == 2) = false := beq_eq_false_iff_ne.2 g2
    obtain ⟨wx, rfl⟩ : ∃ wx, wx = wr := ⟨_, rfl⟩
    have HT1 := HT
    have h2 : Below w0.heap.size wx wx := Below.refl _ _
    have hs1 : Hid (D.length + L.length ≤ szA (val.take (k + 1))) := Lib.hid (by have := hsum0.out; omega)
    go_wp2
    have HB1 : Hid (Below w0.heap.size w0 wx) := Lib.hid (hB.trans h2)
    obtain ⟨D1, hD1⟩ : ∃ D1, D = D1 := ⟨_, rfl⟩
    obtain ⟨L1, hL1⟩ : ∃ L1, L = L1 := ⟨_, rfl⟩
    rw [hD1, hL1] at HT1 hs1
    clear hD1 hL1 h2
    have hsum : D1.length + L1.length ≤ 1000000 := by have := hs1.out; have := HLK.out; omega
    have HTD := Lib.hid (HT1.out.belowAll (w' := wx.drew) ⟨rfl, rfl, rfl, Nat.le_refl _, fun _ _ => rfl⟩)
    go_wp2
    refine wp_region_ord [(0, true), (1, true), (2, true), (3, true), (4, true), (6, true), (5, false), (7, false), (8, true), (9, true), (10, true), (11, true), (14, true), (12, false), (13, true), (15, false), (16, true), (17, true), (18, true)] rfl (by kernel_rfl) (by kernel_rfl) (fun d _ _ _ _ h => by cases d <;> exact h) ?_
    iterate 6 (refine wpB_fix rfl rfl (fun W hW => by go_simp; with_reducible rfl) ?_; simp only [pTs, pTn, pTz, pTc])
    refine wpB_act rfl rfl (fun K hK => ?_)
    go_simp
    refine (pending_prog (HTD).out.1).mono ?_
    rintro e w2 ⟨rfl, rfl⟩
    refine hK _ _ (Below.refl _ _) ?_
    clear hK K
    try simp only [pTs, pTn, pTz, pTc]
    refine wpB_act rfl rfl (fun K hK => ?_)
    go_simp
    refine (pending_ref (HTD).out.2.1).mono ?_
    rintro e w2 ⟨rfl, rfl⟩
    refine hK _ _ (Below.refl _ _) ?_
    clear hK K
    try simp only [pTs, pTn, pTz, pTc]
    refine wpB_fix (v := .bool false) rfl rfl (fun W hW => by go_simp) ?_; simp only [pTs, pTn, pTz, pTc]
    iterate 4 (refine wpB_fix rfl rfl (fun W hW => by go_simp; with_reducible rfl) ?_; simp only [pTs, pTn, pTz, pTc])
    refine wpB_act rfl rfl (fun K hK => ?_)
    go_simp
    refine (read_prog HTD.out.1 hsum).mono ?_
    rintro e w3 ⟨va3, rfl, ho3, hb3⟩
    obtain ⟨a3, c3, rfl, hk3⟩ := ho3.sl3 (l := D1 ++ L1) rfl (by rw [List.length_append]; omega)
    have HK3 := Lib.hid hk3
    have HN3 : Hid ((D1 ++ L1).length = (D1 ++ L1).length) := Lib.hid rfl
    obtain ⟨n3, hn3⟩ : ∃ n, (D1 ++ L1).length = n := ⟨_, rfl⟩
    rw [hn3]
    have HN3 := Lib.hid hn3
    clear hn3 ho3 hk3
    refine hK _ _ hb3 ?_
    clear hK K
    try simp only [pTs, pTn, pTz, pTc]
    refine wpB_fix (v := .string (strB (D1 ++ L1))) rfl rfl (fun W hW => by have e : (convert 30 9 (.slice a3 n3 c3)).run Tryz.prog W = .ok (.string (strB (D1 ++ L1))) W := by { have e := run_str (s := ⟨a3, c3, D1 ++ L1⟩) (okSl.ext HK3.out (.of_below hW)); rw [HN3.out] at e; exact e }; go_simp) ?_; simp only [pTs, pTn, pTz, pTc]
    refine wpB_act rfl rfl (fun K hK => ?_)
    go_simp
    refine (read_ref (HTD.out.belowAll hb3).2.1 hsum).mono ?_
    rintro e w4 ⟨va4, rfl, ho4, hb4⟩
    obtain ⟨a4, c4, rfl, hk4⟩ := ho4.sl3 (l := D1 ++ L1) HN3.out (by rw [← HN3.out, List.length_append]; omega)
    have HK4 := Lib.hid hk4
    clear ho4 hk4
    refine hK _ _ hb4 ?_
    clear hK K
    try simp only [pTs, pTn, pTz, pTc]
    refine wpB_fix (v := .string (strB (D1 ++ L1))) rfl rfl (fun W hW => by have e : (convert 30 9 (.slice a4 n3 c4)).run Tryz.prog W = .ok (.string (strB (D1 ++ L1))) W := by { have e := run_str (s := ⟨a4, c4, D1 ++ L1⟩) (okSl.ext HK4.out (.of_below hW)); rw [HN3.out] at e; exact e }; go_simp) ?_; simp only [pTs, pTn, pTz, pTc]
    refine wpB_fix (v := .bool false) rfl rfl (fun W hW => by go_simp) ?_; simp only [pTs, pTn, pTz, pTc]
    refine wpB_fix rfl rfl (fun W hW => by go_simp; with_reducible rfl) ?_; simp only [pTs, pTn, pTz, pTc]
    simp only [wpB]
    go_wp2
    go_roundw
    case rel =>
     have hb34 := hb3.trans (hb4.mono hb3.size)
     exact ⟨k + 1, D1, L1, _, _, _, _, by omega, by go_num, hs1, Lib.hid (HTD.out.belowAll hb34), HB1.out.drew.trans (hb34.mono HB1.out.size)⟩
    case measure => simp [intOf]; omega
  ·have hi0 : ¬ (k : Int) < (val.length : Int) := by omega
   go_wp2_with (go_at_call 7; (with_reducible refine (awake_any _).mono ?_); rintro e w1 ⟨rfl, hb1⟩)
   go_ret
   exact ⟨by simp, hBw.trans (hb1.mono hBw.size)⟩
end Go.Proofs.YtnmgfnpphglphaaGreat
