/-
  The law BenchesTorn, walked.
-/
import Derived.Test.YtjmgnnpddbganaaGreatTornP
import Derived.Test.YtjmgnnpddbganaaGreatAwake
import Derived.Test.YtjmgnnpddbganaaGreatBytesW
set_option maxHeartbeats 16000000
set_option maxRecDepth 100000
set_option linter.unusedVariables false
set_option linter.unusedSimpArgs false
namespace Go.Proofs.YtjmgnnpddbganaaGreat
open Go.RowKit
theorem torn_any (s : Sl (Sl UInt8)) (bit : Int) (w : World) (hs : s.OK 1 encSl okSl (fun _ => False) w) (hbit : I64 bit) :
  Calls Tryz.prog 3 #[.slice s.a s.val.length s.cap, .int .i64 bit] w fun e w' => e = .returned (.bool true) ∧ Below w.heap.size w w' := by
 have hroom := hs.room
 have HS := Lib.hid hs
 have hb64 := hbit.2
 clear hs hbit
 obtain ⟨a, cap, val⟩ := s
 simp only at hroom
 by_cases h50 : 50 < val.length
 ·have h50' : (50 : Int) < (val.length : Int) := by omega
  go_enter Tryz.func3, Tryz.ntmps3
  go_wp2_with (go_at_call 6; (with_reducible refine (awake_any _).mono ?_); rintro e w1 ⟨rfl, hb1⟩)
  go_ret
  exact ⟨by simp, hb1⟩
 have h50' : ¬ (50 : Int) < (val.length : Int) := by omega
 by_cases h0 : bit < 0
 ·go_enter Tryz.func3, Tryz.ntmps3
  go_wp2_with (go_at_call 6; (with_reducible refine (awake_any _).mono ?_); rintro e w1 ⟨rfl, hb1⟩)
  go_ret
  exact ⟨by simp, hb1⟩
 obtain ⟨vals, hvals⟩ : ∃ vals, val.map (fun x : Sl UInt8 => x.val) = vals := ⟨_, rfl⟩
 have HVL : Hid (vals.length = val.length) := Lib.hid (by rw [← hvals, List.length_map])
 have HVA : Hid (∀ (k : Nat) (x : Sl UInt8), val[k]? = some x → vals[k]? = some x.val) := Lib.hid fun k x hx => by rw [← hvals, List.getElem?_map, hx]; rfl
 have HVS := Lib.hid hvals
 clear hvals
 go_enter Tryz.func3, Tryz.ntmps3
 go_wp2
 go_loopw [5, 6, 7, 8, 9] (fun vj ve i _ _ wr => ∃ k : Nat, k ≤ val.length ∧ i = .int .i64 k ∧ Hid (OwnL encByte 1 wr w.heap.size 5 vj (journalA (vals.take k))) ∧ Hid (OwnL encInt 1 wr w.heap.size 3 ve (endsA vals k)) ∧ Hid (∀ g, vj.ownBlock = some g → ve.ownBlock ≠ some g) ∧ Hid (∀ x ∈ vals.take k, x.length ≤ 300) ∧ Below w.heap.size w wr) (fun _ _ i _ _ _ => val.length - (intOf i).toNat)
 case atStart => exact ⟨0, Nat.zero_le _, rfl, Lib.hid (OwnL.nil _ _ _ _ _), Lib.hid (OwnL.nil _ _ _ _ _), Lib.hid (by simp [Value.ownBlock]), Lib.hid (by simp), Below.refl _ _⟩
 case round =>
  obtain ⟨k, hk, rfl, HJ, HE, HN, HM, hB⟩ := hrel
  by_cases hlt : k < val.length
  ·obtain ⟨x, hx⟩ : ∃ x, val[k]? = some x := ⟨_, List.getElem?_eq_getElem hlt⟩
   have hi1 : (k : Int) < (val.length : Int) := by omega
   obtain ⟨b, o, rfl, hb, _, hokx, hcell⟩ := HS.out.at hx
   have hcx : wr.cell? ⟨b, o + k, none⟩ = some (.slice x.a x.val.length x.cap) := (hB.cell (p := ⟨b, o + k, none⟩) hb).trans (by simpa [encSl, Sl.v] using hcell 0 (show (0 : Nat) < 1 by decide))
   have HX := Lib.hid (HVA.out k x hx)
   have HOX := Lib.hid (okSl.ext hokx (.of_below hB))
   clear hx hcell hokx hb
   by_cases h300 : 300 < x.val.length
   ·have h300' : (300 : Int) < (x.val.length : Int) := by omega
    go_wp2_with (go_at_call 6; (with_reducible refine (awake_any _).mono ?_); rintro e w1 ⟨rfl, hb1⟩)
    go_ret
    exact ⟨by simp, hB.trans (hb1.mono hB.size)⟩
   have h300' : ¬ (300 : Int) < (x.val.length : Int) := by omega
   have HM2 : Hid (∀ y ∈ vals.take (k + 1), y.length ≤ 300) := Lib.hid fun y hy => by
    rw [take_snocB HX.out] at hy
    rcases List.mem_append.1 hy with hy | hy
    ·exact HM.out y hy
    ·rw [List.mem_singleton.1 hy]; omega
   have HFR := Lib.hid (frame_any x wr HOX.out (by omega))
   have HJL := Lib.hid (journal_le HM.out)
   have HJL2 := Lib.hid (journal_le HM2.out)
   have htk : (vals.take k).length ≤ 50 := by rw [List.length_take]; omega
   go_wp2_with (first
    | (go_at_call 7; (with_reducible refine HFR.out.mono ?_); rintro e w1 ⟨va, rfl, hoa, hb1⟩; obtain ⟨xa, rfl, hxv, hxok, hxb⟩ := hoa.sl (fun _ => rfl) okByte (fun _ => False) (fun _ _ => trivial) (fun _ _ h => h) (by rw [framed_length]; omega); have HXV := Lib.hid hxv; have HXA := Lib.hid hxok; clear hxv hxok hoa)
    | ((with_reducible refine at_dst 48 ?_); refine wpList_append_slAt rfl _ _ 24 rfl w.heap.size einfo_Byte (fun _ => rfl) (by decide) encByte_one (by decide) u5 (journalA (vals.take k)) rfl (HJ.out.belowAll hb1) xa rfl HXA.out (by have := HJL.out; rw [HXV.out, framed_length]; omega) (Nat.le_trans hB.size hb1.size) ?_; intro v2 w2 ho2 hg2 hat2; rw [HXV.out, ← journal_snoc HX.out] at ho2; obtain ⟨aj, cj, rfl⟩ := ho2.shape; have hs2 := hg2.size; have HO2 := Lib.hid ho2; have HAT2 := Lib.hid hat2; clear ho2 hat2)
    | ((with_reducible refine at_dst 53 ?_); refine wpList_append_oneB rfl _ _ 25 rfl w.heap.size einfo_Int (fun _ => rfl) (by decide) encInt_one (by decide) u6 (endsA vals k) rfl (OwnL.belowAll (OwnL.kept (HE.out.belowAll hb1) (fun q hq => hg2.block q ((HE.out.belowAll hb1).block q hq).2 (fun e => HN.out q e.symm hq))) ((Below.refl _ _).alloc (Nat.le_refl _) _)) w2.heap.size 0 1 ((journalA (vals.take (k + 1))).length : Int) rfl (fun j hj => by rw [(BoxAt.new _ _ _).cell, Nat.zero_add]; rfl) (by rw [ends_length]; omega) (by have := hB.size; have := hb1.size; simp; omega) ?_; intro v4 w4 ho4 hg4 hat4))
   go_roundw
   case rel =>
    have hs1 := hb1.size
    have hs0 := hB.size
    have hjb : ∀ g, (Value.slice aj (journalA (vals.take (k + 1))).length cj).ownBlock = some g → g < w2.heap.size ∧ u6.ownBlock ≠ some g := fun g hg => by
     refine ⟨(HO2.out.block g hg).2, fun e => ?_⟩
     have he := (HE.out.block g e).2
     rcases HAT2.out with h | h
     ·exact HN.out g (h.symm.trans hg) e
     ·rw [h] at hg; have := Option.some.inj hg; omega
    refine ⟨k + 1, by omega, by go_num, Lib.hid ?_, Lib.hid (by rw [ends_succ]; exact ho4), Lib.hid fun g hg e => ?_, HM2, ?_⟩
    ·refine (HO2.out.belowAll ((Below.refl _ _).alloc (Nat.le_refl _) _)).kept fun q hq => hg4.block q (by rw [World.size_alloc]; have := (hjb q hq).1; omega) (fun e => (hjb q hq).2 e.symm)
    ·rcases hat4 with h | h
     ·exact (hjb g hg).2 (h.symm.trans e)
     ·rw [h] at e; have e' := Option.some.inj e; have := (hjb g hg).1; simp only [World.size_alloc] at e'; omega
    ·have hB2 := (hB.trans (hb1.mono hB.size)).trans (Below.appended (HJ.out.belowAll hb1) hg2 (Nat.le_refl _) (by omega))
     exact (hB2.alloc (by omega) _).trans (Below.appended (OwnL.belowAll (OwnL.kept (HE.out.belowAll hb1) (fun q hq => hg2.block q ((HE.out.belowAll hb1).block q hq).2 (fun e => HN.out q e.symm hq))) ((Below.refl _ _).alloc (Nat.le_refl _) _)) hg4 (Nat.le_refl _) (by rw [World.size_alloc]; omega))
   case measure => simp [intOf]; omega
  ·have hkl : k = val.length := by omega
   have HV2 : Hid (vals.take k = vals) := Lib.hid (by rw [hkl, ← HVL.out, List.take_length])
   have HM3 : Hid (∀ x ∈ vals, x.length ≤ 300) := Lib.hid (by have h := HM.out; rw [HV2.out] at h; exact h)
   have HJ3 : Hid (OwnL encByte 1 wr w.heap.size 5 u5 (journalA vals)) := Lib.hid (by have h := HJ.out; rw [HV2.out] at h; exact h)
   have hVL := HVL.out
   have hi0 : ¬ (k : Int) < (val.length : Int) := by omega
   obtain ⟨jl, hjl⟩ : ∃ n, (journalA vals).length = n := ⟨_, rfl⟩
   have hjle := journal_le HM3.out
   rw [hjl, hVL] at hjle
   have HJL := Lib.hid hjl
   have HSF : Hid (scanA (jl + 1) (journalA vals) = (vals, jl)) := Lib.hid (by have h := scan_full HM3.out; rw [hjl] at h; exact h)
   have HSW : Hid (∀ W, Below wr.heap.size wr W → Sl.OK 1 encSl okSl (fun _ => False) W ⟨a, cap, val⟩) := Lib.hid fun W hW => Sl.OK.ext (w := w) (w' := W) (fun _ h => okSl.ext h (.of_below (hB.trans (hW.mono hB.size)))) HS.out (.of_below (hB.trans (hW.mono hB.size)))
   clear hjl HJ HM
   have hw8 : IntKind.i64.wrap (8 * (jl : Int)) = 8 * (jl : Int) := IntWalk.i64_in _ (by omega)
   by_cases hge : 8 * (jl : Int) ≤ bit
   ·obtain ⟨js, rfl, hjv, hjok, _⟩ := HJ3.out.sl (fun _ => rfl) okByte (fun _ => False) (fun _ _ => trivial) (fun _ _ h => h) (by rw [HJL.out]; omega)
    have hjn : js.val.length = jl := by rw [hjv, HJL.out]
    have HSC : Hid (Calls Tryz.prog 8 #[.slice js.a jl js.cap] wr fun e w' => ∃ x : Sl (Sl UInt8), e = .returned (.tuple #[.slice x.a x.val.length x.cap, .int .i64 (jl : Nat)]) ∧ x.OK 1 encSl okSl (fun _ => False) w' ∧ x.val.map (fun y : Sl UInt8 => y.val) = vals ∧ Below wr.heap.size wr w') := Lib.hid (by
     have h := scan_sl (fun _ => False) js wr hjok (by omega)
     rw [hjn, hjv, HSF.out] at h
     exact h)
    have HJN := Lib.hid hjn
    clear hjv hjok HE HN hjn
    obtain ⟨ja, jc, jv⟩ := js
    have HJN2 : jv.length = jl := HJN.out
    clear HJN
    subst HJN2
    go_wp2_with (first
     | (go_at_call 8; (with_reducible refine HSC.out.mono ?_); rintro e w1 ⟨x1, rfl, hx1, hxv1, hb1⟩; have HX1 := Lib.hid hx1; have HXV1 := Lib.hid hxv1; clear hx1 hxv1)
     | (go_at_call 9; (with_reducible refine (same_bytes (fun _ => False) x1 ⟨a, cap, val⟩ _ HX1.out (HSW.out _ hb1) (by rw [HXV1.out, HVS.out])).mono ?_); rintro e w2 ⟨rfl, hb2⟩)
     | (go_at_call 6; (with_reducible refine (awake_any _).mono ?_); rintro e w3 ⟨rfl, hb3⟩))
    go_ret
    exact ⟨by simp, ((hB.trans (hb1.mono hB.size)).trans (hb2.mono (hB.trans (hb1.mono hB.size)).size)).trans (hb3.mono ((hB.trans (hb1.mono hB.size)).trans (hb2.mono (hB.trans (hb1.mono hB.size)).size)).size)⟩
   ·have hj0 : 0 < jl := by omega
    have hp0 : 0 ≤ bit := by omega
    obtain ⟨p, hpq⟩ : ∃ p : Nat, (p : Int) = bit.tdiv 8 := ⟨(bit.tdiv 8).toNat, Int.toNat_of_nonneg (Int.tdiv_nonneg hp0 (by decide))⟩
    obtain ⟨j, hjq⟩ : ∃ j : Nat, (j : Int) = bit.tmod 8 := ⟨(bit.tmod 8).toNat, Int.toNat_of_nonneg (Int.tmod_nonneg 8 hp0)⟩
    have hj8 : j < 8 := by have := Int.tmod_lt_of_pos bit (show (0 : Int) < 8 by decide); omega
    have hpl : p < jl := by have h := Int.mul_tdiv_add_tmod bit 8; rw [← hpq, ← hjq] at h; omega
    have hq1 : bit.tdiv 8 = (p : Int) := hpq.symm
    have hm1 : bit.tmod 8 = (j : Int) := hjq.symm
    have hq2 : IntKind.i64.wrap (p : Int) = (p : Int) := IntWalk.i64_in _ (by omega)
    have hm2 : IntKind.i64.wrap (j : Int) = (j : Int) := IntWalk.i64_in _ (by omega)
    clear hpq hjq
    obtain ⟨x, hx⟩ : ∃ x, (journalA vals)[p]? = some x := ⟨_, List.getElem?_eq_getElem (by rw [HJL.out]; exact hpl)⟩
    have HX := Lib.hid hx
    clear hx
    obtain ⟨g, cj, cur0, hv5, -, -, hbg, -⟩ := own_byte HJ3.out (by rw [HJL.out]; exact hj0)
    rw [HJL.out] at hv5
    subst hv5
    have HJO : Hid (Sl.OK 1 encByte okByte (fun _ => False) wr ⟨some ⟨g, 0, none⟩, cj, journalA vals⟩) := Lib.hid (HJ3.out.slOf (fun _ => rfl) okByte _ (fun _ _ => trivial) (fun _ _ h => h) (by rw [HJL.out]; omega))
    have HSC : Hid (Calls Tryz.prog 8 #[.slice (some ⟨g, 0, none⟩) jl cj] wr fun e w' => ∃ x : Sl (Sl UInt8), e = .returned (.tuple #[.slice x.a x.val.length x.cap, .int .i64 (jl : Nat)]) ∧ x.OK 1 encSl okSl (fun _ => False) w' ∧ x.val.map (fun y : Sl UInt8 => y.val) = vals ∧ Below wr.heap.size wr w') := Lib.hid (by
     have h := scan_sl (fun _ => False) ⟨some ⟨g, 0, none⟩, cj, journalA vals⟩ wr HJO.out (by simp only [HJL.out]; omega)
     simp only [HJL.out, HSF.out] at h
     exact h)
    have hfx := flip_wrap x j hj8
    have HFX := Lib.hid hfx
    clear hfx
    go_wp2_with (first
     | (go_at_call 8; (with_reducible refine HSC.out.mono ?_); rintro e w1 ⟨x1, rfl, hx1, hxv1, hb1⟩; have HX1 := Lib.hid hx1; have HXV1 := Lib.hid hxv1; clear hx1 hxv1)
     | (go_at_call 9; (with_reducible refine (same_bytes (fun _ => False) x1 ⟨a, cap, val⟩ _ HX1.out (HSW.out _ hb1) (by rw [HXV1.out, HVS.out])).mono ?_); rintro e w2 ⟨rfl, hb2⟩))
    have hb12 : Below wr.heap.size wr w2 := hb1.trans (hb2.mono hb1.size)
    have hbD := hb12.drew
    have HJD : Hid (OwnL encByte 1 w2.drew w.heap.size 5 (.slice (some ⟨g, 0, none⟩) jl cj) (journalA vals)) := Lib.hid (HJ3.out.belowAll hbD)
    obtain ⟨g', cap', cur, hv', hbx, hcz, -, hstore⟩ := own_byte HJD.out (by rw [HJL.out]; exact hj0)
    simp only [Value.slice.injEq, Option.some.injEq, Addr.mk.injEq, and_true] at hv'
    obtain ⟨rfl, -, -⟩ := hv'
    have hgl := hbx.lt
    have hcx : w2.drew.cell? ⟨g, p, none⟩ = some (.int .u8 x.toNat) := by
     have h := (HJD.out.slOf (fun _ => rfl) okByte (fun _ => False) (fun _ _ => trivial) (fun _ _ h => h) (by rw [HJL.out]; omega)).cell g 0 rfl p x HX.out 0 (by decide)
     simpa [encByte] using h
    have hfit : p + 1 ≤ cur.size := by rw [HJL.out] at hcz; omega
    have HST := Lib.hid hstore
    clear hstore
    refine wp_region_mark 13 [(0, none), (1, none), (2, none), (3, none), (4, none), (5, none), (6, none), (8, none), (9, none), (10, none), (7, some true), (11, none), (12, none), (13, some false)] rfl (by kernel_rfl) (by kernel_rfl) (fun d _ _ _ _ h => by cases d <;> exact h) ?_
    iterate 10 (refine wpC_pure rfl rfl (fun W => by go_simp; with_reducible rfl) ?_; simp only [pTs, pTn, pTz, pTc])
    refine wpC_fix (v := .int .u8 x.toNat) rfl rfl (fun W hW => by have e := (hW.cell (p := ⟨g, p, none⟩) hgl).trans hcx; go_simp) ?_; simp only [pTs, pTn, pTz, pTc]
    iterate 2 (refine wpC_pure rfl rfl (fun W => by go_simp; with_reducible rfl) ?_; simp only [pTs, pTn, pTz, pTc])
    refine wpC_mark rfl rfl (fun K hK => ?_)
    refine wp_store_box hbx _ _ _ rfl rfl (.int .u8 ((flipB j x).toNat : Int)) (congrArg (Value.int .u8) HFX.out) (by kernel_rfl) (Nat.ble_eq_true_of_le hfit) (by simp [Value.cells, Value.oneCell']) ?_
    intro wS hbS hTS
    refine hK _ _ ?_
    clear hK K
    try simp only [pTs, pTn, pTz, pTc]
    simp only [wpC]
    have hJM : (journalA vals).set p (flipB j x) = (journalA vals).modify p (flipB j) := (modify_set (flipB j) HX.out).symm
    have HJS : Hid (OwnL encByte 1 wS w.heap.size 5 (.slice (some ⟨g, 0, none⟩) jl cj) ((journalA vals).modify p (flipB j))) := Lib.hid (by rw [← hJM]; exact HST.out wS p (flipB j x) (by rw [HJL.out]; exact hpl) hbS)
    have HES : Hid (OwnL encInt 1 wS w.heap.size 3 u6 (endsA vals k)) := Lib.hid ((HE.out.belowAll hbD).turn hTS (HN.out g rfl))
    have hBS : Below w.heap.size w wS := (hB.trans (hbD.mono hB.size)).trans (hTS.below hbg)
    have hml : ((journalA vals).modify p (flipB j)).length = jl := by rw [List.length_modify]; exact HJL.out
    have HML := Lib.hid hml
    have HJO2 : Hid (Sl.OK 1 encByte okByte (fun _ => False) wS ⟨some ⟨g, 0, none⟩, cj, (journalA vals).modify p (flipB j)⟩) := Lib.hid (HJS.out.slOf (fun _ => rfl) okByte _ (fun _ _ => trivial) (fun _ _ h => h) (by rw [hml]; omega))
    obtain ⟨es, rfl, hev, heok, _⟩ := HES.out.sl (fun _ => rfl) okInt (fun _ => False) (fun z hz => by
     obtain ⟨i, hi⟩ := List.getElem?_of_mem hz
     have hik : i < k := by rw [← ends_length vals k]; exact (List.getElem?_eq_some_iff.1 hi).1
     rw [ends_at vals hik] at hi
     cases hi
     have h1 := (journal_le (vals := vals.take (i + 1)) (fun y hy => HM3.out y (List.mem_of_mem_take hy))).2
     have h2 : (vals.take (i + 1)).length ≤ 50 := by rw [List.length_take, hVL]; omega
     have h3 : (journalA (vals.take (i + 1))).length ≤ 15300 := by omega
     unfold okInt I64; omega) (fun _ _ h => h) (by rw [ends_length]; omega)
    have HEV := Lib.hid hev
    have HEO := Lib.hid heok
    have HSS : Hid (Sl.OK 1 encSl okSl (fun _ => False) wS ⟨a, cap, val⟩) := Lib.hid (Sl.OK.ext (w := w) (w' := wS) (fun _ h => okSl.ext h (.of_below hBS)) HS.out (.of_below hBS))
    have hel : es.val.length = val.length := by rw [hev, ends_length]; exact hkl
    clear hev heok hJM hml hcz
    go_wp2
    go_loopw [12] (fun i wl => ∃ m : Nat, m < val.length ∧ i = .int .i64 m ∧ Hid ((journalA (vals.take m)).length ≤ p) ∧ wS = wl) (fun i _ => val.length - (intOf i).toNat)
    case atStart => exact ⟨0, by omega, rfl, Lib.hid (by simp [journalA]), by first | trivial | rfl⟩
    case round =>
     obtain ⟨m, hm, rfl, HMP, rfl⟩ := hrel
     have hend := ends_at vals (k := m) (n := k) (by omega)
     rw [← HEV.out] at hend
     obtain ⟨be, oe, hea, hbe, _, _, hce⟩ := HEO.out.at hend
     obtain ⟨ea, ec, ev⟩ := es
     simp only at hea hel
     subst hea
     obtain ⟨E, hE⟩ : ∃ E, (journalA (vals.take (m + 1))).length = E := ⟨_, rfl⟩
     have HEE := Lib.hid hE
     have hc : wS.cell? ⟨be, oe + m, none⟩ = some (vi (E : Int)) := by rw [← hE]; simpa [encInt] using hce 0 (show (0 : Nat) < 1 by decide)
     have hme : m < ev.length := by omega
     have hme2 : (m : Int) < (ev.length : Int) := by omega
     clear hend hce hE
     by_cases hEp : E ≤ p
     ·have hEp' : (E : Int) ≤ (p : Int) := by omega
      have hm2 : m + 1 < val.length := by
       rcases Nat.lt_or_ge (m + 1) val.length with h | h
       ·exact h
       ·have e := HEE.out
        rw [show m + 1 = vals.length by omega, List.take_length, HJL.out] at e
        omega
      go_wp2
      go_roundw
      case rel => exact ⟨m + 1, hm2, by go_num, Lib.hid (by rw [HEE.out]; exact hEp), by first | trivial | rfl⟩
      case measure => simp [intOf]; omega
     ·have hEp' : ¬ (E : Int) ≤ (p : Int) := by omega
      have HTO : Hid ((scanA (jl + 1) ((journalA vals).modify p (flipB j))).1 = vals.take m) := Lib.hid (by
       have h := torn_at HM3.out hj8 (k := m) (p := p) (by omega) HMP.out (by rw [HEE.out]; omega)
       rw [HML.out] at h; exact h)
      have HSC2 : Hid (Calls Tryz.prog 8 #[.slice (some ⟨g, 0, none⟩) jl cj] wS fun e w' => ∃ (x : Sl (Sl UInt8)) (n : Int), e = .returned (.tuple #[.slice x.a x.val.length x.cap, .int .i64 n]) ∧ x.OK 1 encSl okSl (fun _ => False) w' ∧ x.val.map (fun y : Sl UInt8 => y.val) = vals.take m ∧ Below wS.heap.size wS w') := Lib.hid (by
       have h := scan_sl (fun _ => False) ⟨some ⟨g, 0, none⟩, cj, (journalA vals).modify p (flipB j)⟩ wS HJO2.out (by simp only [HML.out]; omega)
       simp only [HML.out, HTO.out] at h
       refine h.mono ?_
       rintro e w' ⟨x, h1, h2, h3, h4⟩
       exact ⟨x, _, h1, h2, h3, h4⟩)
      have hcap := HSS.out.le
      simp only at hcap
      have htl : ((⟨a, cap, val⟩ : Sl (Sl UInt8)).tk m).val.length = m := tk_length _ m (Nat.le_of_lt hm)
      have HTK : Hid (∀ W, (Instr.sliceAt 22 (.slice a val.length cap) none (some (.int .i64 m)) none).run Tryz.prog W = .ok (.slice a m cap) W) := Lib.hid fun W => by
       have h := run_tk W ⟨a, cap, val⟩ m (Nat.le_of_lt hm) hcap
       rw [htl] at h; exact h
      have HSB2 : Hid (∀ (w6 : World) (x2 : Sl (Sl UInt8)), Below wS.heap.size wS w6 → x2.OK 1 encSl okSl (fun _ => False) w6 → x2.val.map (fun y : Sl UInt8 => y.val) = vals.take m → Calls Tryz.prog 9 #[.slice x2.a x2.val.length x2.cap, .slice a m cap] w6 fun e w' => e = .returned (.bool true) ∧ Below w6.heap.size w6 w') := Lib.hid fun w6 x2 hb6 h1 h2 => by
       have h := same_bytes (fun _ => False) x2 ((⟨a, cap, val⟩ : Sl (Sl UInt8)).tk m) w6 h1 ((Sl.OK.ext (w := wS) (w' := w6) (fun _ h => okSl.ext h (.of_below hb6)) HSS.out (.of_below hb6)).tk m) (by rw [h2, ← HVS.out, ← List.map_take]; rfl)
       rw [htl] at h; exact h
      clear htl
      go_wp2_with (first
       | (go_at_call 8; (with_reducible refine HSC2.out.mono ?_); rintro e w6 ⟨x2, n2, rfl, hx2, hxv2, hb6⟩; have HX2 := Lib.hid hx2; have HXV2 := Lib.hid hxv2; clear hx2 hxv2)
       | ((with_reducible refine at_dst 105 ?_); refine wpList_slice rfl _ _ _ _ _ rfl (.slice a val.length cap) (.slice a m cap) rfl (HTK.out _) ?_)
       | (go_at_call 9; (with_reducible refine (HSB2.out _ _ hb6 HX2.out HXV2.out).mono ?_); rintro e w7 ⟨rfl, hb7⟩)
       | (go_at_call 6; (with_reducible refine (awake_any _).mono ?_); rintro e w8 ⟨rfl, hb8⟩))
      go_ret
      have hB6 := hBS.trans (hb6.mono hBS.size)
      have hB7 := hB6.trans (hb7.mono hB6.size)
      exact ⟨by simp, hB7.trans (hb8.mono hB7.size)⟩
end Go.Proofs.YtjmgnnpddbganaaGreat
