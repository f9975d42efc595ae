/-
  long, slices.Clone of bytes, SameBytes, Scan: walked.
-/
import Derived.Test.YtjmgnnpddbganaaGreatSub
import Derived.Test.YtjmgnnpddbganaaGreatOrd
import Derived.Test.YtjmgnnpddbganaaGreatAppR
import Derived.Laws.BytesArg
import Derived.WalkMore
set_option maxHeartbeats 16000000
set_option maxRecDepth 100000
set_option linter.unusedVariables false
set_option linter.unusedSimpArgs false
namespace Go.Proofs.YtjmgnnpddbganaaGreat
open Go.RowKit
@[go_sem] theorem eqGuardS_Byte : Tryz.prog.eqGuardType Tryz.prog.depth 24 = false := by kernel_rfl
@[go_sem high] theorem eqlS_Byte (w : World) (a : Option Addr) (l c : Nat) : (binOp .eql 24 (.slice a l c) (.slice none 0 0)).run Tryz.prog w = .ok (.bool a.isNone) w := run_eql_slice_nil w _ _ a l c Tryz.underlying24
theorem clone_Byte (D : Nat → Prop) (s : Sl UInt8) (w : World) (hs : s.OK 1 encByte okByte D w) :
  Calls Tryz.prog 32 #[.slice s.a s.val.length s.cap] w fun e w' => ∃ v, e = .returned v ∧ OwnL encByte 1 w' w.heap.size 5 v s.val ∧ (v = .slice none 0 0 ↔ s.a = none) ∧ Below w.heap.size w w' := by
 have hroom := hs.room
 have HS := Lib.hid hs
 clear hs
 obtain ⟨a, cap, val⟩ := s
 simp only at hroom
 cases a with
 | none =>
  obtain ⟨h1, h2⟩ := HS.out.isNil rfl
  simp only at h1 h2
  subst h1; subst h2
  go_enter Tryz.func32, Tryz.ntmps32
  go_wp2
  go_ret
  exact ⟨_, rfl, OwnL.nil _ _ _ _ _, by simp, Below.refl _ _⟩
 | some p =>
  by_cases hz : val = []
  ·subst hz
   go_enter Tryz.func32, Tryz.ntmps32
   go_wp2_with (with_reducible refine at_dst 7 ?_; refine wpList_append_zero rfl _ _ 24 rfl w.heap.size einfo_Byte (by decide) (by decide) _ [] rfl (OwnL.empty encByte 1 w _) p cap rfl (by simp) (by simp) ?_; intro v w1 hown hg hnil; replace hnil : v ≠ .slice none 0 0 := fun e => absurd (hnil.1 e) (by simp [Act.eval, Act.put]))
   go_ret
   exact ⟨v, rfl, hown, ⟨fun e => absurd e hnil, fun e => by simp at e⟩, Below.appended (OwnL.empty encByte 1 w _) hg (Nat.le_refl _) (by simp) |> ((Below.refl _ _).alloc (Nat.le_refl _) _).trans⟩
  have hpos := List.length_pos_iff.2 hz
  obtain ⟨b, o, sp⟩ := p
  obtain ⟨h1, h2, h3⟩ := HS.out.place _ rfl hpos
  clear hpos hz
  simp only at h1 h2 h3
  subst h1
  have hE := HS.out.cell b o rfl
  have HC : Hid (∀ i y, val[i]? = some y → ∀ j, j < 1 → (w.alloc (.cells #[] 5)).cell? ⟨b, o + i * 1 + j, none⟩ = (encByte y)[j]?) := Lib.hid fun i y hi j hj => by
   rw [World.cell?_of_block (w := w) ((MapKept.heap_alloc w _).2 b h3)]
   exact hE i y hi j hj
  clear hE
  go_enter Tryz.func32, Tryz.ntmps32
  go_wp2_with (with_reducible refine at_dst 7 ?_; refine wpList_append_more rfl _ _ 24 rfl w.heap.size einfo_Byte (fun _ => rfl) (by decide) encByte_one (by decide) _ [] rfl (OwnL.empty _ _ w _) b o cap val rfl HC.out (by simp only [List.length_nil]; omega) (by simp) ?_; intro v w1 hown hg hnil; replace hnil : v ≠ .slice none 0 0 := fun e => absurd (hnil.1 e).1 (by simp [Act.eval, Act.put]))
  go_ret
  exact ⟨v, rfl, hown, ⟨fun e => absurd e hnil, fun e => by simp at e⟩, Below.appended (OwnL.empty encByte 1 w _) hg (Nat.le_refl _) (by simp) |> ((Below.refl _ _).alloc (Nat.le_refl _) _).trans⟩
theorem or_i64_nat (a b : Nat) (h : a ||| b < 9223372036854775808) (ha : a < 18446744073709551616) (hb : b < 18446744073709551616) : bits .or .i64 (a : Int) (b : Int) = ((a ||| b : Nat) : Int) := by
 have h1 : (BitVec.ofInt 64 (a : Int)).toNat = a := by
  rw [BitVec.ofInt_natCast, BitVec.toNat_ofNat]; exact Nat.mod_eq_of_lt (by omega)
 have h2 : (BitVec.ofInt 64 (b : Int)).toNat = b := by
  rw [BitVec.ofInt_natCast, BitVec.toNat_ofNat]; exact Nat.mod_eq_of_lt (by omega)
 show IntKind.i64.wrap ((BitVec.ofInt 64 (a : Int) ||| BitVec.ofInt 64 (b : Int)).toNat : Int) = _
 rw [BitVec.toNat_or, h1, h2]
 exact IntWalk.i64_in _ (by omega)
theorem lor_bytes (x y : UInt8) : bits .or .i64 (x.toNat : Int) ((y.toNat : Int) * 256) = ((x.toNat + 256 * y.toNat : Nat) : Int) := by
 have hx := x.toNat_lt
 have hy := y.toNat_lt
 have e : x.toNat ||| (y.toNat * 256) = x.toNat + 256 * y.toNat := by
  have h := Nat.shiftLeft_add_eq_or_of_lt (b := x.toNat) (i := 8) (by omega) y.toNat
  rw [Nat.shiftLeft_eq] at h
  rw [Nat.or_comm, show y.toNat * 256 = y.toNat * 2 ^ 8 from rfl, ← h]; omega
 have h := or_i64_nat x.toNat (y.toNat * 256) (by rw [e]; omega) (by omega) (by omega)
 rw [e] at h
 rw [← h]; push_cast; rfl
theorem long_any (D : Nat → Prop) (s : Sl UInt8) (w : World) (hs : s.OK 1 encByte okByte D w) (h2 : 2 ≤ s.val.length) :
  Calls Tryz.prog 30 #[.slice s.a s.val.length s.cap] w fun e w' => e = .returned (.int .i64 (longA s.val)) ∧ Below w.heap.size w w' := by
 obtain ⟨x, y, hx, hy, hlong⟩ := long_drop s.val h2
 obtain ⟨b, o, ha, hb, _, _, hcell⟩ := hs.at hx
 obtain ⟨b', o', ha', hb', _, _, hcell'⟩ := hs.at hy
 have hcx : w.cell? ⟨b, o, none⟩ = some (.int .u8 x.toNat) := by simpa [encByte] using hcell 0 (by decide)
 have hcy : w.cell? ⟨b', o' + 1, none⟩ = some (.int .u8 y.toNat) := by simpa [encByte] using hcell' 0 (by decide)
 rw [ha] at ha'
 simp only [Option.some.injEq, Addr.mk.injEq, and_true] at ha'
 obtain ⟨rfl, rfl⟩ := ha'
 have HL := Lib.hid hlong
 have hroom := hs.room
 have hi1 : (1 : Int) < (s.val.length : Int) := by omega
 have hi0 : (0 : Int) < (s.val.length : Int) := by omega
 clear hs hlong hcell hcell' hx hy
 obtain ⟨a, cap, val⟩ := s
 simp only at ha hi1 hi0 h2 hroom ⊢
 subst ha
 have hxl := x.toNat_lt
 have hyl := y.toNat_lt
 have hor := lor_bytes x y
 have hsh : IntKind.i64.wrap ((y.toNat : Int) * 256) = (y.toNat : Int) * 256 := IntWalk.i64_in _ (by omega)
 have hx64 : IntKind.i64.wrap (x.toNat : Int) = (x.toNat : Int) := IntWalk.i64_in _ (by omega)
 have hy64 : IntKind.i64.wrap (y.toNat : Int) = (y.toNat : Int) := IntWalk.i64_in _ (by omega)
 have hn0 : 0 < val.length := by omega
 have hn1 : 1 < val.length := by omega
 have HLL : Hid ((longA val : Int) = ((x.toNat + 256 * y.toNat : Nat) : Int)) := Lib.hid (by rw [← HL.out])
 go_enter Tryz.func30, Tryz.ntmps30
 go_wp2
 refine wp_region_ord [(0, true), (1, true), (2, true), (3, true), (4, true), (5, true), (6, true), (7, true), (8, true), (9, true), (10, true)] rfl (by kernel_rfl) (by kernel_rfl) (fun d _ _ _ _ h => by cases d <;> exact h) ?_
 iterate 2 (refine wpB_fix rfl rfl (fun W hW => by go_simp; with_reducible rfl) ?_; simp only [pTs, pTn, pTz, pTc])
 refine wpB_fix (v := .int .u8 x.toNat) rfl rfl (fun W hW => by have e := (hW.cell (p := ⟨b, o, none⟩) hb).trans hcx; go_simp) ?_; simp only [pTs, pTn, pTz, pTc]
 refine wpB_fix (v := .int .i64 x.toNat) rfl rfl (fun W hW => by go_simp) ?_; simp only [pTs, pTn, pTz, pTc]
 iterate 2 (refine wpB_fix rfl rfl (fun W hW => by go_simp; with_reducible rfl) ?_; simp only [pTs, pTn, pTz, pTc])
 refine wpB_fix (v := .int .u8 y.toNat) rfl rfl (fun W hW => by have e := (hW.cell (p := ⟨b, o + 1, none⟩) hb).trans hcy; go_simp) ?_; simp only [pTs, pTn, pTz, pTc]
 refine wpB_fix (v := .int .i64 y.toNat) rfl rfl (fun W hW => by go_simp) ?_; simp only [pTs, pTn, pTz, pTc]
 refine wpB_fix (v := .int .i64 ((y.toNat : Int) * 256)) rfl rfl (fun W hW => by go_simp) ?_; simp only [pTs, pTn, pTz, pTc]
 refine wpB_fix (v := .int .i64 ((x.toNat + 256 * y.toNat : Nat) : Int)) rfl rfl (fun W hW => by go_simp) ?_; simp only [pTs, pTn, pTz, pTc]
 refine wpB_fix rfl rfl (fun W hW => by go_simp; with_reducible rfl) ?_; simp only [pTs, pTn, pTz, pTc]
 simp only [wpB]
 go_wp2
 go_ret
 exact ⟨by simp [HL.out], (Below.refl _ _).drew⟩
def strB (l : List UInt8) : ByteArray := ⟨l.toArray⟩
theorem run_str {D : Nat → Prop} {w : World} {s : Sl UInt8} (hs : okSl D w s) : (convert 24 9 (.slice s.a s.val.length s.cap)).run Tryz.prog w = .ok (.string (strB s.val)) w := by
 obtain ⟨a, cap, val⟩ := s
 cases a with
 | none =>
  obtain ⟨h1, h2⟩ := hs.isNil rfl
  simp only at h1 h2
  subst h1; subst h2
  exact run_convert_bytes_nil w 24 5 Tryz.underlying24 Tryz.underlying5 0 0 9 Tryz.underlying9
 | some p =>
  by_cases hz : val = []
  ·subst hz
   refine (run_convert_bytes_string w 24 9 5 _ _ _ Tryz.underlying24 Tryz.underlying5 Tryz.underlying9).trans ?_
   exact run_bytesToString w p 0 cap [] (run_loadCells_list (P := Tryz.prog) w p [] (by simp))
  ·obtain ⟨b, o, sp⟩ := p
   obtain ⟨h1, h2, h3⟩ := hs.place _ rfl (List.length_pos_iff.2 hz)
   simp only at h1 h2 h3
   subst h1
   refine (run_convert_bytes_arg w 24 5 Tryz.underlying24 Tryz.underlying5 b o val.length cap (val.map fun x => (x.toNat : Int)) (by simp) (fun i hi => ?_) 9 Tryz.underlying9).trans ?_
   ·obtain ⟨x, hx⟩ : ∃ x, val[i]? = some x := ⟨_, List.getElem?_eq_getElem hi⟩
    have := hs.cell b o rfl i x hx 0 (by decide)
    simpa [encByte, List.getD, hx] using this
   ·simp [strOfNums, strB, List.map_map, Function.comp_def]
theorem same_bytes (D : Nat → Prop) (s t : Sl (Sl UInt8)) (w : World) (hs : s.OK 1 encSl okSl D w) (ht : t.OK 1 encSl okSl D w) (h : s.val.map (fun x : Sl UInt8 => x.val) = t.val.map (fun x : Sl UInt8 => x.val)) :
  Calls Tryz.prog 9 #[.slice s.a s.val.length s.cap, .slice t.a t.val.length t.cap] w fun e w' => e = .returned (.bool true) ∧ Below w.heap.size w w' := by
 have hlen : t.val.length = s.val.length := by have := congrArg List.length h; simpa using this.symm
 have HAL : Hid (∀ (i : Nat) (x y : Sl UInt8), s.val[i]? = some x → t.val[i]? = some y → y.val = x.val) := Lib.hid fun i x y hx hy => by
  have h1 := congrArg (fun l => l[i]?) h
  simp only [List.getElem?_map, hx, hy, Option.map_some, Option.some.injEq] at h1
  exact h1.symm
 have hroom := hs.room
 have HS := Lib.hid hs
 have HT := Lib.hid ht
 clear hs ht h
 obtain ⟨a, cap, val⟩ := s
 obtain ⟨a2, cap2, val2⟩ := t
 simp only at hlen hroom ⊢
 have HL := Lib.hid hlen
 have hb0 : (((val.length : Int)) != (val2.length : Int)) = false := by simp; omega
 clear hlen
 go_enter Tryz.func9, Tryz.ntmps9
 go_wp2
 go_loopw [5] (fun i wr => ∃ k : Nat, k ≤ val.length ∧ i = .int .i64 k ∧ Below w.heap.size w wr) (fun i _ => val.length - (intOf i).toNat)
 case atStart => exact ⟨0, Nat.zero_le _, rfl, Below.refl _ _⟩
 case round =>
  obtain ⟨k, hk, rfl, hB⟩ := hrel
  by_cases hlt : k < val.length
  ·have hlt2 : k < val2.length := by have := HL.out; omega
   have hi1 : (k : Int) < (val.length : Int) := by omega
   have hi2 : (k : Int) < (val2.length : Int) := by omega
   obtain ⟨x, hx⟩ : ∃ x, val[k]? = some x := ⟨_, List.getElem?_eq_getElem hlt⟩
   obtain ⟨y, hy⟩ : ∃ y, val2[k]? = some y := ⟨_, List.getElem?_eq_getElem hlt2⟩
   obtain ⟨b, o, rfl, hb, _, hokx, hcell⟩ := HS.out.at hx
   obtain ⟨b2, o2, rfl, hb2, _, hoky, hcell2⟩ := HT.out.at hy
   have HXY := Lib.hid (HAL.out k x y hx hy)
   have hcx : wr.cell? ⟨b, o + k, none⟩ = some (.slice x.a x.val.length x.cap) := (hB.cell (p := ⟨b, o + k, none⟩) hb).trans (by simpa [encSl, Sl.v] using hcell 0 (show (0 : Nat) < 1 by decide))
   have hcy : wr.cell? ⟨b2, o2 + k, none⟩ = some (.slice y.a y.val.length y.cap) := (hB.cell (p := ⟨b2, o2 + k, none⟩) hb2).trans (by simpa [encSl, Sl.v] using hcell2 0 (show (0 : Nat) < 1 by decide))
   have hl1 : b < wr.heap.size := Nat.lt_of_lt_of_le hb hB.size
   have hl2 : b2 < wr.heap.size := Nat.lt_of_lt_of_le hb2 hB.size
   have HOX := Lib.hid (okSl.ext hokx (.of_below hB.drew))
   have HOY := Lib.hid (okSl.ext hoky (.of_below hB.drew))
   clear hx hy hcell hcell2 hokx hoky hb hb2
   go_wp2
   refine wp_region_ord [(0, true), (1, true), (2, true), (3, true), (4, true), (5, true), (6, true), (7, true), (8, true), (9, true), (10, true)] rfl (by kernel_rfl) (by kernel_rfl) (fun d _ _ _ _ h => by cases d <;> exact h) ?_
   iterate 3 (refine wpB_fix rfl rfl (fun W hW => by go_simp; with_reducible rfl) ?_; simp only [pTs, pTn, pTz, pTc])
   refine wpB_fix (v := .slice x.a x.val.length x.cap) rfl rfl (fun W hW => by have e := (hW.cell (p := ⟨b, o + k, none⟩) hl1).trans hcx; go_simp) ?_; simp only [pTs, pTn, pTz, pTc]
   refine wpB_fix (v := .string (strB x.val)) rfl rfl (fun W hW => by have e := run_str (okSl.ext HOX.out (.of_below hW)); go_simp) ?_; simp only [pTs, pTn, pTz, pTc]
   iterate 3 (refine wpB_fix rfl rfl (fun W hW => by go_simp; with_reducible rfl) ?_; simp only [pTs, pTn, pTz, pTc])
   refine wpB_fix (v := .slice y.a y.val.length y.cap) rfl rfl (fun W hW => by have e := (hW.cell (p := ⟨b2, o2 + k, none⟩) hl2).trans hcy; go_simp) ?_; simp only [pTs, pTn, pTz, pTc]
   refine wpB_fix (v := .string (strB x.val)) rfl rfl (fun W hW => by have e := (run_str (okSl.ext HOY.out (.of_below hW))).trans (by rw [HXY.out]); go_simp) ?_; simp only [pTs, pTn, pTz, pTc]
   refine wpB_fix (v := .bool false) rfl rfl (fun W hW => by go_simp) ?_; simp only [pTs, pTn, pTz, pTc]
   simp only [wpB]
   go_wp2
   go_roundw
   case rel => exact ⟨k + 1, by omega, by go_num, hB.drew⟩
   case measure => simp [intOf]; omega
  ·go_wp2
   go_ret
   exact ⟨by simp, hB⟩
theorem wpList_append_oneB {α : Type} {enc : α → Array Value} {sz : Nat} {P : Program} {w : World} {o : Oper} {a : Act} {Q : Exit → Act → World → Prop} {ops : Array Oper} {rest : List Oper} (hgd : o.guard = none) (s x : Operand) (t : TypeId)
  (ho : o.op = .call { callee := .builtin .append, args := #[s, x], argTypes := #[t, t] })
  (base : Nat) {e : TypeId} {bytes : Nat} (hE : EInfo P t e sz bytes) (hsz : ∀ x, (enc x).size = sz) (h0 : 0 < sz) (hone : ∀ x, (enc x).all (·.oneCell') = true) (hby : bytes ≤ 10000)
  (v : Value) (l : List α) (hs : a.eval s = v) (hown : OwnL enc sz w base e v l)
  (b off c : Nat) (y : α) (hx : a.eval x = .slice (some ⟨b, off, none⟩) 1 c) (hy : ∀ j, j < sz → w.cell? ⟨b, off + j, none⟩ = (enc y)[j]?)
  (hlen : l.length + 1 ≤ 4294967296) (hbase : base ≤ w.heap.size)
  (h : ∀ v' w', OwnL enc sz w' base e v' (l ++ [y]) → w.grownBy w' v.ownBlock → (v'.ownBlock = v.ownBlock ∨ v'.ownBlock = some w.heap.size) → wpList P ops Q rest (a.put o.dst v') w') : wpList P ops Q (o :: rest) a w :=
 wpList_plain hgd fun K' hK' => wp_append_oneAt s x t ho base hE hsz h0 hone hby v l hs hown b off c y hx hy hlen hbase fun v' w' h1 h2 h3 => hK' _ _ (h v' w' h1 h2 h3)
theorem einfo_Sl : EInfo Tryz.prog 22 24 1 24 := ⟨Tryz.underlying22, by kernel_rfl⟩
theorem encSl_one (s : Sl UInt8) : (encSl s).all (·.oneCell') = true := by simp [encSl, Sl.v, Value.oneCell']
theorem one_short {r : List UInt8} (h : r.length < 6) : oneA r = none := by unfold oneA; rw [if_pos h]
theorem one_big {r : List UInt8} (h : 8192 < longA r) : oneA r = none := by
 unfold oneA
 repeat' split
 all_goals first | rfl | contradiction
theorem one_less {r : List UInt8} (h : r.length < longA r + 6) : oneA r = none := by
 unfold oneA
 repeat' split
 all_goals first | rfl | contradiction
theorem one_some {r : List UInt8} {n : Nat} (hn : longA r = n) (h1 : ¬ r.length < 6) (h2 : ¬ 8192 < n) (h3 : ¬ r.length < n + 6) (h4 : longA (r.drop 2) = checkA (r.take 2)) (h5 : longA (r.drop (4 + n)) = checkA ((r.drop 4).take n)) : oneA r = some ((r.drop 4).take n) := by
 subst hn
 unfold oneA; rw [if_neg h1, if_neg h2, if_neg h3, if_neg (by simp [h4]), if_neg (by simp [h5])]
theorem scan_any (D : Nat → Prop) (s : Sl UInt8) (w : World) (hs : s.OK 1 encByte okByte D w) (hl : s.val.length ≤ 1000000) :
  Calls Tryz.prog 8 #[.slice s.a s.val.length s.cap] w fun e w' => ∃ (v : Value) (l : List (Sl UInt8)), e = .returned (.tuple #[v, .int .i64 (scanA (s.val.length + 1) s.val).2]) ∧ OwnL encSl 1 w' w.heap.size 24 v l ∧ (∀ x ∈ l, okSl (fun _ => False) w' x) ∧ l.map (fun x : Sl UInt8 => x.val) = (scanA (s.val.length + 1) s.val).1 ∧ Below w.heap.size w w' := by
 have HS := Lib.hid hs
 have hcap := hs.le
 clear hs
 obtain ⟨sA, hsA⟩ : ∃ sA, scanA (s.val.length + 1) s.val = sA := ⟨_, rfl⟩
 obtain ⟨recs, took⟩ := sA
 have HSA := Lib.hid hsA
 rw [hsA]
 clear hsA
 go_enter Tryz.func8, Tryz.ntmps8
 go_wp2
 go_step3
 go_wp2
 go_step3
 go_wp2
 go_loopw [4, 5, 6, 7] (fun out pp _ _ wr => ∃ (p : Nat) (l : List (Sl UInt8)), p ≤ s.val.length ∧ pp = .int .i64 p ∧ Hid (OwnL encSl 1 wr w.heap.size 24 out l) ∧ Hid (∀ x ∈ l, okSl (fun k => out.ownBlock = some k) wr x) ∧ Hid (ScanAt s.val p (l.map fun x : Sl UInt8 => x.val)) ∧ Below w.heap.size w wr) (fun _ pp _ _ _ => s.val.length - (intOf pp).toNat)
 case atStart => exact ⟨0, [], Nat.zero_le _, rfl, Lib.hid (OwnL.nil _ _ _ _ _), Lib.hid (by simp), Lib.hid (ScanAt.start _), Below.refl _ _⟩
 case round =>
  obtain ⟨p, l, hp, rfl, HO, HE, HSC, hB⟩ := hrel
  obtain ⟨r, hr⟩ : ∃ r, s.sub p s.val.length = r := ⟨_, rfl⟩
  have HRS := Lib.hid hr
  have hrlen : r.val.length = s.val.length - p := by rw [← hr, sub_length _ _ _ (Nat.le_refl _)]
  have hpl : p + r.val.length = s.val.length := by omega
  have HRV : Hid (r.val = s.val.drop p) := Lib.hid (by rw [← hr, sub_drop])
  have hRW : ∀ W, Below wr.heap.size wr W → r.OK 1 encByte okByte D W := fun W hW => by
   rw [← hr]
   exact Sl.OK.sub (okSl.ext HS.out (.of_below (hB.trans (hW.mono hB.size)))) hp (Nat.le_refl _)
  have hrle : r.val.length ≤ r.cap := (hRW wr (Below.refl _ _)).le
  have HRW := Lib.hid hRW
  have HSD : Hid (oneA r.val = none → recs = l.map (fun x : Sl UInt8 => x.val) ∧ took = p) := Lib.hid fun hn => by
   have h1 := HSA.out
   rw [HSC.out.done (by rw [← HRV.out]; exact hn)] at h1
   simp only [Prod.mk.injEq] at h1
   exact ⟨h1.1.symm, h1.2.symm⟩
  clear hr hRW hrlen
  by_cases h6 : r.val.length < 6
  ·have h6' : (r.val.length : Int) < 6 := by omega
   have HD2 : Hid (recs = l.map (fun x : Sl UInt8 => x.val) ∧ took = p) := Lib.hid (HSD.out (by exact one_short h6))
   go_wp2_with (first
    | ((with_reducible refine at_dst 10 ?_); refine wpList_slice rfl _ _ _ _ _ rfl (.slice s.a s.val.length s.cap) (.slice r.a r.val.length r.cap) rfl (Eq.trans (run_sub_l _ s p hp) (by rw [HRS.out]; rfl)) ?_))
   try rw [Exit.noGoto_ret]
   refine bodyPost_ret (v := .tuple #[u4, .int .i64 p]) (by simp [results, Tryz.results8, go_sem]) rfl ⟨u4, l, by rw [HD2.out.2], HO.out.below (Below.refl _ _) (fun g hg => (HO.out.block g hg).2), fun x hx => okSl.mono (okSl.ext (HE.out x hx) (.of_below (Below.refl _ _))) (fun _ h => h.elim), HD2.out.1.symm, hB.trans ((Below.refl _ _).mono hB.size)⟩
  have h6' : ¬ (r.val.length : Int) < 6 := by omega
  obtain ⟨n, hn⟩ : ∃ n, longA r.val = n := ⟨_, rfl⟩
  have HN := Lib.hid hn
  have HLG : Hid (∀ W, Below wr.heap.size wr W → Calls Tryz.prog 30 #[.slice r.a r.val.length r.cap] W fun e w' => e = .returned (.int .i64 (n : Nat)) ∧ Below W.heap.size W w') := Lib.hid fun W hW => by rw [← hn]; exact long_any D r W (HRW.out W hW) (by omega)
  clear hn
  by_cases h8 : 8192 < n
  ·have h8' : (8192 : Int) < (n : Int) := by omega
   have HD2 : Hid (recs = l.map (fun x : Sl UInt8 => x.val) ∧ took = p) := Lib.hid (HSD.out (by exact one_big (by rw [HN.out]; exact h8)))
   go_wp2_with (first
    | ((with_reducible refine at_dst 10 ?_); refine wpList_slice rfl _ _ _ _ _ rfl (.slice s.a s.val.length s.cap) (.slice r.a r.val.length r.cap) rfl (Eq.trans (run_sub_l _ s p hp) (by rw [HRS.out]; rfl)) ?_)
    | (go_at_call 30; (with_reducible refine (HLG.out _ (Below.refl _ _)).mono ?_); rintro e w1 ⟨rfl, hb1⟩))
   try rw [Exit.noGoto_ret]
   refine bodyPost_ret (v := .tuple #[u4, .int .i64 p]) (by simp [results, Tryz.results8, go_sem]) rfl ⟨u4, l, by rw [HD2.out.2], HO.out.below hb1 (fun g hg => (HO.out.block g hg).2), fun x hx => okSl.mono (okSl.ext (HE.out x hx) (.of_below hb1)) (fun _ h => h.elim), HD2.out.1.symm, hB.trans (hb1.mono hB.size)⟩
  have h8' : ¬ (8192 : Int) < (n : Int) := by omega
  have hw6 : wrap64 ((n : Int) + 6) = (n : Int) + 6 := by unfold wrap64; omega
  by_cases h7 : r.val.length < n + 6
  ·have h7' : (r.val.length : Int) < (n : Int) + 6 := by omega
   have HD2 : Hid (recs = l.map (fun x : Sl UInt8 => x.val) ∧ took = p) := Lib.hid (HSD.out (by exact one_less (by rw [HN.out]; exact h7)))
   go_wp2_with (first
    | ((with_reducible refine at_dst 10 ?_); refine wpList_slice rfl _ _ _ _ _ rfl (.slice s.a s.val.length s.cap) (.slice r.a r.val.length r.cap) rfl (Eq.trans (run_sub_l _ s p hp) (by rw [HRS.out]; rfl)) ?_)
    | (go_at_call 30; (with_reducible refine (HLG.out _ (Below.refl _ _)).mono ?_); rintro e w1 ⟨rfl, hb1⟩))
   try rw [Exit.noGoto_ret]
   refine bodyPost_ret (v := .tuple #[u4, .int .i64 p]) (by simp [results, Tryz.results8, go_sem]) rfl ⟨u4, l, by rw [HD2.out.2], HO.out.below hb1 (fun g hg => (HO.out.block g hg).2), fun x hx => okSl.mono (okSl.ext (HE.out x hx) (.of_below hb1)) (fun _ h => h.elim), HD2.out.1.symm, hB.trans (hb1.mono hB.size)⟩
  have h7' : ¬ (r.val.length : Int) < (n : Int) + 6 := by omega
  have hw4 : wrap64 (4 + (n : Int)) = 4 + (n : Int) := by unfold wrap64; omega
  have hc4 : ((4 + n : Nat) : Int) = 4 + (n : Int) := by omega
  have hv4 : IntKind.i64.wrap (4 + (n : Int)) = 4 + (n : Int) := IntWalk.i64_in _ (by omega)
  obtain ⟨r1, hr1⟩ : ∃ r1, r.sub 2 r.val.length = r1 := ⟨_, rfl⟩
  obtain ⟨r2, hr2⟩ : ∃ r2, r.sub 0 2 = r2 := ⟨_, rfl⟩
  obtain ⟨r3, hr3⟩ : ∃ r3, r.sub (4 + n) r.val.length = r3 := ⟨_, rfl⟩
  obtain ⟨r4, hr4⟩ : ∃ r4, r.sub 4 (4 + n) = r4 := ⟨_, rfl⟩
  obtain ⟨l1, hl1⟩ : ∃ l1, longA r1.val = l1 := ⟨_, rfl⟩
  obtain ⟨l2, hl2⟩ : ∃ l2, longA r3.val = l2 := ⟨_, rfl⟩
  obtain ⟨c1, hc1⟩ : ∃ c1, checkA r2.val = c1 := ⟨_, rfl⟩
  obtain ⟨c2, hc2⟩ : ∃ c2, checkA r4.val = c2 := ⟨_, rfl⟩
  have hv1 : r1.val = r.val.drop 2 := by rw [← hr1, sub_drop]
  have hv2 : r2.val = r.val.take 2 := by rw [← hr2, sub_take]
  have hv3 : r3.val = r.val.drop (4 + n) := by rw [← hr3, sub_drop]
  have hv4 : r4.val = (r.val.drop 4).take n := by rw [← hr4, sub_mid]
  have HR4N : Hid (r4.val.length = n) := Lib.hid (by rw [← hr4, sub_length _ _ _ (by omega)]; omega)
  have HL1 : Hid (∀ W, Below wr.heap.size wr W → Calls Tryz.prog 30 #[.slice r1.a r1.val.length r1.cap] W fun e w' => e = .returned (.int .i64 (l1 : Nat)) ∧ Below W.heap.size W w') := Lib.hid fun W hW => by rw [← hl1]; exact long_any D r1 W (by rw [← hr1]; exact (HRW.out W hW).sub (by omega) (Nat.le_refl _)) (by rw [hv1, List.length_drop]; omega)
  have HL2 : Hid (∀ W, Below wr.heap.size wr W → Calls Tryz.prog 30 #[.slice r3.a r3.val.length r3.cap] W fun e w' => e = .returned (.int .i64 (l2 : Nat)) ∧ Below W.heap.size W w') := Lib.hid fun W hW => by rw [← hl2]; exact long_any D r3 W (by rw [← hr3]; exact (HRW.out W hW).sub (by omega) (Nat.le_refl _)) (by rw [hv3, List.length_drop]; omega)
  have HC1 : Hid (∀ W, Below wr.heap.size wr W → Calls Tryz.prog 31 #[.slice r2.a r2.val.length r2.cap] W fun e w' => e = .returned (.int .i64 (c1 : Nat)) ∧ W = w') := Lib.hid fun W hW => by rw [← hc1]; exact (check_any D r2 W (by rw [← hr2]; exact (HRW.out W hW).sub (by omega) (by omega))).mono fun e w' h => ⟨h.1, h.2.symm⟩
  have HC2 : Hid (∀ W, Below wr.heap.size wr W → Calls Tryz.prog 31 #[.slice r4.a r4.val.length r4.cap] W fun e w' => e = .returned (.int .i64 (c2 : Nat)) ∧ W = w') := Lib.hid fun W hW => by rw [← hc2]; exact (check_any D r4 W (by rw [← hr4]; exact (HRW.out W hW).sub (by omega) (by omega))).mono fun e w' h => ⟨h.1, h.2.symm⟩
  have HR4O : Hid (∀ W, Below wr.heap.size wr W → r4.OK 1 encByte okByte D W) := Lib.hid fun W hW => by rw [← hr4]; exact (HRW.out W hW).sub (by omega) (by omega)
  have HR1 := Lib.hid hr1
  have HR2 := Lib.hid hr2
  have HR3 := Lib.hid hr3
  have HR4 := Lib.hid hr4
  have HK1 : Hid (l1 = c1 ↔ longA (r.val.drop 2) = checkA (r.val.take 2)) := Lib.hid (by rw [← hl1, ← hc1, hv1, hv2])
  have HK2 : Hid (l2 = c2 ↔ longA (r.val.drop (4 + n)) = checkA ((r.val.drop 4).take n)) := Lib.hid (by rw [← hl2, ← hc2, hv3, hv4])
  have HV4 := Lib.hid hv4
  clear hr1 hr2 hr3 hr4 hl1 hl2 hc1 hc2 hv1 hv2 hv3 hv4
  by_cases k1 : l1 = c1
  rotate_left
  ·have k1' : ((l1 : Int) != (c1 : Int)) = true := by simp; omega
   have HD2 : Hid (recs = l.map (fun x : Sl UInt8 => x.val) ∧ took = p) := Lib.hid (HSD.out (by exact one_none_head (fun e => k1 (HK1.out.2 e))))
   clear k1
   go_wp2_with (first
    | ((with_reducible refine at_dst 10 ?_); refine wpList_slice rfl _ _ _ _ _ rfl (.slice s.a s.val.length s.cap) (.slice r.a r.val.length r.cap) rfl (Eq.trans (run_sub_l _ s p hp) (by rw [HRS.out]; rfl)) ?_)
    | (go_at_call 30; (with_reducible refine (HLG.out _ (Below.refl _ _)).mono ?_); rintro e w1 ⟨rfl, hb1⟩))
   refine wp_region_ord [(0, true), (1, true), (3, true), (4, true), (2, false), (5, false), (6, true), (7, true)] rfl (by kernel_rfl) (by kernel_rfl) (fun d _ _ _ _ h => by cases d <;> exact h) ?_
   refine wpB_fix rfl rfl (fun W hW => by go_simp; with_reducible rfl) ?_; simp only [pTs, pTn, pTz, pTc]
   refine wpB_fix (v := .slice r1.a r1.val.length r1.cap) rfl rfl (fun W hW => exec_slice (Eq.trans (run_sub_l W r 2 (by omega)) (by rw [HR1.out]; rfl))) ?_; simp only [pTs, pTn, pTz, pTc]
   refine wpB_fix rfl rfl (fun W hW => by go_simp; with_reducible rfl) ?_; simp only [pTs, pTn, pTz, pTc]
   refine wpB_fix (v := .slice r2.a r2.val.length r2.cap) rfl rfl (fun W hW => exec_slice (Eq.trans (run_sub_h W r 2 (by omega) hrle) (by rw [HR2.out]; rfl))) ?_; simp only [pTs, pTn, pTz, pTc]
   refine wpB_act rfl rfl (fun K hK => ?_)
   go_simp
   refine (HL1.out _ hb1.drew).mono ?_
   rintro e w2 ⟨rfl, hb2⟩
   have hb12 := hb1.drew.trans (hb2.mono hb1.drew.size)
   refine hK _ _ hb2 ?_
   clear hK K
   try simp only [pTs, pTn, pTz, pTc]
   refine wpB_act rfl rfl (fun K hK => ?_)
   go_simp
   refine (HC1.out _ hb12).mono ?_
   rintro e w3 ⟨rfl, hw3⟩
   subst hw3
   refine hK _ _ (Below.refl _ _) ?_
   clear hK K
   try simp only [pTs, pTn, pTz, pTc]
   iterate 2 (refine wpB_fix rfl rfl (fun W hW => by go_simp; with_reducible rfl) ?_; simp only [pTs, pTn, pTz, pTc])
   simp only [wpB]
   go_wp2
   try rw [Exit.noGoto_ret]
   refine bodyPost_ret (v := .tuple #[u4, .int .i64 p]) (by simp [results, Tryz.results8, go_sem]) rfl ⟨u4, l, by rw [HD2.out.2], HO.out.below hb12 (fun g hg => (HO.out.block g hg).2), fun x hx => okSl.mono (okSl.ext (HE.out x hx) (.of_below hb12)) (fun _ h => h.elim), HD2.out.1.symm, hB.trans (hb12.mono hB.size)⟩
  have k1' : ((l1 : Int) != (c1 : Int)) = false := by simp; omega
  by_cases k2 : l2 = c2
  rotate_left
  ·have k2' : ((l2 : Int) != (c2 : Int)) = true := by simp; omega
   have HD2 : Hid (recs = l.map (fun x : Sl UInt8 => x.val) ∧ took = p) := Lib.hid (HSD.out (by exact one_none_tail HN.out (fun e => k2 (HK2.out.2 e))))
   clear k1 k2
   go_wp2_with (first
    | ((with_reducible refine at_dst 10 ?_); refine wpList_slice rfl _ _ _ _ _ rfl (.slice s.a s.val.length s.cap) (.slice r.a r.val.length r.cap) rfl (Eq.trans (run_sub_l _ s p hp) (by rw [HRS.out]; rfl)) ?_)
    | (go_at_call 30; (with_reducible refine (HLG.out _ (Below.refl _ _)).mono ?_); rintro e w1 ⟨rfl, hb1⟩))
   refine wp_region_ord [(0, true), (1, true), (3, true), (4, true), (2, false), (5, false), (6, true), (7, true)] rfl (by kernel_rfl) (by kernel_rfl) (fun d _ _ _ _ h => by cases d <;> exact h) ?_
   refine wpB_fix rfl rfl (fun W hW => by go_simp; with_reducible rfl) ?_; simp only [pTs, pTn, pTz, pTc]
   refine wpB_fix (v := .slice r1.a r1.val.length r1.cap) rfl rfl (fun W hW => exec_slice (Eq.trans (run_sub_l W r 2 (by omega)) (by rw [HR1.out]; rfl))) ?_; simp only [pTs, pTn, pTz, pTc]
   refine wpB_fix rfl rfl (fun W hW => by go_simp; with_reducible rfl) ?_; simp only [pTs, pTn, pTz, pTc]
   refine wpB_fix (v := .slice r2.a r2.val.length r2.cap) rfl rfl (fun W hW => exec_slice (Eq.trans (run_sub_h W r 2 (by omega) hrle) (by rw [HR2.out]; rfl))) ?_; simp only [pTs, pTn, pTz, pTc]
   refine wpB_act rfl rfl (fun K hK => ?_)
   go_simp
   refine (HL1.out _ hb1.drew).mono ?_
   rintro e w2 ⟨rfl, hb2⟩
   have hb12 := hb1.drew.trans (hb2.mono hb1.drew.size)
   refine hK _ _ hb2 ?_
   clear hK K
   try simp only [pTs, pTn, pTz, pTc]
   refine wpB_act rfl rfl (fun K hK => ?_)
   go_simp
   refine (HC1.out _ hb12).mono ?_
   rintro e w3 ⟨rfl, hw3⟩
   subst hw3
   refine hK _ _ (Below.refl _ _) ?_
   clear hK K
   try simp only [pTs, pTn, pTz, pTc]
   iterate 2 (refine wpB_fix rfl rfl (fun W hW => by go_simp; with_reducible rfl) ?_; simp only [pTs, pTn, pTz, pTc])
   simp only [wpB]
   go_wp2
   refine wp_region_ord [(0, true), (1, true), (2, true), (3, true), (5, true), (6, true), (7, true), (8, true), (4, false), (9, false), (10, true), (11, true)] rfl (by kernel_rfl) (by kernel_rfl) (fun d _ _ _ _ h => by cases d <;> exact h) ?_
   iterate 2 (refine wpB_fix rfl rfl (fun W hW => by go_simp; with_reducible rfl) ?_; simp only [pTs, pTn, pTz, pTc])
   refine wpB_fix (v := .int .i64 ((4 + n : Nat) : Int)) rfl rfl (fun W hW => by rw [hc4]; go_simp) ?_; simp only [pTs, pTn, pTz, pTc]
   refine wpB_fix (v := .slice r3.a r3.val.length r3.cap) rfl rfl (fun W hW => exec_slice (Eq.trans (run_sub_l W r (4 + n) (by omega)) (by rw [HR3.out]; rfl))) ?_; simp only [pTs, pTn, pTz, pTc]
   iterate 2 (refine wpB_fix rfl rfl (fun W hW => by go_simp; with_reducible rfl) ?_; simp only [pTs, pTn, pTz, pTc])
   refine wpB_fix (v := .int .i64 ((4 + n : Nat) : Int)) rfl rfl (fun W hW => by rw [hc4]; go_simp) ?_; simp only [pTs, pTn, pTz, pTc]
   refine wpB_fix (v := .slice r4.a r4.val.length r4.cap) rfl rfl (fun W hW => exec_slice (Eq.trans (run_sub_lh W r 4 (4 + n) (by omega) (by omega) hrle) (by rw [HR4.out]; rfl))) ?_; simp only [pTs, pTn, pTz, pTc]
   refine wpB_act rfl rfl (fun K hK => ?_)
   go_simp
   refine (HL2.out _ hb12.drew).mono ?_
   rintro e w4 ⟨rfl, hb4⟩
   have hb14 := hb12.drew.trans (hb4.mono hb12.drew.size)
   refine hK _ _ hb4 ?_
   clear hK K
   try simp only [pTs, pTn, pTz, pTc]
   refine wpB_act rfl rfl (fun K hK => ?_)
   go_simp
   refine (HC2.out _ hb14).mono ?_
   rintro e w5 ⟨rfl, hw5⟩
   subst hw5
   refine hK _ _ (Below.refl _ _) ?_
   clear hK K
   try simp only [pTs, pTn, pTz, pTc]
   iterate 2 (refine wpB_fix rfl rfl (fun W hW => by go_simp; with_reducible rfl) ?_; simp only [pTs, pTn, pTz, pTc])
   simp only [wpB]
   go_wp2
   try rw [Exit.noGoto_ret]
   refine bodyPost_ret (v := .tuple #[u4, .int .i64 p]) (by simp [results, Tryz.results8, go_sem]) rfl ⟨u4, l, by rw [HD2.out.2], HO.out.below hb14 (fun g hg => (HO.out.block g hg).2), fun x hx => okSl.mono (okSl.ext (HE.out x hx) (.of_below hb14)) (fun _ h => h.elim), HD2.out.1.symm, hB.trans (hb14.mono hB.size)⟩
  have k2' : ((l2 : Int) != (c2 : Int)) = false := by simp; omega
  have HONE : Hid (oneA (s.val.drop p) = some r4.val) := Lib.hid (by rw [← HRV.out, HV4.out]; exact one_some HN.out h6 h8 h7 (HK1.out.1 k1) (HK2.out.1 k2))
  clear k1 k2
  have hwp : wrap64 ((p : Int) + ((n : Int) + 6)) = (p : Int) + ((n : Int) + 6) := by unfold wrap64; omega
  go_wp2_with (first
   | ((with_reducible refine at_dst 10 ?_); refine wpList_slice rfl _ _ _ _ _ rfl (.slice s.a s.val.length s.cap) (.slice r.a r.val.length r.cap) rfl (Eq.trans (run_sub_l _ s p hp) (by rw [HRS.out]; rfl)) ?_)
   | (go_at_call 30; (with_reducible refine (HLG.out _ (Below.refl _ _)).mono ?_); rintro e w1 ⟨rfl, hb1⟩))
  refine wp_region_ord [(0, true), (1, true), (3, true), (4, true), (2, false), (5, false), (6, true), (7, true)] rfl (by kernel_rfl) (by kernel_rfl) (fun d _ _ _ _ h => by cases d <;> exact h) ?_
  refine wpB_fix rfl rfl (fun W hW => by go_simp; with_reducible rfl) ?_; simp only [pTs, pTn, pTz, pTc]
  refine wpB_fix (v := .slice r1.a r1.val.length r1.cap) rfl rfl (fun W hW => exec_slice (Eq.trans (run_sub_l W r 2 (by omega)) (by rw [HR1.out]; rfl))) ?_; simp only [pTs, pTn, pTz, pTc]
  refine wpB_fix rfl rfl (fun W hW => by go_simp; with_reducible rfl) ?_; simp only [pTs, pTn, pTz, pTc]
  refine wpB_fix (v := .slice r2.a r2.val.length r2.cap) rfl rfl (fun W hW => exec_slice (Eq.trans (run_sub_h W r 2 (by omega) hrle) (by rw [HR2.out]; rfl))) ?_; simp only [pTs, pTn, pTz, pTc]
  refine wpB_act rfl rfl (fun K hK => ?_)
  go_simp
  refine (HL1.out _ hb1.drew).mono ?_
  rintro e w2 ⟨rfl, hb2⟩
  have hb12 := hb1.drew.trans (hb2.mono hb1.drew.size)
  refine hK _ _ hb2 ?_
  clear hK K
  try simp only [pTs, pTn, pTz, pTc]
  refine wpB_act rfl rfl (fun K hK => ?_)
  go_simp
  refine (HC1.out _ hb12).mono ?_
  rintro e w3 ⟨rfl, hw3⟩
  subst hw3
  refine hK _ _ (Below.refl _ _) ?_
  clear hK K
  try simp only [pTs, pTn, pTz, pTc]
  iterate 2 (refine wpB_fix rfl rfl (fun W hW => by go_simp; with_reducible rfl) ?_; simp only [pTs, pTn, pTz, pTc])
  simp only [wpB]
  go_wp2
  refine wp_region_ord [(0, true), (1, true), (2, true), (3, true), (5, true), (6, true), (7, true), (8, true), (4, false), (9, false), (10, true), (11, true)] rfl (by kernel_rfl) (by kernel_rfl) (fun d _ _ _ _ h => by cases d <;> exact h) ?_
  iterate 2 (refine wpB_fix rfl rfl (fun W hW => by go_simp; with_reducible rfl) ?_; simp only [pTs, pTn, pTz, pTc])
  refine wpB_fix (v := .int .i64 ((4 + n : Nat) : Int)) rfl rfl (fun W hW => by rw [hc4]; go_simp) ?_; simp only [pTs, pTn, pTz, pTc]
  refine wpB_fix (v := .slice r3.a r3.val.length r3.cap) rfl rfl (fun W hW => exec_slice (Eq.trans (run_sub_l W r (4 + n) (by omega)) (by rw [HR3.out]; rfl))) ?_; simp only [pTs, pTn, pTz, pTc]
  iterate 2 (refine wpB_fix rfl rfl (fun W hW => by go_simp; with_reducible rfl) ?_; simp only [pTs, pTn, pTz, pTc])
  refine wpB_fix (v := .int .i64 ((4 + n : Nat) : Int)) rfl rfl (fun W hW => by rw [hc4]; go_simp) ?_; simp only [pTs, pTn, pTz, pTc]
  refine wpB_fix (v := .slice r4.a r4.val.length r4.cap) rfl rfl (fun W hW => exec_slice (Eq.trans (run_sub_lh W r 4 (4 + n) (by omega) (by omega) hrle) (by rw [HR4.out]; rfl))) ?_; simp only [pTs, pTn, pTz, pTc]
  refine wpB_act rfl rfl (fun K hK => ?_)
  go_simp
  refine (HL2.out _ hb12.drew).mono ?_
  rintro e w4 ⟨rfl, hb4⟩
  have hb14 := hb12.drew.trans (hb4.mono hb12.drew.size)
  refine hK _ _ hb4 ?_
  clear hK K
  try simp only [pTs, pTn, pTz, pTc]
  refine wpB_act rfl rfl (fun K hK => ?_)
  go_simp
  refine (HC2.out _ hb14).mono ?_
  rintro e w5 ⟨rfl, hw5⟩
  subst hw5
  refine hK _ _ (Below.refl _ _) ?_
  clear hK K
  try simp only [pTs, pTn, pTz, pTc]
  iterate 2 (refine wpB_fix rfl rfl (fun W hW => by go_simp; with_reducible rfl) ?_; simp only [pTs, pTn, pTz, pTc])
  simp only [wpB]
  have hc14 := hb14
  go_wp2_with (first
   | ((with_reducible refine at_dst 47 ?_); refine wpList_slice rfl _ _ _ _ _ rfl (.slice r.a r.val.length r.cap) (.slice r4.a r4.val.length r4.cap) rfl (by have h := run_sub_lh w4 r 4 (4 + n) (by omega) (by omega) hrle; rw [HR4.out, hc4] at h; exact h) ?_)
   | (go_at_call 32; (with_reducible refine (clone_Byte D r4 _ (HR4O.out _ hc14)).mono ?_); rintro e w6 ⟨vy, rfl, hoy, -, hb6⟩; obtain ⟨y, rfl, hyv, hyok, hyb⟩ := hoy.sl (fun _ => rfl) okByte (fun k => k < w4.heap.size) (fun _ _ => trivial) (fun k hk => Nat.not_lt.2 hk) (by rw [HR4N.out]; omega); have hb16 := hc14.trans (hb6.mono hc14.size); have HYV := Lib.hid hyv; have HYO := Lib.hid hyok; clear hyv hyok hoy)
   | ((with_reducible refine at_dst 50 ?_); refine wpList_append_oneB rfl _ _ 22 rfl w.heap.size einfo_Sl (fun _ => rfl) (by decide) encSl_one (by decide) u4 l rfl ((HO.out.below hb16 (fun g hg => (HO.out.block g hg).2)).belowAll ((Below.refl _ _).alloc (Nat.le_refl _) _)) w6.heap.size 0 1 y rfl (fun j hj => by rw [(BoxAt.new _ _ _).cell, Nat.zero_add]; rfl) (by have := HSC.out.size; rw [List.length_map] at this; omega) (by have := hb16.size; have := hB.size; simp; omega) ?_; intro v7 w7 ho7 hg7 hat7))
  go_roundw
  case rel =>
   have hbA : Below wr.heap.size wr (w6.alloc (.cells #[y.v] 24)) := hb16.alloc hb16.size _
   have hsA : (w6.alloc (.cells #[y.v] 24)).heap.size = w6.heap.size + 1 := by simp
   have hs4 := hc14.size
   have hs6 := hb6.size
   have hown : ∀ g, u4.ownBlock = some g → g < wr.heap.size := fun g hg => (HO.out.block g hg).2
   refine ⟨p + (n + 6), l ++ [y], by omega, by first | go_num | (push_cast; rfl), Lib.hid ho7, Lib.hid fun x hx => ?_, Lib.hid ?_, (hB.trans (hbA.mono hB.size)).trans (Below.appended (HO.out.below hbA hown) hg7 (Nat.le_refl _) (by have := hB.size; omega))⟩
   ·rcases List.mem_append.1 hx with hx | hx
    ·refine okSl.re (HE.out x hx) (w' := w7) ((Ext.of_below hbA).trans ⟨hg7.size, fun k hk hd => hg7.block k hk (fun e => hd e.symm)⟩) fun k hk hk2 e => ?_
     rcases hat7 with h | h
     ·exact hk (h.symm.trans e)
     ·rw [h] at e; have e' := Option.some.inj e; simp only [World.size_alloc] at e'; omega
    ·rw [List.mem_singleton.1 hx]
     refine okSl.re (D := fun k => k < w4.heap.size) (w := w6) (w' := w7) HYO.out ((Ext.of_below ((Below.refl _ _).alloc (Nat.le_refl _) _)).trans ⟨hg7.size, fun k hk hd => hg7.block k hk (fun e => hd (by have := hown k e.symm; show k < _; omega))⟩) fun k hk hk2 e => ?_
     rcases hat7 with h | h
     ·rw [h] at e; have := hown k e; omega
     ·rw [h] at e; have e' := Option.some.inj e; simp only [World.size_alloc] at e'; omega
   ·have h := HSC.out.next HONE.out
    rw [HR4N.out] at h
    rw [List.map_append, List.map_cons, List.map_nil, HYV.out]
    exact h
  case measure => simp [intOf]; omega
end Go.Proofs.YtjmgnnpddbganaaGreat
