/-
  check, short: walked, for all bytes.
-/
import Derived.Test.YtnmgfnpphglphaaGreatJournal
import Derived.Test.YtnmgfnpphglphaaGreatOwn
import Derived.Test.YtnmgfnpphglphaaGreatBox
import Derived.Test.YtnmgfnpphglphaaGreatClone
set_option maxHeartbeats 16000000
set_option maxRecDepth 100000
set_option linter.unusedVariables false
set_option linter.unusedSimpArgs false
namespace Go.Proofs.YtnmgfnpphglphaaGreat
open Go.RowKit
theorem einfo_Byte : EInfo Tryz.prog 30 5 1 1 := ⟨Tryz.underlying30, by kernel_rfl⟩
theorem encByte_one (x : UInt8) : (encByte x).all (·.oneCell') = true := by simp [encByte, Value.oneCell']
theorem take_snocB {α : Type} {l : List α} {k : Nat} {x : α} (h : l[k]? = some x) : l.take (k + 1) = l.take k ++ [x] := by rw [List.take_add_one, h]; rfl
theorem ckFrom_snoc : ∀ (l : List UInt8) (i s : Nat) (x : UInt8), ckFrom i s (l ++ [x]) = (ckFrom i s l + (i + l.length + 1) * x.toNat) % 65521
 | [], i, s, x => by simp [ckFrom]
 | y :: l, i, s, x => by
  rw [List.cons_append, ckFrom, ckFrom_snoc l, ckFrom]
  simp only [List.length_cons]
  congr 3; omega
theorem check_any (D : Nat → Prop) (s : Sl UInt8) (w : World) (hs : s.OK 1 encByte okByte D w) :
  Calls Tryz.prog 125 #[.slice s.a s.val.length s.cap] w fun e w' => e = .returned (.int .i64 (checkA s.val)) ∧ w' = w := by
 have hroom := hs.room
 have HS := Lib.hid hs
 clear hs
 obtain ⟨a, cap, val⟩ := s
 simp only at hroom
 go_enter Tryz.func125, Tryz.ntmps125
 go_wp2
 go_loopw [3, 4, 5, 8] (fun sm _ _ i wr => ∃ (k : Nat) (c : Nat), k ≤ val.length ∧ i = .int .i64 k ∧ sm = .int .i64 c ∧ c < 65521 ∧ Hid (c = checkA (val.take k)) ∧ Hid (w = wr)) (fun _ _ _ i _ => val.length - (Go.RowKit.intOf i).toNat)
 case atStart => exact ⟨0, 1, Nat.zero_le _, rfl, rfl, by decide, Lib.hid rfl, Lib.hid rfl⟩
 case round =>
  obtain ⟨k, c, hk, rfl, rfl, hc, HC, HW⟩ := hrel
  have hw' := HW.out
  subst hw'
  by_cases hlt : k < val.length
  ·obtain ⟨x, hx⟩ : ∃ x, val[k]? = some x := ⟨_, List.getElem?_eq_getElem hlt⟩
   obtain ⟨b, o, rfl, hb, _, _, hcell⟩ := HS.out.at hx
   have hcx : w.cell? ⟨b, o + k, none⟩ = some (.int .u8 x.toNat) := by simpa [encByte] using hcell 0 (by decide)
   have hi1 : (k : Int) < (val.length : Int) := by omega
   have HC2 : Hid (checkA (val.take (k + 1)) = (c + (k + 1) * x.toNat) % 65521) := Lib.hid (by rw [take_snocB hx, HC.out]; unfold checkA; rw [ckFrom_snoc, List.length_take, Nat.min_eq_left hk, Nat.zero_add])
   have hx8 : x.toNat < 256 := x.toNat_lt
   have hmul : (k + 1) * x.toNat ≤ 4294967297 * 255 := Nat.mul_le_mul (by omega) (by omega)
   obtain ⟨t, ht⟩ : ∃ t, (k + 1) * x.toNat = t := ⟨_, rfl⟩
   rw [ht] at HC2 hmul
   have ht2 : ((k : Int) + 1) * (x.toNat : Int) = (t : Int) := by rw [← ht]; push_cast; rfl
   clear hx hcell ht
   go_wp2
   go_roundw
   case rel => exact ⟨k + 1, (c + t) % 65521, by omega, by go_num, by go_num, Nat.mod_lt _ (by decide), Lib.hid HC2.out.symm, Lib.hid (by first | trivial | rfl)⟩
   case measure => simp [Go.RowKit.intOf]; omega
  ·have hk' : k = val.length := by omega
   have HF : Hid (c = checkA val) := Lib.hid (by rw [HC.out, hk', List.take_length])
   have hi0 : ¬ (k : Int) < (val.length : Int) := by omega
   clear hk'
   go_wp2
   go_ret
   exact ⟨by simp [HF.out], rfl⟩
theorem okBytes {w : World} {b o c : Nat} (l : List UInt8) (hl : l.length ≤ c) (hr : l.length ≤ 4294967296) (hb : b < w.heap.size) (hc : ∀ i x, l[i]? = some x → w.cell? ⟨b, o + i, none⟩ = some (.int .u8 x.toNat)) : Sl.OK 1 encByte okByte (fun _ => False) w ⟨some ⟨b, o, none⟩, c, l⟩ := by
 refine ⟨hl, hr, by simp, fun p hp _ => ?_, fun _ _ => trivial, fun b' o' ha i x hi j hj => ?_⟩
 ·simp at hp; subst hp; exact ⟨rfl, fun h => h, hb⟩
 ·simp at ha; obtain ⟨rfl, rfl⟩ := ha
  have : j = 0 := by omega
  subst this
  simpa [encByte] using hc i x hi
def sh2 (n : Nat) : Array Value := #[.int .u8 (UInt8.ofNat n).toNat, .int .u8 (UInt8.ofNat (n / 256)).toNat]
theorem okShort {w : World} {b n : Nat} (hb : BoxAt w b 5 (sh2 n)) : Sl.OK 1 encByte okByte (fun _ => False) w ⟨some ⟨b, 0, none⟩, 2, shortA n⟩ :=
 okBytes _ (by simp [shortA]) (by simp [shortA]) hb.lt (fun i x hi => by rw [hb.cell]; rcases i with _ | _ | i <;> simp [shortA] at hi <;> subst hi <;> rfl)
theorem short_any (n : Nat) (w : World) (hn : n < 65536) : Calls Tryz.prog 132 #[.int .i64 n] w fun e w' => e = .returned (.slice (some ⟨w.heap.size, 0, none⟩) 2 2) ∧ w' = w.alloc (.cells (sh2 n) 5) := by
 have HE : Hid (#[Value.int IntKind.u8 ((n : Int) % 256), Value.int IntKind.u8 ((n : Int) / 256)] = sh2 n) := Lib.hid (by
  have e1 : ((UInt8.ofNat n).toNat : Int) = (n : Int) % 256 := by simp [UInt8.toNat_ofNat']
  have e2 : ((UInt8.ofNat (n / 256)).toNat : Int) = (n : Int) / 256 := by simp only [UInt8.toNat_ofNat']; omega
  rw [sh2, e1, e2])
 go_enter Tryz.func132, Tryz.ntmps132
 go_wp2
 go_ret
 exact ⟨by simp, by rw [← HE.out]⟩
end Go.Proofs.YtnmgfnpphglphaaGreat
