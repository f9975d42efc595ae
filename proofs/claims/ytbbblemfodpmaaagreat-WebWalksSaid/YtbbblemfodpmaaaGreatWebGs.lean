/-
  Walks; the sides of a web, how often a side is in walks.
  How often a side is in walks.
  .. where two operations that make memory may come up in either order: both ways.
  WebRounds answers true.
-/
import Derived.Test.YtbbblemfodpmaaaGreatWebGr
import Derived.Test.YtbbblemfodpmaaaGreatWebGn
import Derived.Test.YtbbblemfodpmaaaGreatOrd
import Derived.Test.YtbbblemfodpmaaaGreatWebGm
set_option linter.unusedVariables false
set_option linter.unusedSimpArgs false
set_option maxHeartbeats 16000000
set_option maxRecDepth 100000
section
namespace Go.Proofs.YtbbblemfodpmaaaGreat
open Go.RowKit
theorem Walks_ok (sj : Sl Joint) (sl : Sl Lead) (w : World) (hj : sj.OK 3 zAi zAs (fun _ => False) w) (hl : sl.OK 8 zAf zAw (fun _ => False) w) (h0 : (zAJ sj.val sl.val).1 = 0) :
  Calls Tryz.prog 39 #[.agg #[.slice sj.a sj.val.length sj.cap, .slice sl.a sl.val.length sl.cap]] w fun e w' => ∃ v,e = .returned (.tuple #[v, .int .i64 0]) ∧ zA1 w' w.heap.size v (zB5 sj.val sl.val) ∧ Below w.heap.size w w' := by
 have HV := zz (zBK h0)
 have hB : Below w.heap.size w (w.alloc (.cells #[.slice sj.a sj.val.length sj.cap, .slice sl.a sl.val.length sl.cap] 25)) := (Below.refl _ _).alloc (Nat.le_refl _) _
 have hb : zAc (w.alloc (.cells #[.slice sj.a sj.val.length sj.cap, .slice sl.a sl.val.length sl.cap] 25)) w.heap.size 25 #[.slice sj.a sj.val.length sj.cap, .slice sl.a sl.val.length sl.cap] := zAc.new _ _ _
 have HVA := zz (zDG sj sl _ (hj.jmoved hB) (hl.lmoved hB) h0)
 have HL := zz (hl.lmoved hB)
 have HB := zz hB
 clear hj hl h0 hB
 go_enter Tryz.func39,Tryz.ntmps39
 go_wp2_with (first
  | ((with_reducible refine zAl 7 ?_);refine zAj hb rfl 25 _ rfl rfl #[.slice sj.a sj.val.length sj.cap, .slice sl.a sl.val.length sl.cap] (zAe _) zuC ?_)
  | (go_at_call 86;refine HVA.out.mono ?_;rintro e w1 ⟨b,rfl,hbb,hn1,hb1⟩)
  | (go_at_call 96;refine (zFC HV.out w1 hn1 (HL.out.lmoved hb1)).mono ?_;rintro e w2 ⟨v,rfl,ho,hb2⟩))
 go_ret2
 have hB1 := HB.out.trans (hb1.mono HB.out.size)
 have hle : w.heap.size ≤ w1.heap.size + 1 := Nat.le_trans hB1.size (Nat.le_succ _)
 obtain ⟨ss,h1,h2,h3⟩ := ho
 exact ⟨v,rfl,⟨ss,h1.base_le hle,fun s hs => (h2 s hs).base_le hle,h3⟩,hB1.trans (hb2.mono hB1.size)⟩
theorem Walks_bad (sj : Sl Joint) (sl : Sl Lead) (w : World) (hj : sj.OK 3 zAi zAs (fun _ => False) w) (hl : sl.OK 8 zAf zAw (fun _ => False) w) (h0 : (zAJ sj.val sl.val).1 ≠ 0) :
  Calls Tryz.prog 39 #[.agg #[.slice sj.a sj.val.length sj.cap, .slice sl.a sl.val.length sl.cap]] w fun e w' => e = .returned (.tuple #[.slice none 0 0, .int .i64 (zAJ sj.val sl.val).1]) ∧ Below w.heap.size w w' := by
 have hB : Below w.heap.size w (w.alloc (.cells #[.slice sj.a sj.val.length sj.cap, .slice sl.a sl.val.length sl.cap] 25)) := (Below.refl _ _).alloc (Nat.le_refl _) _
 have hb : zAc (w.alloc (.cells #[.slice sj.a sj.val.length sj.cap, .slice sl.a sl.val.length sl.cap] 25)) w.heap.size 25 #[.slice sj.a sj.val.length sj.cap, .slice sl.a sl.val.length sl.cap] := zAc.new _ _ _
 have HVA := zz (valid_bad sj sl _ (hj.jmoved hB) (hl.lmoved hB) h0)
 have HB := zz hB
 obtain ⟨n,hn⟩ : ∃ n,(zAJ sj.val sl.val).1 = n := ⟨_,rfl⟩
 simp only [hn] at HVA h0 ⊢
 clear hj hl hB hn
 go_enter Tryz.func39,Tryz.ntmps39
 go_wp2_with (first
  | ((with_reducible refine zAl 7 ?_);refine zAj hb rfl 25 _ rfl rfl #[.slice sj.a sj.val.length sj.cap, .slice sl.a sl.val.length sl.cap] (zAe _) zuC ?_)
  | (go_at_call 86;refine HVA.out.mono ?_;rintro e w1 ⟨rfl,hb1⟩))
 go_ret2
 exact ⟨rfl,HB.out.trans (hb1.mono HB.out.size)⟩
end Go.Proofs.YtbbblemfodpmaaaGreat
end
section
namespace Go.Proofs.YtbbblemfodpmaaaGreat
open Go.RowKit
end Go.Proofs.YtbbblemfodpmaaaGreat
end
section
namespace Go.Proofs.YtbbblemfodpmaaaGreat
open Go.RowKit
section
variable {P : Program} {ops : Array Oper} {Q : Exit → Act → World → Prop} {m i j : Nat} {o1 o2 : List (Nat × Option Bool)}
end
end Go.Proofs.YtbbblemfodpmaaaGreat
end
section
namespace Go.Proofs.YtbbblemfodpmaaaGreat
open Go.RowKit
theorem side_ok {js : List Joint} {ls : List Lead} (h0 : (zAJ js ls).1 = 0) {s : Side} (h : zAQ ls s) : I64 s.lead ∧ zAT js ls s = 0 := by
 have V := zBK h0
 obtain ⟨x,hx,e⟩ := h
 have hl := V.lead hx
 rw [e] at hl
 exact ⟨by rw [← e];exact (V.leadI hx).1,by unfold zAT;rw [if_neg (by simp [h0]),if_pos (by rw [hl];rfl)]⟩
end Go.Proofs.YtbbblemfodpmaaaGreat
end
