/-Walks; the sides of a web, how often a side is in walks.-/
import Derived.Test.YtcebcklecmppnaaGreatWebGr
import Derived.Test.YtcebcklecmppnaaGreatWebGn
import Derived.Test.YtcebcklecmppnaaGreatOrd
import Derived.Test.YtcebcklecmppnaaGreatWebGm
set_option linter.unusedVariables false
set_option linter.unusedSimpArgs false
set_option maxHeartbeats 16000000
set_option maxRecDepth 100000
section
namespace Go.Proofs.YtcebcklecmppnaaGreat
open Go.RowKit
theorem Walks_ok (sj : Sl Joint) (sl : Sl Lead) (w : World) (hj : sj.OK 3 zAg zAv (fun _ => False) w) (hl : sl.OK 8 zAe zAx (fun _ => False) w) (h0 : (zAE sj.val sl.val).1 = 0) :
  Calls Tryz.prog 20 #[.agg #[.slice sj.a sj.val.length sj.cap, .slice sl.a sl.val.length sl.cap]] w fun e w' => ∃ v,e = .returned (.tuple #[v, .int .i64 0]) ∧ zAT w' w.heap.size v (zBo sj.val sl.val) ∧ Below w.heap.size w w' := by
 have HV := zz (zCT h0);have hB : Below w.heap.size w (w.alloc (.cells #[.slice sj.a sj.val.length sj.cap, .slice sl.a sl.val.length sl.cap] 25)) := (Below.refl _ _).alloc (Nat.le_refl _) _;have hb : zAd (w.alloc (.cells #[.slice sj.a sj.val.length sj.cap, .slice sl.a sl.val.length sl.cap] 25)) w.heap.size 25 #[.slice sj.a sj.val.length sj.cap, .slice sl.a sl.val.length sl.cap] := zAd.new _ _ _;have HVA := zz (zC3 sj sl _ (hj.jmoved hB) (hl.lmoved hB) h0);have HL := zz (hl.lmoved hB);have HB := zz hB;clear hj hl h0 hB;go_enter Tryz.func20,Tryz.ntmps20
 go_wp2_with (first
  | (refine zLd 7 hb #[.slice sj.a sj.val.length sj.cap, .slice sl.a sl.val.length sl.cap] zuC ?_)
  | (go_at_call 32;refine HVA.out.mono ?_;rintro e w1 ⟨b,rfl,hbb,hn1,hb1⟩)
  | (go_at_call 34;refine (zFw HV.out w1 hn1 (HL.out.lmoved hb1)).mono ?_;rintro e w2 ⟨v,rfl,ho,hb2⟩))
 go_ret2;have hB1 := HB.out.trans (hb1.mono HB.out.size);have hle : w.heap.size ≤ w1.heap.size + 1 := Nat.le_trans hB1.size (Nat.le_succ _);obtain ⟨ss,h1,h2,h3⟩ := ho;exact ⟨v,rfl,⟨ss,h1.base_le hle,fun s hs => (h2 s hs).base_le hle,h3⟩,hB1.trans (hb2.mono hB1.size)⟩
theorem Walks_bad (sj : Sl Joint) (sl : Sl Lead) (w : World) (hj : sj.OK 3 zAg zAv (fun _ => False) w) (hl : sl.OK 8 zAe zAx (fun _ => False) w) (h0 : (zAE sj.val sl.val).1 ≠ 0) :
  Calls Tryz.prog 20 #[.agg #[.slice sj.a sj.val.length sj.cap, .slice sl.a sl.val.length sl.cap]] w fun e w' => e = .returned (.tuple #[.slice none 0 0, .int .i64 (zAE sj.val sl.val).1]) ∧ Below w.heap.size w w' := by
 have hB : Below w.heap.size w (w.alloc (.cells #[.slice sj.a sj.val.length sj.cap, .slice sl.a sl.val.length sl.cap] 25)) := (Below.refl _ _).alloc (Nat.le_refl _) _;have hb : zAd (w.alloc (.cells #[.slice sj.a sj.val.length sj.cap, .slice sl.a sl.val.length sl.cap] 25)) w.heap.size 25 #[.slice sj.a sj.val.length sj.cap, .slice sl.a sl.val.length sl.cap] := zAd.new _ _ _;have HVA := zz (zFu sj sl _ (hj.jmoved hB) (hl.lmoved hB) h0);have HB := zz hB;obtain ⟨n,hn⟩ : ∃ n,(zAE sj.val sl.val).1 = n := ⟨_,rfl⟩
 simp only [hn] at HVA h0 ⊢;clear hj hl hB hn;go_enter Tryz.func20,Tryz.ntmps20
 go_wp2_with (first
  | (refine zLd 7 hb #[.slice sj.a sj.val.length sj.cap, .slice sl.a sl.val.length sl.cap] zuC ?_)
  | (go_at_call 32;refine HVA.out.mono ?_;rintro e w1 ⟨rfl,hb1⟩))
 go_ret2;exact ⟨rfl,HB.out.trans (hb1.mono HB.out.size)⟩
end Go.Proofs.YtcebcklecmppnaaGreat
end
section
namespace Go.Proofs.YtcebcklecmppnaaGreat
open Go.RowKit
end Go.Proofs.YtcebcklecmppnaaGreat
end
section
namespace Go.Proofs.YtcebcklecmppnaaGreat
open Go.RowKit
section
variable {P : Program} {ops : Array Oper} {Q : Exit → Act → World → Prop} {m i j : Nat} {o1 o2 : List (Nat × Option Bool)}
end
end Go.Proofs.YtcebcklecmppnaaGreat
end
section
namespace Go.Proofs.YtcebcklecmppnaaGreat
open Go.RowKit
end Go.Proofs.YtcebcklecmppnaaGreat
end
