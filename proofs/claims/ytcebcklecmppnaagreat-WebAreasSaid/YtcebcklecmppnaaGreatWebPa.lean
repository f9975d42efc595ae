/-Components, Bridges, Pinches of a web.-/
import Derived.Test.YtcebcklecmppnaaGreatWebGm
set_option linter.unusedVariables false
set_option linter.unusedSimpArgs false
set_option maxHeartbeats 16000000
set_option maxRecDepth 100000
namespace Go.Proofs.YtcebcklecmppnaaGreat
open Go.RowKit
def zEL (js : List Joint) (ls : List Lead) : List (List Int) := if (zAE js ls).1 = 0 then zBF js ls else []
theorem zGy (sj : Sl Joint) (sl : Sl Lead) (w : World) (hj : sj.OK 3 zAg zAv (fun _ => False) w) (hl : sl.OK 8 zAe zAx (fun _ => False) w) :
  Calls Tryz.prog 12 #[.agg #[.slice sj.a sj.val.length sj.cap, .slice sl.a sl.val.length sl.cap]] w fun e w' => ∃ v ss,e = .returned (.tuple #[v, .int .i64 (zAE sj.val sl.val).1]) ∧ OwnLL zAQ 1 3 54 w' w.heap.size v ss ∧ ss.map Sl.val = zEL sj.val sl.val ∧ Below w.heap.size w w' := by
 have hB : Below w.heap.size w (w.alloc (.cells #[.slice sj.a sj.val.length sj.cap, .slice sl.a sl.val.length sl.cap] 25)) := (Below.refl _ _).alloc (Nat.le_refl _) _;have hb : zAd (w.alloc (.cells #[.slice sj.a sj.val.length sj.cap, .slice sl.a sl.val.length sl.cap] 25)) w.heap.size 25 #[.slice sj.a sj.val.length sj.cap, .slice sl.a sl.val.length sl.cap] := zAd.new _ _ _;have HB := zz hB;unfold zEL
 by_cases h0 : (zAE sj.val sl.val).1 = 0
 ·rw [if_pos h0,h0];have HV := zz (zCT h0);have HVA := zz (zC3 sj sl _ (hj.jmoved hB) (hl.lmoved hB) h0);have HL := zz (hl.lmoved hB);have HJ := zz (hj.jmoved hB);clear hj hl h0 hB;go_enter Tryz.func12,Tryz.ntmps12
  go_wp2_with (first
   | (refine zLd 7 hb #[.slice sj.a sj.val.length sj.cap, .slice sl.a sl.val.length sl.cap] zuC ?_)
   | (go_at_call 32;refine HVA.out.mono ?_;rintro e w1 ⟨b,rfl,hbb,hn1,hb1⟩)
   | (go_at_call 33;refine (zEK HV.out w1 hn1 (HJ.out.jmoved hb1)).mono ?_;rintro e w2 ⟨v,ss,rfl,ho,hss,hb2⟩))
  go_ret2;have hB1 := HB.out.trans (hb1.mono HB.out.size);exact ⟨v,ss,rfl,ho.base_le hB1.size,hss,hB1.trans (hb2.mono hB1.size)⟩
 ·rw [if_neg h0];have HVA := zz (zFu sj sl _ (hj.jmoved hB) (hl.lmoved hB) h0);obtain ⟨n,hn⟩ : ∃ n,(zAE sj.val sl.val).1 = n := ⟨_,rfl⟩
  simp only [hn] at HVA h0 ⊢;clear hj hl hB hn;go_enter Tryz.func12,Tryz.ntmps12
  go_wp2_with (first
   | (refine zLd 7 hb #[.slice sj.a sj.val.length sj.cap, .slice sl.a sl.val.length sl.cap] zuC ?_)
   | (go_at_call 32;refine HVA.out.mono ?_;rintro e w1 ⟨rfl,hb1⟩))
  go_ret2;exact ⟨_,[],rfl,OwnLL.nil _ _,rfl,HB.out.trans (hb1.mono HB.out.size)⟩
end Go.Proofs.YtcebcklecmppnaaGreat
