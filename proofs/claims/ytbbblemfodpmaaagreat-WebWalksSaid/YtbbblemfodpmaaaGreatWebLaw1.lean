/-
  WebLooks answers true.
-/
import Derived.Test.YtbbblemfodpmaaaGreatWebGz
set_option linter.unusedVariables false
set_option linter.unusedSimpArgs false
set_option maxHeartbeats 16000000
set_option maxRecDepth 100000
namespace Go.Proofs.YtbbblemfodpmaaaGreat
open Go.RowKit
theorem sides_det (a b : Sl Side) {D D' : Nat → Prop} {ok ok' : (Nat → Prop) → World → Side → Prop} (w : World) (ha : a.OK 2 zAa ok D w) (hb : b.OK 2 zAa ok' D' w) (h1 : ∀ x w w',ok D w x → ok D w' x) (h2 : ∀ x w w',ok' D' w x → ok' D' w' x) :
  Det 41 #[.slice a.a a.val.length a.cap, .slice b.a b.val.length b.cap] (.bool (decide (a.val = b.val))) w := fun W hW => zFl a b W (ha.ext (fun x => h1 x _ _) (.of_below hW)) (hb.ext (fun x => h2 x _ _) (.of_below hW))
end Go.Proofs.YtbbblemfodpmaaaGreat
