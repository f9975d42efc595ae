/-WebEuler answers true: the law.-/
import Derived.Test.YtcebcklecmppnaaGreatWebPa
import Derived.Test.YtcebcklecmppnaaGreatWebPx
import Derived.Test.YtcebcklecmppnaaGreatWebGr
import Derived.Test.YtcebcklecmppnaaGreatWebGv
set_option linter.unusedVariables false
set_option linter.unusedSimpArgs false
set_option maxHeartbeats 16000000
set_option maxRecDepth 100000
namespace Go.Proofs.YtcebcklecmppnaaGreat
open Go.RowKit
end Go.Proofs.YtcebcklecmppnaaGreat
