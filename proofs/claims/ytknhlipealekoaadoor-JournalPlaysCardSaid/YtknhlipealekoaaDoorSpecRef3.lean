/- The document's sum, and frame; errors told by number and place. -/
import Derived.Test.YtknhlipealekoaaDoorSpecRefSeal
import Derived.Test.YtknhlipealekoaaDoorApi2
set_option linter.unusedVariables false
set_option linter.unusedSimpArgs false
namespace Go.Proofs.YtknhlipealekoaaDoor.K
open Go
theorem CodeS {F : Nat} {e : Option EV} {H : SH} {K : Int → SH → Prop} (hg : H.has (0, 0) (rtv 28)) (h : K (codeV e) H) : api_Code.wp F e H K := ⟨hg, h⟩
end Go.Proofs.YtknhlipealekoaaDoor.K
