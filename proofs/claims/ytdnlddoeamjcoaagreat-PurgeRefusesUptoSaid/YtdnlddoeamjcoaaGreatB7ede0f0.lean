/-
  Functions of the program, as the calculus has them.
-/
import Derived.Test.YtdnlddoeamjcoaaGreatB22e9c78
import Derived.Test.YtdnlddoeamjcoaaGreatB183107e
import Derived.Test.YtdnlddoeamjcoaaGreatB61deab9
set_option linter.unusedSimpArgs false
set_option linter.unusedVariables false
set_option maxHeartbeats 10000000
set_option maxRecDepth 100000
namespace Go.Proofs.YtdnlddoeamjcoaaGreat
end Go.Proofs.YtdnlddoeamjcoaaGreat
