/-
  Functions of the program, as the calculus has them.
-/
import Derived.Test.YtjalkkalhdnplaaGreatBc66d388
import Derived.Test.YtjalkkalhdnplaaGreatB3e9cc67
set_option linter.unusedSimpArgs false
set_option linter.unusedVariables false
set_option maxHeartbeats 10000000
set_option maxRecDepth 100000
namespace Go.Proofs.YtjalkkalhdnplaaGreat
end Go.Proofs.YtjalkkalhdnplaaGreat
