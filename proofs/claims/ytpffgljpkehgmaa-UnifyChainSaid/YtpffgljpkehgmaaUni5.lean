/-
  Unification in plain Lean: what a run that is not rigid tells of two nodes that stand for the same.
-/
import Derived.Test.YtpffgljpkehgmaaUni1
set_option linter.unusedVariables false
set_option linter.unusedSimpArgs false
namespace Uni
end Uni
