/- The walks of the references of layer 2, and of the laws ZigzagTells and ZigzagGets. No conditions. -/
import Derived.Test.YtanbifhhoeaofaaZigLaws
import Derived.Test.YtanbifhhoeaofaaLebRefGet
namespace Go.Proofs.Ytanbifhhoeaofaa
set_option linter.unusedVariables false
open Go Go.RowKit
end Go.Proofs.Ytanbifhhoeaofaa

