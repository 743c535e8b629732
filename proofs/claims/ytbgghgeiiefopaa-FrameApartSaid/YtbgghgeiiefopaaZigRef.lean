/- The walks of the references of layer 2, and of the laws ZigzagTells and ZigzagGets. No conditions. -/
import Derived.Test.YtbgghgeiiefopaaZigLaws
import Derived.Test.YtbgghgeiiefopaaLebRefGet
namespace Go.Proofs.Ytbgghgeiiefopaa
set_option linter.unusedVariables false
open Go Go.RowKit
end Go.Proofs.Ytbgghgeiiefopaa

