/- The document's own rows of protected words. -/
import Derived.Test.YtfnemolaoijbhadDoorRowC
import Derived.Test.YtfnemolaoijbhadDoorRef
namespace Go.Proofs.YtfnemolaoijbhadDoor
open Go.RowKit Go.Dio
set_option linter.unusedSimpArgs false
set_option linter.unusedVariables false

end Go.Proofs.YtfnemolaoijbhadDoor
