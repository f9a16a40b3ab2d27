/- The document's own code words. -/
import Derived.Test.YtfnemolaoijbhadDoorCol
namespace Go.Proofs.YtfnemolaoijbhadDoor
open Go.RowKit Go.Dio

end Go.Proofs.YtfnemolaoijbhadDoor
