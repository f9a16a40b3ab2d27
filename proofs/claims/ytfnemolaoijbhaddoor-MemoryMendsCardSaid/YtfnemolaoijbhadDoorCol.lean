/- hsiao.Column. -/
import Derived.Test.YtfnemolaoijbhadDoorMend
import Derived.WalkMore
namespace Go.Proofs.YtfnemolaoijbhadDoor
open Go.RowKit Go.Dio

end Go.Proofs.YtfnemolaoijbhadDoor
