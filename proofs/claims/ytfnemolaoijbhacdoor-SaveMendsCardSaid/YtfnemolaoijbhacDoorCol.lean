/- hsiao.Column. -/
import Derived.Test.YtfnemolaoijbhacDoorMend
import Derived.WalkMore
namespace Go.Proofs.YtfnemolaoijbhacDoor
open Go.RowKit Go.Dio

end Go.Proofs.YtfnemolaoijbhacDoor
