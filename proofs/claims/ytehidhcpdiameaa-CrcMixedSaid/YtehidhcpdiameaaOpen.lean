/- How the laws' arguments are opened: what is known of each, of what lies in memory. -/
import Derived.Test.YtehidhcpdiameaaKit
import Derived.ProofKit
import Derived.OpenShut
import Derived.ShutString
import Derived.ChangeOld
import Derived.SizedLaws
import Derived.JoinedOf
import Derived.Lib.SmallJoins
import Derived.Deep.Slices
import Derived.Deep.Fields
import Derived.ChangeSame
namespace Go.Proofs.Ytehidhcpdiameaa
open Go.RowKit

end Go.Proofs.Ytehidhcpdiameaa
