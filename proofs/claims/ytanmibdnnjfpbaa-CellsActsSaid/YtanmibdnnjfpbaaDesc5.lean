/- What is asked of one descriptor: Priority, Waiting, Wait, Rec. -/
import Derived.Test.YtanmibdnnjfpbaaDesc4
namespace Go.Proofs.Ytanmibdnnjfpbaa
open Go.RowKit

end Go.Proofs.Ytanmibdnnjfpbaa
