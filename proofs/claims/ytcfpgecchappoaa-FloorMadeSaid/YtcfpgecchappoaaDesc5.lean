/- What is asked of one descriptor: Priority, Waiting, Wait, Rec. -/
import Derived.Test.YtcfpgecchappoaaDesc4
namespace Go.Proofs.Ytcfpgecchappoaa
open Go.RowKit

end Go.Proofs.Ytcfpgecchappoaa
