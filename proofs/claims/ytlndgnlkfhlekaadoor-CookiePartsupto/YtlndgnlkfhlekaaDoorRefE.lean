/- The reference of chapter 1: New, Write, Sum. -/
import Derived.Test.YtlndgnlkfhlekaaDoorListC
namespace Go.Proofs.YtlndgnlkfhlekaaDoor
open Go.RowKit

end Go.Proofs.YtlndgnlkfhlekaaDoor
