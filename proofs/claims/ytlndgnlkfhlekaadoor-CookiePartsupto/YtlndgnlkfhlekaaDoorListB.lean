/- lend: the walk. -/
import Derived.Test.YtlndgnlkfhlekaaDoorListA
import Derived.Test.YtlndgnlkfhlekaaDoorShaE
namespace Go.Proofs.YtlndgnlkfhlekaaDoor
open Go.RowKit

end Go.Proofs.YtlndgnlkfhlekaaDoor
