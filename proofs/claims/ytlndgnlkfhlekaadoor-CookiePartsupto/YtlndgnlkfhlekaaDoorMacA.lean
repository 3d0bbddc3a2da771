/- mac: alive, sum, Same: the walks. -/
import Derived.Test.YtlndgnlkfhlekaaDoorMacT
namespace Go.Proofs.YtlndgnlkfhlekaaDoor
open Go.RowKit

theorem tag_jefe : strOf (Mac.tag (num ⟨#[74, 101, 102, 101]⟩) (num ⟨#[119, 104, 97, 116, 32, 100, 111, 32, 121, 97, 32, 119, 97, 110, 116, 32, 102, 111, 114, 32, 110, 111, 116, 104, 105, 110, 103, 63]⟩)) = ⟨#[91, 220, 193, 70, 191, 96, 117, 78, 106, 4, 36, 38, 8, 149, 117, 199, 90, 0, 63, 8, 157, 39, 57, 131, 157, 236, 88, 185, 100, 236, 56, 67]⟩ := by
  rw [Mac.tag_eq, Mac.pad_eq, Mac.pad_eq]
  decide +kernel

end Go.Proofs.YtlndgnlkfhlekaaDoor
