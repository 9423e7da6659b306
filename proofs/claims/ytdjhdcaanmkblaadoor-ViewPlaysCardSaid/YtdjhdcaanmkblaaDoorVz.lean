/-
  A document's arena of no pages.
-/
import Derived.Test.YtdjhdcaanmkblaaDoorVx
import Derived.Test.YtdjhdcaanmkblaaDoorM3
import Derived.Test.YtdjhdcaanmkblaaDoorYg
import Derived.Test.YtdjhdcaanmkblaaDoorSx
namespace Go.Proofs.YtdjhdcaanmkblaaDoor.K
set_option linter.unusedSimpArgs false
set_option linter.unusedVariables false

theorem joinS_two (a b : ByteArray) : (joinS [a, b]).size = a.size + b.size := by
  show ((Lib.join [a.data.toList, b.data.toList] []).toArray).size = a.data.size + b.data.size
  rw [List.size_toArray]
  simp [Lib.join, List.intercalate, List.intersperse]
end Go.Proofs.YtdjhdcaanmkblaaDoor.K
