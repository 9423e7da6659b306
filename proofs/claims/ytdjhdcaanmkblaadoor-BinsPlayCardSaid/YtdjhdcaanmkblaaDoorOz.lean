/-
  Joins two roads of texts.
-/
import Derived.Test.YtdjhdcaanmkblaaDoorOb
import Derived.Test.YtdjhdcaanmkblaaDoorLh
namespace Go.Proofs.YtdjhdcaanmkblaaDoor.K
end Go.Proofs.YtdjhdcaanmkblaaDoor.K
