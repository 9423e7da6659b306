/-
  Joins two roads of texts.
-/
import Derived.Test.YthgkiieenojcpaaDoorOb
import Derived.Test.YthgkiieenojcpaaDoorLh
namespace Go.Proofs.YthgkiieenojcpaaDoor.K
end Go.Proofs.YthgkiieenojcpaaDoor.K
