/-
  Joins two roads of texts.
-/
import Derived.Test.YtindbpffbjhfaaaDoorOb
import Derived.Test.YtindbpffbjhfaaaDoorLh
namespace Go.Proofs.YtindbpffbjhfaaaDoor.K
end Go.Proofs.YtindbpffbjhfaaaDoor.K
