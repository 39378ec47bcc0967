/- Laid together: Z11. -/
import Derived.Test.YtnmajhoehmlcjaaRows
import Derived.Test.YtnmajhoehmlcjaaQ4

set_option linter.all false

/- Rows of layer 11: what they share. -/
namespace Go.Proofs.Ytnmajhoehmlcjaa
open Go.Wk Go.RowKit Go.ChangeShapes Go.WideShapes Go.ChangeAt

theorem Tryown : ownKnob Try.prog.godebug = none := by kernel_rfl
theorem Trylaid : laidOutB Try.prog = true := by kernel_rfl
theorem envInt : IntOK Try.prog env := by
  unfold env
  repeat (first | exact trivial | refine And.intro (by kernel_rfl) ?_ | (show IntOK _ _; unfold IntOK; dsimp only))
theorem shp_topo : shpO env 10 25 = some topoS := by kernel_rfl
theorem shp_int : shpO env 10 3 = some [.sc (.int .i64)] := by kernel_rfl

end Go.Proofs.Ytnmajhoehmlcjaa
