/- A place of a value: its Lean value. -/
import Derived.Test.YthmdmchmmgmblaaGreatEaL0
namespace Go.Proofs.YthmdmchmmgmblaaGreat
open Go Go.Abs Go.RowKit
theorem oPlace : Opn Tryz.prog 71 kPlace (fun p => (Lit.int .i64 p.fValue).wf = true) := op_struct Tryz.underlying71 (by kernel_rfl) (.cons oInt rfl (.cons oInt rfl (.cons oInt rfl .nil))) rfl (fun v => Place.mk v.1 v.2.1 v.2.2.1) (fun _ => rfl) (fun _ h => h.2.2.1)
end Go.Proofs.YthmdmchmmgmblaaGreat
