/- Small laws of this program's types that the walk takes by itself. -/
import Derived.Test.YthhcooljjhdjbaaGreatRows
import Derived.Lib.SliceRun
import Derived.Test.YthhcooljjhdjbaaGreatKB
set_option linter.unusedVariables false
set_option linter.unusedSimpArgs false
namespace Go.Proofs.YthhcooljjhdjbaaGreat
open Go.RowKit
@[go_sem] theorem eqp22 (w : World) (p : Option Addr) : (binOp .eql 22 (.pointer p) (.pointer none)).run Tryz.prog w = .ok (.bool p.isNone) w := run_eql_pointer_nil w 22 p (by kernel_rfl)
@[go_sem] theorem nep22 (w : World) (p : Option Addr) : (binOp .neq 22 (.pointer p) (.pointer none)).run Tryz.prog w = .ok (.bool !p.isNone) w := run_neq_pointer_nil w 22 p (by kernel_rfl)
@[go_sem] theorem eqp54 (w : World) (p : Option Addr) : (binOp .eql 54 (.pointer p) (.pointer none)).run Tryz.prog w = .ok (.bool p.isNone) w := run_eql_pointer_nil w 54 p (by kernel_rfl)
@[go_sem] theorem nep54 (w : World) (p : Option Addr) : (binOp .neq 54 (.pointer p) (.pointer none)).run Tryz.prog w = .ok (.bool !p.isNone) w := run_neq_pointer_nil w 54 p (by kernel_rfl)
@[go_sem] theorem eqp107 (w : World) (p : Option Addr) : (binOp .eql 107 (.pointer p) (.pointer none)).run Tryz.prog w = .ok (.bool p.isNone) w := run_eql_pointer_nil w 107 p (by kernel_rfl)
@[go_sem] theorem nep107 (w : World) (p : Option Addr) : (binOp .neq 107 (.pointer p) (.pointer none)).run Tryz.prog w = .ok (.bool !p.isNone) w := run_neq_pointer_nil w 107 p (by kernel_rfl)
@[go_sem] theorem eqp133 (w : World) (p : Option Addr) : (binOp .eql 133 (.pointer p) (.pointer none)).run Tryz.prog w = .ok (.bool p.isNone) w := run_eql_pointer_nil w 133 p (by kernel_rfl)
@[go_sem] theorem nep133 (w : World) (p : Option Addr) : (binOp .neq 133 (.pointer p) (.pointer none)).run Tryz.prog w = .ok (.bool !p.isNone) w := run_neq_pointer_nil w 133 p (by kernel_rfl)
@[go_sem] theorem eqp53 (w : World) (p : Option Addr) : (binOp .eql 53 (.pointer p) (.pointer none)).run Tryz.prog w = .ok (.bool p.isNone) w := run_eql_pointer_nil w 53 p (by kernel_rfl)
@[go_sem] theorem nep53 (w : World) (p : Option Addr) : (binOp .neq 53 (.pointer p) (.pointer none)).run Tryz.prog w = .ok (.bool !p.isNone) w := run_neq_pointer_nil w 53 p (by kernel_rfl)
@[go_sem] theorem eqs65 (w : World) (a : Option Addr) (n c : Nat) : (binOp .eql 65 (.slice a n c) (.slice none 0 0)).run Tryz.prog w = .ok (.bool a.isNone) w := Lib.run_eql_slice_nil (P := Tryz.prog) w 65 5 a n c 0 0 Tryz.underlying65
@[go_sem] theorem eqs43 (w : World) (a : Option Addr) (n c : Nat) : (binOp .eql 43 (.slice a n c) (.slice none 0 0)).run Tryz.prog w = .ok (.bool a.isNone) w := Lib.run_eql_slice_nil (P := Tryz.prog) w 43 49 a n c 0 0 Tryz.underlying43
@[go_sem] theorem eqs35 (w : World) (a : Option Addr) (n c : Nat) : (binOp .eql 35 (.slice a n c) (.slice none 0 0)).run Tryz.prog w = .ok (.bool a.isNone) w := Lib.run_eql_slice_nil (P := Tryz.prog) w 35 76 a n c 0 0 Tryz.underlying35
@[go_sem] theorem eqs160 (w : World) (a : Option Addr) (n c : Nat) : (binOp .eql 160 (.slice a n c) (.slice none 0 0)).run Tryz.prog w = .ok (.bool a.isNone) w := Lib.run_eql_slice_nil (P := Tryz.prog) w 160 196 a n c 0 0 Tryz.underlying160
end Go.Proofs.YthhcooljjhdjbaaGreat
