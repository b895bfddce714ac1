/- How data of the types of the translation lie in cells. -/
import Derived.Test.YtfnailajblfckaaProg
import Derived.Test.YtfnailajblfckaaFl
namespace Go.Proofs.Ytfnailajblfckaa
set_option maxRecDepth 100000
theorem fl_2 : FLp Try.prog 2 [.i .i64] := flp_int (by kernel_rfl) (by kernel_rfl)
theorem fl_3 : FLp Try.prog 3 [.i .i64] := flp_int (by kernel_rfl) (by kernel_rfl)
theorem fl_4 : FLp Try.prog 4 [.b] := flp_bool (by kernel_rfl) (by kernel_rfl)
theorem fl_5 : FLp Try.prog 5 [.i .u8] := flp_int (by kernel_rfl) (by kernel_rfl)
theorem fl_21 : FLp Try.prog 21 [.i .i32] := flp_int (by kernel_rfl) (by kernel_rfl)
theorem fl_22 : FLp Try.prog 22 [.i .i32, .i .i32, .i .i32] := flp_arr (n := 3) (by kernel_rfl) fl_21 (by kernel_rfl) (by kernel_rfl)
theorem fl_23 : FLp Try.prog 23 [.i .i32, .i .i32, .i .i32] := flp_arr (n := 3) (by kernel_rfl) fl_21 (by kernel_rfl) (by kernel_rfl)
theorem fl_40 : FLp Try.prog 40 [.i .i64, .i .i64, .i .i64] := flp_arr (n := 3) (by kernel_rfl) fl_3 (by kernel_rfl) (by kernel_rfl)
theorem fl_58 : FLp Try.prog 58 [.i .i64, .i .i64, .i .i64] := flp_arr (n := 3) (by kernel_rfl) fl_2 (by kernel_rfl) (by kernel_rfl)
theorem fl_71 : FLp Try.prog 71 [.i .u32] := flp_int (by kernel_rfl) (by kernel_rfl)
end Go.Proofs.Ytfnailajblfckaa
