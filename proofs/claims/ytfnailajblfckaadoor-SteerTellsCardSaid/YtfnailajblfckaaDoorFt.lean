/- How data of the types of the translation lie in cells. -/
import Derived.Test.YtfnailajblfckaaDoorProg
import Derived.Test.YtfnailajblfckaaDoorFl
namespace Go.Proofs.YtfnailajblfckaaDoor
set_option maxRecDepth 100000
theorem fl_2 : FLp Tryd.prog 2 [.i .i64] := flp_int (by kernel_rfl) (by kernel_rfl)
theorem fl_3 : FLp Tryd.prog 3 [.i .i64] := flp_int (by kernel_rfl) (by kernel_rfl)
theorem fl_4 : FLp Tryd.prog 4 [.b] := flp_bool (by kernel_rfl) (by kernel_rfl)
theorem fl_5 : FLp Tryd.prog 5 [.i .u8] := flp_int (by kernel_rfl) (by kernel_rfl)
theorem fl_21 : FLp Tryd.prog 21 [.i .i32] := flp_int (by kernel_rfl) (by kernel_rfl)
theorem fl_22 : FLp Tryd.prog 22 [.i .i32, .i .i32, .i .i32] := flp_arr (n := 3) (by kernel_rfl) fl_21 (by kernel_rfl) (by kernel_rfl)
theorem fl_23 : FLp Tryd.prog 23 [.i .i32, .i .i32, .i .i32] := flp_arr (n := 3) (by kernel_rfl) fl_21 (by kernel_rfl) (by kernel_rfl)
theorem fl_24 : FLp Tryd.prog 24 [.i .i16] := flp_int (by kernel_rfl) (by kernel_rfl)
theorem fl_27 : FLp Tryd.prog 27 [.i .u16] := flp_int (by kernel_rfl) (by kernel_rfl)
theorem fl_28 : FLp Tryd.prog 28 [.i .u16] := flp_int (by kernel_rfl) (by kernel_rfl)
theorem fl_30 : FLp Tryd.prog 30 [.i .i32, .i .i32, .i .i32, .i .i32] := flp_arr (n := 4) (by kernel_rfl) fl_21 (by kernel_rfl) (by kernel_rfl)
theorem fl_37 : FLp Tryd.prog 37 [.i .i64, .i .i64, .i .i64] := flp_arr (n := 3) (by kernel_rfl) fl_2 (by kernel_rfl) (by kernel_rfl)
theorem fl_38 : FLp Tryd.prog 38 [.i .i64, .i .i64, .i .i64] := flp_arr (n := 3) (by kernel_rfl) fl_3 (by kernel_rfl) (by kernel_rfl)
theorem fl_51 : FLp Tryd.prog 51 [.i .i32, .i .i32, .i .i32, .i .i32, .i .i32, .i .i32, .i .i32, .i .i32, .i .i32, .i .i32, .i .i32, .i .i32] := flp_arr (n := 4) (by kernel_rfl) fl_23 (by kernel_rfl) (by kernel_rfl)
theorem fl_53 : FLp Tryd.prog 53 [.i .u64] := flp_int (by kernel_rfl) (by kernel_rfl)
theorem fl_76 : FLp Tryd.prog 76 [.i .u32] := flp_int (by kernel_rfl) (by kernel_rfl)
end Go.Proofs.YtfnailajblfckaaDoor
