/- How data of the types of the translation lie in cells. -/
import Derived.Test.YtpblllkkcpahgaaProg
import Derived.Test.YtpblllkkcpahgaaFl
namespace Go.Proofs.Ytpblllkkcpahgaa
set_option maxRecDepth 100000
theorem fl_2 : FLp Try.prog 2 [.i .i64] := flp_int (by kernel_rfl) (by kernel_rfl)
theorem fl_3 : FLp Try.prog 3 [.i .i64] := flp_int (by kernel_rfl) (by kernel_rfl)
theorem fl_4 : FLp Try.prog 4 [.b] := flp_bool (by kernel_rfl) (by kernel_rfl)
theorem fl_5 : FLp Try.prog 5 [.i .u8] := flp_int (by kernel_rfl) (by kernel_rfl)
theorem fl_21 : FLp Try.prog 21 [.i .i32] := flp_int (by kernel_rfl) (by kernel_rfl)
theorem fl_26 : FLp Try.prog 26 [.i .u16] := flp_int (by kernel_rfl) (by kernel_rfl)
theorem fl_29 : FLp Try.prog 29 [.i .i64] := flp_int (by kernel_rfl) (by kernel_rfl)
theorem fl_32 : FLp Try.prog 32 [.i .u32] := flp_int (by kernel_rfl) (by kernel_rfl)
theorem fl_40 : FLp Try.prog 40 [.i .u64] := flp_int (by kernel_rfl) (by kernel_rfl)
theorem fl_100 : FLp Try.prog 100 [.i .u8, .i .u8] := flp_struct (L := [(true, 0, 5), (true, 1, 5)]) (by kernel_rfl) (.cons fl_5 rfl rfl (.cons fl_5 rfl rfl (.nil))) (by kernel_rfl)
theorem fl_101 : FLp Try.prog 101 [.i .u8, .i .u8] := flp_struct (L := [(true, 0, 5), (true, 1, 5)]) (by kernel_rfl) (.cons fl_5 rfl rfl (.cons fl_5 rfl rfl (.nil))) (by kernel_rfl)
theorem fl_102 : FLp Try.prog 102 [.i .i64, .i .i64] := flp_struct (L := [(true, 0, 3), (true, 1, 3)]) (by kernel_rfl) (.cons fl_3 rfl rfl (.cons fl_3 rfl rfl (.nil))) (by kernel_rfl)
theorem fl_103 : FLp Try.prog 103 [.i .i64, .i .i64] := flp_struct (L := [(true, 0, 3), (true, 1, 3)]) (by kernel_rfl) (.cons fl_3 rfl rfl (.cons fl_3 rfl rfl (.nil))) (by kernel_rfl)
theorem fl_109 : FLp Try.prog 109 [.i .u8, .i .u8, .i .i64, .i .i64] := flp_struct (L := [(true, 0, 5), (true, 1, 5), (true, 2, 3), (true, 3, 3)]) (by kernel_rfl) (.cons fl_5 rfl rfl (.cons fl_5 rfl rfl (.cons fl_3 rfl rfl (.cons fl_3 rfl rfl (.nil))))) (by kernel_rfl)
theorem fl_110 : FLp Try.prog 110 [.i .u8, .i .u8, .i .i64, .i .i64] := flp_struct (L := [(true, 0, 5), (true, 1, 5), (true, 2, 3), (true, 3, 3)]) (by kernel_rfl) (.cons fl_5 rfl rfl (.cons fl_5 rfl rfl (.cons fl_3 rfl rfl (.cons fl_3 rfl rfl (.nil))))) (by kernel_rfl)
theorem fl_114 : FLp Try.prog 114 [.i .u64] := flp_int (by kernel_rfl) (by kernel_rfl)
theorem fl_135 : FLp Try.prog 135 [.i .u8, .i .u8, .i .u8, .i .u8] := flp_arr (n := 4) (by kernel_rfl) fl_5 (by kernel_rfl) (by kernel_rfl)
end Go.Proofs.Ytpblllkkcpahgaa
