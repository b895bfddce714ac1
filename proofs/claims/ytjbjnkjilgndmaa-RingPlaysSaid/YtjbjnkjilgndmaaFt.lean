/- How data of the types of the translation lie in cells. -/
import Derived.Test.YtjbjnkjilgndmaaProg
import Derived.Test.YtjbjnkjilgndmaaFl
namespace Go.Proofs.Ytjbjnkjilgndmaa
set_option maxRecDepth 100000
theorem fl_2 : FLp Try.prog 2 [.i .i64] := flp_int (by kernel_rfl) (by kernel_rfl)
theorem fl_3 : FLp Try.prog 3 [.i .i64] := flp_int (by kernel_rfl) (by kernel_rfl)
theorem fl_4 : FLp Try.prog 4 [.b] := flp_bool (by kernel_rfl) (by kernel_rfl)
theorem fl_5 : FLp Try.prog 5 [.i .u8] := flp_int (by kernel_rfl) (by kernel_rfl)
theorem fl_21 : FLp Try.prog 21 [.i .i32] := flp_int (by kernel_rfl) (by kernel_rfl)
theorem fl_24 : FLp Try.prog 24 [.i .i64] := flp_int (by kernel_rfl) (by kernel_rfl)
theorem fl_43 : FLp Try.prog 43 [.i .u16] := flp_int (by kernel_rfl) (by kernel_rfl)
theorem fl_48 : FLp Try.prog 48 [.i .u32] := flp_int (by kernel_rfl) (by kernel_rfl)
theorem fl_61 : FLp Try.prog 61 [.i .u8, .i .i64, .i .i64] := flp_struct (L := [(true, 0, 5), (true, 1, 3), (true, 2, 3)]) (by kernel_rfl) (.cons fl_5 rfl rfl (.cons fl_3 rfl rfl (.cons fl_3 rfl rfl (.nil)))) (by kernel_rfl)
theorem fl_62 : FLp Try.prog 62 [.i .u8, .i .i64, .i .i64] := flp_struct (L := [(true, 0, 5), (true, 1, 3), (true, 2, 3)]) (by kernel_rfl) (.cons fl_5 rfl rfl (.cons fl_3 rfl rfl (.cons fl_3 rfl rfl (.nil)))) (by kernel_rfl)
theorem fl_77 : FLp Try.prog 77 [.i .u32, .i .u32, .i .u8, .i .u8, .i .u32] := flp_struct (L := [(true, 0, 48), (true, 1, 48), (true, 2, 5), (true, 3, 5), (true, 4, 48)]) (by kernel_rfl) (.cons fl_48 rfl rfl (.cons fl_48 rfl rfl (.cons fl_5 rfl rfl (.cons fl_5 rfl rfl (.cons fl_48 rfl rfl (.nil)))))) (by kernel_rfl)
theorem fl_78 : FLp Try.prog 78 [.i .u32, .i .u32, .i .u8, .i .u8, .i .u32] := flp_struct (L := [(true, 0, 48), (true, 1, 48), (true, 2, 5), (true, 3, 5), (true, 4, 48)]) (by kernel_rfl) (.cons fl_48 rfl rfl (.cons fl_48 rfl rfl (.cons fl_5 rfl rfl (.cons fl_5 rfl rfl (.cons fl_48 rfl rfl (.nil)))))) (by kernel_rfl)
theorem fl_90 : FLp Try.prog 90 [.i .u32, .i .u32, .i .u8, .i .u8, .i .u32] := flp_struct (L := [(true, 0, 48), (true, 1, 48), (true, 2, 5), (true, 3, 5), (true, 4, 48)]) (by kernel_rfl) (.cons fl_48 rfl rfl (.cons fl_48 rfl rfl (.cons fl_5 rfl rfl (.cons fl_5 rfl rfl (.cons fl_48 rfl rfl (.nil)))))) (by kernel_rfl)
theorem fl_158 : FLp Try.prog 158 [.i .u64] := flp_int (by kernel_rfl) (by kernel_rfl)
theorem fl_169 : FLp Try.prog 169 [.i .u64] := flp_int (by kernel_rfl) (by kernel_rfl)
end Go.Proofs.Ytjbjnkjilgndmaa
