/- Facts on the types and functions of the translation, as instances. -/
import Derived.Test.YtfnailajblfckaaProg
import Derived.Test.YtfnailajblfckaaSq
namespace Go.Proofs.Ytfnailajblfckaa
set_option maxRecDepth 100000
instance : TL Try.prog 1 false 1 := ⟨by kernel_rfl, by kernel_rfl⟩
instance : TL Try.prog 2 false 1 := ⟨by kernel_rfl, by kernel_rfl⟩
instance : TZ Try.prog 2 [.int .i64 0] := ⟨by kernel_rfl⟩
instance : TB Try.prog 2 8 := ⟨by kernel_rfl⟩
instance : TI Try.prog 2 .i64 := ⟨by kernel_rfl⟩
instance : TL Try.prog 3 false 1 := ⟨by kernel_rfl, by kernel_rfl⟩
instance : TZ Try.prog 3 [.int .i64 0] := ⟨by kernel_rfl⟩
instance : TB Try.prog 3 8 := ⟨by kernel_rfl⟩
instance : TI Try.prog 3 .i64 := ⟨by kernel_rfl⟩
instance : TL Try.prog 4 false 1 := ⟨by kernel_rfl, by kernel_rfl⟩
instance : TZ Try.prog 4 [.bool false] := ⟨by kernel_rfl⟩
instance : TB Try.prog 4 1 := ⟨by kernel_rfl⟩
instance : TO Try.prog 4 := ⟨by kernel_rfl⟩
instance : TL Try.prog 5 false 1 := ⟨by kernel_rfl, by kernel_rfl⟩
instance : TZ Try.prog 5 [.int .u8 0] := ⟨by kernel_rfl⟩
instance : TB Try.prog 5 1 := ⟨by kernel_rfl⟩
instance : TI Try.prog 5 .u8 := ⟨by kernel_rfl⟩
instance : TL Try.prog 9 false 1 := ⟨by kernel_rfl, by kernel_rfl⟩
instance : TZ Try.prog 9 [.string ⟨#[]⟩] := ⟨by kernel_rfl⟩
instance : TB Try.prog 9 16 := ⟨by kernel_rfl⟩
instance : TL Try.prog 21 false 1 := ⟨by kernel_rfl, by kernel_rfl⟩
instance : TZ Try.prog 21 [.int .i32 0] := ⟨by kernel_rfl⟩
instance : TB Try.prog 21 4 := ⟨by kernel_rfl⟩
instance : TI Try.prog 21 .i32 := ⟨by kernel_rfl⟩
instance : TL Try.prog 22 true 3 := ⟨by kernel_rfl, by kernel_rfl⟩
instance : TZ Try.prog 22 [.int .i32 0, .int .i32 0, .int .i32 0] := ⟨by kernel_rfl⟩
instance : TB Try.prog 22 12 := ⟨by kernel_rfl⟩
instance : TA Try.prog 22 3 21 := ⟨by kernel_rfl⟩
instance : TL Try.prog 23 true 3 := ⟨by kernel_rfl, by kernel_rfl⟩
instance : TZ Try.prog 23 [.int .i32 0, .int .i32 0, .int .i32 0] := ⟨by kernel_rfl⟩
instance : TB Try.prog 23 12 := ⟨by kernel_rfl⟩
instance : TA Try.prog 23 3 21 := ⟨by kernel_rfl⟩
instance : TL Try.prog 24 false 1 := ⟨by kernel_rfl, by kernel_rfl⟩
instance : TL Try.prog 25 false 1 := ⟨by kernel_rfl, by kernel_rfl⟩
instance : TL Try.prog 26 false 1 := ⟨by kernel_rfl, by kernel_rfl⟩
instance : TL Try.prog 27 false 1 := ⟨by kernel_rfl, by kernel_rfl⟩
instance : TL Try.prog 28 false 1 := ⟨by kernel_rfl, by kernel_rfl⟩
instance : TL Try.prog 29 false 1 := ⟨by kernel_rfl, by kernel_rfl⟩
instance : TL Try.prog 30 false 1 := ⟨by kernel_rfl, by kernel_rfl⟩
instance : TL Try.prog 31 false 1 := ⟨by kernel_rfl, by kernel_rfl⟩
instance : TL Try.prog 32 false 1 := ⟨by kernel_rfl, by kernel_rfl⟩
instance : TL Try.prog 33 false 1 := ⟨by kernel_rfl, by kernel_rfl⟩
instance : TL Try.prog 34 false 1 := ⟨by kernel_rfl, by kernel_rfl⟩
instance : TL Try.prog 35 false 1 := ⟨by kernel_rfl, by kernel_rfl⟩
instance : TL Try.prog 36 false 1 := ⟨by kernel_rfl, by kernel_rfl⟩
instance : TL Try.prog 37 false 1 := ⟨by kernel_rfl, by kernel_rfl⟩
instance : TL Try.prog 38 false 1 := ⟨by kernel_rfl, by kernel_rfl⟩
instance : TL Try.prog 39 false 1 := ⟨by kernel_rfl, by kernel_rfl⟩
instance : TL Try.prog 40 true 3 := ⟨by kernel_rfl, by kernel_rfl⟩
instance : TZ Try.prog 40 [.int .i64 0, .int .i64 0, .int .i64 0] := ⟨by kernel_rfl⟩
instance : TB Try.prog 40 24 := ⟨by kernel_rfl⟩
instance : TA Try.prog 40 3 3 := ⟨by kernel_rfl⟩
instance : TL Try.prog 41 false 1 := ⟨by kernel_rfl, by kernel_rfl⟩
instance : TL Try.prog 42 false 1 := ⟨by kernel_rfl, by kernel_rfl⟩
instance : TL Try.prog 43 false 1 := ⟨by kernel_rfl, by kernel_rfl⟩
instance : TL Try.prog 44 false 1 := ⟨by kernel_rfl, by kernel_rfl⟩
instance : TL Try.prog 45 false 1 := ⟨by kernel_rfl, by kernel_rfl⟩
instance : TL Try.prog 46 false 1 := ⟨by kernel_rfl, by kernel_rfl⟩
instance : TL Try.prog 47 false 1 := ⟨by kernel_rfl, by kernel_rfl⟩
instance : TL Try.prog 48 false 1 := ⟨by kernel_rfl, by kernel_rfl⟩
instance : TL Try.prog 49 false 1 := ⟨by kernel_rfl, by kernel_rfl⟩
instance : TL Try.prog 50 false 1 := ⟨by kernel_rfl, by kernel_rfl⟩
instance : TL Try.prog 51 false 1 := ⟨by kernel_rfl, by kernel_rfl⟩
instance : TL Try.prog 52 false 1 := ⟨by kernel_rfl, by kernel_rfl⟩
instance : TL Try.prog 53 false 1 := ⟨by kernel_rfl, by kernel_rfl⟩
instance : TZ Try.prog 53 [.slice none 0 0] := ⟨by kernel_rfl⟩
instance : TB Try.prog 53 24 := ⟨by kernel_rfl⟩
instance : TS Try.prog 53 2 := ⟨by kernel_rfl⟩
instance : TL Try.prog 54 false 1 := ⟨by kernel_rfl, by kernel_rfl⟩
instance : TL Try.prog 55 false 1 := ⟨by kernel_rfl, by kernel_rfl⟩
instance : TZ Try.prog 55 [.slice none 0 0] := ⟨by kernel_rfl⟩
instance : TB Try.prog 55 24 := ⟨by kernel_rfl⟩
instance : TS Try.prog 55 23 := ⟨by kernel_rfl⟩
instance : TL Try.prog 56 false 1 := ⟨by kernel_rfl, by kernel_rfl⟩
instance : TL Try.prog 57 false 1 := ⟨by kernel_rfl, by kernel_rfl⟩
instance : TL Try.prog 58 true 3 := ⟨by kernel_rfl, by kernel_rfl⟩
instance : TZ Try.prog 58 [.int .i64 0, .int .i64 0, .int .i64 0] := ⟨by kernel_rfl⟩
instance : TB Try.prog 58 24 := ⟨by kernel_rfl⟩
instance : TA Try.prog 58 3 2 := ⟨by kernel_rfl⟩
instance : TL Try.prog 59 false 1 := ⟨by kernel_rfl, by kernel_rfl⟩
instance : TL Try.prog 60 false 1 := ⟨by kernel_rfl, by kernel_rfl⟩
instance : TZ Try.prog 60 [.slice none 0 0] := ⟨by kernel_rfl⟩
instance : TB Try.prog 60 24 := ⟨by kernel_rfl⟩
instance : TS Try.prog 60 21 := ⟨by kernel_rfl⟩
instance : TL Try.prog 61 false 1 := ⟨by kernel_rfl, by kernel_rfl⟩
instance : TL Try.prog 62 false 1 := ⟨by kernel_rfl, by kernel_rfl⟩
instance : TL Try.prog 63 false 1 := ⟨by kernel_rfl, by kernel_rfl⟩
instance : TL Try.prog 64 false 1 := ⟨by kernel_rfl, by kernel_rfl⟩
instance : TL Try.prog 70 false 1 := ⟨by kernel_rfl, by kernel_rfl⟩
instance : TL Try.prog 71 false 1 := ⟨by kernel_rfl, by kernel_rfl⟩
instance : TZ Try.prog 71 [.int .u32 0] := ⟨by kernel_rfl⟩
instance : TB Try.prog 71 4 := ⟨by kernel_rfl⟩
instance : TI Try.prog 71 .u32 := ⟨by kernel_rfl⟩
instance : TL Try.prog 75 false 1 := ⟨by kernel_rfl, by kernel_rfl⟩
instance : TZ Try.prog 75 [.pointer none] := ⟨by kernel_rfl⟩
instance : TB Try.prog 75 8 := ⟨by kernel_rfl⟩
instance : TRw Try.prog 1 1 [.nilFunc] := ⟨by kernel_rfl, by kernel_rfl, rfl, by decide⟩
instance : TRw Try.prog 2 1 [.int .i64 0] := ⟨by kernel_rfl, by kernel_rfl, rfl, by decide⟩
instance : TRw Try.prog 3 1 [.int .i64 0] := ⟨by kernel_rfl, by kernel_rfl, rfl, by decide⟩
instance : TRw Try.prog 4 1 [.bool false] := ⟨by kernel_rfl, by kernel_rfl, rfl, by decide⟩
instance : TRw Try.prog 5 1 [.int .u8 0] := ⟨by kernel_rfl, by kernel_rfl, rfl, by decide⟩
instance : TRw Try.prog 9 1 [.string ⟨#[]⟩] := ⟨by kernel_rfl, by kernel_rfl, rfl, by decide⟩
instance : TRw Try.prog 21 1 [.int .i32 0] := ⟨by kernel_rfl, by kernel_rfl, rfl, by decide⟩
instance : TBd Try.prog 22 (fun i => some (i * 1, 1)) [.int .i32 0, .int .i32 0, .int .i32 0] := ⟨fun _ => by kernel_rfl⟩
instance : TRw Try.prog 22 3 [.int .i32 0, .int .i32 0, .int .i32 0] := ⟨by kernel_rfl, by kernel_rfl, rfl, by decide⟩
instance : TBd Try.prog 23 (fun i => some (i * 1, 1)) [.int .i32 0, .int .i32 0, .int .i32 0] := ⟨fun _ => by kernel_rfl⟩
instance : TRw Try.prog 23 3 [.int .i32 0, .int .i32 0, .int .i32 0] := ⟨by kernel_rfl, by kernel_rfl, rfl, by decide⟩
instance : TRw Try.prog 24 1 [.nilFunc] := ⟨by kernel_rfl, by kernel_rfl, rfl, by decide⟩
instance : TRw Try.prog 25 1 [.nilFunc] := ⟨by kernel_rfl, by kernel_rfl, rfl, by decide⟩
instance : TRw Try.prog 26 1 [.nilFunc] := ⟨by kernel_rfl, by kernel_rfl, rfl, by decide⟩
instance : TRw Try.prog 27 1 [.nilFunc] := ⟨by kernel_rfl, by kernel_rfl, rfl, by decide⟩
instance : TRw Try.prog 28 1 [.nilFunc] := ⟨by kernel_rfl, by kernel_rfl, rfl, by decide⟩
instance : TRw Try.prog 29 1 [.nilFunc] := ⟨by kernel_rfl, by kernel_rfl, rfl, by decide⟩
instance : TRw Try.prog 30 1 [.nilFunc] := ⟨by kernel_rfl, by kernel_rfl, rfl, by decide⟩
instance : TRw Try.prog 31 1 [.nilFunc] := ⟨by kernel_rfl, by kernel_rfl, rfl, by decide⟩
instance : TRw Try.prog 32 1 [.nilFunc] := ⟨by kernel_rfl, by kernel_rfl, rfl, by decide⟩
instance : TRw Try.prog 33 1 [.nilFunc] := ⟨by kernel_rfl, by kernel_rfl, rfl, by decide⟩
instance : TRw Try.prog 34 1 [.nilFunc] := ⟨by kernel_rfl, by kernel_rfl, rfl, by decide⟩
instance : TRw Try.prog 35 1 [.nilFunc] := ⟨by kernel_rfl, by kernel_rfl, rfl, by decide⟩
instance : TRw Try.prog 36 1 [.nilFunc] := ⟨by kernel_rfl, by kernel_rfl, rfl, by decide⟩
instance : TRw Try.prog 37 1 [.nilFunc] := ⟨by kernel_rfl, by kernel_rfl, rfl, by decide⟩
instance : TRw Try.prog 38 1 [.nilFunc] := ⟨by kernel_rfl, by kernel_rfl, rfl, by decide⟩
instance : TRw Try.prog 39 1 [.nilFunc] := ⟨by kernel_rfl, by kernel_rfl, rfl, by decide⟩
instance : TBd Try.prog 40 (fun i => some (i * 1, 1)) [.int .i64 0, .int .i64 0, .int .i64 0] := ⟨fun _ => by kernel_rfl⟩
instance : TRw Try.prog 40 3 [.int .i64 0, .int .i64 0, .int .i64 0] := ⟨by kernel_rfl, by kernel_rfl, rfl, by decide⟩
instance : TRw Try.prog 41 1 [.nilFunc] := ⟨by kernel_rfl, by kernel_rfl, rfl, by decide⟩
instance : TRw Try.prog 42 1 [.nilFunc] := ⟨by kernel_rfl, by kernel_rfl, rfl, by decide⟩
instance : TRw Try.prog 43 1 [.nilFunc] := ⟨by kernel_rfl, by kernel_rfl, rfl, by decide⟩
instance : TRw Try.prog 44 1 [.nilFunc] := ⟨by kernel_rfl, by kernel_rfl, rfl, by decide⟩
instance : TRw Try.prog 45 1 [.nilFunc] := ⟨by kernel_rfl, by kernel_rfl, rfl, by decide⟩
instance : TRw Try.prog 46 1 [.nilFunc] := ⟨by kernel_rfl, by kernel_rfl, rfl, by decide⟩
instance : TRw Try.prog 47 1 [.nilFunc] := ⟨by kernel_rfl, by kernel_rfl, rfl, by decide⟩
instance : TRw Try.prog 48 1 [.nilFunc] := ⟨by kernel_rfl, by kernel_rfl, rfl, by decide⟩
instance : TRw Try.prog 49 1 [.nilFunc] := ⟨by kernel_rfl, by kernel_rfl, rfl, by decide⟩
instance : TRw Try.prog 50 1 [.nilFunc] := ⟨by kernel_rfl, by kernel_rfl, rfl, by decide⟩
instance : TRw Try.prog 51 1 [.nilFunc] := ⟨by kernel_rfl, by kernel_rfl, rfl, by decide⟩
instance : TRw Try.prog 52 1 [.nilFunc] := ⟨by kernel_rfl, by kernel_rfl, rfl, by decide⟩
instance : TRw Try.prog 53 1 [.slice none 0 0] := ⟨by kernel_rfl, by kernel_rfl, rfl, by decide⟩
instance : TRw Try.prog 54 1 [.nilFunc] := ⟨by kernel_rfl, by kernel_rfl, rfl, by decide⟩
instance : TRw Try.prog 55 1 [.slice none 0 0] := ⟨by kernel_rfl, by kernel_rfl, rfl, by decide⟩
instance : TRw Try.prog 56 1 [.nilFunc] := ⟨by kernel_rfl, by kernel_rfl, rfl, by decide⟩
instance : TRw Try.prog 57 1 [.nilFunc] := ⟨by kernel_rfl, by kernel_rfl, rfl, by decide⟩
instance : TBd Try.prog 58 (fun i => some (i * 1, 1)) [.int .i64 0, .int .i64 0, .int .i64 0] := ⟨fun _ => by kernel_rfl⟩
instance : TRw Try.prog 58 3 [.int .i64 0, .int .i64 0, .int .i64 0] := ⟨by kernel_rfl, by kernel_rfl, rfl, by decide⟩
instance : TRw Try.prog 59 1 [.nilFunc] := ⟨by kernel_rfl, by kernel_rfl, rfl, by decide⟩
instance : TRw Try.prog 60 1 [.slice none 0 0] := ⟨by kernel_rfl, by kernel_rfl, rfl, by decide⟩
instance : TRw Try.prog 61 1 [.nilFunc] := ⟨by kernel_rfl, by kernel_rfl, rfl, by decide⟩
instance : TRw Try.prog 62 1 [.nilFunc] := ⟨by kernel_rfl, by kernel_rfl, rfl, by decide⟩
instance : TRw Try.prog 63 1 [.nilFunc] := ⟨by kernel_rfl, by kernel_rfl, rfl, by decide⟩
instance : TRw Try.prog 64 1 [.nilFunc] := ⟨by kernel_rfl, by kernel_rfl, rfl, by decide⟩
instance : TRw Try.prog 70 1 [.nilFunc] := ⟨by kernel_rfl, by kernel_rfl, rfl, by decide⟩
instance : TRw Try.prog 71 1 [.int .u32 0] := ⟨by kernel_rfl, by kernel_rfl, rfl, by decide⟩
instance : TRw Try.prog 75 1 [.pointer none] := ⟨by kernel_rfl, by kernel_rfl, rfl, by decide⟩
theorem eqt_21 : EqT Try.prog 1 21 false [.i .i32] := eqt_int (by kernel_rfl) inferInstance
theorem eqt_22 : EqT Try.prog 2 22 true [.i .i32, .i .i32, .i .i32] := eqt_array (n := 3) (by kernel_rfl) eqt_21 (by kernel_rfl) inferInstance
instance : TQ Try.prog 22 [.i .i32, .i .i32, .i .i32] := ⟨⟨_, by decide, eqt_22⟩, by kernel_rfl⟩
theorem eqt_23 : EqT Try.prog 2 23 true [.i .i32, .i .i32, .i .i32] := eqt_array (n := 3) (by kernel_rfl) eqt_21 (by kernel_rfl) inferInstance
instance : TQ Try.prog 23 [.i .i32, .i .i32, .i .i32] := ⟨⟨_, by decide, eqt_23⟩, by kernel_rfl⟩
theorem eqt_3 : EqT Try.prog 1 3 false [.i .i64] := eqt_int (by kernel_rfl) inferInstance
theorem eqt_40 : EqT Try.prog 2 40 true [.i .i64, .i .i64, .i .i64] := eqt_array (n := 3) (by kernel_rfl) eqt_3 (by kernel_rfl) inferInstance
instance : TQ Try.prog 40 [.i .i64, .i .i64, .i .i64] := ⟨⟨_, by decide, eqt_40⟩, by kernel_rfl⟩
theorem eqt_2 : EqT Try.prog 1 2 false [.i .i64] := eqt_int (by kernel_rfl) inferInstance
theorem eqt_58 : EqT Try.prog 2 58 true [.i .i64, .i .i64, .i .i64] := eqt_array (n := 3) (by kernel_rfl) eqt_2 (by kernel_rfl) inferInstance
instance : TQ Try.prog 58 [.i .i64, .i .i64, .i .i64] := ⟨⟨_, by decide, eqt_58⟩, by kernel_rfl⟩
instance : CF Try.prog 3 := ⟨fun _ _ => by kernel_rfl⟩
instance : CF Try.prog 4 := ⟨fun _ _ => by kernel_rfl⟩
instance : CF Try.prog 5 := ⟨fun _ _ => by kernel_rfl⟩
instance : CF Try.prog 6 := ⟨fun _ _ => by kernel_rfl⟩
instance : CF Try.prog 7 := ⟨fun _ _ => by kernel_rfl⟩
instance : CF Try.prog 8 := ⟨fun _ _ => by kernel_rfl⟩
instance : CF Try.prog 9 := ⟨fun _ _ => by kernel_rfl⟩
instance : CF Try.prog 10 := ⟨fun _ _ => by kernel_rfl⟩
instance : CF Try.prog 11 := ⟨fun _ _ => by kernel_rfl⟩
instance : CF Try.prog 12 := ⟨fun _ _ => by kernel_rfl⟩
instance : CF Try.prog 13 := ⟨fun _ _ => by kernel_rfl⟩
instance : CF Try.prog 14 := ⟨fun _ _ => by kernel_rfl⟩
instance : CF Try.prog 15 := ⟨fun _ _ => by kernel_rfl⟩
instance : CF Try.prog 16 := ⟨fun _ _ => by kernel_rfl⟩
instance : CF Try.prog 17 := ⟨fun _ _ => by kernel_rfl⟩
instance : CF Try.prog 18 := ⟨fun _ _ => by kernel_rfl⟩
instance : CF Try.prog 19 := ⟨fun _ _ => by kernel_rfl⟩
instance : CF Try.prog 20 := ⟨fun _ _ => by kernel_rfl⟩
instance : CF Try.prog 21 := ⟨fun _ _ => by kernel_rfl⟩
instance : CF Try.prog 22 := ⟨fun _ _ => by kernel_rfl⟩
instance : CF Try.prog 23 := ⟨fun _ _ => by kernel_rfl⟩
instance : CF Try.prog 24 := ⟨fun _ _ => by kernel_rfl⟩
instance : CF Try.prog 25 := ⟨fun _ _ => by kernel_rfl⟩
instance : CF Try.prog 26 := ⟨fun _ _ => by kernel_rfl⟩
instance : CF Try.prog 27 := ⟨fun _ _ => by kernel_rfl⟩
instance : CF Try.prog 28 := ⟨fun _ _ => by kernel_rfl⟩
instance : CF Try.prog 29 := ⟨fun _ _ => by kernel_rfl⟩
instance : CF Try.prog 30 := ⟨fun _ _ => by kernel_rfl⟩
instance : CF Try.prog 31 := ⟨fun _ _ => by kernel_rfl⟩
instance : CF Try.prog 32 := ⟨fun _ _ => by kernel_rfl⟩
instance : CF Try.prog 33 := ⟨fun _ _ => by kernel_rfl⟩
instance : CF Try.prog 34 := ⟨fun _ _ => by kernel_rfl⟩
instance : CF Try.prog 35 := ⟨fun _ _ => by kernel_rfl⟩
instance : CF Try.prog 36 := ⟨fun _ _ => by kernel_rfl⟩
instance : CF Try.prog 37 := ⟨fun _ _ => by kernel_rfl⟩
instance : CF Try.prog 38 := ⟨fun _ _ => by kernel_rfl⟩
instance : CF Try.prog 39 := ⟨fun _ _ => by kernel_rfl⟩
instance : CF Try.prog 40 := ⟨fun _ _ => by kernel_rfl⟩
instance : CF Try.prog 41 := ⟨fun _ _ => by kernel_rfl⟩
instance : CF Try.prog 42 := ⟨fun _ _ => by kernel_rfl⟩
instance : CF Try.prog 43 := ⟨fun _ _ => by kernel_rfl⟩
instance : CF Try.prog 44 := ⟨fun _ _ => by kernel_rfl⟩
instance : CF Try.prog 45 := ⟨fun _ _ => by kernel_rfl⟩
instance : CF Try.prog 46 := ⟨fun _ _ => by kernel_rfl⟩
instance : CF Try.prog 47 := ⟨fun _ _ => by kernel_rfl⟩
instance : CF Try.prog 48 := ⟨fun _ _ => by kernel_rfl⟩
theorem followsMixed : Try.prog.follows .mixedOrders = true := by kernel_rfl
end Go.Proofs.Ytfnailajblfckaa
