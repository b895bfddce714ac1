/- Facts on the types and functions of the translation, as instances. -/
import Derived.Test.YtihboegopigkmaaProg
import Derived.Test.YtihboegopigkmaaSq
namespace Go.Proofs.Ytihboegopigkmaa
set_option maxRecDepth 100000
instance : TL Try.prog 1 false 1 := ⟨by kernel_rfl, by kernel_rfl⟩
instance : TL Try.prog 2 false 1 := ⟨by kernel_rfl, by kernel_rfl⟩
instance : TZ Try.prog 2 [.int .i64 0] := ⟨by kernel_rfl⟩
instance : TB Try.prog 2 8 := ⟨by kernel_rfl⟩
instance : TI Try.prog 2 .i64 := ⟨by kernel_rfl⟩
instance : TL Try.prog 3 false 1 := ⟨by kernel_rfl, by kernel_rfl⟩
instance : TZ Try.prog 3 [.int .i64 0] := ⟨by kernel_rfl⟩
instance : TB Try.prog 3 8 := ⟨by kernel_rfl⟩
instance : TI Try.prog 3 .i64 := ⟨by kernel_rfl⟩
instance : TL Try.prog 4 false 1 := ⟨by kernel_rfl, by kernel_rfl⟩
instance : TZ Try.prog 4 [.bool false] := ⟨by kernel_rfl⟩
instance : TB Try.prog 4 1 := ⟨by kernel_rfl⟩
instance : TO Try.prog 4 := ⟨by kernel_rfl⟩
instance : TL Try.prog 5 false 1 := ⟨by kernel_rfl, by kernel_rfl⟩
instance : TZ Try.prog 5 [.int .u8 0] := ⟨by kernel_rfl⟩
instance : TB Try.prog 5 1 := ⟨by kernel_rfl⟩
instance : TI Try.prog 5 .u8 := ⟨by kernel_rfl⟩
instance : TL Try.prog 9 false 1 := ⟨by kernel_rfl, by kernel_rfl⟩
instance : TZ Try.prog 9 [.string ⟨#[]⟩] := ⟨by kernel_rfl⟩
instance : TB Try.prog 9 16 := ⟨by kernel_rfl⟩
instance : TL Try.prog 21 false 1 := ⟨by kernel_rfl, by kernel_rfl⟩
instance : TZ Try.prog 21 [.int .i32 0] := ⟨by kernel_rfl⟩
instance : TB Try.prog 21 4 := ⟨by kernel_rfl⟩
instance : TI Try.prog 21 .i32 := ⟨by kernel_rfl⟩
instance : TL Try.prog 22 true 6 := ⟨by kernel_rfl, by kernel_rfl⟩
instance : TZ Try.prog 22 [.int .u8 0, .int .u8 0, .int .u8 0, .int .u8 0, .int .u8 0, .int .u8 0] := ⟨by kernel_rfl⟩
instance : TB Try.prog 22 6 := ⟨by kernel_rfl⟩
instance : TA Try.prog 22 6 5 := ⟨by kernel_rfl⟩
instance : TL Try.prog 23 true 6 := ⟨by kernel_rfl, by kernel_rfl⟩
instance : TZ Try.prog 23 [.int .u8 0, .int .u8 0, .int .u8 0, .int .u8 0, .int .u8 0, .int .u8 0] := ⟨by kernel_rfl⟩
instance : TB Try.prog 23 6 := ⟨by kernel_rfl⟩
instance : TA Try.prog 23 6 5 := ⟨by kernel_rfl⟩
instance : TL Try.prog 24 false 1 := ⟨by kernel_rfl, by kernel_rfl⟩
instance : TZ Try.prog 24 [.int .u16 0] := ⟨by kernel_rfl⟩
instance : TB Try.prog 24 2 := ⟨by kernel_rfl⟩
instance : TI Try.prog 24 .u16 := ⟨by kernel_rfl⟩
instance : TL Try.prog 25 false 1 := ⟨by kernel_rfl, by kernel_rfl⟩
instance : TZ Try.prog 25 [.int .u16 0] := ⟨by kernel_rfl⟩
instance : TB Try.prog 25 2 := ⟨by kernel_rfl⟩
instance : TI Try.prog 25 .u16 := ⟨by kernel_rfl⟩
instance : TL Try.prog 26 false 1 := ⟨by kernel_rfl, by kernel_rfl⟩
instance : TZ Try.prog 26 [.int .i8 0] := ⟨by kernel_rfl⟩
instance : TB Try.prog 26 1 := ⟨by kernel_rfl⟩
instance : TI Try.prog 26 .i8 := ⟨by kernel_rfl⟩
instance : TL Try.prog 27 true 6 := ⟨by kernel_rfl, by kernel_rfl⟩
instance : TZ Try.prog 27 [.int .i8 0, .int .i8 0, .int .i8 0, .int .i8 0, .int .i8 0, .int .i8 0] := ⟨by kernel_rfl⟩
instance : TB Try.prog 27 6 := ⟨by kernel_rfl⟩
instance : TA Try.prog 27 6 26 := ⟨by kernel_rfl⟩
instance : TL Try.prog 28 true 18 := ⟨by kernel_rfl, by kernel_rfl⟩
instance : TZ Try.prog 28 [.int .u16 0, .int .u16 0, .int .u8 0, .int .u8 0, .int .u8 0, .int .u8 0, .int .u8 0, .int .u8 0, .int .i8 0, .int .i8 0, .int .i8 0, .int .i8 0, .int .i8 0, .int .i8 0, .int .u8 0, .int .u16 0, .bool false, .int .u8 0] := ⟨by kernel_rfl⟩
instance : TB Try.prog 28 22 := ⟨by kernel_rfl⟩
instance : TF Try.prog 28 0 0 25 := ⟨by kernel_rfl⟩
instance : TF Try.prog 28 1 1 25 := ⟨by kernel_rfl⟩
instance : TF Try.prog 28 2 2 22 := ⟨by kernel_rfl⟩
instance : TF Try.prog 28 3 8 27 := ⟨by kernel_rfl⟩
instance : TF Try.prog 28 4 14 5 := ⟨by kernel_rfl⟩
instance : TF Try.prog 28 5 15 24 := ⟨by kernel_rfl⟩
instance : TF Try.prog 28 6 16 4 := ⟨by kernel_rfl⟩
instance : TF Try.prog 28 7 17 5 := ⟨by kernel_rfl⟩
instance : TL Try.prog 29 true 18 := ⟨by kernel_rfl, by kernel_rfl⟩
instance : TZ Try.prog 29 [.int .u16 0, .int .u16 0, .int .u8 0, .int .u8 0, .int .u8 0, .int .u8 0, .int .u8 0, .int .u8 0, .int .i8 0, .int .i8 0, .int .i8 0, .int .i8 0, .int .i8 0, .int .i8 0, .int .u8 0, .int .u16 0, .bool false, .int .u8 0] := ⟨by kernel_rfl⟩
instance : TB Try.prog 29 22 := ⟨by kernel_rfl⟩
instance : TF Try.prog 29 0 0 25 := ⟨by kernel_rfl⟩
instance : TF Try.prog 29 1 1 25 := ⟨by kernel_rfl⟩
instance : TF Try.prog 29 2 2 22 := ⟨by kernel_rfl⟩
instance : TF Try.prog 29 3 8 27 := ⟨by kernel_rfl⟩
instance : TF Try.prog 29 4 14 5 := ⟨by kernel_rfl⟩
instance : TF Try.prog 29 5 15 24 := ⟨by kernel_rfl⟩
instance : TF Try.prog 29 6 16 4 := ⟨by kernel_rfl⟩
instance : TF Try.prog 29 7 17 5 := ⟨by kernel_rfl⟩
instance : TL Try.prog 30 false 1 := ⟨by kernel_rfl, by kernel_rfl⟩
instance : TZ Try.prog 30 [.slice none 0 0] := ⟨by kernel_rfl⟩
instance : TB Try.prog 30 24 := ⟨by kernel_rfl⟩
instance : TS Try.prog 30 3 := ⟨by kernel_rfl⟩
instance : TL Try.prog 31 false 1 := ⟨by kernel_rfl, by kernel_rfl⟩
instance : TL Try.prog 32 false 1 := ⟨by kernel_rfl, by kernel_rfl⟩
instance : TL Try.prog 34 false 1 := ⟨by kernel_rfl, by kernel_rfl⟩
instance : TL Try.prog 35 false 1 := ⟨by kernel_rfl, by kernel_rfl⟩
instance : TL Try.prog 36 true 6 := ⟨by kernel_rfl, by kernel_rfl⟩
instance : TZ Try.prog 36 [.int .i64 0, .int .i64 0, .int .i64 0, .int .i64 0, .int .i64 0, .int .i64 0] := ⟨by kernel_rfl⟩
instance : TB Try.prog 36 48 := ⟨by kernel_rfl⟩
instance : TA Try.prog 36 6 3 := ⟨by kernel_rfl⟩
instance : TL Try.prog 37 false 1 := ⟨by kernel_rfl, by kernel_rfl⟩
instance : TL Try.prog 38 false 1 := ⟨by kernel_rfl, by kernel_rfl⟩
instance : TZ Try.prog 38 [.slice none 0 0] := ⟨by kernel_rfl⟩
instance : TB Try.prog 38 24 := ⟨by kernel_rfl⟩
instance : TS Try.prog 38 30 := ⟨by kernel_rfl⟩
instance : TL Try.prog 39 false 1 := ⟨by kernel_rfl, by kernel_rfl⟩
instance : TL Try.prog 40 false 1 := ⟨by kernel_rfl, by kernel_rfl⟩
instance : TL Try.prog 41 false 1 := ⟨by kernel_rfl, by kernel_rfl⟩
instance : TL Try.prog 42 false 1 := ⟨by kernel_rfl, by kernel_rfl⟩
instance : TL Try.prog 43 false 1 := ⟨by kernel_rfl, by kernel_rfl⟩
instance : TL Try.prog 44 false 1 := ⟨by kernel_rfl, by kernel_rfl⟩
instance : TL Try.prog 45 true 2 := ⟨by kernel_rfl, by kernel_rfl⟩
instance : TZ Try.prog 45 [.int .u8 0, .int .u8 0] := ⟨by kernel_rfl⟩
instance : TB Try.prog 45 2 := ⟨by kernel_rfl⟩
instance : TF Try.prog 45 0 0 5 := ⟨by kernel_rfl⟩
instance : TF Try.prog 45 1 1 5 := ⟨by kernel_rfl⟩
instance : TL Try.prog 46 true 2 := ⟨by kernel_rfl, by kernel_rfl⟩
instance : TZ Try.prog 46 [.int .u8 0, .int .u8 0] := ⟨by kernel_rfl⟩
instance : TB Try.prog 46 2 := ⟨by kernel_rfl⟩
instance : TF Try.prog 46 0 0 5 := ⟨by kernel_rfl⟩
instance : TF Try.prog 46 1 1 5 := ⟨by kernel_rfl⟩
instance : TL Try.prog 47 false 1 := ⟨by kernel_rfl, by kernel_rfl⟩
instance : TZ Try.prog 47 [.slice none 0 0] := ⟨by kernel_rfl⟩
instance : TB Try.prog 47 24 := ⟨by kernel_rfl⟩
instance : TS Try.prog 47 46 := ⟨by kernel_rfl⟩
instance : TL Try.prog 48 true 3 := ⟨by kernel_rfl, by kernel_rfl⟩
instance : TZ Try.prog 48 [.int .u8 0, .int .u8 0, .int .u8 0] := ⟨by kernel_rfl⟩
instance : TB Try.prog 48 3 := ⟨by kernel_rfl⟩
instance : TF Try.prog 48 0 0 5 := ⟨by kernel_rfl⟩
instance : TF Try.prog 48 1 1 5 := ⟨by kernel_rfl⟩
instance : TF Try.prog 48 2 2 5 := ⟨by kernel_rfl⟩
instance : TL Try.prog 49 true 3 := ⟨by kernel_rfl, by kernel_rfl⟩
instance : TZ Try.prog 49 [.int .u8 0, .int .u8 0, .int .u8 0] := ⟨by kernel_rfl⟩
instance : TB Try.prog 49 3 := ⟨by kernel_rfl⟩
instance : TF Try.prog 49 0 0 5 := ⟨by kernel_rfl⟩
instance : TF Try.prog 49 1 1 5 := ⟨by kernel_rfl⟩
instance : TF Try.prog 49 2 2 5 := ⟨by kernel_rfl⟩
instance : TL Try.prog 50 true 5 := ⟨by kernel_rfl, by kernel_rfl⟩
instance : TZ Try.prog 50 [.int .u8 0, .int .u8 0, .int .u8 0, .int .u8 0, .int .u8 0] := ⟨by kernel_rfl⟩
instance : TB Try.prog 50 5 := ⟨by kernel_rfl⟩
instance : TF Try.prog 50 0 0 49 := ⟨by kernel_rfl⟩
instance : TF Try.prog 50 1 3 46 := ⟨by kernel_rfl⟩
instance : TL Try.prog 51 true 5 := ⟨by kernel_rfl, by kernel_rfl⟩
instance : TZ Try.prog 51 [.int .u8 0, .int .u8 0, .int .u8 0, .int .u8 0, .int .u8 0] := ⟨by kernel_rfl⟩
instance : TB Try.prog 51 5 := ⟨by kernel_rfl⟩
instance : TF Try.prog 51 0 0 49 := ⟨by kernel_rfl⟩
instance : TF Try.prog 51 1 3 46 := ⟨by kernel_rfl⟩
instance : TL Try.prog 52 true 80 := ⟨by kernel_rfl, by kernel_rfl⟩
instance : TZ Try.prog 52 [.int .u8 0, .int .u8 0, .int .u8 0, .int .u8 0, .int .u8 0, .int .u8 0, .int .u8 0, .int .u8 0, .int .u8 0, .int .u8 0, .int .u8 0, .int .u8 0, .int .u8 0, .int .u8 0, .int .u8 0, .int .u8 0, .int .u8 0, .int .u8 0, .int .u8 0, .int .u8 0, .int .u8 0, .int .u8 0, .int .u8 0, .int .u8 0, .int .u8 0, .int .u8 0, .int .u8 0, .int .u8 0, .int .u8 0, .int .u8 0, .int .u8 0, .int .u8 0, .int .u8 0, .int .u8 0, .int .u8 0, .int .u8 0, .int .u8 0, .int .u8 0, .int .u8 0, .int .u8 0, .int .u8 0, .int .u8 0, .int .u8 0, .int .u8 0, .int .u8 0, .int .u8 0, .int .u8 0, .int .u8 0, .int .u8 0, .int .u8 0, .int .u8 0, .int .u8 0, .int .u8 0, .int .u8 0, .int .u8 0, .int .u8 0, .int .u8 0, .int .u8 0, .int .u8 0, .int .u8 0, .int .u8 0, .int .u8 0, .int .u8 0, .int .u8 0, .int .u8 0, .int .u8 0, .int .u8 0, .int .u8 0, .int .u8 0, .int .u8 0, .int .u8 0, .int .u8 0, .int .u8 0, .int .u8 0, .int .u8 0, .int .u8 0, .int .u8 0, .int .u8 0, .int .u8 0, .int .u8 0] := ⟨by kernel_rfl⟩
instance : TB Try.prog 52 80 := ⟨by kernel_rfl⟩
instance : TA Try.prog 52 16 51 := ⟨by kernel_rfl⟩
instance : TL Try.prog 53 true 81 := ⟨by kernel_rfl, by kernel_rfl⟩
instance : TZ Try.prog 53 [.int .u8 0, .int .u8 0, .int .u8 0, .int .u8 0, .int .u8 0, .int .u8 0, .int .u8 0, .int .u8 0, .int .u8 0, .int .u8 0, .int .u8 0, .int .u8 0, .int .u8 0, .int .u8 0, .int .u8 0, .int .u8 0, .int .u8 0, .int .u8 0, .int .u8 0, .int .u8 0, .int .u8 0, .int .u8 0, .int .u8 0, .int .u8 0, .int .u8 0, .int .u8 0, .int .u8 0, .int .u8 0, .int .u8 0, .int .u8 0, .int .u8 0, .int .u8 0, .int .u8 0, .int .u8 0, .int .u8 0, .int .u8 0, .int .u8 0, .int .u8 0, .int .u8 0, .int .u8 0, .int .u8 0, .int .u8 0, .int .u8 0, .int .u8 0, .int .u8 0, .int .u8 0, .int .u8 0, .int .u8 0, .int .u8 0, .int .u8 0, .int .u8 0, .int .u8 0, .int .u8 0, .int .u8 0, .int .u8 0, .int .u8 0, .int .u8 0, .int .u8 0, .int .u8 0, .int .u8 0, .int .u8 0, .int .u8 0, .int .u8 0, .int .u8 0, .int .u8 0, .int .u8 0, .int .u8 0, .int .u8 0, .int .u8 0, .int .u8 0, .int .u8 0, .int .u8 0, .int .u8 0, .int .u8 0, .int .u8 0, .int .u8 0, .int .u8 0, .int .u8 0, .int .u8 0, .int .u8 0, .int .i64 0] := ⟨by kernel_rfl⟩
instance : TB Try.prog 53 88 := ⟨by kernel_rfl⟩
instance : TF Try.prog 53 0 0 52 := ⟨by kernel_rfl⟩
instance : TF Try.prog 53 1 80 3 := ⟨by kernel_rfl⟩
instance : TL Try.prog 54 true 81 := ⟨by kernel_rfl, by kernel_rfl⟩
instance : TZ Try.prog 54 [.int .u8 0, .int .u8 0, .int .u8 0, .int .u8 0, .int .u8 0, .int .u8 0, .int .u8 0, .int .u8 0, .int .u8 0, .int .u8 0, .int .u8 0, .int .u8 0, .int .u8 0, .int .u8 0, .int .u8 0, .int .u8 0, .int .u8 0, .int .u8 0, .int .u8 0, .int .u8 0, .int .u8 0, .int .u8 0, .int .u8 0, .int .u8 0, .int .u8 0, .int .u8 0, .int .u8 0, .int .u8 0, .int .u8 0, .int .u8 0, .int .u8 0, .int .u8 0, .int .u8 0, .int .u8 0, .int .u8 0, .int .u8 0, .int .u8 0, .int .u8 0, .int .u8 0, .int .u8 0, .int .u8 0, .int .u8 0, .int .u8 0, .int .u8 0, .int .u8 0, .int .u8 0, .int .u8 0, .int .u8 0, .int .u8 0, .int .u8 0, .int .u8 0, .int .u8 0, .int .u8 0, .int .u8 0, .int .u8 0, .int .u8 0, .int .u8 0, .int .u8 0, .int .u8 0, .int .u8 0, .int .u8 0, .int .u8 0, .int .u8 0, .int .u8 0, .int .u8 0, .int .u8 0, .int .u8 0, .int .u8 0, .int .u8 0, .int .u8 0, .int .u8 0, .int .u8 0, .int .u8 0, .int .u8 0, .int .u8 0, .int .u8 0, .int .u8 0, .int .u8 0, .int .u8 0, .int .u8 0, .int .i64 0] := ⟨by kernel_rfl⟩
instance : TB Try.prog 54 88 := ⟨by kernel_rfl⟩
instance : TF Try.prog 54 0 0 52 := ⟨by kernel_rfl⟩
instance : TF Try.prog 54 1 80 3 := ⟨by kernel_rfl⟩
instance : TL Try.prog 55 false 1 := ⟨by kernel_rfl, by kernel_rfl⟩
instance : TZ Try.prog 55 [.int .i64 0] := ⟨by kernel_rfl⟩
instance : TB Try.prog 55 8 := ⟨by kernel_rfl⟩
instance : TI Try.prog 55 .i64 := ⟨by kernel_rfl⟩
instance : TL Try.prog 57 false 1 := ⟨by kernel_rfl, by kernel_rfl⟩
instance : TL Try.prog 58 false 1 := ⟨by kernel_rfl, by kernel_rfl⟩
instance : TZ Try.prog 58 [.slice none 0 0] := ⟨by kernel_rfl⟩
instance : TB Try.prog 58 24 := ⟨by kernel_rfl⟩
instance : TS Try.prog 58 69 := ⟨by kernel_rfl⟩
instance : TL Try.prog 60 false 1 := ⟨by kernel_rfl, by kernel_rfl⟩
instance : TL Try.prog 61 false 1 := ⟨by kernel_rfl, by kernel_rfl⟩
instance : TL Try.prog 62 false 1 := ⟨by kernel_rfl, by kernel_rfl⟩
instance : TL Try.prog 63 false 1 := ⟨by kernel_rfl, by kernel_rfl⟩
instance : TL Try.prog 64 false 1 := ⟨by kernel_rfl, by kernel_rfl⟩
instance : TL Try.prog 65 false 1 := ⟨by kernel_rfl, by kernel_rfl⟩
instance : TL Try.prog 67 false 1 := ⟨by kernel_rfl, by kernel_rfl⟩
instance : TL Try.prog 68 true 2 := ⟨by kernel_rfl, by kernel_rfl⟩
instance : TZ Try.prog 68 [.int .i64 0, .bool false] := ⟨by kernel_rfl⟩
instance : TB Try.prog 68 16 := ⟨by kernel_rfl⟩
instance : TF Try.prog 68 0 0 3 := ⟨by kernel_rfl⟩
instance : TF Try.prog 68 1 1 4 := ⟨by kernel_rfl⟩
instance : TL Try.prog 69 true 2 := ⟨by kernel_rfl, by kernel_rfl⟩
instance : TZ Try.prog 69 [.int .i64 0, .bool false] := ⟨by kernel_rfl⟩
instance : TB Try.prog 69 16 := ⟨by kernel_rfl⟩
instance : TF Try.prog 69 0 0 3 := ⟨by kernel_rfl⟩
instance : TF Try.prog 69 1 1 4 := ⟨by kernel_rfl⟩
instance : TL Try.prog 70 false 1 := ⟨by kernel_rfl, by kernel_rfl⟩
instance : TL Try.prog 71 false 1 := ⟨by kernel_rfl, by kernel_rfl⟩
instance : TL Try.prog 72 false 1 := ⟨by kernel_rfl, by kernel_rfl⟩
instance : TL Try.prog 73 false 1 := ⟨by kernel_rfl, by kernel_rfl⟩
instance : TL Try.prog 74 false 1 := ⟨by kernel_rfl, by kernel_rfl⟩
instance : TL Try.prog 76 false 1 := ⟨by kernel_rfl, by kernel_rfl⟩
instance : TL Try.prog 77 false 1 := ⟨by kernel_rfl, by kernel_rfl⟩
instance : TL Try.prog 78 false 1 := ⟨by kernel_rfl, by kernel_rfl⟩
instance : TL Try.prog 79 true 3 := ⟨by kernel_rfl, by kernel_rfl⟩
instance : TZ Try.prog 79 [.int .u16 0, .int .u16 0, .int .u16 0] := ⟨by kernel_rfl⟩
instance : TB Try.prog 79 6 := ⟨by kernel_rfl⟩
instance : TA Try.prog 79 3 25 := ⟨by kernel_rfl⟩
instance : TL Try.prog 81 false 1 := ⟨by kernel_rfl, by kernel_rfl⟩
instance : TL Try.prog 82 false 1 := ⟨by kernel_rfl, by kernel_rfl⟩
instance : TL Try.prog 83 false 1 := ⟨by kernel_rfl, by kernel_rfl⟩
instance : TL Try.prog 84 false 1 := ⟨by kernel_rfl, by kernel_rfl⟩
instance : TL Try.prog 90 false 1 := ⟨by kernel_rfl, by kernel_rfl⟩
instance : TZ Try.prog 90 [.int .u32 0] := ⟨by kernel_rfl⟩
instance : TB Try.prog 90 4 := ⟨by kernel_rfl⟩
instance : TI Try.prog 90 .u32 := ⟨by kernel_rfl⟩
instance : TL Try.prog 94 false 1 := ⟨by kernel_rfl, by kernel_rfl⟩
instance : TZ Try.prog 94 [.pointer none] := ⟨by kernel_rfl⟩
instance : TB Try.prog 94 8 := ⟨by kernel_rfl⟩
instance : TRw Try.prog 1 1 [.nilFunc] := ⟨by kernel_rfl, by kernel_rfl, rfl, by decide⟩
instance : TRw Try.prog 2 1 [.int .i64 0] := ⟨by kernel_rfl, by kernel_rfl, rfl, by decide⟩
instance : TRw Try.prog 3 1 [.int .i64 0] := ⟨by kernel_rfl, by kernel_rfl, rfl, by decide⟩
instance : TRw Try.prog 4 1 [.bool false] := ⟨by kernel_rfl, by kernel_rfl, rfl, by decide⟩
instance : TRw Try.prog 5 1 [.int .u8 0] := ⟨by kernel_rfl, by kernel_rfl, rfl, by decide⟩
instance : TRw Try.prog 9 1 [.string ⟨#[]⟩] := ⟨by kernel_rfl, by kernel_rfl, rfl, by decide⟩
instance : TRw Try.prog 21 1 [.int .i32 0] := ⟨by kernel_rfl, by kernel_rfl, rfl, by decide⟩
instance : TBd Try.prog 22 (fun i => some (i * 1, 1)) [.int .u8 0, .int .u8 0, .int .u8 0, .int .u8 0, .int .u8 0, .int .u8 0] := ⟨fun _ => by kernel_rfl⟩
instance : TRw Try.prog 22 6 [.int .u8 0, .int .u8 0, .int .u8 0, .int .u8 0, .int .u8 0, .int .u8 0] := ⟨by kernel_rfl, by kernel_rfl, rfl, by decide⟩
instance : TBd Try.prog 23 (fun i => some (i * 1, 1)) [.int .u8 0, .int .u8 0, .int .u8 0, .int .u8 0, .int .u8 0, .int .u8 0] := ⟨fun _ => by kernel_rfl⟩
instance : TRw Try.prog 23 6 [.int .u8 0, .int .u8 0, .int .u8 0, .int .u8 0, .int .u8 0, .int .u8 0] := ⟨by kernel_rfl, by kernel_rfl, rfl, by decide⟩
instance : TRw Try.prog 24 1 [.int .u16 0] := ⟨by kernel_rfl, by kernel_rfl, rfl, by decide⟩
instance : TRw Try.prog 25 1 [.int .u16 0] := ⟨by kernel_rfl, by kernel_rfl, rfl, by decide⟩
instance : TRw Try.prog 26 1 [.int .i8 0] := ⟨by kernel_rfl, by kernel_rfl, rfl, by decide⟩
instance : TBd Try.prog 27 (fun i => some (i * 1, 1)) [.int .i8 0, .int .i8 0, .int .i8 0, .int .i8 0, .int .i8 0, .int .i8 0] := ⟨fun _ => by kernel_rfl⟩
instance : TRw Try.prog 27 6 [.int .i8 0, .int .i8 0, .int .i8 0, .int .i8 0, .int .i8 0, .int .i8 0] := ⟨by kernel_rfl, by kernel_rfl, rfl, by decide⟩
instance : TBd Try.prog 28 (fun i => #[(0, 1), (1, 1), (2, 6), (8, 6), (14, 1), (15, 1), (16, 1), (17, 1)][i]?) [.int .u16 0, .int .u16 0, .int .u8 0, .int .u8 0, .int .u8 0, .int .u8 0, .int .u8 0, .int .u8 0, .int .i8 0, .int .i8 0, .int .i8 0, .int .i8 0, .int .i8 0, .int .i8 0, .int .u8 0, .int .u16 0, .bool false, .int .u8 0] := ⟨fun _ => by kernel_rfl⟩
instance : TRw Try.prog 28 18 [.int .u16 0, .int .u16 0, .int .u8 0, .int .u8 0, .int .u8 0, .int .u8 0, .int .u8 0, .int .u8 0, .int .i8 0, .int .i8 0, .int .i8 0, .int .i8 0, .int .i8 0, .int .i8 0, .int .u8 0, .int .u16 0, .bool false, .int .u8 0] := ⟨by kernel_rfl, by kernel_rfl, rfl, by decide⟩
instance : TBd Try.prog 29 (fun i => #[(0, 1), (1, 1), (2, 6), (8, 6), (14, 1), (15, 1), (16, 1), (17, 1)][i]?) [.int .u16 0, .int .u16 0, .int .u8 0, .int .u8 0, .int .u8 0, .int .u8 0, .int .u8 0, .int .u8 0, .int .i8 0, .int .i8 0, .int .i8 0, .int .i8 0, .int .i8 0, .int .i8 0, .int .u8 0, .int .u16 0, .bool false, .int .u8 0] := ⟨fun _ => by kernel_rfl⟩
instance : TRw Try.prog 29 18 [.int .u16 0, .int .u16 0, .int .u8 0, .int .u8 0, .int .u8 0, .int .u8 0, .int .u8 0, .int .u8 0, .int .i8 0, .int .i8 0, .int .i8 0, .int .i8 0, .int .i8 0, .int .i8 0, .int .u8 0, .int .u16 0, .bool false, .int .u8 0] := ⟨by kernel_rfl, by kernel_rfl, rfl, by decide⟩
instance : TRw Try.prog 30 1 [.slice none 0 0] := ⟨by kernel_rfl, by kernel_rfl, rfl, by decide⟩
instance : TRw Try.prog 31 1 [.nilFunc] := ⟨by kernel_rfl, by kernel_rfl, rfl, by decide⟩
instance : TRw Try.prog 32 1 [.nilFunc] := ⟨by kernel_rfl, by kernel_rfl, rfl, by decide⟩
instance : TRw Try.prog 34 1 [.nilFunc] := ⟨by kernel_rfl, by kernel_rfl, rfl, by decide⟩
instance : TRw Try.prog 35 1 [.nilFunc] := ⟨by kernel_rfl, by kernel_rfl, rfl, by decide⟩
instance : TBd Try.prog 36 (fun i => some (i * 1, 1)) [.int .i64 0, .int .i64 0, .int .i64 0, .int .i64 0, .int .i64 0, .int .i64 0] := ⟨fun _ => by kernel_rfl⟩
instance : TRw Try.prog 36 6 [.int .i64 0, .int .i64 0, .int .i64 0, .int .i64 0, .int .i64 0, .int .i64 0] := ⟨by kernel_rfl, by kernel_rfl, rfl, by decide⟩
instance : TRw Try.prog 37 1 [.nilFunc] := ⟨by kernel_rfl, by kernel_rfl, rfl, by decide⟩
instance : TRw Try.prog 38 1 [.slice none 0 0] := ⟨by kernel_rfl, by kernel_rfl, rfl, by decide⟩
instance : TRw Try.prog 39 1 [.nilFunc] := ⟨by kernel_rfl, by kernel_rfl, rfl, by decide⟩
instance : TRw Try.prog 40 1 [.nilFunc] := ⟨by kernel_rfl, by kernel_rfl, rfl, by decide⟩
instance : TRw Try.prog 41 1 [.nilFunc] := ⟨by kernel_rfl, by kernel_rfl, rfl, by decide⟩
instance : TRw Try.prog 42 1 [.nilFunc] := ⟨by kernel_rfl, by kernel_rfl, rfl, by decide⟩
instance : TRw Try.prog 43 1 [.nilFunc] := ⟨by kernel_rfl, by kernel_rfl, rfl, by decide⟩
instance : TRw Try.prog 44 1 [.nilFunc] := ⟨by kernel_rfl, by kernel_rfl, rfl, by decide⟩
instance : TBd Try.prog 45 (fun i => #[(0, 1), (1, 1)][i]?) [.int .u8 0, .int .u8 0] := ⟨fun _ => by kernel_rfl⟩
instance : TRw Try.prog 45 2 [.int .u8 0, .int .u8 0] := ⟨by kernel_rfl, by kernel_rfl, rfl, by decide⟩
instance : TBd Try.prog 46 (fun i => #[(0, 1), (1, 1)][i]?) [.int .u8 0, .int .u8 0] := ⟨fun _ => by kernel_rfl⟩
instance : TRw Try.prog 46 2 [.int .u8 0, .int .u8 0] := ⟨by kernel_rfl, by kernel_rfl, rfl, by decide⟩
instance : TRw Try.prog 47 1 [.slice none 0 0] := ⟨by kernel_rfl, by kernel_rfl, rfl, by decide⟩
instance : TBd Try.prog 48 (fun i => #[(0, 1), (1, 1), (2, 1)][i]?) [.int .u8 0, .int .u8 0, .int .u8 0] := ⟨fun _ => by kernel_rfl⟩
instance : TRw Try.prog 48 3 [.int .u8 0, .int .u8 0, .int .u8 0] := ⟨by kernel_rfl, by kernel_rfl, rfl, by decide⟩
instance : TBd Try.prog 49 (fun i => #[(0, 1), (1, 1), (2, 1)][i]?) [.int .u8 0, .int .u8 0, .int .u8 0] := ⟨fun _ => by kernel_rfl⟩
instance : TRw Try.prog 49 3 [.int .u8 0, .int .u8 0, .int .u8 0] := ⟨by kernel_rfl, by kernel_rfl, rfl, by decide⟩
instance : TBd Try.prog 50 (fun i => #[(0, 3), (3, 2)][i]?) [.int .u8 0, .int .u8 0, .int .u8 0, .int .u8 0, .int .u8 0] := ⟨fun _ => by kernel_rfl⟩
instance : TRw Try.prog 50 5 [.int .u8 0, .int .u8 0, .int .u8 0, .int .u8 0, .int .u8 0] := ⟨by kernel_rfl, by kernel_rfl, rfl, by decide⟩
instance : TBd Try.prog 51 (fun i => #[(0, 3), (3, 2)][i]?) [.int .u8 0, .int .u8 0, .int .u8 0, .int .u8 0, .int .u8 0] := ⟨fun _ => by kernel_rfl⟩
instance : TRw Try.prog 51 5 [.int .u8 0, .int .u8 0, .int .u8 0, .int .u8 0, .int .u8 0] := ⟨by kernel_rfl, by kernel_rfl, rfl, by decide⟩
instance : TBd Try.prog 52 (fun i => some (i * 5, 5)) [.int .u8 0, .int .u8 0, .int .u8 0, .int .u8 0, .int .u8 0, .int .u8 0, .int .u8 0, .int .u8 0, .int .u8 0, .int .u8 0, .int .u8 0, .int .u8 0, .int .u8 0, .int .u8 0, .int .u8 0, .int .u8 0, .int .u8 0, .int .u8 0, .int .u8 0, .int .u8 0, .int .u8 0, .int .u8 0, .int .u8 0, .int .u8 0, .int .u8 0, .int .u8 0, .int .u8 0, .int .u8 0, .int .u8 0, .int .u8 0, .int .u8 0, .int .u8 0, .int .u8 0, .int .u8 0, .int .u8 0, .int .u8 0, .int .u8 0, .int .u8 0, .int .u8 0, .int .u8 0, .int .u8 0, .int .u8 0, .int .u8 0, .int .u8 0, .int .u8 0, .int .u8 0, .int .u8 0, .int .u8 0, .int .u8 0, .int .u8 0, .int .u8 0, .int .u8 0, .int .u8 0, .int .u8 0, .int .u8 0, .int .u8 0, .int .u8 0, .int .u8 0, .int .u8 0, .int .u8 0, .int .u8 0, .int .u8 0, .int .u8 0, .int .u8 0, .int .u8 0, .int .u8 0, .int .u8 0, .int .u8 0, .int .u8 0, .int .u8 0, .int .u8 0, .int .u8 0, .int .u8 0, .int .u8 0, .int .u8 0, .int .u8 0, .int .u8 0, .int .u8 0, .int .u8 0, .int .u8 0] := ⟨fun _ => by kernel_rfl⟩
instance : TRw Try.prog 52 80 [.int .u8 0, .int .u8 0, .int .u8 0, .int .u8 0, .int .u8 0, .int .u8 0, .int .u8 0, .int .u8 0, .int .u8 0, .int .u8 0, .int .u8 0, .int .u8 0, .int .u8 0, .int .u8 0, .int .u8 0, .int .u8 0, .int .u8 0, .int .u8 0, .int .u8 0, .int .u8 0, .int .u8 0, .int .u8 0, .int .u8 0, .int .u8 0, .int .u8 0, .int .u8 0, .int .u8 0, .int .u8 0, .int .u8 0, .int .u8 0, .int .u8 0, .int .u8 0, .int .u8 0, .int .u8 0, .int .u8 0, .int .u8 0, .int .u8 0, .int .u8 0, .int .u8 0, .int .u8 0, .int .u8 0, .int .u8 0, .int .u8 0, .int .u8 0, .int .u8 0, .int .u8 0, .int .u8 0, .int .u8 0, .int .u8 0, .int .u8 0, .int .u8 0, .int .u8 0, .int .u8 0, .int .u8 0, .int .u8 0, .int .u8 0, .int .u8 0, .int .u8 0, .int .u8 0, .int .u8 0, .int .u8 0, .int .u8 0, .int .u8 0, .int .u8 0, .int .u8 0, .int .u8 0, .int .u8 0, .int .u8 0, .int .u8 0, .int .u8 0, .int .u8 0, .int .u8 0, .int .u8 0, .int .u8 0, .int .u8 0, .int .u8 0, .int .u8 0, .int .u8 0, .int .u8 0, .int .u8 0] := ⟨by kernel_rfl, by kernel_rfl, rfl, by decide⟩
instance : TBd Try.prog 53 (fun i => #[(0, 80), (80, 1)][i]?) [.int .u8 0, .int .u8 0, .int .u8 0, .int .u8 0, .int .u8 0, .int .u8 0, .int .u8 0, .int .u8 0, .int .u8 0, .int .u8 0, .int .u8 0, .int .u8 0, .int .u8 0, .int .u8 0, .int .u8 0, .int .u8 0, .int .u8 0, .int .u8 0, .int .u8 0, .int .u8 0, .int .u8 0, .int .u8 0, .int .u8 0, .int .u8 0, .int .u8 0, .int .u8 0, .int .u8 0, .int .u8 0, .int .u8 0, .int .u8 0, .int .u8 0, .int .u8 0, .int .u8 0, .int .u8 0, .int .u8 0, .int .u8 0, .int .u8 0, .int .u8 0, .int .u8 0, .int .u8 0, .int .u8 0, .int .u8 0, .int .u8 0, .int .u8 0, .int .u8 0, .int .u8 0, .int .u8 0, .int .u8 0, .int .u8 0, .int .u8 0, .int .u8 0, .int .u8 0, .int .u8 0, .int .u8 0, .int .u8 0, .int .u8 0, .int .u8 0, .int .u8 0, .int .u8 0, .int .u8 0, .int .u8 0, .int .u8 0, .int .u8 0, .int .u8 0, .int .u8 0, .int .u8 0, .int .u8 0, .int .u8 0, .int .u8 0, .int .u8 0, .int .u8 0, .int .u8 0, .int .u8 0, .int .u8 0, .int .u8 0, .int .u8 0, .int .u8 0, .int .u8 0, .int .u8 0, .int .u8 0, .int .i64 0] := ⟨fun _ => by kernel_rfl⟩
instance : TRw Try.prog 53 81 [.int .u8 0, .int .u8 0, .int .u8 0, .int .u8 0, .int .u8 0, .int .u8 0, .int .u8 0, .int .u8 0, .int .u8 0, .int .u8 0, .int .u8 0, .int .u8 0, .int .u8 0, .int .u8 0, .int .u8 0, .int .u8 0, .int .u8 0, .int .u8 0, .int .u8 0, .int .u8 0, .int .u8 0, .int .u8 0, .int .u8 0, .int .u8 0, .int .u8 0, .int .u8 0, .int .u8 0, .int .u8 0, .int .u8 0, .int .u8 0, .int .u8 0, .int .u8 0, .int .u8 0, .int .u8 0, .int .u8 0, .int .u8 0, .int .u8 0, .int .u8 0, .int .u8 0, .int .u8 0, .int .u8 0, .int .u8 0, .int .u8 0, .int .u8 0, .int .u8 0, .int .u8 0, .int .u8 0, .int .u8 0, .int .u8 0, .int .u8 0, .int .u8 0, .int .u8 0, .int .u8 0, .int .u8 0, .int .u8 0, .int .u8 0, .int .u8 0, .int .u8 0, .int .u8 0, .int .u8 0, .int .u8 0, .int .u8 0, .int .u8 0, .int .u8 0, .int .u8 0, .int .u8 0, .int .u8 0, .int .u8 0, .int .u8 0, .int .u8 0, .int .u8 0, .int .u8 0, .int .u8 0, .int .u8 0, .int .u8 0, .int .u8 0, .int .u8 0, .int .u8 0, .int .u8 0, .int .u8 0, .int .i64 0] := ⟨by kernel_rfl, by kernel_rfl, rfl, by decide⟩
instance : TBd Try.prog 54 (fun i => #[(0, 80), (80, 1)][i]?) [.int .u8 0, .int .u8 0, .int .u8 0, .int .u8 0, .int .u8 0, .int .u8 0, .int .u8 0, .int .u8 0, .int .u8 0, .int .u8 0, .int .u8 0, .int .u8 0, .int .u8 0, .int .u8 0, .int .u8 0, .int .u8 0, .int .u8 0, .int .u8 0, .int .u8 0, .int .u8 0, .int .u8 0, .int .u8 0, .int .u8 0, .int .u8 0, .int .u8 0, .int .u8 0, .int .u8 0, .int .u8 0, .int .u8 0, .int .u8 0, .int .u8 0, .int .u8 0, .int .u8 0, .int .u8 0, .int .u8 0, .int .u8 0, .int .u8 0, .int .u8 0, .int .u8 0, .int .u8 0, .int .u8 0, .int .u8 0, .int .u8 0, .int .u8 0, .int .u8 0, .int .u8 0, .int .u8 0, .int .u8 0, .int .u8 0, .int .u8 0, .int .u8 0, .int .u8 0, .int .u8 0, .int .u8 0, .int .u8 0, .int .u8 0, .int .u8 0, .int .u8 0, .int .u8 0, .int .u8 0, .int .u8 0, .int .u8 0, .int .u8 0, .int .u8 0, .int .u8 0, .int .u8 0, .int .u8 0, .int .u8 0, .int .u8 0, .int .u8 0, .int .u8 0, .int .u8 0, .int .u8 0, .int .u8 0, .int .u8 0, .int .u8 0, .int .u8 0, .int .u8 0, .int .u8 0, .int .u8 0, .int .i64 0] := ⟨fun _ => by kernel_rfl⟩
instance : TRw Try.prog 54 81 [.int .u8 0, .int .u8 0, .int .u8 0, .int .u8 0, .int .u8 0, .int .u8 0, .int .u8 0, .int .u8 0, .int .u8 0, .int .u8 0, .int .u8 0, .int .u8 0, .int .u8 0, .int .u8 0, .int .u8 0, .int .u8 0, .int .u8 0, .int .u8 0, .int .u8 0, .int .u8 0, .int .u8 0, .int .u8 0, .int .u8 0, .int .u8 0, .int .u8 0, .int .u8 0, .int .u8 0, .int .u8 0, .int .u8 0, .int .u8 0, .int .u8 0, .int .u8 0, .int .u8 0, .int .u8 0, .int .u8 0, .int .u8 0, .int .u8 0, .int .u8 0, .int .u8 0, .int .u8 0, .int .u8 0, .int .u8 0, .int .u8 0, .int .u8 0, .int .u8 0, .int .u8 0, .int .u8 0, .int .u8 0, .int .u8 0, .int .u8 0, .int .u8 0, .int .u8 0, .int .u8 0, .int .u8 0, .int .u8 0, .int .u8 0, .int .u8 0, .int .u8 0, .int .u8 0, .int .u8 0, .int .u8 0, .int .u8 0, .int .u8 0, .int .u8 0, .int .u8 0, .int .u8 0, .int .u8 0, .int .u8 0, .int .u8 0, .int .u8 0, .int .u8 0, .int .u8 0, .int .u8 0, .int .u8 0, .int .u8 0, .int .u8 0, .int .u8 0, .int .u8 0, .int .u8 0, .int .u8 0, .int .i64 0] := ⟨by kernel_rfl, by kernel_rfl, rfl, by decide⟩
instance : TRw Try.prog 55 1 [.int .i64 0] := ⟨by kernel_rfl, by kernel_rfl, rfl, by decide⟩
instance : TRw Try.prog 57 1 [.nilFunc] := ⟨by kernel_rfl, by kernel_rfl, rfl, by decide⟩
instance : TRw Try.prog 58 1 [.slice none 0 0] := ⟨by kernel_rfl, by kernel_rfl, rfl, by decide⟩
instance : TRw Try.prog 60 1 [.nilFunc] := ⟨by kernel_rfl, by kernel_rfl, rfl, by decide⟩
instance : TRw Try.prog 61 1 [.nilFunc] := ⟨by kernel_rfl, by kernel_rfl, rfl, by decide⟩
instance : TRw Try.prog 62 1 [.nilFunc] := ⟨by kernel_rfl, by kernel_rfl, rfl, by decide⟩
instance : TRw Try.prog 63 1 [.nilFunc] := ⟨by kernel_rfl, by kernel_rfl, rfl, by decide⟩
instance : TRw Try.prog 64 1 [.nilFunc] := ⟨by kernel_rfl, by kernel_rfl, rfl, by decide⟩
instance : TRw Try.prog 65 1 [.nilFunc] := ⟨by kernel_rfl, by kernel_rfl, rfl, by decide⟩
instance : TRw Try.prog 67 1 [.nilFunc] := ⟨by kernel_rfl, by kernel_rfl, rfl, by decide⟩
instance : TBd Try.prog 68 (fun i => #[(0, 1), (1, 1)][i]?) [.int .i64 0, .bool false] := ⟨fun _ => by kernel_rfl⟩
instance : TRw Try.prog 68 2 [.int .i64 0, .bool false] := ⟨by kernel_rfl, by kernel_rfl, rfl, by decide⟩
instance : TBd Try.prog 69 (fun i => #[(0, 1), (1, 1)][i]?) [.int .i64 0, .bool false] := ⟨fun _ => by kernel_rfl⟩
instance : TRw Try.prog 69 2 [.int .i64 0, .bool false] := ⟨by kernel_rfl, by kernel_rfl, rfl, by decide⟩
instance : TRw Try.prog 70 1 [.nilFunc] := ⟨by kernel_rfl, by kernel_rfl, rfl, by decide⟩
instance : TRw Try.prog 71 1 [.nilFunc] := ⟨by kernel_rfl, by kernel_rfl, rfl, by decide⟩
instance : TRw Try.prog 72 1 [.nilFunc] := ⟨by kernel_rfl, by kernel_rfl, rfl, by decide⟩
instance : TRw Try.prog 73 1 [.nilFunc] := ⟨by kernel_rfl, by kernel_rfl, rfl, by decide⟩
instance : TRw Try.prog 74 1 [.nilFunc] := ⟨by kernel_rfl, by kernel_rfl, rfl, by decide⟩
instance : TRw Try.prog 76 1 [.nilFunc] := ⟨by kernel_rfl, by kernel_rfl, rfl, by decide⟩
instance : TRw Try.prog 77 1 [.nilFunc] := ⟨by kernel_rfl, by kernel_rfl, rfl, by decide⟩
instance : TRw Try.prog 78 1 [.nilFunc] := ⟨by kernel_rfl, by kernel_rfl, rfl, by decide⟩
instance : TBd Try.prog 79 (fun i => some (i * 1, 1)) [.int .u16 0, .int .u16 0, .int .u16 0] := ⟨fun _ => by kernel_rfl⟩
instance : TRw Try.prog 79 3 [.int .u16 0, .int .u16 0, .int .u16 0] := ⟨by kernel_rfl, by kernel_rfl, rfl, by decide⟩
instance : TRw Try.prog 81 1 [.nilFunc] := ⟨by kernel_rfl, by kernel_rfl, rfl, by decide⟩
instance : TRw Try.prog 82 1 [.nilFunc] := ⟨by kernel_rfl, by kernel_rfl, rfl, by decide⟩
instance : TRw Try.prog 83 1 [.nilFunc] := ⟨by kernel_rfl, by kernel_rfl, rfl, by decide⟩
instance : TRw Try.prog 84 1 [.nilFunc] := ⟨by kernel_rfl, by kernel_rfl, rfl, by decide⟩
instance : TRw Try.prog 90 1 [.int .u32 0] := ⟨by kernel_rfl, by kernel_rfl, rfl, by decide⟩
instance : TRw Try.prog 94 1 [.pointer none] := ⟨by kernel_rfl, by kernel_rfl, rfl, by decide⟩
theorem eqt_5 : EqT Try.prog 1 5 false [.i .u8] := eqt_int (by kernel_rfl) inferInstance
theorem eqt_22 : EqT Try.prog 2 22 true [.i .u8, .i .u8, .i .u8, .i .u8, .i .u8, .i .u8] := eqt_array (n := 6) (by kernel_rfl) eqt_5 (by kernel_rfl) inferInstance
instance : TQ Try.prog 22 [.i .u8, .i .u8, .i .u8, .i .u8, .i .u8, .i .u8] := ⟨⟨_, by decide, eqt_22⟩, by kernel_rfl⟩
theorem eqt_23 : EqT Try.prog 2 23 true [.i .u8, .i .u8, .i .u8, .i .u8, .i .u8, .i .u8] := eqt_array (n := 6) (by kernel_rfl) eqt_5 (by kernel_rfl) inferInstance
instance : TQ Try.prog 23 [.i .u8, .i .u8, .i .u8, .i .u8, .i .u8, .i .u8] := ⟨⟨_, by decide, eqt_23⟩, by kernel_rfl⟩
theorem eqt_26 : EqT Try.prog 1 26 false [.i .i8] := eqt_int (by kernel_rfl) inferInstance
theorem eqt_27 : EqT Try.prog 2 27 true [.i .i8, .i .i8, .i .i8, .i .i8, .i .i8, .i .i8] := eqt_array (n := 6) (by kernel_rfl) eqt_26 (by kernel_rfl) inferInstance
instance : TQ Try.prog 27 [.i .i8, .i .i8, .i .i8, .i .i8, .i .i8, .i .i8] := ⟨⟨_, by decide, eqt_27⟩, by kernel_rfl⟩
theorem eqt_25 : EqT Try.prog 1 25 false [.i .u16] := eqt_int (by kernel_rfl) inferInstance
theorem eqt_24 : EqT Try.prog 1 24 false [.i .u16] := eqt_int (by kernel_rfl) inferInstance
theorem eqt_4 : EqT Try.prog 1 4 false [.b] := eqt_bool (by kernel_rfl) inferInstance
theorem eqt_28 : EqT Try.prog 3 28 true [.i .u16, .i .u16, .i .u8, .i .u8, .i .u8, .i .u8, .i .u8, .i .u8, .i .i8, .i .i8, .i .i8, .i .i8, .i .i8, .i .i8, .i .u8, .i .u16, .b, .i .u8] := eqt_structL (L := [(true, 0, 25), (true, 1, 25), (true, 2, 22), (true, 8, 27), (true, 14, 5), (true, 15, 24), (true, 16, 4), (true, 17, 5)]) (by kernel_rfl) (by kernel_rfl) inferInstance (.cons eqt_25 (by decide) rfl rfl (.cons eqt_25 (by decide) rfl rfl (.cons eqt_22 (by decide) rfl rfl (.cons eqt_27 (by decide) rfl rfl (.cons eqt_5 (by decide) rfl rfl (.cons eqt_24 (by decide) rfl rfl (.cons eqt_4 (by decide) rfl rfl (.cons eqt_5 (by decide) rfl rfl (.nil)))))))))
instance : TQ Try.prog 28 [.i .u16, .i .u16, .i .u8, .i .u8, .i .u8, .i .u8, .i .u8, .i .u8, .i .i8, .i .i8, .i .i8, .i .i8, .i .i8, .i .i8, .i .u8, .i .u16, .b, .i .u8] := ⟨⟨_, by decide, eqt_28⟩, by kernel_rfl⟩
theorem eqt_29 : EqT Try.prog 3 29 true [.i .u16, .i .u16, .i .u8, .i .u8, .i .u8, .i .u8, .i .u8, .i .u8, .i .i8, .i .i8, .i .i8, .i .i8, .i .i8, .i .i8, .i .u8, .i .u16, .b, .i .u8] := eqt_structL (L := [(true, 0, 25), (true, 1, 25), (true, 2, 22), (true, 8, 27), (true, 14, 5), (true, 15, 24), (true, 16, 4), (true, 17, 5)]) (by kernel_rfl) (by kernel_rfl) inferInstance (.cons eqt_25 (by decide) rfl rfl (.cons eqt_25 (by decide) rfl rfl (.cons eqt_22 (by decide) rfl rfl (.cons eqt_27 (by decide) rfl rfl (.cons eqt_5 (by decide) rfl rfl (.cons eqt_24 (by decide) rfl rfl (.cons eqt_4 (by decide) rfl rfl (.cons eqt_5 (by decide) rfl rfl (.nil)))))))))
instance : TQ Try.prog 29 [.i .u16, .i .u16, .i .u8, .i .u8, .i .u8, .i .u8, .i .u8, .i .u8, .i .i8, .i .i8, .i .i8, .i .i8, .i .i8, .i .i8, .i .u8, .i .u16, .b, .i .u8] := ⟨⟨_, by decide, eqt_29⟩, by kernel_rfl⟩
theorem eqt_3 : EqT Try.prog 1 3 false [.i .i64] := eqt_int (by kernel_rfl) inferInstance
theorem eqt_36 : EqT Try.prog 2 36 true [.i .i64, .i .i64, .i .i64, .i .i64, .i .i64, .i .i64] := eqt_array (n := 6) (by kernel_rfl) eqt_3 (by kernel_rfl) inferInstance
instance : TQ Try.prog 36 [.i .i64, .i .i64, .i .i64, .i .i64, .i .i64, .i .i64] := ⟨⟨_, by decide, eqt_36⟩, by kernel_rfl⟩
theorem eqt_45 : EqT Try.prog 2 45 true [.i .u8, .i .u8] := eqt_structL (L := [(true, 0, 5), (true, 1, 5)]) (by kernel_rfl) (by kernel_rfl) inferInstance (.cons eqt_5 (by decide) rfl rfl (.cons eqt_5 (by decide) rfl rfl (.nil)))
instance : TQ Try.prog 45 [.i .u8, .i .u8] := ⟨⟨_, by decide, eqt_45⟩, by kernel_rfl⟩
theorem eqt_46 : EqT Try.prog 2 46 true [.i .u8, .i .u8] := eqt_structL (L := [(true, 0, 5), (true, 1, 5)]) (by kernel_rfl) (by kernel_rfl) inferInstance (.cons eqt_5 (by decide) rfl rfl (.cons eqt_5 (by decide) rfl rfl (.nil)))
instance : TQ Try.prog 46 [.i .u8, .i .u8] := ⟨⟨_, by decide, eqt_46⟩, by kernel_rfl⟩
theorem eqt_48 : EqT Try.prog 2 48 true [.i .u8, .i .u8, .i .u8] := eqt_structL (L := [(true, 0, 5), (true, 1, 5), (true, 2, 5)]) (by kernel_rfl) (by kernel_rfl) inferInstance (.cons eqt_5 (by decide) rfl rfl (.cons eqt_5 (by decide) rfl rfl (.cons eqt_5 (by decide) rfl rfl (.nil))))
instance : TQ Try.prog 48 [.i .u8, .i .u8, .i .u8] := ⟨⟨_, by decide, eqt_48⟩, by kernel_rfl⟩
theorem eqt_49 : EqT Try.prog 2 49 true [.i .u8, .i .u8, .i .u8] := eqt_structL (L := [(true, 0, 5), (true, 1, 5), (true, 2, 5)]) (by kernel_rfl) (by kernel_rfl) inferInstance (.cons eqt_5 (by decide) rfl rfl (.cons eqt_5 (by decide) rfl rfl (.cons eqt_5 (by decide) rfl rfl (.nil))))
instance : TQ Try.prog 49 [.i .u8, .i .u8, .i .u8] := ⟨⟨_, by decide, eqt_49⟩, by kernel_rfl⟩
theorem eqt_50 : EqT Try.prog 3 50 true [.i .u8, .i .u8, .i .u8, .i .u8, .i .u8] := eqt_structL (L := [(true, 0, 49), (true, 3, 46)]) (by kernel_rfl) (by kernel_rfl) inferInstance (.cons eqt_49 (by decide) rfl rfl (.cons eqt_46 (by decide) rfl rfl (.nil)))
instance : TQ Try.prog 50 [.i .u8, .i .u8, .i .u8, .i .u8, .i .u8] := ⟨⟨_, by decide, eqt_50⟩, by kernel_rfl⟩
theorem eqt_51 : EqT Try.prog 3 51 true [.i .u8, .i .u8, .i .u8, .i .u8, .i .u8] := eqt_structL (L := [(true, 0, 49), (true, 3, 46)]) (by kernel_rfl) (by kernel_rfl) inferInstance (.cons eqt_49 (by decide) rfl rfl (.cons eqt_46 (by decide) rfl rfl (.nil)))
instance : TQ Try.prog 51 [.i .u8, .i .u8, .i .u8, .i .u8, .i .u8] := ⟨⟨_, by decide, eqt_51⟩, by kernel_rfl⟩
theorem eqt_52 : EqT Try.prog 4 52 true [.i .u8, .i .u8, .i .u8, .i .u8, .i .u8, .i .u8, .i .u8, .i .u8, .i .u8, .i .u8, .i .u8, .i .u8, .i .u8, .i .u8, .i .u8, .i .u8, .i .u8, .i .u8, .i .u8, .i .u8, .i .u8, .i .u8, .i .u8, .i .u8, .i .u8, .i .u8, .i .u8, .i .u8, .i .u8, .i .u8, .i .u8, .i .u8, .i .u8, .i .u8, .i .u8, .i .u8, .i .u8, .i .u8, .i .u8, .i .u8, .i .u8, .i .u8, .i .u8, .i .u8, .i .u8, .i .u8, .i .u8, .i .u8, .i .u8, .i .u8, .i .u8, .i .u8, .i .u8, .i .u8, .i .u8, .i .u8, .i .u8, .i .u8, .i .u8, .i .u8, .i .u8, .i .u8, .i .u8, .i .u8, .i .u8, .i .u8, .i .u8, .i .u8, .i .u8, .i .u8, .i .u8, .i .u8, .i .u8, .i .u8, .i .u8, .i .u8, .i .u8, .i .u8, .i .u8, .i .u8] := eqt_array (n := 16) (by kernel_rfl) eqt_51 (by kernel_rfl) inferInstance
instance : TQ Try.prog 52 [.i .u8, .i .u8, .i .u8, .i .u8, .i .u8, .i .u8, .i .u8, .i .u8, .i .u8, .i .u8, .i .u8, .i .u8, .i .u8, .i .u8, .i .u8, .i .u8, .i .u8, .i .u8, .i .u8, .i .u8, .i .u8, .i .u8, .i .u8, .i .u8, .i .u8, .i .u8, .i .u8, .i .u8, .i .u8, .i .u8, .i .u8, .i .u8, .i .u8, .i .u8, .i .u8, .i .u8, .i .u8, .i .u8, .i .u8, .i .u8, .i .u8, .i .u8, .i .u8, .i .u8, .i .u8, .i .u8, .i .u8, .i .u8, .i .u8, .i .u8, .i .u8, .i .u8, .i .u8, .i .u8, .i .u8, .i .u8, .i .u8, .i .u8, .i .u8, .i .u8, .i .u8, .i .u8, .i .u8, .i .u8, .i .u8, .i .u8, .i .u8, .i .u8, .i .u8, .i .u8, .i .u8, .i .u8, .i .u8, .i .u8, .i .u8, .i .u8, .i .u8, .i .u8, .i .u8, .i .u8] := ⟨⟨_, by decide, eqt_52⟩, by kernel_rfl⟩
theorem eqt_53 : EqT Try.prog 5 53 true [.i .u8, .i .u8, .i .u8, .i .u8, .i .u8, .i .u8, .i .u8, .i .u8, .i .u8, .i .u8, .i .u8, .i .u8, .i .u8, .i .u8, .i .u8, .i .u8, .i .u8, .i .u8, .i .u8, .i .u8, .i .u8, .i .u8, .i .u8, .i .u8, .i .u8, .i .u8, .i .u8, .i .u8, .i .u8, .i .u8, .i .u8, .i .u8, .i .u8, .i .u8, .i .u8, .i .u8, .i .u8, .i .u8, .i .u8, .i .u8, .i .u8, .i .u8, .i .u8, .i .u8, .i .u8, .i .u8, .i .u8, .i .u8, .i .u8, .i .u8, .i .u8, .i .u8, .i .u8, .i .u8, .i .u8, .i .u8, .i .u8, .i .u8, .i .u8, .i .u8, .i .u8, .i .u8, .i .u8, .i .u8, .i .u8, .i .u8, .i .u8, .i .u8, .i .u8, .i .u8, .i .u8, .i .u8, .i .u8, .i .u8, .i .u8, .i .u8, .i .u8, .i .u8, .i .u8, .i .u8, .i .i64] := eqt_structL (L := [(true, 0, 52), (true, 80, 3)]) (by kernel_rfl) (by kernel_rfl) inferInstance (.cons eqt_52 (by decide) rfl rfl (.cons eqt_3 (by decide) rfl rfl (.nil)))
instance : TQ Try.prog 53 [.i .u8, .i .u8, .i .u8, .i .u8, .i .u8, .i .u8, .i .u8, .i .u8, .i .u8, .i .u8, .i .u8, .i .u8, .i .u8, .i .u8, .i .u8, .i .u8, .i .u8, .i .u8, .i .u8, .i .u8, .i .u8, .i .u8, .i .u8, .i .u8, .i .u8, .i .u8, .i .u8, .i .u8, .i .u8, .i .u8, .i .u8, .i .u8, .i .u8, .i .u8, .i .u8, .i .u8, .i .u8, .i .u8, .i .u8, .i .u8, .i .u8, .i .u8, .i .u8, .i .u8, .i .u8, .i .u8, .i .u8, .i .u8, .i .u8, .i .u8, .i .u8, .i .u8, .i .u8, .i .u8, .i .u8, .i .u8, .i .u8, .i .u8, .i .u8, .i .u8, .i .u8, .i .u8, .i .u8, .i .u8, .i .u8, .i .u8, .i .u8, .i .u8, .i .u8, .i .u8, .i .u8, .i .u8, .i .u8, .i .u8, .i .u8, .i .u8, .i .u8, .i .u8, .i .u8, .i .u8, .i .i64] := ⟨⟨_, by decide, eqt_53⟩, by kernel_rfl⟩
theorem eqt_54 : EqT Try.prog 5 54 true [.i .u8, .i .u8, .i .u8, .i .u8, .i .u8, .i .u8, .i .u8, .i .u8, .i .u8, .i .u8, .i .u8, .i .u8, .i .u8, .i .u8, .i .u8, .i .u8, .i .u8, .i .u8, .i .u8, .i .u8, .i .u8, .i .u8, .i .u8, .i .u8, .i .u8, .i .u8, .i .u8, .i .u8, .i .u8, .i .u8, .i .u8, .i .u8, .i .u8, .i .u8, .i .u8, .i .u8, .i .u8, .i .u8, .i .u8, .i .u8, .i .u8, .i .u8, .i .u8, .i .u8, .i .u8, .i .u8, .i .u8, .i .u8, .i .u8, .i .u8, .i .u8, .i .u8, .i .u8, .i .u8, .i .u8, .i .u8, .i .u8, .i .u8, .i .u8, .i .u8, .i .u8, .i .u8, .i .u8, .i .u8, .i .u8, .i .u8, .i .u8, .i .u8, .i .u8, .i .u8, .i .u8, .i .u8, .i .u8, .i .u8, .i .u8, .i .u8, .i .u8, .i .u8, .i .u8, .i .u8, .i .i64] := eqt_structL (L := [(true, 0, 52), (true, 80, 3)]) (by kernel_rfl) (by kernel_rfl) inferInstance (.cons eqt_52 (by decide) rfl rfl (.cons eqt_3 (by decide) rfl rfl (.nil)))
instance : TQ Try.prog 54 [.i .u8, .i .u8, .i .u8, .i .u8, .i .u8, .i .u8, .i .u8, .i .u8, .i .u8, .i .u8, .i .u8, .i .u8, .i .u8, .i .u8, .i .u8, .i .u8, .i .u8, .i .u8, .i .u8, .i .u8, .i .u8, .i .u8, .i .u8, .i .u8, .i .u8, .i .u8, .i .u8, .i .u8, .i .u8, .i .u8, .i .u8, .i .u8, .i .u8, .i .u8, .i .u8, .i .u8, .i .u8, .i .u8, .i .u8, .i .u8, .i .u8, .i .u8, .i .u8, .i .u8, .i .u8, .i .u8, .i .u8, .i .u8, .i .u8, .i .u8, .i .u8, .i .u8, .i .u8, .i .u8, .i .u8, .i .u8, .i .u8, .i .u8, .i .u8, .i .u8, .i .u8, .i .u8, .i .u8, .i .u8, .i .u8, .i .u8, .i .u8, .i .u8, .i .u8, .i .u8, .i .u8, .i .u8, .i .u8, .i .u8, .i .u8, .i .u8, .i .u8, .i .u8, .i .u8, .i .u8, .i .i64] := ⟨⟨_, by decide, eqt_54⟩, by kernel_rfl⟩
theorem eqt_68 : EqT Try.prog 2 68 true [.i .i64, .b] := eqt_structL (L := [(true, 0, 3), (true, 1, 4)]) (by kernel_rfl) (by kernel_rfl) inferInstance (.cons eqt_3 (by decide) rfl rfl (.cons eqt_4 (by decide) rfl rfl (.nil)))
instance : TQ Try.prog 68 [.i .i64, .b] := ⟨⟨_, by decide, eqt_68⟩, by kernel_rfl⟩
theorem eqt_69 : EqT Try.prog 2 69 true [.i .i64, .b] := eqt_structL (L := [(true, 0, 3), (true, 1, 4)]) (by kernel_rfl) (by kernel_rfl) inferInstance (.cons eqt_3 (by decide) rfl rfl (.cons eqt_4 (by decide) rfl rfl (.nil)))
instance : TQ Try.prog 69 [.i .i64, .b] := ⟨⟨_, by decide, eqt_69⟩, by kernel_rfl⟩
theorem eqt_79 : EqT Try.prog 2 79 true [.i .u16, .i .u16, .i .u16] := eqt_array (n := 3) (by kernel_rfl) eqt_25 (by kernel_rfl) inferInstance
instance : TQ Try.prog 79 [.i .u16, .i .u16, .i .u16] := ⟨⟨_, by decide, eqt_79⟩, by kernel_rfl⟩
instance : CF Try.prog 3 := ⟨fun _ _ => by kernel_rfl⟩
instance : CF Try.prog 4 := ⟨fun _ _ => by kernel_rfl⟩
instance : CF Try.prog 5 := ⟨fun _ _ => by kernel_rfl⟩
instance : CF Try.prog 6 := ⟨fun _ _ => by kernel_rfl⟩
instance : CF Try.prog 7 := ⟨fun _ _ => by kernel_rfl⟩
instance : CF Try.prog 8 := ⟨fun _ _ => by kernel_rfl⟩
instance : CF Try.prog 9 := ⟨fun _ _ => by kernel_rfl⟩
instance : CF Try.prog 10 := ⟨fun _ _ => by kernel_rfl⟩
instance : CF Try.prog 11 := ⟨fun _ _ => by kernel_rfl⟩
instance : CF Try.prog 12 := ⟨fun _ _ => by kernel_rfl⟩
instance : CF Try.prog 13 := ⟨fun _ _ => by kernel_rfl⟩
instance : CF Try.prog 14 := ⟨fun _ _ => by kernel_rfl⟩
instance : CF Try.prog 15 := ⟨fun _ _ => by kernel_rfl⟩
instance : CF Try.prog 16 := ⟨fun _ _ => by kernel_rfl⟩
instance : CF Try.prog 17 := ⟨fun _ _ => by kernel_rfl⟩
instance : CF Try.prog 18 := ⟨fun _ _ => by kernel_rfl⟩
instance : CF Try.prog 19 := ⟨fun _ _ => by kernel_rfl⟩
instance : CF Try.prog 20 := ⟨fun _ _ => by kernel_rfl⟩
instance : CF Try.prog 21 := ⟨fun _ _ => by kernel_rfl⟩
instance : CF Try.prog 22 := ⟨fun _ _ => by kernel_rfl⟩
instance : CF Try.prog 23 := ⟨fun _ _ => by kernel_rfl⟩
instance : CF Try.prog 24 := ⟨fun _ _ => by kernel_rfl⟩
instance : CF Try.prog 25 := ⟨fun _ _ => by kernel_rfl⟩
instance : CF Try.prog 26 := ⟨fun _ _ => by kernel_rfl⟩
instance : CF Try.prog 27 := ⟨fun _ _ => by kernel_rfl⟩
instance : CF Try.prog 28 := ⟨fun _ _ => by kernel_rfl⟩
instance : CF Try.prog 29 := ⟨fun _ _ => by kernel_rfl⟩
instance : CF Try.prog 30 := ⟨fun _ _ => by kernel_rfl⟩
instance : CF Try.prog 31 := ⟨fun _ _ => by kernel_rfl⟩
instance : CF Try.prog 32 := ⟨fun _ _ => by kernel_rfl⟩
instance : CF Try.prog 33 := ⟨fun _ _ => by kernel_rfl⟩
instance : CF Try.prog 34 := ⟨fun _ _ => by kernel_rfl⟩
instance : CF Try.prog 35 := ⟨fun _ _ => by kernel_rfl⟩
instance : CF Try.prog 36 := ⟨fun _ _ => by kernel_rfl⟩
instance : CF Try.prog 37 := ⟨fun _ _ => by kernel_rfl⟩
instance : CF Try.prog 38 := ⟨fun _ _ => by kernel_rfl⟩
instance : CF Try.prog 39 := ⟨fun _ _ => by kernel_rfl⟩
instance : CF Try.prog 40 := ⟨fun _ _ => by kernel_rfl⟩
instance : CF Try.prog 41 := ⟨fun _ _ => by kernel_rfl⟩
theorem followsMixed : Try.prog.follows .mixedOrders = true := by kernel_rfl
end Go.Proofs.Ytihboegopigkmaa
