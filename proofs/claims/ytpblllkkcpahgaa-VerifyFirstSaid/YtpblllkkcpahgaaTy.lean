/- Facts on the types and functions of the translation, as instances. -/
import Derived.Test.YtpblllkkcpahgaaProg
import Derived.Test.YtpblllkkcpahgaaSq
namespace Go.Proofs.Ytpblllkkcpahgaa
set_option maxRecDepth 100000
instance : TL Try.prog 1 false 1 := ⟨by kernel_rfl, by kernel_rfl⟩
instance : TB Try.prog 1 8 := ⟨by kernel_rfl⟩
instance : TL Try.prog 2 false 1 := ⟨by kernel_rfl, by kernel_rfl⟩
instance : TZ Try.prog 2 [.int .i64 0] := ⟨by kernel_rfl⟩
instance : TB Try.prog 2 8 := ⟨by kernel_rfl⟩
instance : TI Try.prog 2 .i64 := ⟨by kernel_rfl⟩
instance : TL Try.prog 3 false 1 := ⟨by kernel_rfl, by kernel_rfl⟩
instance : TZ Try.prog 3 [.int .i64 0] := ⟨by kernel_rfl⟩
instance : TB Try.prog 3 8 := ⟨by kernel_rfl⟩
instance : TI Try.prog 3 .i64 := ⟨by kernel_rfl⟩
instance : TL Try.prog 4 false 1 := ⟨by kernel_rfl, by kernel_rfl⟩
instance : TZ Try.prog 4 [.bool false] := ⟨by kernel_rfl⟩
instance : TB Try.prog 4 1 := ⟨by kernel_rfl⟩
instance : TO Try.prog 4 := ⟨by kernel_rfl⟩
instance : TL Try.prog 5 false 1 := ⟨by kernel_rfl, by kernel_rfl⟩
instance : TZ Try.prog 5 [.int .u8 0] := ⟨by kernel_rfl⟩
instance : TB Try.prog 5 1 := ⟨by kernel_rfl⟩
instance : TI Try.prog 5 .u8 := ⟨by kernel_rfl⟩
instance : TL Try.prog 9 false 1 := ⟨by kernel_rfl, by kernel_rfl⟩
instance : TZ Try.prog 9 [.string ⟨#[]⟩] := ⟨by kernel_rfl⟩
instance : TB Try.prog 9 16 := ⟨by kernel_rfl⟩
instance : TL Try.prog 21 false 1 := ⟨by kernel_rfl, by kernel_rfl⟩
instance : TZ Try.prog 21 [.int .i32 0] := ⟨by kernel_rfl⟩
instance : TB Try.prog 21 4 := ⟨by kernel_rfl⟩
instance : TI Try.prog 21 .i32 := ⟨by kernel_rfl⟩
instance : TL Try.prog 22 false 1 := ⟨by kernel_rfl, by kernel_rfl⟩
instance : TZ Try.prog 22 [.slice none 0 0] := ⟨by kernel_rfl⟩
instance : TB Try.prog 22 24 := ⟨by kernel_rfl⟩
instance : TS Try.prog 22 5 := ⟨by kernel_rfl⟩
instance : TL Try.prog 23 false 1 := ⟨by kernel_rfl, by kernel_rfl⟩
instance : TB Try.prog 23 8 := ⟨by kernel_rfl⟩
instance : TL Try.prog 24 false 1 := ⟨by kernel_rfl, by kernel_rfl⟩
instance : TB Try.prog 24 8 := ⟨by kernel_rfl⟩
instance : TL Try.prog 25 false 1 := ⟨by kernel_rfl, by kernel_rfl⟩
instance : TB Try.prog 25 8 := ⟨by kernel_rfl⟩
instance : TL Try.prog 26 false 1 := ⟨by kernel_rfl, by kernel_rfl⟩
instance : TZ Try.prog 26 [.int .u16 0] := ⟨by kernel_rfl⟩
instance : TB Try.prog 26 2 := ⟨by kernel_rfl⟩
instance : TI Try.prog 26 .u16 := ⟨by kernel_rfl⟩
instance : TL Try.prog 27 true 5 := ⟨by kernel_rfl, by kernel_rfl⟩
instance : TZ Try.prog 27 [.int .u8 0, .int .u8 0, .int .u8 0, .int .u16 0, .slice none 0 0] := ⟨by kernel_rfl⟩
instance : TB Try.prog 27 32 := ⟨by kernel_rfl⟩
instance : TF Try.prog 27 0 0 5 := ⟨by kernel_rfl⟩
instance : TF Try.prog 27 1 1 5 := ⟨by kernel_rfl⟩
instance : TF Try.prog 27 2 2 5 := ⟨by kernel_rfl⟩
instance : TF Try.prog 27 3 3 26 := ⟨by kernel_rfl⟩
instance : TF Try.prog 27 4 4 22 := ⟨by kernel_rfl⟩
instance : TL Try.prog 28 true 5 := ⟨by kernel_rfl, by kernel_rfl⟩
instance : TZ Try.prog 28 [.int .u8 0, .int .u8 0, .int .u8 0, .int .u16 0, .slice none 0 0] := ⟨by kernel_rfl⟩
instance : TB Try.prog 28 32 := ⟨by kernel_rfl⟩
instance : TF Try.prog 28 0 0 5 := ⟨by kernel_rfl⟩
instance : TF Try.prog 28 1 1 5 := ⟨by kernel_rfl⟩
instance : TF Try.prog 28 2 2 5 := ⟨by kernel_rfl⟩
instance : TF Try.prog 28 3 3 26 := ⟨by kernel_rfl⟩
instance : TF Try.prog 28 4 4 22 := ⟨by kernel_rfl⟩
instance : TL Try.prog 29 false 1 := ⟨by kernel_rfl, by kernel_rfl⟩
instance : TZ Try.prog 29 [.int .i64 0] := ⟨by kernel_rfl⟩
instance : TB Try.prog 29 8 := ⟨by kernel_rfl⟩
instance : TI Try.prog 29 .i64 := ⟨by kernel_rfl⟩
instance : TL Try.prog 31 false 1 := ⟨by kernel_rfl, by kernel_rfl⟩
instance : TB Try.prog 31 8 := ⟨by kernel_rfl⟩
instance : TL Try.prog 32 false 1 := ⟨by kernel_rfl, by kernel_rfl⟩
instance : TZ Try.prog 32 [.int .u32 0] := ⟨by kernel_rfl⟩
instance : TB Try.prog 32 4 := ⟨by kernel_rfl⟩
instance : TI Try.prog 32 .u32 := ⟨by kernel_rfl⟩
instance : TL Try.prog 33 true 5 := ⟨by kernel_rfl, by kernel_rfl⟩
instance : TZ Try.prog 33 [.int .u8 0, .int .u8 0, .int .u16 0, .int .u32 0, .slice none 0 0] := ⟨by kernel_rfl⟩
instance : TB Try.prog 33 32 := ⟨by kernel_rfl⟩
instance : TF Try.prog 33 0 0 5 := ⟨by kernel_rfl⟩
instance : TF Try.prog 33 1 1 5 := ⟨by kernel_rfl⟩
instance : TF Try.prog 33 2 2 26 := ⟨by kernel_rfl⟩
instance : TF Try.prog 33 3 3 32 := ⟨by kernel_rfl⟩
instance : TF Try.prog 33 4 4 22 := ⟨by kernel_rfl⟩
instance : TL Try.prog 34 true 5 := ⟨by kernel_rfl, by kernel_rfl⟩
instance : TZ Try.prog 34 [.int .u8 0, .int .u8 0, .int .u16 0, .int .u32 0, .slice none 0 0] := ⟨by kernel_rfl⟩
instance : TB Try.prog 34 32 := ⟨by kernel_rfl⟩
instance : TF Try.prog 34 0 0 5 := ⟨by kernel_rfl⟩
instance : TF Try.prog 34 1 1 5 := ⟨by kernel_rfl⟩
instance : TF Try.prog 34 2 2 26 := ⟨by kernel_rfl⟩
instance : TF Try.prog 34 3 3 32 := ⟨by kernel_rfl⟩
instance : TF Try.prog 34 4 4 22 := ⟨by kernel_rfl⟩
instance : TL Try.prog 36 false 1 := ⟨by kernel_rfl, by kernel_rfl⟩
instance : TB Try.prog 36 8 := ⟨by kernel_rfl⟩
instance : TL Try.prog 37 false 1 := ⟨by kernel_rfl, by kernel_rfl⟩
instance : TB Try.prog 37 8 := ⟨by kernel_rfl⟩
instance : TL Try.prog 38 false 1 := ⟨by kernel_rfl, by kernel_rfl⟩
instance : TZ Try.prog 38 [.slice none 0 0] := ⟨by kernel_rfl⟩
instance : TB Try.prog 38 24 := ⟨by kernel_rfl⟩
instance : TS Try.prog 38 3 := ⟨by kernel_rfl⟩
instance : TL Try.prog 39 false 1 := ⟨by kernel_rfl, by kernel_rfl⟩
instance : TZ Try.prog 39 [.slice none 0 0] := ⟨by kernel_rfl⟩
instance : TB Try.prog 39 24 := ⟨by kernel_rfl⟩
instance : TS Try.prog 39 32 := ⟨by kernel_rfl⟩
instance : TL Try.prog 40 false 1 := ⟨by kernel_rfl, by kernel_rfl⟩
instance : TZ Try.prog 40 [.int .u64 0] := ⟨by kernel_rfl⟩
instance : TB Try.prog 40 8 := ⟨by kernel_rfl⟩
instance : TI Try.prog 40 .u64 := ⟨by kernel_rfl⟩
instance : TL Try.prog 41 false 1 := ⟨by kernel_rfl, by kernel_rfl⟩
instance : TB Try.prog 41 8 := ⟨by kernel_rfl⟩
instance : TL Try.prog 42 false 1 := ⟨by kernel_rfl, by kernel_rfl⟩
instance : TB Try.prog 42 8 := ⟨by kernel_rfl⟩
instance : TL Try.prog 44 false 1 := ⟨by kernel_rfl, by kernel_rfl⟩
instance : TB Try.prog 44 8 := ⟨by kernel_rfl⟩
instance : TL Try.prog 45 false 1 := ⟨by kernel_rfl, by kernel_rfl⟩
instance : TB Try.prog 45 8 := ⟨by kernel_rfl⟩
instance : TL Try.prog 46 false 1 := ⟨by kernel_rfl, by kernel_rfl⟩
instance : TB Try.prog 46 8 := ⟨by kernel_rfl⟩
instance : TL Try.prog 47 true 4 := ⟨by kernel_rfl, by kernel_rfl⟩
instance : TZ Try.prog 47 [.bool false, .int .u16 0, .int .u16 0, .slice none 0 0] := ⟨by kernel_rfl⟩
instance : TB Try.prog 47 32 := ⟨by kernel_rfl⟩
instance : TF Try.prog 47 0 0 4 := ⟨by kernel_rfl⟩
instance : TF Try.prog 47 1 1 26 := ⟨by kernel_rfl⟩
instance : TF Try.prog 47 2 2 26 := ⟨by kernel_rfl⟩
instance : TF Try.prog 47 3 3 22 := ⟨by kernel_rfl⟩
instance : TL Try.prog 48 true 4 := ⟨by kernel_rfl, by kernel_rfl⟩
instance : TZ Try.prog 48 [.bool false, .int .u16 0, .int .u16 0, .slice none 0 0] := ⟨by kernel_rfl⟩
instance : TB Try.prog 48 32 := ⟨by kernel_rfl⟩
instance : TF Try.prog 48 0 0 4 := ⟨by kernel_rfl⟩
instance : TF Try.prog 48 1 1 26 := ⟨by kernel_rfl⟩
instance : TF Try.prog 48 2 2 26 := ⟨by kernel_rfl⟩
instance : TF Try.prog 48 3 3 22 := ⟨by kernel_rfl⟩
instance : TL Try.prog 49 false 1 := ⟨by kernel_rfl, by kernel_rfl⟩
instance : TB Try.prog 49 8 := ⟨by kernel_rfl⟩
instance : TL Try.prog 50 false 1 := ⟨by kernel_rfl, by kernel_rfl⟩
instance : TB Try.prog 50 8 := ⟨by kernel_rfl⟩
instance : TL Try.prog 51 false 1 := ⟨by kernel_rfl, by kernel_rfl⟩
instance : TB Try.prog 51 8 := ⟨by kernel_rfl⟩
instance : TL Try.prog 52 false 1 := ⟨by kernel_rfl, by kernel_rfl⟩
instance : TB Try.prog 52 8 := ⟨by kernel_rfl⟩
instance : TL Try.prog 53 true 4 := ⟨by kernel_rfl, by kernel_rfl⟩
instance : TZ Try.prog 53 [.bool false, .int .u16 0, .int .u16 0, .slice none 0 0] := ⟨by kernel_rfl⟩
instance : TB Try.prog 53 32 := ⟨by kernel_rfl⟩
instance : TF Try.prog 53 0 0 4 := ⟨by kernel_rfl⟩
instance : TF Try.prog 53 1 1 26 := ⟨by kernel_rfl⟩
instance : TF Try.prog 53 2 2 26 := ⟨by kernel_rfl⟩
instance : TF Try.prog 53 3 3 22 := ⟨by kernel_rfl⟩
instance : TL Try.prog 54 false 1 := ⟨by kernel_rfl, by kernel_rfl⟩
instance : TB Try.prog 54 8 := ⟨by kernel_rfl⟩
instance : TL Try.prog 55 false 1 := ⟨by kernel_rfl, by kernel_rfl⟩
instance : TB Try.prog 55 8 := ⟨by kernel_rfl⟩
instance : TL Try.prog 56 false 1 := ⟨by kernel_rfl, by kernel_rfl⟩
instance : TZ Try.prog 56 [.slice none 0 0] := ⟨by kernel_rfl⟩
instance : TB Try.prog 56 24 := ⟨by kernel_rfl⟩
instance : TS Try.prog 56 48 := ⟨by kernel_rfl⟩
instance : TL Try.prog 57 false 1 := ⟨by kernel_rfl, by kernel_rfl⟩
instance : TZ Try.prog 57 [.slice none 0 0] := ⟨by kernel_rfl⟩
instance : TB Try.prog 57 24 := ⟨by kernel_rfl⟩
instance : TS Try.prog 57 22 := ⟨by kernel_rfl⟩
instance : TL Try.prog 59 false 1 := ⟨by kernel_rfl, by kernel_rfl⟩
instance : TB Try.prog 59 8 := ⟨by kernel_rfl⟩
instance : TL Try.prog 61 false 1 := ⟨by kernel_rfl, by kernel_rfl⟩
instance : TB Try.prog 61 8 := ⟨by kernel_rfl⟩
instance : TL Try.prog 62 false 1 := ⟨by kernel_rfl, by kernel_rfl⟩
instance : TB Try.prog 62 8 := ⟨by kernel_rfl⟩
instance : TL Try.prog 63 false 1 := ⟨by kernel_rfl, by kernel_rfl⟩
instance : TB Try.prog 63 8 := ⟨by kernel_rfl⟩
instance : TL Try.prog 64 false 1 := ⟨by kernel_rfl, by kernel_rfl⟩
instance : TB Try.prog 64 8 := ⟨by kernel_rfl⟩
instance : TL Try.prog 65 false 1 := ⟨by kernel_rfl, by kernel_rfl⟩
instance : TB Try.prog 65 8 := ⟨by kernel_rfl⟩
instance : TL Try.prog 66 false 1 := ⟨by kernel_rfl, by kernel_rfl⟩
instance : TB Try.prog 66 8 := ⟨by kernel_rfl⟩
instance : TL Try.prog 68 false 1 := ⟨by kernel_rfl, by kernel_rfl⟩
instance : TB Try.prog 68 8 := ⟨by kernel_rfl⟩
instance : TL Try.prog 70 false 1 := ⟨by kernel_rfl, by kernel_rfl⟩
instance : TB Try.prog 70 8 := ⟨by kernel_rfl⟩
instance : TL Try.prog 71 false 1 := ⟨by kernel_rfl, by kernel_rfl⟩
instance : TB Try.prog 71 8 := ⟨by kernel_rfl⟩
instance : TL Try.prog 72 false 1 := ⟨by kernel_rfl, by kernel_rfl⟩
instance : TB Try.prog 72 8 := ⟨by kernel_rfl⟩
instance : TL Try.prog 74 false 1 := ⟨by kernel_rfl, by kernel_rfl⟩
instance : TB Try.prog 74 8 := ⟨by kernel_rfl⟩
instance : TL Try.prog 75 true 5 := ⟨by kernel_rfl, by kernel_rfl⟩
instance : TZ Try.prog 75 [.int .u8 0, .int .u8 0, .int .u8 0, .int .u16 0, .slice none 0 0] := ⟨by kernel_rfl⟩
instance : TB Try.prog 75 32 := ⟨by kernel_rfl⟩
instance : TF Try.prog 75 0 0 5 := ⟨by kernel_rfl⟩
instance : TF Try.prog 75 1 1 5 := ⟨by kernel_rfl⟩
instance : TF Try.prog 75 2 2 5 := ⟨by kernel_rfl⟩
instance : TF Try.prog 75 3 3 26 := ⟨by kernel_rfl⟩
instance : TF Try.prog 75 4 4 22 := ⟨by kernel_rfl⟩
instance : TL Try.prog 76 false 1 := ⟨by kernel_rfl, by kernel_rfl⟩
instance : TB Try.prog 76 8 := ⟨by kernel_rfl⟩
instance : TL Try.prog 78 false 1 := ⟨by kernel_rfl, by kernel_rfl⟩
instance : TB Try.prog 78 8 := ⟨by kernel_rfl⟩
instance : TL Try.prog 79 false 1 := ⟨by kernel_rfl, by kernel_rfl⟩
instance : TB Try.prog 79 8 := ⟨by kernel_rfl⟩
instance : TL Try.prog 80 false 1 := ⟨by kernel_rfl, by kernel_rfl⟩
instance : TB Try.prog 80 8 := ⟨by kernel_rfl⟩
instance : TL Try.prog 81 false 1 := ⟨by kernel_rfl, by kernel_rfl⟩
instance : TB Try.prog 81 8 := ⟨by kernel_rfl⟩
instance : TL Try.prog 82 false 1 := ⟨by kernel_rfl, by kernel_rfl⟩
instance : TB Try.prog 82 8 := ⟨by kernel_rfl⟩
instance : TL Try.prog 83 true 5 := ⟨by kernel_rfl, by kernel_rfl⟩
instance : TZ Try.prog 83 [.int .u8 0, .int .u8 0, .int .u16 0, .int .u32 0, .slice none 0 0] := ⟨by kernel_rfl⟩
instance : TB Try.prog 83 32 := ⟨by kernel_rfl⟩
instance : TF Try.prog 83 0 0 5 := ⟨by kernel_rfl⟩
instance : TF Try.prog 83 1 1 5 := ⟨by kernel_rfl⟩
instance : TF Try.prog 83 2 2 26 := ⟨by kernel_rfl⟩
instance : TF Try.prog 83 3 3 32 := ⟨by kernel_rfl⟩
instance : TF Try.prog 83 4 4 22 := ⟨by kernel_rfl⟩
instance : TL Try.prog 85 false 1 := ⟨by kernel_rfl, by kernel_rfl⟩
instance : TB Try.prog 85 8 := ⟨by kernel_rfl⟩
instance : TL Try.prog 86 false 1 := ⟨by kernel_rfl, by kernel_rfl⟩
instance : TB Try.prog 86 8 := ⟨by kernel_rfl⟩
instance : TL Try.prog 87 false 1 := ⟨by kernel_rfl, by kernel_rfl⟩
instance : TB Try.prog 87 8 := ⟨by kernel_rfl⟩
instance : TL Try.prog 88 false 1 := ⟨by kernel_rfl, by kernel_rfl⟩
instance : TB Try.prog 88 8 := ⟨by kernel_rfl⟩
instance : TL Try.prog 89 false 1 := ⟨by kernel_rfl, by kernel_rfl⟩
instance : TZ Try.prog 89 [.slice none 0 0] := ⟨by kernel_rfl⟩
instance : TB Try.prog 89 24 := ⟨by kernel_rfl⟩
instance : TS Try.prog 89 110 := ⟨by kernel_rfl⟩
instance : TL Try.prog 90 false 1 := ⟨by kernel_rfl, by kernel_rfl⟩
instance : TZ Try.prog 90 [.map none] := ⟨by kernel_rfl⟩
instance : TB Try.prog 90 8 := ⟨by kernel_rfl⟩
instance : TL Try.prog 91 false 1 := ⟨by kernel_rfl, by kernel_rfl⟩
instance : TZ Try.prog 91 [.map none] := ⟨by kernel_rfl⟩
instance : TB Try.prog 91 8 := ⟨by kernel_rfl⟩
instance : TL Try.prog 93 false 1 := ⟨by kernel_rfl, by kernel_rfl⟩
instance : TB Try.prog 93 8 := ⟨by kernel_rfl⟩
instance : TL Try.prog 94 true 7 := ⟨by kernel_rfl, by kernel_rfl⟩
instance : TZ Try.prog 94 [.int .u8 0, .int .u32 0, .int .u8 0, .int .u8 0, .int .u8 0, .int .u16 0, .slice none 0 0] := ⟨by kernel_rfl⟩
instance : TB Try.prog 94 40 := ⟨by kernel_rfl⟩
instance : TF Try.prog 94 0 0 5 := ⟨by kernel_rfl⟩
instance : TF Try.prog 94 1 1 32 := ⟨by kernel_rfl⟩
instance : TF Try.prog 94 2 2 28 := ⟨by kernel_rfl⟩
instance : TL Try.prog 95 true 7 := ⟨by kernel_rfl, by kernel_rfl⟩
instance : TZ Try.prog 95 [.int .u8 0, .int .u32 0, .int .u8 0, .int .u8 0, .int .u8 0, .int .u16 0, .slice none 0 0] := ⟨by kernel_rfl⟩
instance : TB Try.prog 95 40 := ⟨by kernel_rfl⟩
instance : TF Try.prog 95 0 0 5 := ⟨by kernel_rfl⟩
instance : TF Try.prog 95 1 1 32 := ⟨by kernel_rfl⟩
instance : TF Try.prog 95 2 2 28 := ⟨by kernel_rfl⟩
instance : TL Try.prog 96 false 1 := ⟨by kernel_rfl, by kernel_rfl⟩
instance : TB Try.prog 96 8 := ⟨by kernel_rfl⟩
instance : TL Try.prog 98 false 1 := ⟨by kernel_rfl, by kernel_rfl⟩
instance : TB Try.prog 98 8 := ⟨by kernel_rfl⟩
instance : TL Try.prog 99 false 1 := ⟨by kernel_rfl, by kernel_rfl⟩
instance : TB Try.prog 99 8 := ⟨by kernel_rfl⟩
instance : TL Try.prog 100 true 2 := ⟨by kernel_rfl, by kernel_rfl⟩
instance : TZ Try.prog 100 [.int .u8 0, .int .u8 0] := ⟨by kernel_rfl⟩
instance : TB Try.prog 100 2 := ⟨by kernel_rfl⟩
instance : TF Try.prog 100 0 0 5 := ⟨by kernel_rfl⟩
instance : TF Try.prog 100 1 1 5 := ⟨by kernel_rfl⟩
instance : TL Try.prog 101 true 2 := ⟨by kernel_rfl, by kernel_rfl⟩
instance : TZ Try.prog 101 [.int .u8 0, .int .u8 0] := ⟨by kernel_rfl⟩
instance : TB Try.prog 101 2 := ⟨by kernel_rfl⟩
instance : TF Try.prog 101 0 0 5 := ⟨by kernel_rfl⟩
instance : TF Try.prog 101 1 1 5 := ⟨by kernel_rfl⟩
instance : TL Try.prog 102 true 2 := ⟨by kernel_rfl, by kernel_rfl⟩
instance : TZ Try.prog 102 [.int .i64 0, .int .i64 0] := ⟨by kernel_rfl⟩
instance : TB Try.prog 102 16 := ⟨by kernel_rfl⟩
instance : TF Try.prog 102 0 0 3 := ⟨by kernel_rfl⟩
instance : TF Try.prog 102 1 1 3 := ⟨by kernel_rfl⟩
instance : TL Try.prog 103 true 2 := ⟨by kernel_rfl, by kernel_rfl⟩
instance : TZ Try.prog 103 [.int .i64 0, .int .i64 0] := ⟨by kernel_rfl⟩
instance : TB Try.prog 103 16 := ⟨by kernel_rfl⟩
instance : TF Try.prog 103 0 0 3 := ⟨by kernel_rfl⟩
instance : TF Try.prog 103 1 1 3 := ⟨by kernel_rfl⟩
instance : TL Try.prog 104 false 1 := ⟨by kernel_rfl, by kernel_rfl⟩
instance : TB Try.prog 104 8 := ⟨by kernel_rfl⟩
instance : TL Try.prog 105 false 1 := ⟨by kernel_rfl, by kernel_rfl⟩
instance : TB Try.prog 105 8 := ⟨by kernel_rfl⟩
instance : TL Try.prog 107 false 1 := ⟨by kernel_rfl, by kernel_rfl⟩
instance : TB Try.prog 107 8 := ⟨by kernel_rfl⟩
instance : TL Try.prog 108 false 1 := ⟨by kernel_rfl, by kernel_rfl⟩
instance : TB Try.prog 108 8 := ⟨by kernel_rfl⟩
instance : TL Try.prog 109 true 4 := ⟨by kernel_rfl, by kernel_rfl⟩
instance : TZ Try.prog 109 [.int .u8 0, .int .u8 0, .int .i64 0, .int .i64 0] := ⟨by kernel_rfl⟩
instance : TB Try.prog 109 24 := ⟨by kernel_rfl⟩
instance : TF Try.prog 109 0 0 5 := ⟨by kernel_rfl⟩
instance : TF Try.prog 109 1 1 5 := ⟨by kernel_rfl⟩
instance : TF Try.prog 109 2 2 3 := ⟨by kernel_rfl⟩
instance : TF Try.prog 109 3 3 3 := ⟨by kernel_rfl⟩
instance : TL Try.prog 110 true 4 := ⟨by kernel_rfl, by kernel_rfl⟩
instance : TZ Try.prog 110 [.int .u8 0, .int .u8 0, .int .i64 0, .int .i64 0] := ⟨by kernel_rfl⟩
instance : TB Try.prog 110 24 := ⟨by kernel_rfl⟩
instance : TF Try.prog 110 0 0 5 := ⟨by kernel_rfl⟩
instance : TF Try.prog 110 1 1 5 := ⟨by kernel_rfl⟩
instance : TF Try.prog 110 2 2 3 := ⟨by kernel_rfl⟩
instance : TF Try.prog 110 3 3 3 := ⟨by kernel_rfl⟩
instance : TL Try.prog 111 false 1 := ⟨by kernel_rfl, by kernel_rfl⟩
instance : TB Try.prog 111 8 := ⟨by kernel_rfl⟩
instance : TL Try.prog 112 false 1 := ⟨by kernel_rfl, by kernel_rfl⟩
instance : TB Try.prog 112 8 := ⟨by kernel_rfl⟩
instance : TL Try.prog 113 false 1 := ⟨by kernel_rfl, by kernel_rfl⟩
instance : TB Try.prog 113 8 := ⟨by kernel_rfl⟩
instance : TL Try.prog 114 false 1 := ⟨by kernel_rfl, by kernel_rfl⟩
instance : TZ Try.prog 114 [.int .u64 0] := ⟨by kernel_rfl⟩
instance : TB Try.prog 114 8 := ⟨by kernel_rfl⟩
instance : TI Try.prog 114 .u64 := ⟨by kernel_rfl⟩
instance : TL Try.prog 115 false 1 := ⟨by kernel_rfl, by kernel_rfl⟩
instance : TB Try.prog 115 8 := ⟨by kernel_rfl⟩
instance : TL Try.prog 116 false 1 := ⟨by kernel_rfl, by kernel_rfl⟩
instance : TB Try.prog 116 8 := ⟨by kernel_rfl⟩
instance : TL Try.prog 117 false 1 := ⟨by kernel_rfl, by kernel_rfl⟩
instance : TB Try.prog 117 8 := ⟨by kernel_rfl⟩
instance : TL Try.prog 118 true 256 := ⟨by kernel_rfl, by kernel_rfl⟩
instance : TZ Try.prog 118 [.int .u16 0, .int .u16 0, .int .u16 0, .int .u16 0, .int .u16 0, .int .u16 0, .int .u16 0, .int .u16 0, .int .u16 0, .int .u16 0, .int .u16 0, .int .u16 0, .int .u16 0, .int .u16 0, .int .u16 0, .int .u16 0, .int .u16 0, .int .u16 0, .int .u16 0, .int .u16 0, .int .u16 0, .int .u16 0, .int .u16 0, .int .u16 0, .int .u16 0, .int .u16 0, .int .u16 0, .int .u16 0, .int .u16 0, .int .u16 0, .int .u16 0, .int .u16 0, .int .u16 0, .int .u16 0, .int .u16 0, .int .u16 0, .int .u16 0, .int .u16 0, .int .u16 0, .int .u16 0, .int .u16 0, .int .u16 0, .int .u16 0, .int .u16 0, .int .u16 0, .int .u16 0, .int .u16 0, .int .u16 0, .int .u16 0, .int .u16 0, .int .u16 0, .int .u16 0, .int .u16 0, .int .u16 0, .int .u16 0, .int .u16 0, .int .u16 0, .int .u16 0, .int .u16 0, .int .u16 0, .int .u16 0, .int .u16 0, .int .u16 0, .int .u16 0, .int .u16 0, .int .u16 0, .int .u16 0, .int .u16 0, .int .u16 0, .int .u16 0, .int .u16 0, .int .u16 0, .int .u16 0, .int .u16 0, .int .u16 0, .int .u16 0, .int .u16 0, .int .u16 0, .int .u16 0, .int .u16 0, .int .u16 0, .int .u16 0, .int .u16 0, .int .u16 0, .int .u16 0, .int .u16 0, .int .u16 0, .int .u16 0, .int .u16 0, .int .u16 0, .int .u16 0, .int .u16 0, .int .u16 0, .int .u16 0, .int .u16 0, .int .u16 0, .int .u16 0, .int .u16 0, .int .u16 0, .int .u16 0, .int .u16 0, .int .u16 0, .int .u16 0, .int .u16 0, .int .u16 0, .int .u16 0, .int .u16 0, .int .u16 0, .int .u16 0, .int .u16 0, .int .u16 0, .int .u16 0, .int .u16 0, .int .u16 0, .int .u16 0, .int .u16 0, .int .u16 0, .int .u16 0, .int .u16 0, .int .u16 0, .int .u16 0, .int .u16 0, .int .u16 0, .int .u16 0, .int .u16 0, .int .u16 0, .int .u16 0, .int .u16 0, .int .u16 0, .int .u16 0, .int .u16 0, .int .u16 0, .int .u16 0, .int .u16 0, .int .u16 0, .int .u16 0, .int .u16 0, .int .u16 0, .int .u16 0, .int .u16 0, .int .u16 0, .int .u16 0, .int .u16 0, .int .u16 0, .int .u16 0, .int .u16 0, .int .u16 0, .int .u16 0, .int .u16 0, .int .u16 0, .int .u16 0, .int .u16 0, .int .u16 0, .int .u16 0, .int .u16 0, .int .u16 0, .int .u16 0, .int .u16 0, .int .u16 0, .int .u16 0, .int .u16 0, .int .u16 0, .int .u16 0, .int .u16 0, .int .u16 0, .int .u16 0, .int .u16 0, .int .u16 0, .int .u16 0, .int .u16 0, .int .u16 0, .int .u16 0, .int .u16 0, .int .u16 0, .int .u16 0, .int .u16 0, .int .u16 0, .int .u16 0, .int .u16 0, .int .u16 0, .int .u16 0, .int .u16 0, .int .u16 0, .int .u16 0, .int .u16 0, .int .u16 0, .int .u16 0, .int .u16 0, .int .u16 0, .int .u16 0, .int .u16 0, .int .u16 0, .int .u16 0, .int .u16 0, .int .u16 0, .int .u16 0, .int .u16 0, .int .u16 0, .int .u16 0, .int .u16 0, .int .u16 0, .int .u16 0, .int .u16 0, .int .u16 0, .int .u16 0, .int .u16 0, .int .u16 0, .int .u16 0, .int .u16 0, .int .u16 0, .int .u16 0, .int .u16 0, .int .u16 0, .int .u16 0, .int .u16 0, .int .u16 0, .int .u16 0, .int .u16 0, .int .u16 0, .int .u16 0, .int .u16 0, .int .u16 0, .int .u16 0, .int .u16 0, .int .u16 0, .int .u16 0, .int .u16 0, .int .u16 0, .int .u16 0, .int .u16 0, .int .u16 0, .int .u16 0, .int .u16 0, .int .u16 0, .int .u16 0, .int .u16 0, .int .u16 0, .int .u16 0, .int .u16 0, .int .u16 0, .int .u16 0, .int .u16 0, .int .u16 0, .int .u16 0, .int .u16 0, .int .u16 0, .int .u16 0, .int .u16 0, .int .u16 0, .int .u16 0, .int .u16 0, .int .u16 0, .int .u16 0, .int .u16 0, .int .u16 0, .int .u16 0] := ⟨by kernel_rfl⟩
instance : TB Try.prog 118 512 := ⟨by kernel_rfl⟩
instance : TA Try.prog 118 256 26 := ⟨by kernel_rfl⟩
instance : TL Try.prog 119 true 256 := ⟨by kernel_rfl, by kernel_rfl⟩
instance : TZ Try.prog 119 [.int .u16 0, .int .u16 0, .int .u16 0, .int .u16 0, .int .u16 0, .int .u16 0, .int .u16 0, .int .u16 0, .int .u16 0, .int .u16 0, .int .u16 0, .int .u16 0, .int .u16 0, .int .u16 0, .int .u16 0, .int .u16 0, .int .u16 0, .int .u16 0, .int .u16 0, .int .u16 0, .int .u16 0, .int .u16 0, .int .u16 0, .int .u16 0, .int .u16 0, .int .u16 0, .int .u16 0, .int .u16 0, .int .u16 0, .int .u16 0, .int .u16 0, .int .u16 0, .int .u16 0, .int .u16 0, .int .u16 0, .int .u16 0, .int .u16 0, .int .u16 0, .int .u16 0, .int .u16 0, .int .u16 0, .int .u16 0, .int .u16 0, .int .u16 0, .int .u16 0, .int .u16 0, .int .u16 0, .int .u16 0, .int .u16 0, .int .u16 0, .int .u16 0, .int .u16 0, .int .u16 0, .int .u16 0, .int .u16 0, .int .u16 0, .int .u16 0, .int .u16 0, .int .u16 0, .int .u16 0, .int .u16 0, .int .u16 0, .int .u16 0, .int .u16 0, .int .u16 0, .int .u16 0, .int .u16 0, .int .u16 0, .int .u16 0, .int .u16 0, .int .u16 0, .int .u16 0, .int .u16 0, .int .u16 0, .int .u16 0, .int .u16 0, .int .u16 0, .int .u16 0, .int .u16 0, .int .u16 0, .int .u16 0, .int .u16 0, .int .u16 0, .int .u16 0, .int .u16 0, .int .u16 0, .int .u16 0, .int .u16 0, .int .u16 0, .int .u16 0, .int .u16 0, .int .u16 0, .int .u16 0, .int .u16 0, .int .u16 0, .int .u16 0, .int .u16 0, .int .u16 0, .int .u16 0, .int .u16 0, .int .u16 0, .int .u16 0, .int .u16 0, .int .u16 0, .int .u16 0, .int .u16 0, .int .u16 0, .int .u16 0, .int .u16 0, .int .u16 0, .int .u16 0, .int .u16 0, .int .u16 0, .int .u16 0, .int .u16 0, .int .u16 0, .int .u16 0, .int .u16 0, .int .u16 0, .int .u16 0, .int .u16 0, .int .u16 0, .int .u16 0, .int .u16 0, .int .u16 0, .int .u16 0, .int .u16 0, .int .u16 0, .int .u16 0, .int .u16 0, .int .u16 0, .int .u16 0, .int .u16 0, .int .u16 0, .int .u16 0, .int .u16 0, .int .u16 0, .int .u16 0, .int .u16 0, .int .u16 0, .int .u16 0, .int .u16 0, .int .u16 0, .int .u16 0, .int .u16 0, .int .u16 0, .int .u16 0, .int .u16 0, .int .u16 0, .int .u16 0, .int .u16 0, .int .u16 0, .int .u16 0, .int .u16 0, .int .u16 0, .int .u16 0, .int .u16 0, .int .u16 0, .int .u16 0, .int .u16 0, .int .u16 0, .int .u16 0, .int .u16 0, .int .u16 0, .int .u16 0, .int .u16 0, .int .u16 0, .int .u16 0, .int .u16 0, .int .u16 0, .int .u16 0, .int .u16 0, .int .u16 0, .int .u16 0, .int .u16 0, .int .u16 0, .int .u16 0, .int .u16 0, .int .u16 0, .int .u16 0, .int .u16 0, .int .u16 0, .int .u16 0, .int .u16 0, .int .u16 0, .int .u16 0, .int .u16 0, .int .u16 0, .int .u16 0, .int .u16 0, .int .u16 0, .int .u16 0, .int .u16 0, .int .u16 0, .int .u16 0, .int .u16 0, .int .u16 0, .int .u16 0, .int .u16 0, .int .u16 0, .int .u16 0, .int .u16 0, .int .u16 0, .int .u16 0, .int .u16 0, .int .u16 0, .int .u16 0, .int .u16 0, .int .u16 0, .int .u16 0, .int .u16 0, .int .u16 0, .int .u16 0, .int .u16 0, .int .u16 0, .int .u16 0, .int .u16 0, .int .u16 0, .int .u16 0, .int .u16 0, .int .u16 0, .int .u16 0, .int .u16 0, .int .u16 0, .int .u16 0, .int .u16 0, .int .u16 0, .int .u16 0, .int .u16 0, .int .u16 0, .int .u16 0, .int .u16 0, .int .u16 0, .int .u16 0, .int .u16 0, .int .u16 0, .int .u16 0, .int .u16 0, .int .u16 0, .int .u16 0, .int .u16 0, .int .u16 0, .int .u16 0, .int .u16 0, .int .u16 0, .int .u16 0, .int .u16 0, .int .u16 0, .int .u16 0, .int .u16 0, .int .u16 0, .int .u16 0, .int .u16 0, .int .u16 0, .int .u16 0, .int .u16 0] := ⟨by kernel_rfl⟩
instance : TB Try.prog 119 512 := ⟨by kernel_rfl⟩
instance : TA Try.prog 119 256 26 := ⟨by kernel_rfl⟩
instance : TL Try.prog 120 false 1 := ⟨by kernel_rfl, by kernel_rfl⟩
instance : TB Try.prog 120 8 := ⟨by kernel_rfl⟩
instance : TL Try.prog 121 false 1 := ⟨by kernel_rfl, by kernel_rfl⟩
instance : TB Try.prog 121 8 := ⟨by kernel_rfl⟩
instance : TL Try.prog 122 false 1 := ⟨by kernel_rfl, by kernel_rfl⟩
instance : TB Try.prog 122 8 := ⟨by kernel_rfl⟩
instance : TL Try.prog 123 false 1 := ⟨by kernel_rfl, by kernel_rfl⟩
instance : TB Try.prog 123 8 := ⟨by kernel_rfl⟩
instance : TL Try.prog 124 false 1 := ⟨by kernel_rfl, by kernel_rfl⟩
instance : TB Try.prog 124 8 := ⟨by kernel_rfl⟩
instance : TL Try.prog 125 false 1 := ⟨by kernel_rfl, by kernel_rfl⟩
instance : TB Try.prog 125 8 := ⟨by kernel_rfl⟩
instance : TL Try.prog 127 false 1 := ⟨by kernel_rfl, by kernel_rfl⟩
instance : TB Try.prog 127 8 := ⟨by kernel_rfl⟩
instance : TL Try.prog 129 false 1 := ⟨by kernel_rfl, by kernel_rfl⟩
instance : TB Try.prog 129 8 := ⟨by kernel_rfl⟩
instance : TL Try.prog 130 false 1 := ⟨by kernel_rfl, by kernel_rfl⟩
instance : TB Try.prog 130 8 := ⟨by kernel_rfl⟩
instance : TL Try.prog 131 false 1 := ⟨by kernel_rfl, by kernel_rfl⟩
instance : TB Try.prog 131 8 := ⟨by kernel_rfl⟩
instance : TL Try.prog 132 false 1 := ⟨by kernel_rfl, by kernel_rfl⟩
instance : TB Try.prog 132 8 := ⟨by kernel_rfl⟩
instance : TL Try.prog 133 false 1 := ⟨by kernel_rfl, by kernel_rfl⟩
instance : TB Try.prog 133 8 := ⟨by kernel_rfl⟩
instance : TL Try.prog 134 false 1 := ⟨by kernel_rfl, by kernel_rfl⟩
instance : TB Try.prog 134 8 := ⟨by kernel_rfl⟩
instance : TL Try.prog 135 true 4 := ⟨by kernel_rfl, by kernel_rfl⟩
instance : TZ Try.prog 135 [.int .u8 0, .int .u8 0, .int .u8 0, .int .u8 0] := ⟨by kernel_rfl⟩
instance : TB Try.prog 135 4 := ⟨by kernel_rfl⟩
instance : TA Try.prog 135 4 5 := ⟨by kernel_rfl⟩
instance : TL Try.prog 136 false 1 := ⟨by kernel_rfl, by kernel_rfl⟩
instance : TB Try.prog 136 8 := ⟨by kernel_rfl⟩
instance : TL Try.prog 142 false 1 := ⟨by kernel_rfl, by kernel_rfl⟩
instance : TB Try.prog 142 8 := ⟨by kernel_rfl⟩
instance : TL Try.prog 146 false 1 := ⟨by kernel_rfl, by kernel_rfl⟩
instance : TZ Try.prog 146 [.pointer none] := ⟨by kernel_rfl⟩
instance : TB Try.prog 146 8 := ⟨by kernel_rfl⟩
instance : TRw Try.prog 1 1 [.nilFunc] := ⟨by kernel_rfl, by kernel_rfl, rfl, by decide⟩
instance : TRw Try.prog 2 1 [.int .i64 0] := ⟨by kernel_rfl, by kernel_rfl, rfl, by decide⟩
instance : TRw Try.prog 3 1 [.int .i64 0] := ⟨by kernel_rfl, by kernel_rfl, rfl, by decide⟩
instance : TRw Try.prog 4 1 [.bool false] := ⟨by kernel_rfl, by kernel_rfl, rfl, by decide⟩
instance : TRw Try.prog 5 1 [.int .u8 0] := ⟨by kernel_rfl, by kernel_rfl, rfl, by decide⟩
instance : TRw Try.prog 9 1 [.string ⟨#[]⟩] := ⟨by kernel_rfl, by kernel_rfl, rfl, by decide⟩
instance : TRw Try.prog 21 1 [.int .i32 0] := ⟨by kernel_rfl, by kernel_rfl, rfl, by decide⟩
instance : TRw Try.prog 22 1 [.slice none 0 0] := ⟨by kernel_rfl, by kernel_rfl, rfl, by decide⟩
instance : TRw Try.prog 23 1 [.nilFunc] := ⟨by kernel_rfl, by kernel_rfl, rfl, by decide⟩
instance : TRw Try.prog 24 1 [.nilFunc] := ⟨by kernel_rfl, by kernel_rfl, rfl, by decide⟩
instance : TRw Try.prog 25 1 [.nilFunc] := ⟨by kernel_rfl, by kernel_rfl, rfl, by decide⟩
instance : TRw Try.prog 26 1 [.int .u16 0] := ⟨by kernel_rfl, by kernel_rfl, rfl, by decide⟩
instance : TBd Try.prog 27 (fun i => #[(0, 1), (1, 1), (2, 1), (3, 1), (4, 1)][i]?) [.int .u8 0, .int .u8 0, .int .u8 0, .int .u16 0, .slice none 0 0] := ⟨fun _ => by kernel_rfl⟩
instance : TRw Try.prog 27 5 [.int .u8 0, .int .u8 0, .int .u8 0, .int .u16 0, .slice none 0 0] := ⟨by kernel_rfl, by kernel_rfl, rfl, by decide⟩
instance : TBd Try.prog 28 (fun i => #[(0, 1), (1, 1), (2, 1), (3, 1), (4, 1)][i]?) [.int .u8 0, .int .u8 0, .int .u8 0, .int .u16 0, .slice none 0 0] := ⟨fun _ => by kernel_rfl⟩
instance : TRw Try.prog 28 5 [.int .u8 0, .int .u8 0, .int .u8 0, .int .u16 0, .slice none 0 0] := ⟨by kernel_rfl, by kernel_rfl, rfl, by decide⟩
instance : TRw Try.prog 29 1 [.int .i64 0] := ⟨by kernel_rfl, by kernel_rfl, rfl, by decide⟩
instance : TRw Try.prog 31 1 [.nilFunc] := ⟨by kernel_rfl, by kernel_rfl, rfl, by decide⟩
instance : TRw Try.prog 32 1 [.int .u32 0] := ⟨by kernel_rfl, by kernel_rfl, rfl, by decide⟩
instance : TBd Try.prog 33 (fun i => #[(0, 1), (1, 1), (2, 1), (3, 1), (4, 1)][i]?) [.int .u8 0, .int .u8 0, .int .u16 0, .int .u32 0, .slice none 0 0] := ⟨fun _ => by kernel_rfl⟩
instance : TRw Try.prog 33 5 [.int .u8 0, .int .u8 0, .int .u16 0, .int .u32 0, .slice none 0 0] := ⟨by kernel_rfl, by kernel_rfl, rfl, by decide⟩
instance : TBd Try.prog 34 (fun i => #[(0, 1), (1, 1), (2, 1), (3, 1), (4, 1)][i]?) [.int .u8 0, .int .u8 0, .int .u16 0, .int .u32 0, .slice none 0 0] := ⟨fun _ => by kernel_rfl⟩
instance : TRw Try.prog 34 5 [.int .u8 0, .int .u8 0, .int .u16 0, .int .u32 0, .slice none 0 0] := ⟨by kernel_rfl, by kernel_rfl, rfl, by decide⟩
instance : TRw Try.prog 36 1 [.nilFunc] := ⟨by kernel_rfl, by kernel_rfl, rfl, by decide⟩
instance : TRw Try.prog 37 1 [.nilFunc] := ⟨by kernel_rfl, by kernel_rfl, rfl, by decide⟩
instance : TRw Try.prog 38 1 [.slice none 0 0] := ⟨by kernel_rfl, by kernel_rfl, rfl, by decide⟩
instance : TRw Try.prog 39 1 [.slice none 0 0] := ⟨by kernel_rfl, by kernel_rfl, rfl, by decide⟩
instance : TRw Try.prog 40 1 [.int .u64 0] := ⟨by kernel_rfl, by kernel_rfl, rfl, by decide⟩
instance : TRw Try.prog 41 1 [.nilFunc] := ⟨by kernel_rfl, by kernel_rfl, rfl, by decide⟩
instance : TRw Try.prog 42 1 [.nilFunc] := ⟨by kernel_rfl, by kernel_rfl, rfl, by decide⟩
instance : TRw Try.prog 44 1 [.nilFunc] := ⟨by kernel_rfl, by kernel_rfl, rfl, by decide⟩
instance : TRw Try.prog 45 1 [.nilFunc] := ⟨by kernel_rfl, by kernel_rfl, rfl, by decide⟩
instance : TRw Try.prog 46 1 [.nilFunc] := ⟨by kernel_rfl, by kernel_rfl, rfl, by decide⟩
instance : TBd Try.prog 47 (fun i => #[(0, 1), (1, 1), (2, 1), (3, 1)][i]?) [.bool false, .int .u16 0, .int .u16 0, .slice none 0 0] := ⟨fun _ => by kernel_rfl⟩
instance : TRw Try.prog 47 4 [.bool false, .int .u16 0, .int .u16 0, .slice none 0 0] := ⟨by kernel_rfl, by kernel_rfl, rfl, by decide⟩
instance : TBd Try.prog 48 (fun i => #[(0, 1), (1, 1), (2, 1), (3, 1)][i]?) [.bool false, .int .u16 0, .int .u16 0, .slice none 0 0] := ⟨fun _ => by kernel_rfl⟩
instance : TRw Try.prog 48 4 [.bool false, .int .u16 0, .int .u16 0, .slice none 0 0] := ⟨by kernel_rfl, by kernel_rfl, rfl, by decide⟩
instance : TRw Try.prog 49 1 [.nilFunc] := ⟨by kernel_rfl, by kernel_rfl, rfl, by decide⟩
instance : TRw Try.prog 50 1 [.nilFunc] := ⟨by kernel_rfl, by kernel_rfl, rfl, by decide⟩
instance : TRw Try.prog 51 1 [.nilFunc] := ⟨by kernel_rfl, by kernel_rfl, rfl, by decide⟩
instance : TRw Try.prog 52 1 [.nilFunc] := ⟨by kernel_rfl, by kernel_rfl, rfl, by decide⟩
instance : TBd Try.prog 53 (fun i => #[(0, 1), (1, 1), (2, 1), (3, 1)][i]?) [.bool false, .int .u16 0, .int .u16 0, .slice none 0 0] := ⟨fun _ => by kernel_rfl⟩
instance : TRw Try.prog 53 4 [.bool false, .int .u16 0, .int .u16 0, .slice none 0 0] := ⟨by kernel_rfl, by kernel_rfl, rfl, by decide⟩
instance : TRw Try.prog 54 1 [.nilFunc] := ⟨by kernel_rfl, by kernel_rfl, rfl, by decide⟩
instance : TRw Try.prog 55 1 [.nilFunc] := ⟨by kernel_rfl, by kernel_rfl, rfl, by decide⟩
instance : TRw Try.prog 56 1 [.slice none 0 0] := ⟨by kernel_rfl, by kernel_rfl, rfl, by decide⟩
instance : TRw Try.prog 57 1 [.slice none 0 0] := ⟨by kernel_rfl, by kernel_rfl, rfl, by decide⟩
instance : TRw Try.prog 59 1 [.nilFunc] := ⟨by kernel_rfl, by kernel_rfl, rfl, by decide⟩
instance : TRw Try.prog 61 1 [.nilFunc] := ⟨by kernel_rfl, by kernel_rfl, rfl, by decide⟩
instance : TRw Try.prog 62 1 [.nilFunc] := ⟨by kernel_rfl, by kernel_rfl, rfl, by decide⟩
instance : TRw Try.prog 63 1 [.nilFunc] := ⟨by kernel_rfl, by kernel_rfl, rfl, by decide⟩
instance : TRw Try.prog 64 1 [.nilFunc] := ⟨by kernel_rfl, by kernel_rfl, rfl, by decide⟩
instance : TRw Try.prog 65 1 [.nilFunc] := ⟨by kernel_rfl, by kernel_rfl, rfl, by decide⟩
instance : TRw Try.prog 66 1 [.nilFunc] := ⟨by kernel_rfl, by kernel_rfl, rfl, by decide⟩
instance : TRw Try.prog 68 1 [.nilFunc] := ⟨by kernel_rfl, by kernel_rfl, rfl, by decide⟩
instance : TRw Try.prog 70 1 [.nilFunc] := ⟨by kernel_rfl, by kernel_rfl, rfl, by decide⟩
instance : TRw Try.prog 71 1 [.nilFunc] := ⟨by kernel_rfl, by kernel_rfl, rfl, by decide⟩
instance : TRw Try.prog 72 1 [.nilFunc] := ⟨by kernel_rfl, by kernel_rfl, rfl, by decide⟩
instance : TRw Try.prog 74 1 [.nilFunc] := ⟨by kernel_rfl, by kernel_rfl, rfl, by decide⟩
instance : TBd Try.prog 75 (fun i => #[(0, 1), (1, 1), (2, 1), (3, 1), (4, 1)][i]?) [.int .u8 0, .int .u8 0, .int .u8 0, .int .u16 0, .slice none 0 0] := ⟨fun _ => by kernel_rfl⟩
instance : TRw Try.prog 75 5 [.int .u8 0, .int .u8 0, .int .u8 0, .int .u16 0, .slice none 0 0] := ⟨by kernel_rfl, by kernel_rfl, rfl, by decide⟩
instance : TRw Try.prog 76 1 [.nilFunc] := ⟨by kernel_rfl, by kernel_rfl, rfl, by decide⟩
instance : TRw Try.prog 78 1 [.nilFunc] := ⟨by kernel_rfl, by kernel_rfl, rfl, by decide⟩
instance : TRw Try.prog 79 1 [.nilFunc] := ⟨by kernel_rfl, by kernel_rfl, rfl, by decide⟩
instance : TRw Try.prog 80 1 [.nilFunc] := ⟨by kernel_rfl, by kernel_rfl, rfl, by decide⟩
instance : TRw Try.prog 81 1 [.nilFunc] := ⟨by kernel_rfl, by kernel_rfl, rfl, by decide⟩
instance : TRw Try.prog 82 1 [.nilFunc] := ⟨by kernel_rfl, by kernel_rfl, rfl, by decide⟩
instance : TBd Try.prog 83 (fun i => #[(0, 1), (1, 1), (2, 1), (3, 1), (4, 1)][i]?) [.int .u8 0, .int .u8 0, .int .u16 0, .int .u32 0, .slice none 0 0] := ⟨fun _ => by kernel_rfl⟩
instance : TRw Try.prog 83 5 [.int .u8 0, .int .u8 0, .int .u16 0, .int .u32 0, .slice none 0 0] := ⟨by kernel_rfl, by kernel_rfl, rfl, by decide⟩
instance : TRw Try.prog 85 1 [.nilFunc] := ⟨by kernel_rfl, by kernel_rfl, rfl, by decide⟩
instance : TRw Try.prog 86 1 [.nilFunc] := ⟨by kernel_rfl, by kernel_rfl, rfl, by decide⟩
instance : TRw Try.prog 87 1 [.nilFunc] := ⟨by kernel_rfl, by kernel_rfl, rfl, by decide⟩
instance : TRw Try.prog 88 1 [.nilFunc] := ⟨by kernel_rfl, by kernel_rfl, rfl, by decide⟩
instance : TRw Try.prog 89 1 [.slice none 0 0] := ⟨by kernel_rfl, by kernel_rfl, rfl, by decide⟩
instance : TRw Try.prog 90 1 [.map none] := ⟨by kernel_rfl, by kernel_rfl, rfl, by decide⟩
instance : TRw Try.prog 91 1 [.map none] := ⟨by kernel_rfl, by kernel_rfl, rfl, by decide⟩
instance : TRw Try.prog 93 1 [.nilFunc] := ⟨by kernel_rfl, by kernel_rfl, rfl, by decide⟩
instance : TBd Try.prog 94 (fun i => #[(0, 1), (1, 1), (2, 5)][i]?) [.int .u8 0, .int .u32 0, .int .u8 0, .int .u8 0, .int .u8 0, .int .u16 0, .slice none 0 0] := ⟨fun _ => by kernel_rfl⟩
instance : TRw Try.prog 94 7 [.int .u8 0, .int .u32 0, .int .u8 0, .int .u8 0, .int .u8 0, .int .u16 0, .slice none 0 0] := ⟨by kernel_rfl, by kernel_rfl, rfl, by decide⟩
instance : TBd Try.prog 95 (fun i => #[(0, 1), (1, 1), (2, 5)][i]?) [.int .u8 0, .int .u32 0, .int .u8 0, .int .u8 0, .int .u8 0, .int .u16 0, .slice none 0 0] := ⟨fun _ => by kernel_rfl⟩
instance : TRw Try.prog 95 7 [.int .u8 0, .int .u32 0, .int .u8 0, .int .u8 0, .int .u8 0, .int .u16 0, .slice none 0 0] := ⟨by kernel_rfl, by kernel_rfl, rfl, by decide⟩
instance : TRw Try.prog 96 1 [.nilFunc] := ⟨by kernel_rfl, by kernel_rfl, rfl, by decide⟩
instance : TRw Try.prog 98 1 [.nilFunc] := ⟨by kernel_rfl, by kernel_rfl, rfl, by decide⟩
instance : TRw Try.prog 99 1 [.nilFunc] := ⟨by kernel_rfl, by kernel_rfl, rfl, by decide⟩
instance : TBd Try.prog 100 (fun i => #[(0, 1), (1, 1)][i]?) [.int .u8 0, .int .u8 0] := ⟨fun _ => by kernel_rfl⟩
instance : TRw Try.prog 100 2 [.int .u8 0, .int .u8 0] := ⟨by kernel_rfl, by kernel_rfl, rfl, by decide⟩
instance : TBd Try.prog 101 (fun i => #[(0, 1), (1, 1)][i]?) [.int .u8 0, .int .u8 0] := ⟨fun _ => by kernel_rfl⟩
instance : TRw Try.prog 101 2 [.int .u8 0, .int .u8 0] := ⟨by kernel_rfl, by kernel_rfl, rfl, by decide⟩
instance : TBd Try.prog 102 (fun i => #[(0, 1), (1, 1)][i]?) [.int .i64 0, .int .i64 0] := ⟨fun _ => by kernel_rfl⟩
instance : TRw Try.prog 102 2 [.int .i64 0, .int .i64 0] := ⟨by kernel_rfl, by kernel_rfl, rfl, by decide⟩
instance : TBd Try.prog 103 (fun i => #[(0, 1), (1, 1)][i]?) [.int .i64 0, .int .i64 0] := ⟨fun _ => by kernel_rfl⟩
instance : TRw Try.prog 103 2 [.int .i64 0, .int .i64 0] := ⟨by kernel_rfl, by kernel_rfl, rfl, by decide⟩
instance : TRw Try.prog 104 1 [.nilFunc] := ⟨by kernel_rfl, by kernel_rfl, rfl, by decide⟩
instance : TRw Try.prog 105 1 [.nilFunc] := ⟨by kernel_rfl, by kernel_rfl, rfl, by decide⟩
instance : TRw Try.prog 107 1 [.nilFunc] := ⟨by kernel_rfl, by kernel_rfl, rfl, by decide⟩
instance : TRw Try.prog 108 1 [.nilFunc] := ⟨by kernel_rfl, by kernel_rfl, rfl, by decide⟩
instance : TBd Try.prog 109 (fun i => #[(0, 1), (1, 1), (2, 1), (3, 1)][i]?) [.int .u8 0, .int .u8 0, .int .i64 0, .int .i64 0] := ⟨fun _ => by kernel_rfl⟩
instance : TRw Try.prog 109 4 [.int .u8 0, .int .u8 0, .int .i64 0, .int .i64 0] := ⟨by kernel_rfl, by kernel_rfl, rfl, by decide⟩
instance : TBd Try.prog 110 (fun i => #[(0, 1), (1, 1), (2, 1), (3, 1)][i]?) [.int .u8 0, .int .u8 0, .int .i64 0, .int .i64 0] := ⟨fun _ => by kernel_rfl⟩
instance : TRw Try.prog 110 4 [.int .u8 0, .int .u8 0, .int .i64 0, .int .i64 0] := ⟨by kernel_rfl, by kernel_rfl, rfl, by decide⟩
instance : TRw Try.prog 111 1 [.nilFunc] := ⟨by kernel_rfl, by kernel_rfl, rfl, by decide⟩
instance : TRw Try.prog 112 1 [.nilFunc] := ⟨by kernel_rfl, by kernel_rfl, rfl, by decide⟩
instance : TRw Try.prog 113 1 [.nilFunc] := ⟨by kernel_rfl, by kernel_rfl, rfl, by decide⟩
instance : TRw Try.prog 114 1 [.int .u64 0] := ⟨by kernel_rfl, by kernel_rfl, rfl, by decide⟩
instance : TRw Try.prog 115 1 [.nilFunc] := ⟨by kernel_rfl, by kernel_rfl, rfl, by decide⟩
instance : TRw Try.prog 116 1 [.nilFunc] := ⟨by kernel_rfl, by kernel_rfl, rfl, by decide⟩
instance : TRw Try.prog 117 1 [.nilFunc] := ⟨by kernel_rfl, by kernel_rfl, rfl, by decide⟩
instance : TBd Try.prog 118 (fun i => some (i * 1, 1)) [.int .u16 0, .int .u16 0, .int .u16 0, .int .u16 0, .int .u16 0, .int .u16 0, .int .u16 0, .int .u16 0, .int .u16 0, .int .u16 0, .int .u16 0, .int .u16 0, .int .u16 0, .int .u16 0, .int .u16 0, .int .u16 0, .int .u16 0, .int .u16 0, .int .u16 0, .int .u16 0, .int .u16 0, .int .u16 0, .int .u16 0, .int .u16 0, .int .u16 0, .int .u16 0, .int .u16 0, .int .u16 0, .int .u16 0, .int .u16 0, .int .u16 0, .int .u16 0, .int .u16 0, .int .u16 0, .int .u16 0, .int .u16 0, .int .u16 0, .int .u16 0, .int .u16 0, .int .u16 0, .int .u16 0, .int .u16 0, .int .u16 0, .int .u16 0, .int .u16 0, .int .u16 0, .int .u16 0, .int .u16 0, .int .u16 0, .int .u16 0, .int .u16 0, .int .u16 0, .int .u16 0, .int .u16 0, .int .u16 0, .int .u16 0, .int .u16 0, .int .u16 0, .int .u16 0, .int .u16 0, .int .u16 0, .int .u16 0, .int .u16 0, .int .u16 0, .int .u16 0, .int .u16 0, .int .u16 0, .int .u16 0, .int .u16 0, .int .u16 0, .int .u16 0, .int .u16 0, .int .u16 0, .int .u16 0, .int .u16 0, .int .u16 0, .int .u16 0, .int .u16 0, .int .u16 0, .int .u16 0, .int .u16 0, .int .u16 0, .int .u16 0, .int .u16 0, .int .u16 0, .int .u16 0, .int .u16 0, .int .u16 0, .int .u16 0, .int .u16 0, .int .u16 0, .int .u16 0, .int .u16 0, .int .u16 0, .int .u16 0, .int .u16 0, .int .u16 0, .int .u16 0, .int .u16 0, .int .u16 0, .int .u16 0, .int .u16 0, .int .u16 0, .int .u16 0, .int .u16 0, .int .u16 0, .int .u16 0, .int .u16 0, .int .u16 0, .int .u16 0, .int .u16 0, .int .u16 0, .int .u16 0, .int .u16 0, .int .u16 0, .int .u16 0, .int .u16 0, .int .u16 0, .int .u16 0, .int .u16 0, .int .u16 0, .int .u16 0, .int .u16 0, .int .u16 0, .int .u16 0, .int .u16 0, .int .u16 0, .int .u16 0, .int .u16 0, .int .u16 0, .int .u16 0, .int .u16 0, .int .u16 0, .int .u16 0, .int .u16 0, .int .u16 0, .int .u16 0, .int .u16 0, .int .u16 0, .int .u16 0, .int .u16 0, .int .u16 0, .int .u16 0, .int .u16 0, .int .u16 0, .int .u16 0, .int .u16 0, .int .u16 0, .int .u16 0, .int .u16 0, .int .u16 0, .int .u16 0, .int .u16 0, .int .u16 0, .int .u16 0, .int .u16 0, .int .u16 0, .int .u16 0, .int .u16 0, .int .u16 0, .int .u16 0, .int .u16 0, .int .u16 0, .int .u16 0, .int .u16 0, .int .u16 0, .int .u16 0, .int .u16 0, .int .u16 0, .int .u16 0, .int .u16 0, .int .u16 0, .int .u16 0, .int .u16 0, .int .u16 0, .int .u16 0, .int .u16 0, .int .u16 0, .int .u16 0, .int .u16 0, .int .u16 0, .int .u16 0, .int .u16 0, .int .u16 0, .int .u16 0, .int .u16 0, .int .u16 0, .int .u16 0, .int .u16 0, .int .u16 0, .int .u16 0, .int .u16 0, .int .u16 0, .int .u16 0, .int .u16 0, .int .u16 0, .int .u16 0, .int .u16 0, .int .u16 0, .int .u16 0, .int .u16 0, .int .u16 0, .int .u16 0, .int .u16 0, .int .u16 0, .int .u16 0, .int .u16 0, .int .u16 0, .int .u16 0, .int .u16 0, .int .u16 0, .int .u16 0, .int .u16 0, .int .u16 0, .int .u16 0, .int .u16 0, .int .u16 0, .int .u16 0, .int .u16 0, .int .u16 0, .int .u16 0, .int .u16 0, .int .u16 0, .int .u16 0, .int .u16 0, .int .u16 0, .int .u16 0, .int .u16 0, .int .u16 0, .int .u16 0, .int .u16 0, .int .u16 0, .int .u16 0, .int .u16 0, .int .u16 0, .int .u16 0, .int .u16 0, .int .u16 0, .int .u16 0, .int .u16 0, .int .u16 0, .int .u16 0, .int .u16 0, .int .u16 0, .int .u16 0, .int .u16 0, .int .u16 0, .int .u16 0, .int .u16 0, .int .u16 0, .int .u16 0, .int .u16 0, .int .u16 0, .int .u16 0, .int .u16 0, .int .u16 0] := ⟨fun _ => by kernel_rfl⟩
instance : TRw Try.prog 118 256 [.int .u16 0, .int .u16 0, .int .u16 0, .int .u16 0, .int .u16 0, .int .u16 0, .int .u16 0, .int .u16 0, .int .u16 0, .int .u16 0, .int .u16 0, .int .u16 0, .int .u16 0, .int .u16 0, .int .u16 0, .int .u16 0, .int .u16 0, .int .u16 0, .int .u16 0, .int .u16 0, .int .u16 0, .int .u16 0, .int .u16 0, .int .u16 0, .int .u16 0, .int .u16 0, .int .u16 0, .int .u16 0, .int .u16 0, .int .u16 0, .int .u16 0, .int .u16 0, .int .u16 0, .int .u16 0, .int .u16 0, .int .u16 0, .int .u16 0, .int .u16 0, .int .u16 0, .int .u16 0, .int .u16 0, .int .u16 0, .int .u16 0, .int .u16 0, .int .u16 0, .int .u16 0, .int .u16 0, .int .u16 0, .int .u16 0, .int .u16 0, .int .u16 0, .int .u16 0, .int .u16 0, .int .u16 0, .int .u16 0, .int .u16 0, .int .u16 0, .int .u16 0, .int .u16 0, .int .u16 0, .int .u16 0, .int .u16 0, .int .u16 0, .int .u16 0, .int .u16 0, .int .u16 0, .int .u16 0, .int .u16 0, .int .u16 0, .int .u16 0, .int .u16 0, .int .u16 0, .int .u16 0, .int .u16 0, .int .u16 0, .int .u16 0, .int .u16 0, .int .u16 0, .int .u16 0, .int .u16 0, .int .u16 0, .int .u16 0, .int .u16 0, .int .u16 0, .int .u16 0, .int .u16 0, .int .u16 0, .int .u16 0, .int .u16 0, .int .u16 0, .int .u16 0, .int .u16 0, .int .u16 0, .int .u16 0, .int .u16 0, .int .u16 0, .int .u16 0, .int .u16 0, .int .u16 0, .int .u16 0, .int .u16 0, .int .u16 0, .int .u16 0, .int .u16 0, .int .u16 0, .int .u16 0, .int .u16 0, .int .u16 0, .int .u16 0, .int .u16 0, .int .u16 0, .int .u16 0, .int .u16 0, .int .u16 0, .int .u16 0, .int .u16 0, .int .u16 0, .int .u16 0, .int .u16 0, .int .u16 0, .int .u16 0, .int .u16 0, .int .u16 0, .int .u16 0, .int .u16 0, .int .u16 0, .int .u16 0, .int .u16 0, .int .u16 0, .int .u16 0, .int .u16 0, .int .u16 0, .int .u16 0, .int .u16 0, .int .u16 0, .int .u16 0, .int .u16 0, .int .u16 0, .int .u16 0, .int .u16 0, .int .u16 0, .int .u16 0, .int .u16 0, .int .u16 0, .int .u16 0, .int .u16 0, .int .u16 0, .int .u16 0, .int .u16 0, .int .u16 0, .int .u16 0, .int .u16 0, .int .u16 0, .int .u16 0, .int .u16 0, .int .u16 0, .int .u16 0, .int .u16 0, .int .u16 0, .int .u16 0, .int .u16 0, .int .u16 0, .int .u16 0, .int .u16 0, .int .u16 0, .int .u16 0, .int .u16 0, .int .u16 0, .int .u16 0, .int .u16 0, .int .u16 0, .int .u16 0, .int .u16 0, .int .u16 0, .int .u16 0, .int .u16 0, .int .u16 0, .int .u16 0, .int .u16 0, .int .u16 0, .int .u16 0, .int .u16 0, .int .u16 0, .int .u16 0, .int .u16 0, .int .u16 0, .int .u16 0, .int .u16 0, .int .u16 0, .int .u16 0, .int .u16 0, .int .u16 0, .int .u16 0, .int .u16 0, .int .u16 0, .int .u16 0, .int .u16 0, .int .u16 0, .int .u16 0, .int .u16 0, .int .u16 0, .int .u16 0, .int .u16 0, .int .u16 0, .int .u16 0, .int .u16 0, .int .u16 0, .int .u16 0, .int .u16 0, .int .u16 0, .int .u16 0, .int .u16 0, .int .u16 0, .int .u16 0, .int .u16 0, .int .u16 0, .int .u16 0, .int .u16 0, .int .u16 0, .int .u16 0, .int .u16 0, .int .u16 0, .int .u16 0, .int .u16 0, .int .u16 0, .int .u16 0, .int .u16 0, .int .u16 0, .int .u16 0, .int .u16 0, .int .u16 0, .int .u16 0, .int .u16 0, .int .u16 0, .int .u16 0, .int .u16 0, .int .u16 0, .int .u16 0, .int .u16 0, .int .u16 0, .int .u16 0, .int .u16 0, .int .u16 0, .int .u16 0, .int .u16 0, .int .u16 0, .int .u16 0, .int .u16 0, .int .u16 0, .int .u16 0, .int .u16 0, .int .u16 0, .int .u16 0, .int .u16 0, .int .u16 0, .int .u16 0] := ⟨by kernel_rfl, by kernel_rfl, rfl, by decide⟩
instance : TBd Try.prog 119 (fun i => some (i * 1, 1)) [.int .u16 0, .int .u16 0, .int .u16 0, .int .u16 0, .int .u16 0, .int .u16 0, .int .u16 0, .int .u16 0, .int .u16 0, .int .u16 0, .int .u16 0, .int .u16 0, .int .u16 0, .int .u16 0, .int .u16 0, .int .u16 0, .int .u16 0, .int .u16 0, .int .u16 0, .int .u16 0, .int .u16 0, .int .u16 0, .int .u16 0, .int .u16 0, .int .u16 0, .int .u16 0, .int .u16 0, .int .u16 0, .int .u16 0, .int .u16 0, .int .u16 0, .int .u16 0, .int .u16 0, .int .u16 0, .int .u16 0, .int .u16 0, .int .u16 0, .int .u16 0, .int .u16 0, .int .u16 0, .int .u16 0, .int .u16 0, .int .u16 0, .int .u16 0, .int .u16 0, .int .u16 0, .int .u16 0, .int .u16 0, .int .u16 0, .int .u16 0, .int .u16 0, .int .u16 0, .int .u16 0, .int .u16 0, .int .u16 0, .int .u16 0, .int .u16 0, .int .u16 0, .int .u16 0, .int .u16 0, .int .u16 0, .int .u16 0, .int .u16 0, .int .u16 0, .int .u16 0, .int .u16 0, .int .u16 0, .int .u16 0, .int .u16 0, .int .u16 0, .int .u16 0, .int .u16 0, .int .u16 0, .int .u16 0, .int .u16 0, .int .u16 0, .int .u16 0, .int .u16 0, .int .u16 0, .int .u16 0, .int .u16 0, .int .u16 0, .int .u16 0, .int .u16 0, .int .u16 0, .int .u16 0, .int .u16 0, .int .u16 0, .int .u16 0, .int .u16 0, .int .u16 0, .int .u16 0, .int .u16 0, .int .u16 0, .int .u16 0, .int .u16 0, .int .u16 0, .int .u16 0, .int .u16 0, .int .u16 0, .int .u16 0, .int .u16 0, .int .u16 0, .int .u16 0, .int .u16 0, .int .u16 0, .int .u16 0, .int .u16 0, .int .u16 0, .int .u16 0, .int .u16 0, .int .u16 0, .int .u16 0, .int .u16 0, .int .u16 0, .int .u16 0, .int .u16 0, .int .u16 0, .int .u16 0, .int .u16 0, .int .u16 0, .int .u16 0, .int .u16 0, .int .u16 0, .int .u16 0, .int .u16 0, .int .u16 0, .int .u16 0, .int .u16 0, .int .u16 0, .int .u16 0, .int .u16 0, .int .u16 0, .int .u16 0, .int .u16 0, .int .u16 0, .int .u16 0, .int .u16 0, .int .u16 0, .int .u16 0, .int .u16 0, .int .u16 0, .int .u16 0, .int .u16 0, .int .u16 0, .int .u16 0, .int .u16 0, .int .u16 0, .int .u16 0, .int .u16 0, .int .u16 0, .int .u16 0, .int .u16 0, .int .u16 0, .int .u16 0, .int .u16 0, .int .u16 0, .int .u16 0, .int .u16 0, .int .u16 0, .int .u16 0, .int .u16 0, .int .u16 0, .int .u16 0, .int .u16 0, .int .u16 0, .int .u16 0, .int .u16 0, .int .u16 0, .int .u16 0, .int .u16 0, .int .u16 0, .int .u16 0, .int .u16 0, .int .u16 0, .int .u16 0, .int .u16 0, .int .u16 0, .int .u16 0, .int .u16 0, .int .u16 0, .int .u16 0, .int .u16 0, .int .u16 0, .int .u16 0, .int .u16 0, .int .u16 0, .int .u16 0, .int .u16 0, .int .u16 0, .int .u16 0, .int .u16 0, .int .u16 0, .int .u16 0, .int .u16 0, .int .u16 0, .int .u16 0, .int .u16 0, .int .u16 0, .int .u16 0, .int .u16 0, .int .u16 0, .int .u16 0, .int .u16 0, .int .u16 0, .int .u16 0, .int .u16 0, .int .u16 0, .int .u16 0, .int .u16 0, .int .u16 0, .int .u16 0, .int .u16 0, .int .u16 0, .int .u16 0, .int .u16 0, .int .u16 0, .int .u16 0, .int .u16 0, .int .u16 0, .int .u16 0, .int .u16 0, .int .u16 0, .int .u16 0, .int .u16 0, .int .u16 0, .int .u16 0, .int .u16 0, .int .u16 0, .int .u16 0, .int .u16 0, .int .u16 0, .int .u16 0, .int .u16 0, .int .u16 0, .int .u16 0, .int .u16 0, .int .u16 0, .int .u16 0, .int .u16 0, .int .u16 0, .int .u16 0, .int .u16 0, .int .u16 0, .int .u16 0, .int .u16 0, .int .u16 0, .int .u16 0, .int .u16 0, .int .u16 0, .int .u16 0, .int .u16 0, .int .u16 0, .int .u16 0, .int .u16 0, .int .u16 0] := ⟨fun _ => by kernel_rfl⟩
instance : TRw Try.prog 119 256 [.int .u16 0, .int .u16 0, .int .u16 0, .int .u16 0, .int .u16 0, .int .u16 0, .int .u16 0, .int .u16 0, .int .u16 0, .int .u16 0, .int .u16 0, .int .u16 0, .int .u16 0, .int .u16 0, .int .u16 0, .int .u16 0, .int .u16 0, .int .u16 0, .int .u16 0, .int .u16 0, .int .u16 0, .int .u16 0, .int .u16 0, .int .u16 0, .int .u16 0, .int .u16 0, .int .u16 0, .int .u16 0, .int .u16 0, .int .u16 0, .int .u16 0, .int .u16 0, .int .u16 0, .int .u16 0, .int .u16 0, .int .u16 0, .int .u16 0, .int .u16 0, .int .u16 0, .int .u16 0, .int .u16 0, .int .u16 0, .int .u16 0, .int .u16 0, .int .u16 0, .int .u16 0, .int .u16 0, .int .u16 0, .int .u16 0, .int .u16 0, .int .u16 0, .int .u16 0, .int .u16 0, .int .u16 0, .int .u16 0, .int .u16 0, .int .u16 0, .int .u16 0, .int .u16 0, .int .u16 0, .int .u16 0, .int .u16 0, .int .u16 0, .int .u16 0, .int .u16 0, .int .u16 0, .int .u16 0, .int .u16 0, .int .u16 0, .int .u16 0, .int .u16 0, .int .u16 0, .int .u16 0, .int .u16 0, .int .u16 0, .int .u16 0, .int .u16 0, .int .u16 0, .int .u16 0, .int .u16 0, .int .u16 0, .int .u16 0, .int .u16 0, .int .u16 0, .int .u16 0, .int .u16 0, .int .u16 0, .int .u16 0, .int .u16 0, .int .u16 0, .int .u16 0, .int .u16 0, .int .u16 0, .int .u16 0, .int .u16 0, .int .u16 0, .int .u16 0, .int .u16 0, .int .u16 0, .int .u16 0, .int .u16 0, .int .u16 0, .int .u16 0, .int .u16 0, .int .u16 0, .int .u16 0, .int .u16 0, .int .u16 0, .int .u16 0, .int .u16 0, .int .u16 0, .int .u16 0, .int .u16 0, .int .u16 0, .int .u16 0, .int .u16 0, .int .u16 0, .int .u16 0, .int .u16 0, .int .u16 0, .int .u16 0, .int .u16 0, .int .u16 0, .int .u16 0, .int .u16 0, .int .u16 0, .int .u16 0, .int .u16 0, .int .u16 0, .int .u16 0, .int .u16 0, .int .u16 0, .int .u16 0, .int .u16 0, .int .u16 0, .int .u16 0, .int .u16 0, .int .u16 0, .int .u16 0, .int .u16 0, .int .u16 0, .int .u16 0, .int .u16 0, .int .u16 0, .int .u16 0, .int .u16 0, .int .u16 0, .int .u16 0, .int .u16 0, .int .u16 0, .int .u16 0, .int .u16 0, .int .u16 0, .int .u16 0, .int .u16 0, .int .u16 0, .int .u16 0, .int .u16 0, .int .u16 0, .int .u16 0, .int .u16 0, .int .u16 0, .int .u16 0, .int .u16 0, .int .u16 0, .int .u16 0, .int .u16 0, .int .u16 0, .int .u16 0, .int .u16 0, .int .u16 0, .int .u16 0, .int .u16 0, .int .u16 0, .int .u16 0, .int .u16 0, .int .u16 0, .int .u16 0, .int .u16 0, .int .u16 0, .int .u16 0, .int .u16 0, .int .u16 0, .int .u16 0, .int .u16 0, .int .u16 0, .int .u16 0, .int .u16 0, .int .u16 0, .int .u16 0, .int .u16 0, .int .u16 0, .int .u16 0, .int .u16 0, .int .u16 0, .int .u16 0, .int .u16 0, .int .u16 0, .int .u16 0, .int .u16 0, .int .u16 0, .int .u16 0, .int .u16 0, .int .u16 0, .int .u16 0, .int .u16 0, .int .u16 0, .int .u16 0, .int .u16 0, .int .u16 0, .int .u16 0, .int .u16 0, .int .u16 0, .int .u16 0, .int .u16 0, .int .u16 0, .int .u16 0, .int .u16 0, .int .u16 0, .int .u16 0, .int .u16 0, .int .u16 0, .int .u16 0, .int .u16 0, .int .u16 0, .int .u16 0, .int .u16 0, .int .u16 0, .int .u16 0, .int .u16 0, .int .u16 0, .int .u16 0, .int .u16 0, .int .u16 0, .int .u16 0, .int .u16 0, .int .u16 0, .int .u16 0, .int .u16 0, .int .u16 0, .int .u16 0, .int .u16 0, .int .u16 0, .int .u16 0, .int .u16 0, .int .u16 0, .int .u16 0, .int .u16 0, .int .u16 0, .int .u16 0, .int .u16 0, .int .u16 0, .int .u16 0, .int .u16 0, .int .u16 0, .int .u16 0] := ⟨by kernel_rfl, by kernel_rfl, rfl, by decide⟩
instance : TRw Try.prog 120 1 [.nilFunc] := ⟨by kernel_rfl, by kernel_rfl, rfl, by decide⟩
instance : TRw Try.prog 121 1 [.nilFunc] := ⟨by kernel_rfl, by kernel_rfl, rfl, by decide⟩
instance : TRw Try.prog 122 1 [.nilFunc] := ⟨by kernel_rfl, by kernel_rfl, rfl, by decide⟩
instance : TRw Try.prog 123 1 [.nilFunc] := ⟨by kernel_rfl, by kernel_rfl, rfl, by decide⟩
instance : TRw Try.prog 124 1 [.nilFunc] := ⟨by kernel_rfl, by kernel_rfl, rfl, by decide⟩
instance : TRw Try.prog 125 1 [.nilFunc] := ⟨by kernel_rfl, by kernel_rfl, rfl, by decide⟩
instance : TRw Try.prog 127 1 [.nilFunc] := ⟨by kernel_rfl, by kernel_rfl, rfl, by decide⟩
instance : TRw Try.prog 129 1 [.nilFunc] := ⟨by kernel_rfl, by kernel_rfl, rfl, by decide⟩
instance : TRw Try.prog 130 1 [.nilFunc] := ⟨by kernel_rfl, by kernel_rfl, rfl, by decide⟩
instance : TRw Try.prog 131 1 [.nilFunc] := ⟨by kernel_rfl, by kernel_rfl, rfl, by decide⟩
instance : TRw Try.prog 132 1 [.nilFunc] := ⟨by kernel_rfl, by kernel_rfl, rfl, by decide⟩
instance : TRw Try.prog 133 1 [.nilFunc] := ⟨by kernel_rfl, by kernel_rfl, rfl, by decide⟩
instance : TRw Try.prog 134 1 [.nilFunc] := ⟨by kernel_rfl, by kernel_rfl, rfl, by decide⟩
instance : TBd Try.prog 135 (fun i => some (i * 1, 1)) [.int .u8 0, .int .u8 0, .int .u8 0, .int .u8 0] := ⟨fun _ => by kernel_rfl⟩
instance : TRw Try.prog 135 4 [.int .u8 0, .int .u8 0, .int .u8 0, .int .u8 0] := ⟨by kernel_rfl, by kernel_rfl, rfl, by decide⟩
instance : TRw Try.prog 136 1 [.nilFunc] := ⟨by kernel_rfl, by kernel_rfl, rfl, by decide⟩
instance : TRw Try.prog 142 1 [.nilFunc] := ⟨by kernel_rfl, by kernel_rfl, rfl, by decide⟩
instance : TRw Try.prog 146 1 [.pointer none] := ⟨by kernel_rfl, by kernel_rfl, rfl, by decide⟩
theorem eqt_5 : EqT Try.prog 1 5 false [.i .u8] := eqt_int (by kernel_rfl) inferInstance
theorem eqt_100 : EqT Try.prog 2 100 true [.i .u8, .i .u8] := eqt_structL (L := [(true, 0, 5), (true, 1, 5)]) (by kernel_rfl) (by kernel_rfl) inferInstance (.cons eqt_5 (by decide) rfl rfl (.cons eqt_5 (by decide) rfl rfl (.nil)))
instance : TQ Try.prog 100 [.i .u8, .i .u8] := ⟨⟨_, by decide, eqt_100⟩, by kernel_rfl⟩
theorem eqt_101 : EqT Try.prog 2 101 true [.i .u8, .i .u8] := eqt_structL (L := [(true, 0, 5), (true, 1, 5)]) (by kernel_rfl) (by kernel_rfl) inferInstance (.cons eqt_5 (by decide) rfl rfl (.cons eqt_5 (by decide) rfl rfl (.nil)))
instance : TQ Try.prog 101 [.i .u8, .i .u8] := ⟨⟨_, by decide, eqt_101⟩, by kernel_rfl⟩
theorem eqt_3 : EqT Try.prog 1 3 false [.i .i64] := eqt_int (by kernel_rfl) inferInstance
theorem eqt_102 : EqT Try.prog 2 102 true [.i .i64, .i .i64] := eqt_structL (L := [(true, 0, 3), (true, 1, 3)]) (by kernel_rfl) (by kernel_rfl) inferInstance (.cons eqt_3 (by decide) rfl rfl (.cons eqt_3 (by decide) rfl rfl (.nil)))
instance : TQ Try.prog 102 [.i .i64, .i .i64] := ⟨⟨_, by decide, eqt_102⟩, by kernel_rfl⟩
theorem eqt_103 : EqT Try.prog 2 103 true [.i .i64, .i .i64] := eqt_structL (L := [(true, 0, 3), (true, 1, 3)]) (by kernel_rfl) (by kernel_rfl) inferInstance (.cons eqt_3 (by decide) rfl rfl (.cons eqt_3 (by decide) rfl rfl (.nil)))
instance : TQ Try.prog 103 [.i .i64, .i .i64] := ⟨⟨_, by decide, eqt_103⟩, by kernel_rfl⟩
theorem eqt_109 : EqT Try.prog 2 109 true [.i .u8, .i .u8, .i .i64, .i .i64] := eqt_structL (L := [(true, 0, 5), (true, 1, 5), (true, 2, 3), (true, 3, 3)]) (by kernel_rfl) (by kernel_rfl) inferInstance (.cons eqt_5 (by decide) rfl rfl (.cons eqt_5 (by decide) rfl rfl (.cons eqt_3 (by decide) rfl rfl (.cons eqt_3 (by decide) rfl rfl (.nil)))))
instance : TQ Try.prog 109 [.i .u8, .i .u8, .i .i64, .i .i64] := ⟨⟨_, by decide, eqt_109⟩, by kernel_rfl⟩
theorem eqt_110 : EqT Try.prog 2 110 true [.i .u8, .i .u8, .i .i64, .i .i64] := eqt_structL (L := [(true, 0, 5), (true, 1, 5), (true, 2, 3), (true, 3, 3)]) (by kernel_rfl) (by kernel_rfl) inferInstance (.cons eqt_5 (by decide) rfl rfl (.cons eqt_5 (by decide) rfl rfl (.cons eqt_3 (by decide) rfl rfl (.cons eqt_3 (by decide) rfl rfl (.nil)))))
instance : TQ Try.prog 110 [.i .u8, .i .u8, .i .i64, .i .i64] := ⟨⟨_, by decide, eqt_110⟩, by kernel_rfl⟩
theorem eqt_135 : EqT Try.prog 2 135 true [.i .u8, .i .u8, .i .u8, .i .u8] := eqt_array (n := 4) (by kernel_rfl) eqt_5 (by kernel_rfl) inferInstance
instance : TQ Try.prog 135 [.i .u8, .i .u8, .i .u8, .i .u8] := ⟨⟨_, by decide, eqt_135⟩, by kernel_rfl⟩
instance : CF Try.prog 3 := ⟨fun _ _ => by kernel_rfl⟩
instance : CF Try.prog 4 := ⟨fun _ _ => by kernel_rfl⟩
instance : CF Try.prog 5 := ⟨fun _ _ => by kernel_rfl⟩
instance : CF Try.prog 6 := ⟨fun _ _ => by kernel_rfl⟩
instance : CF Try.prog 7 := ⟨fun _ _ => by kernel_rfl⟩
instance : CF Try.prog 8 := ⟨fun _ _ => by kernel_rfl⟩
instance : CF Try.prog 9 := ⟨fun _ _ => by kernel_rfl⟩
instance : CF Try.prog 10 := ⟨fun _ _ => by kernel_rfl⟩
instance : CF Try.prog 11 := ⟨fun _ _ => by kernel_rfl⟩
instance : CF Try.prog 12 := ⟨fun _ _ => by kernel_rfl⟩
instance : CF Try.prog 13 := ⟨fun _ _ => by kernel_rfl⟩
instance : CF Try.prog 14 := ⟨fun _ _ => by kernel_rfl⟩
instance : CF Try.prog 15 := ⟨fun _ _ => by kernel_rfl⟩
instance : CF Try.prog 16 := ⟨fun _ _ => by kernel_rfl⟩
instance : CF Try.prog 17 := ⟨fun _ _ => by kernel_rfl⟩
instance : CF Try.prog 18 := ⟨fun _ _ => by kernel_rfl⟩
instance : CF Try.prog 19 := ⟨fun _ _ => by kernel_rfl⟩
instance : CF Try.prog 20 := ⟨fun _ _ => by kernel_rfl⟩
instance : CF Try.prog 21 := ⟨fun _ _ => by kernel_rfl⟩
instance : CF Try.prog 22 := ⟨fun _ _ => by kernel_rfl⟩
instance : CF Try.prog 23 := ⟨fun _ _ => by kernel_rfl⟩
instance : CF Try.prog 24 := ⟨fun _ _ => by kernel_rfl⟩
instance : CF Try.prog 25 := ⟨fun _ _ => by kernel_rfl⟩
instance : CF Try.prog 26 := ⟨fun _ _ => by kernel_rfl⟩
instance : CF Try.prog 27 := ⟨fun _ _ => by kernel_rfl⟩
instance : CF Try.prog 28 := ⟨fun _ _ => by kernel_rfl⟩
instance : CF Try.prog 29 := ⟨fun _ _ => by kernel_rfl⟩
instance : CF Try.prog 30 := ⟨fun _ _ => by kernel_rfl⟩
instance : CF Try.prog 31 := ⟨fun _ _ => by kernel_rfl⟩
instance : CF Try.prog 32 := ⟨fun _ _ => by kernel_rfl⟩
instance : CF Try.prog 33 := ⟨fun _ _ => by kernel_rfl⟩
instance : CF Try.prog 34 := ⟨fun _ _ => by kernel_rfl⟩
instance : CF Try.prog 35 := ⟨fun _ _ => by kernel_rfl⟩
instance : CF Try.prog 36 := ⟨fun _ _ => by kernel_rfl⟩
instance : CF Try.prog 37 := ⟨fun _ _ => by kernel_rfl⟩
instance : CF Try.prog 38 := ⟨fun _ _ => by kernel_rfl⟩
instance : CF Try.prog 39 := ⟨fun _ _ => by kernel_rfl⟩
instance : CF Try.prog 40 := ⟨fun _ _ => by kernel_rfl⟩
instance : CF Try.prog 41 := ⟨fun _ _ => by kernel_rfl⟩
instance : CF Try.prog 42 := ⟨fun _ _ => by kernel_rfl⟩
instance : CF Try.prog 43 := ⟨fun _ _ => by kernel_rfl⟩
instance : CF Try.prog 44 := ⟨fun _ _ => by kernel_rfl⟩
instance : CF Try.prog 45 := ⟨fun _ _ => by kernel_rfl⟩
instance : CF Try.prog 46 := ⟨fun _ _ => by kernel_rfl⟩
instance : CF Try.prog 47 := ⟨fun _ _ => by kernel_rfl⟩
instance : CF Try.prog 48 := ⟨fun _ _ => by kernel_rfl⟩
instance : CF Try.prog 49 := ⟨fun _ _ => by kernel_rfl⟩
instance : CF Try.prog 50 := ⟨fun _ _ => by kernel_rfl⟩
instance : CF Try.prog 51 := ⟨fun _ _ => by kernel_rfl⟩
instance : CF Try.prog 52 := ⟨fun _ _ => by kernel_rfl⟩
instance : CF Try.prog 53 := ⟨fun _ _ => by kernel_rfl⟩
instance : CF Try.prog 54 := ⟨fun _ _ => by kernel_rfl⟩
instance : CF Try.prog 55 := ⟨fun _ _ => by kernel_rfl⟩
instance : CF Try.prog 56 := ⟨fun _ _ => by kernel_rfl⟩
instance : CF Try.prog 57 := ⟨fun _ _ => by kernel_rfl⟩
instance : CF Try.prog 58 := ⟨fun _ _ => by kernel_rfl⟩
instance : CF Try.prog 59 := ⟨fun _ _ => by kernel_rfl⟩
instance : CF Try.prog 60 := ⟨fun _ _ => by kernel_rfl⟩
instance : CF Try.prog 61 := ⟨fun _ _ => by kernel_rfl⟩
instance : CF Try.prog 62 := ⟨fun _ _ => by kernel_rfl⟩
instance : CF Try.prog 63 := ⟨fun _ _ => by kernel_rfl⟩
instance : CF Try.prog 64 := ⟨fun _ _ => by kernel_rfl⟩
instance : CF Try.prog 65 := ⟨fun _ _ => by kernel_rfl⟩
instance : CF Try.prog 66 := ⟨fun _ _ => by kernel_rfl⟩
instance : CF Try.prog 67 := ⟨fun _ _ => by kernel_rfl⟩
instance : CF Try.prog 68 := ⟨fun _ _ => by kernel_rfl⟩
instance : CF Try.prog 69 := ⟨fun _ _ => by kernel_rfl⟩
instance : CF Try.prog 70 := ⟨fun _ _ => by kernel_rfl⟩
instance : CF Try.prog 71 := ⟨fun _ _ => by kernel_rfl⟩
instance : CF Try.prog 72 := ⟨fun _ _ => by kernel_rfl⟩
instance : CF Try.prog 73 := ⟨fun _ _ => by kernel_rfl⟩
instance : CF Try.prog 74 := ⟨fun _ _ => by kernel_rfl⟩
instance : CF Try.prog 75 := ⟨fun _ _ => by kernel_rfl⟩
instance : CF Try.prog 77 := ⟨fun _ _ => by kernel_rfl⟩
instance : CF Try.prog 78 := ⟨fun _ _ => by kernel_rfl⟩
theorem followsMixed : Try.prog.follows .mixedOrders = true := by kernel_rfl
end Go.Proofs.Ytpblllkkcpahgaa
