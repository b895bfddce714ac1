/- Facts on the types and functions of the translation, as instances. -/
import Derived.Test.YtjbjnkjilgndmaaProg
import Derived.Test.YtjbjnkjilgndmaaSq
namespace Go.Proofs.Ytjbjnkjilgndmaa
set_option maxRecDepth 100000
instance : TL Try.prog 1 false 1 := ⟨by kernel_rfl, by kernel_rfl⟩
instance : TB Try.prog 1 8 := ⟨by kernel_rfl⟩
instance : TL Try.prog 2 false 1 := ⟨by kernel_rfl, by kernel_rfl⟩
instance : TZ Try.prog 2 [.int .i64 0] := ⟨by kernel_rfl⟩
instance : TB Try.prog 2 8 := ⟨by kernel_rfl⟩
instance : TI Try.prog 2 .i64 := ⟨by kernel_rfl⟩
instance : TL Try.prog 3 false 1 := ⟨by kernel_rfl, by kernel_rfl⟩
instance : TZ Try.prog 3 [.int .i64 0] := ⟨by kernel_rfl⟩
instance : TB Try.prog 3 8 := ⟨by kernel_rfl⟩
instance : TI Try.prog 3 .i64 := ⟨by kernel_rfl⟩
instance : TL Try.prog 4 false 1 := ⟨by kernel_rfl, by kernel_rfl⟩
instance : TZ Try.prog 4 [.bool false] := ⟨by kernel_rfl⟩
instance : TB Try.prog 4 1 := ⟨by kernel_rfl⟩
instance : TO Try.prog 4 := ⟨by kernel_rfl⟩
instance : TL Try.prog 5 false 1 := ⟨by kernel_rfl, by kernel_rfl⟩
instance : TZ Try.prog 5 [.int .u8 0] := ⟨by kernel_rfl⟩
instance : TB Try.prog 5 1 := ⟨by kernel_rfl⟩
instance : TI Try.prog 5 .u8 := ⟨by kernel_rfl⟩
instance : TL Try.prog 9 false 1 := ⟨by kernel_rfl, by kernel_rfl⟩
instance : TZ Try.prog 9 [.string ⟨#[]⟩] := ⟨by kernel_rfl⟩
instance : TB Try.prog 9 16 := ⟨by kernel_rfl⟩
instance : TL Try.prog 21 false 1 := ⟨by kernel_rfl, by kernel_rfl⟩
instance : TZ Try.prog 21 [.int .i32 0] := ⟨by kernel_rfl⟩
instance : TB Try.prog 21 4 := ⟨by kernel_rfl⟩
instance : TI Try.prog 21 .i32 := ⟨by kernel_rfl⟩
instance : TL Try.prog 22 false 1 := ⟨by kernel_rfl, by kernel_rfl⟩
instance : TB Try.prog 22 8 := ⟨by kernel_rfl⟩
instance : TL Try.prog 23 false 1 := ⟨by kernel_rfl, by kernel_rfl⟩
instance : TZ Try.prog 23 [.pointer none] := ⟨by kernel_rfl⟩
instance : TB Try.prog 23 8 := ⟨by kernel_rfl⟩
instance : TL Try.prog 24 false 1 := ⟨by kernel_rfl, by kernel_rfl⟩
instance : TZ Try.prog 24 [.int .i64 0] := ⟨by kernel_rfl⟩
instance : TB Try.prog 24 8 := ⟨by kernel_rfl⟩
instance : TI Try.prog 24 .i64 := ⟨by kernel_rfl⟩
instance : TL Try.prog 26 false 1 := ⟨by kernel_rfl, by kernel_rfl⟩
instance : TB Try.prog 26 8 := ⟨by kernel_rfl⟩
instance : TL Try.prog 27 false 1 := ⟨by kernel_rfl, by kernel_rfl⟩
instance : TB Try.prog 27 8 := ⟨by kernel_rfl⟩
instance : TL Try.prog 28 false 1 := ⟨by kernel_rfl, by kernel_rfl⟩
instance : TB Try.prog 28 8 := ⟨by kernel_rfl⟩
instance : TL Try.prog 30 false 1 := ⟨by kernel_rfl, by kernel_rfl⟩
instance : TB Try.prog 30 8 := ⟨by kernel_rfl⟩
instance : TL Try.prog 31 false 1 := ⟨by kernel_rfl, by kernel_rfl⟩
instance : TB Try.prog 31 8 := ⟨by kernel_rfl⟩
instance : TL Try.prog 32 false 1 := ⟨by kernel_rfl, by kernel_rfl⟩
instance : TZ Try.prog 32 [.slice none 0 0] := ⟨by kernel_rfl⟩
instance : TB Try.prog 32 24 := ⟨by kernel_rfl⟩
instance : TS Try.prog 32 3 := ⟨by kernel_rfl⟩
instance : TL Try.prog 33 false 1 := ⟨by kernel_rfl, by kernel_rfl⟩
instance : TZ Try.prog 33 [.pointer none] := ⟨by kernel_rfl⟩
instance : TB Try.prog 33 8 := ⟨by kernel_rfl⟩
instance : TL Try.prog 35 false 1 := ⟨by kernel_rfl, by kernel_rfl⟩
instance : TB Try.prog 35 8 := ⟨by kernel_rfl⟩
instance : TL Try.prog 36 false 1 := ⟨by kernel_rfl, by kernel_rfl⟩
instance : TB Try.prog 36 8 := ⟨by kernel_rfl⟩
instance : TL Try.prog 38 false 1 := ⟨by kernel_rfl, by kernel_rfl⟩
instance : TB Try.prog 38 8 := ⟨by kernel_rfl⟩
instance : TL Try.prog 39 false 1 := ⟨by kernel_rfl, by kernel_rfl⟩
instance : TB Try.prog 39 8 := ⟨by kernel_rfl⟩
instance : TL Try.prog 40 false 1 := ⟨by kernel_rfl, by kernel_rfl⟩
instance : TB Try.prog 40 8 := ⟨by kernel_rfl⟩
instance : TL Try.prog 41 false 1 := ⟨by kernel_rfl, by kernel_rfl⟩
instance : TB Try.prog 41 8 := ⟨by kernel_rfl⟩
instance : TL Try.prog 42 false 1 := ⟨by kernel_rfl, by kernel_rfl⟩
instance : TB Try.prog 42 8 := ⟨by kernel_rfl⟩
instance : TL Try.prog 43 false 1 := ⟨by kernel_rfl, by kernel_rfl⟩
instance : TZ Try.prog 43 [.int .u16 0] := ⟨by kernel_rfl⟩
instance : TB Try.prog 43 2 := ⟨by kernel_rfl⟩
instance : TI Try.prog 43 .u16 := ⟨by kernel_rfl⟩
instance : TL Try.prog 44 false 1 := ⟨by kernel_rfl, by kernel_rfl⟩
instance : TZ Try.prog 44 [.pointer none] := ⟨by kernel_rfl⟩
instance : TB Try.prog 44 8 := ⟨by kernel_rfl⟩
instance : TL Try.prog 46 false 1 := ⟨by kernel_rfl, by kernel_rfl⟩
instance : TB Try.prog 46 8 := ⟨by kernel_rfl⟩
instance : TL Try.prog 47 false 1 := ⟨by kernel_rfl, by kernel_rfl⟩
instance : TB Try.prog 47 8 := ⟨by kernel_rfl⟩
instance : TL Try.prog 48 false 1 := ⟨by kernel_rfl, by kernel_rfl⟩
instance : TZ Try.prog 48 [.int .u32 0] := ⟨by kernel_rfl⟩
instance : TB Try.prog 48 4 := ⟨by kernel_rfl⟩
instance : TI Try.prog 48 .u32 := ⟨by kernel_rfl⟩
instance : TL Try.prog 49 false 1 := ⟨by kernel_rfl, by kernel_rfl⟩
instance : TZ Try.prog 49 [.slice none 0 0] := ⟨by kernel_rfl⟩
instance : TB Try.prog 49 24 := ⟨by kernel_rfl⟩
instance : TS Try.prog 49 53 := ⟨by kernel_rfl⟩
instance : TL Try.prog 50 false 1 := ⟨by kernel_rfl, by kernel_rfl⟩
instance : TB Try.prog 50 8 := ⟨by kernel_rfl⟩
instance : TL Try.prog 51 false 1 := ⟨by kernel_rfl, by kernel_rfl⟩
instance : TZ Try.prog 51 [.slice none 0 0] := ⟨by kernel_rfl⟩
instance : TB Try.prog 51 24 := ⟨by kernel_rfl⟩
instance : TS Try.prog 51 5 := ⟨by kernel_rfl⟩
instance : TL Try.prog 52 true 5 := ⟨by kernel_rfl, by kernel_rfl⟩
instance : TZ Try.prog 52 [.int .u8 0, .int .u8 0, .int .u16 0, .int .u32 0, .slice none 0 0] := ⟨by kernel_rfl⟩
instance : TB Try.prog 52 32 := ⟨by kernel_rfl⟩
instance : TF Try.prog 52 0 0 5 := ⟨by kernel_rfl⟩
instance : TF Try.prog 52 1 1 5 := ⟨by kernel_rfl⟩
instance : TF Try.prog 52 2 2 43 := ⟨by kernel_rfl⟩
instance : TF Try.prog 52 3 3 48 := ⟨by kernel_rfl⟩
instance : TF Try.prog 52 4 4 51 := ⟨by kernel_rfl⟩
instance : TL Try.prog 53 true 5 := ⟨by kernel_rfl, by kernel_rfl⟩
instance : TZ Try.prog 53 [.int .u8 0, .int .u8 0, .int .u16 0, .int .u32 0, .slice none 0 0] := ⟨by kernel_rfl⟩
instance : TB Try.prog 53 32 := ⟨by kernel_rfl⟩
instance : TF Try.prog 53 0 0 5 := ⟨by kernel_rfl⟩
instance : TF Try.prog 53 1 1 5 := ⟨by kernel_rfl⟩
instance : TF Try.prog 53 2 2 43 := ⟨by kernel_rfl⟩
instance : TF Try.prog 53 3 3 48 := ⟨by kernel_rfl⟩
instance : TF Try.prog 53 4 4 51 := ⟨by kernel_rfl⟩
instance : TL Try.prog 54 false 1 := ⟨by kernel_rfl, by kernel_rfl⟩
instance : TB Try.prog 54 8 := ⟨by kernel_rfl⟩
instance : TL Try.prog 55 false 1 := ⟨by kernel_rfl, by kernel_rfl⟩
instance : TB Try.prog 55 8 := ⟨by kernel_rfl⟩
instance : TL Try.prog 56 false 1 := ⟨by kernel_rfl, by kernel_rfl⟩
instance : TB Try.prog 56 8 := ⟨by kernel_rfl⟩
instance : TL Try.prog 57 false 1 := ⟨by kernel_rfl, by kernel_rfl⟩
instance : TZ Try.prog 57 [.slice none 0 0] := ⟨by kernel_rfl⟩
instance : TB Try.prog 57 24 := ⟨by kernel_rfl⟩
instance : TS Try.prog 57 62 := ⟨by kernel_rfl⟩
instance : TL Try.prog 58 false 1 := ⟨by kernel_rfl, by kernel_rfl⟩
instance : TZ Try.prog 58 [.pointer none] := ⟨by kernel_rfl⟩
instance : TB Try.prog 58 8 := ⟨by kernel_rfl⟩
instance : TL Try.prog 59 true 4 := ⟨by kernel_rfl, by kernel_rfl⟩
instance : TZ Try.prog 59 [.slice none 0 0, .int .i64 0, .int .i64 0, .int .i64 0] := ⟨by kernel_rfl⟩
instance : TB Try.prog 59 48 := ⟨by kernel_rfl⟩
instance : TF Try.prog 59 0 0 32 := ⟨by kernel_rfl⟩
instance : TF Try.prog 59 1 1 3 := ⟨by kernel_rfl⟩
instance : TF Try.prog 59 2 2 3 := ⟨by kernel_rfl⟩
instance : TF Try.prog 59 3 3 3 := ⟨by kernel_rfl⟩
instance : TL Try.prog 60 true 4 := ⟨by kernel_rfl, by kernel_rfl⟩
instance : TZ Try.prog 60 [.slice none 0 0, .int .i64 0, .int .i64 0, .int .i64 0] := ⟨by kernel_rfl⟩
instance : TB Try.prog 60 48 := ⟨by kernel_rfl⟩
instance : TF Try.prog 60 0 0 32 := ⟨by kernel_rfl⟩
instance : TF Try.prog 60 1 1 3 := ⟨by kernel_rfl⟩
instance : TF Try.prog 60 2 2 3 := ⟨by kernel_rfl⟩
instance : TF Try.prog 60 3 3 3 := ⟨by kernel_rfl⟩
instance : TL Try.prog 61 true 3 := ⟨by kernel_rfl, by kernel_rfl⟩
instance : TZ Try.prog 61 [.int .u8 0, .int .i64 0, .int .i64 0] := ⟨by kernel_rfl⟩
instance : TB Try.prog 61 24 := ⟨by kernel_rfl⟩
instance : TF Try.prog 61 0 0 5 := ⟨by kernel_rfl⟩
instance : TF Try.prog 61 1 1 3 := ⟨by kernel_rfl⟩
instance : TF Try.prog 61 2 2 3 := ⟨by kernel_rfl⟩
instance : TL Try.prog 62 true 3 := ⟨by kernel_rfl, by kernel_rfl⟩
instance : TZ Try.prog 62 [.int .u8 0, .int .i64 0, .int .i64 0] := ⟨by kernel_rfl⟩
instance : TB Try.prog 62 24 := ⟨by kernel_rfl⟩
instance : TF Try.prog 62 0 0 5 := ⟨by kernel_rfl⟩
instance : TF Try.prog 62 1 1 3 := ⟨by kernel_rfl⟩
instance : TF Try.prog 62 2 2 3 := ⟨by kernel_rfl⟩
instance : TL Try.prog 64 false 1 := ⟨by kernel_rfl, by kernel_rfl⟩
instance : TB Try.prog 64 8 := ⟨by kernel_rfl⟩
instance : TL Try.prog 65 false 1 := ⟨by kernel_rfl, by kernel_rfl⟩
instance : TB Try.prog 65 8 := ⟨by kernel_rfl⟩
instance : TL Try.prog 67 false 1 := ⟨by kernel_rfl, by kernel_rfl⟩
instance : TB Try.prog 67 8 := ⟨by kernel_rfl⟩
instance : TL Try.prog 68 false 1 := ⟨by kernel_rfl, by kernel_rfl⟩
instance : TB Try.prog 68 8 := ⟨by kernel_rfl⟩
instance : TL Try.prog 69 false 1 := ⟨by kernel_rfl, by kernel_rfl⟩
instance : TZ Try.prog 69 [.pointer none] := ⟨by kernel_rfl⟩
instance : TB Try.prog 69 8 := ⟨by kernel_rfl⟩
instance : TL Try.prog 71 false 1 := ⟨by kernel_rfl, by kernel_rfl⟩
instance : TB Try.prog 71 8 := ⟨by kernel_rfl⟩
instance : TL Try.prog 72 false 1 := ⟨by kernel_rfl, by kernel_rfl⟩
instance : TB Try.prog 72 8 := ⟨by kernel_rfl⟩
instance : TL Try.prog 73 false 1 := ⟨by kernel_rfl, by kernel_rfl⟩
instance : TB Try.prog 73 8 := ⟨by kernel_rfl⟩
instance : TL Try.prog 74 false 1 := ⟨by kernel_rfl, by kernel_rfl⟩
instance : TZ Try.prog 74 [.pointer none] := ⟨by kernel_rfl⟩
instance : TB Try.prog 74 8 := ⟨by kernel_rfl⟩
instance : TL Try.prog 76 false 1 := ⟨by kernel_rfl, by kernel_rfl⟩
instance : TB Try.prog 76 8 := ⟨by kernel_rfl⟩
instance : TL Try.prog 77 true 5 := ⟨by kernel_rfl, by kernel_rfl⟩
instance : TZ Try.prog 77 [.int .u32 0, .int .u32 0, .int .u8 0, .int .u8 0, .int .u32 0] := ⟨by kernel_rfl⟩
instance : TB Try.prog 77 16 := ⟨by kernel_rfl⟩
instance : TF Try.prog 77 0 0 48 := ⟨by kernel_rfl⟩
instance : TF Try.prog 77 1 1 48 := ⟨by kernel_rfl⟩
instance : TF Try.prog 77 2 2 5 := ⟨by kernel_rfl⟩
instance : TF Try.prog 77 3 3 5 := ⟨by kernel_rfl⟩
instance : TF Try.prog 77 4 4 48 := ⟨by kernel_rfl⟩
instance : TL Try.prog 78 true 5 := ⟨by kernel_rfl, by kernel_rfl⟩
instance : TZ Try.prog 78 [.int .u32 0, .int .u32 0, .int .u8 0, .int .u8 0, .int .u32 0] := ⟨by kernel_rfl⟩
instance : TB Try.prog 78 16 := ⟨by kernel_rfl⟩
instance : TF Try.prog 78 0 0 48 := ⟨by kernel_rfl⟩
instance : TF Try.prog 78 1 1 48 := ⟨by kernel_rfl⟩
instance : TF Try.prog 78 2 2 5 := ⟨by kernel_rfl⟩
instance : TF Try.prog 78 3 3 5 := ⟨by kernel_rfl⟩
instance : TF Try.prog 78 4 4 48 := ⟨by kernel_rfl⟩
instance : TL Try.prog 79 false 1 := ⟨by kernel_rfl, by kernel_rfl⟩
instance : TB Try.prog 79 8 := ⟨by kernel_rfl⟩
instance : TL Try.prog 80 false 1 := ⟨by kernel_rfl, by kernel_rfl⟩
instance : TZ Try.prog 80 [.slice none 0 0] := ⟨by kernel_rfl⟩
instance : TB Try.prog 80 24 := ⟨by kernel_rfl⟩
instance : TS Try.prog 80 78 := ⟨by kernel_rfl⟩
instance : TL Try.prog 81 false 1 := ⟨by kernel_rfl, by kernel_rfl⟩
instance : TB Try.prog 81 8 := ⟨by kernel_rfl⟩
instance : TL Try.prog 82 false 1 := ⟨by kernel_rfl, by kernel_rfl⟩
instance : TB Try.prog 82 8 := ⟨by kernel_rfl⟩
instance : TL Try.prog 83 false 1 := ⟨by kernel_rfl, by kernel_rfl⟩
instance : TB Try.prog 83 8 := ⟨by kernel_rfl⟩
instance : TL Try.prog 84 false 1 := ⟨by kernel_rfl, by kernel_rfl⟩
instance : TB Try.prog 84 8 := ⟨by kernel_rfl⟩
instance : TL Try.prog 85 false 1 := ⟨by kernel_rfl, by kernel_rfl⟩
instance : TB Try.prog 85 8 := ⟨by kernel_rfl⟩
instance : TL Try.prog 86 false 1 := ⟨by kernel_rfl, by kernel_rfl⟩
instance : TB Try.prog 86 8 := ⟨by kernel_rfl⟩
instance : TL Try.prog 87 false 1 := ⟨by kernel_rfl, by kernel_rfl⟩
instance : TB Try.prog 87 8 := ⟨by kernel_rfl⟩
instance : TL Try.prog 88 false 1 := ⟨by kernel_rfl, by kernel_rfl⟩
instance : TB Try.prog 88 8 := ⟨by kernel_rfl⟩
instance : TL Try.prog 89 false 1 := ⟨by kernel_rfl, by kernel_rfl⟩
instance : TZ Try.prog 89 [.slice none 0 0] := ⟨by kernel_rfl⟩
instance : TB Try.prog 89 24 := ⟨by kernel_rfl⟩
instance : TS Try.prog 89 90 := ⟨by kernel_rfl⟩
instance : TL Try.prog 90 true 5 := ⟨by kernel_rfl, by kernel_rfl⟩
instance : TZ Try.prog 90 [.int .u32 0, .int .u32 0, .int .u8 0, .int .u8 0, .int .u32 0] := ⟨by kernel_rfl⟩
instance : TB Try.prog 90 16 := ⟨by kernel_rfl⟩
instance : TF Try.prog 90 0 0 48 := ⟨by kernel_rfl⟩
instance : TF Try.prog 90 1 1 48 := ⟨by kernel_rfl⟩
instance : TF Try.prog 90 2 2 5 := ⟨by kernel_rfl⟩
instance : TF Try.prog 90 3 3 5 := ⟨by kernel_rfl⟩
instance : TF Try.prog 90 4 4 48 := ⟨by kernel_rfl⟩
instance : TL Try.prog 92 false 1 := ⟨by kernel_rfl, by kernel_rfl⟩
instance : TB Try.prog 92 8 := ⟨by kernel_rfl⟩
instance : TL Try.prog 93 false 1 := ⟨by kernel_rfl, by kernel_rfl⟩
instance : TB Try.prog 93 8 := ⟨by kernel_rfl⟩
instance : TL Try.prog 94 false 1 := ⟨by kernel_rfl, by kernel_rfl⟩
instance : TB Try.prog 94 8 := ⟨by kernel_rfl⟩
instance : TL Try.prog 95 false 1 := ⟨by kernel_rfl, by kernel_rfl⟩
instance : TB Try.prog 95 8 := ⟨by kernel_rfl⟩
instance : TL Try.prog 96 false 1 := ⟨by kernel_rfl, by kernel_rfl⟩
instance : TB Try.prog 96 8 := ⟨by kernel_rfl⟩
instance : TL Try.prog 97 false 1 := ⟨by kernel_rfl, by kernel_rfl⟩
instance : TB Try.prog 97 8 := ⟨by kernel_rfl⟩
instance : TL Try.prog 98 false 1 := ⟨by kernel_rfl, by kernel_rfl⟩
instance : TZ Try.prog 98 [.slice none 0 0] := ⟨by kernel_rfl⟩
instance : TB Try.prog 98 24 := ⟨by kernel_rfl⟩
instance : TS Try.prog 98 104 := ⟨by kernel_rfl⟩
instance : TL Try.prog 99 false 1 := ⟨by kernel_rfl, by kernel_rfl⟩
instance : TZ Try.prog 99 [.pointer none] := ⟨by kernel_rfl⟩
instance : TB Try.prog 99 8 := ⟨by kernel_rfl⟩
instance : TL Try.prog 100 false 1 := ⟨by kernel_rfl, by kernel_rfl⟩
instance : TZ Try.prog 100 [.slice none 0 0] := ⟨by kernel_rfl⟩
instance : TB Try.prog 100 24 := ⟨by kernel_rfl⟩
instance : TS Try.prog 100 108 := ⟨by kernel_rfl⟩
instance : TL Try.prog 101 true 4 := ⟨by kernel_rfl, by kernel_rfl⟩
instance : TZ Try.prog 101 [.slice none 0 0, .int .i64 0, .int .i64 0, .int .u16 0] := ⟨by kernel_rfl⟩
instance : TB Try.prog 101 48 := ⟨by kernel_rfl⟩
instance : TF Try.prog 101 0 0 100 := ⟨by kernel_rfl⟩
instance : TF Try.prog 101 1 1 3 := ⟨by kernel_rfl⟩
instance : TF Try.prog 101 2 2 3 := ⟨by kernel_rfl⟩
instance : TF Try.prog 101 3 3 43 := ⟨by kernel_rfl⟩
instance : TL Try.prog 102 true 4 := ⟨by kernel_rfl, by kernel_rfl⟩
instance : TZ Try.prog 102 [.slice none 0 0, .int .i64 0, .int .i64 0, .int .u16 0] := ⟨by kernel_rfl⟩
instance : TB Try.prog 102 48 := ⟨by kernel_rfl⟩
instance : TF Try.prog 102 0 0 100 := ⟨by kernel_rfl⟩
instance : TF Try.prog 102 1 1 3 := ⟨by kernel_rfl⟩
instance : TF Try.prog 102 2 2 3 := ⟨by kernel_rfl⟩
instance : TF Try.prog 102 3 3 43 := ⟨by kernel_rfl⟩
instance : TL Try.prog 103 true 6 := ⟨by kernel_rfl, by kernel_rfl⟩
instance : TZ Try.prog 103 [.int .u8 0, .int .u8 0, .int .u8 0, .int .u32 0, .slice none 0 0, .int .i64 0] := ⟨by kernel_rfl⟩
instance : TB Try.prog 103 40 := ⟨by kernel_rfl⟩
instance : TF Try.prog 103 0 0 5 := ⟨by kernel_rfl⟩
instance : TF Try.prog 103 1 1 5 := ⟨by kernel_rfl⟩
instance : TF Try.prog 103 2 2 5 := ⟨by kernel_rfl⟩
instance : TF Try.prog 103 3 3 48 := ⟨by kernel_rfl⟩
instance : TF Try.prog 103 4 4 51 := ⟨by kernel_rfl⟩
instance : TF Try.prog 103 5 5 3 := ⟨by kernel_rfl⟩
instance : TL Try.prog 104 true 6 := ⟨by kernel_rfl, by kernel_rfl⟩
instance : TZ Try.prog 104 [.int .u8 0, .int .u8 0, .int .u8 0, .int .u32 0, .slice none 0 0, .int .i64 0] := ⟨by kernel_rfl⟩
instance : TB Try.prog 104 40 := ⟨by kernel_rfl⟩
instance : TF Try.prog 104 0 0 5 := ⟨by kernel_rfl⟩
instance : TF Try.prog 104 1 1 5 := ⟨by kernel_rfl⟩
instance : TF Try.prog 104 2 2 5 := ⟨by kernel_rfl⟩
instance : TF Try.prog 104 3 3 48 := ⟨by kernel_rfl⟩
instance : TF Try.prog 104 4 4 51 := ⟨by kernel_rfl⟩
instance : TF Try.prog 104 5 5 3 := ⟨by kernel_rfl⟩
instance : TL Try.prog 106 false 1 := ⟨by kernel_rfl, by kernel_rfl⟩
instance : TB Try.prog 106 8 := ⟨by kernel_rfl⟩
instance : TL Try.prog 107 false 1 := ⟨by kernel_rfl, by kernel_rfl⟩
instance : TB Try.prog 107 8 := ⟨by kernel_rfl⟩
instance : TL Try.prog 108 true 5 := ⟨by kernel_rfl, by kernel_rfl⟩
instance : TZ Try.prog 108 [.int .u8 0, .int .u8 0, .int .u16 0, .int .u32 0, .slice none 0 0] := ⟨by kernel_rfl⟩
instance : TB Try.prog 108 32 := ⟨by kernel_rfl⟩
instance : TF Try.prog 108 0 0 5 := ⟨by kernel_rfl⟩
instance : TF Try.prog 108 1 1 5 := ⟨by kernel_rfl⟩
instance : TF Try.prog 108 2 2 43 := ⟨by kernel_rfl⟩
instance : TF Try.prog 108 3 3 48 := ⟨by kernel_rfl⟩
instance : TF Try.prog 108 4 4 51 := ⟨by kernel_rfl⟩
instance : TL Try.prog 109 false 1 := ⟨by kernel_rfl, by kernel_rfl⟩
instance : TB Try.prog 109 8 := ⟨by kernel_rfl⟩
instance : TL Try.prog 110 false 1 := ⟨by kernel_rfl, by kernel_rfl⟩
instance : TB Try.prog 110 8 := ⟨by kernel_rfl⟩
instance : TL Try.prog 112 false 1 := ⟨by kernel_rfl, by kernel_rfl⟩
instance : TB Try.prog 112 8 := ⟨by kernel_rfl⟩
instance : TL Try.prog 114 false 1 := ⟨by kernel_rfl, by kernel_rfl⟩
instance : TB Try.prog 114 8 := ⟨by kernel_rfl⟩
instance : TL Try.prog 115 false 1 := ⟨by kernel_rfl, by kernel_rfl⟩
instance : TB Try.prog 115 8 := ⟨by kernel_rfl⟩
instance : TL Try.prog 116 false 1 := ⟨by kernel_rfl, by kernel_rfl⟩
instance : TB Try.prog 116 8 := ⟨by kernel_rfl⟩
instance : TL Try.prog 117 true 5 := ⟨by kernel_rfl, by kernel_rfl⟩
instance : TZ Try.prog 117 [.slice none 0 0, .int .i64 0, .int .i64 0, .int .i64 0, .int .i64 0] := ⟨by kernel_rfl⟩
instance : TB Try.prog 117 56 := ⟨by kernel_rfl⟩
instance : TF Try.prog 117 0 0 51 := ⟨by kernel_rfl⟩
instance : TF Try.prog 117 1 1 3 := ⟨by kernel_rfl⟩
instance : TF Try.prog 117 2 2 3 := ⟨by kernel_rfl⟩
instance : TF Try.prog 117 3 3 3 := ⟨by kernel_rfl⟩
instance : TF Try.prog 117 4 4 3 := ⟨by kernel_rfl⟩
instance : TL Try.prog 118 true 5 := ⟨by kernel_rfl, by kernel_rfl⟩
instance : TZ Try.prog 118 [.slice none 0 0, .int .i64 0, .int .i64 0, .int .i64 0, .int .i64 0] := ⟨by kernel_rfl⟩
instance : TB Try.prog 118 56 := ⟨by kernel_rfl⟩
instance : TF Try.prog 118 0 0 51 := ⟨by kernel_rfl⟩
instance : TF Try.prog 118 1 1 3 := ⟨by kernel_rfl⟩
instance : TF Try.prog 118 2 2 3 := ⟨by kernel_rfl⟩
instance : TF Try.prog 118 3 3 3 := ⟨by kernel_rfl⟩
instance : TF Try.prog 118 4 4 3 := ⟨by kernel_rfl⟩
instance : TL Try.prog 119 false 1 := ⟨by kernel_rfl, by kernel_rfl⟩
instance : TB Try.prog 119 8 := ⟨by kernel_rfl⟩
instance : TL Try.prog 120 false 1 := ⟨by kernel_rfl, by kernel_rfl⟩
instance : TB Try.prog 120 8 := ⟨by kernel_rfl⟩
instance : TL Try.prog 121 true 5 := ⟨by kernel_rfl, by kernel_rfl⟩
instance : TZ Try.prog 121 [.slice none 0 0, .int .i64 0, .int .i64 0, .int .i64 0, .int .i64 0] := ⟨by kernel_rfl⟩
instance : TB Try.prog 121 56 := ⟨by kernel_rfl⟩
instance : TF Try.prog 121 0 0 32 := ⟨by kernel_rfl⟩
instance : TF Try.prog 121 1 1 3 := ⟨by kernel_rfl⟩
instance : TF Try.prog 121 2 2 3 := ⟨by kernel_rfl⟩
instance : TF Try.prog 121 3 3 3 := ⟨by kernel_rfl⟩
instance : TF Try.prog 121 4 4 3 := ⟨by kernel_rfl⟩
instance : TL Try.prog 122 true 5 := ⟨by kernel_rfl, by kernel_rfl⟩
instance : TZ Try.prog 122 [.slice none 0 0, .int .i64 0, .int .i64 0, .int .i64 0, .int .i64 0] := ⟨by kernel_rfl⟩
instance : TB Try.prog 122 56 := ⟨by kernel_rfl⟩
instance : TF Try.prog 122 0 0 32 := ⟨by kernel_rfl⟩
instance : TF Try.prog 122 1 1 3 := ⟨by kernel_rfl⟩
instance : TF Try.prog 122 2 2 3 := ⟨by kernel_rfl⟩
instance : TF Try.prog 122 3 3 3 := ⟨by kernel_rfl⟩
instance : TF Try.prog 122 4 4 3 := ⟨by kernel_rfl⟩
instance : TL Try.prog 123 false 1 := ⟨by kernel_rfl, by kernel_rfl⟩
instance : TB Try.prog 123 8 := ⟨by kernel_rfl⟩
instance : TL Try.prog 124 false 1 := ⟨by kernel_rfl, by kernel_rfl⟩
instance : TB Try.prog 124 8 := ⟨by kernel_rfl⟩
instance : TL Try.prog 125 false 1 := ⟨by kernel_rfl, by kernel_rfl⟩
instance : TB Try.prog 125 8 := ⟨by kernel_rfl⟩
instance : TL Try.prog 126 false 1 := ⟨by kernel_rfl, by kernel_rfl⟩
instance : TZ Try.prog 126 [.pointer none] := ⟨by kernel_rfl⟩
instance : TB Try.prog 126 8 := ⟨by kernel_rfl⟩
instance : TL Try.prog 128 false 1 := ⟨by kernel_rfl, by kernel_rfl⟩
instance : TB Try.prog 128 8 := ⟨by kernel_rfl⟩
instance : TL Try.prog 129 true 2 := ⟨by kernel_rfl, by kernel_rfl⟩
instance : TZ Try.prog 129 [.pointer none, .int .u16 0] := ⟨by kernel_rfl⟩
instance : TB Try.prog 129 16 := ⟨by kernel_rfl⟩
instance : TF Try.prog 129 0 0 126 := ⟨by kernel_rfl⟩
instance : TF Try.prog 129 1 1 43 := ⟨by kernel_rfl⟩
instance : TL Try.prog 130 true 2 := ⟨by kernel_rfl, by kernel_rfl⟩
instance : TZ Try.prog 130 [.pointer none, .int .u16 0] := ⟨by kernel_rfl⟩
instance : TB Try.prog 130 16 := ⟨by kernel_rfl⟩
instance : TF Try.prog 130 0 0 126 := ⟨by kernel_rfl⟩
instance : TF Try.prog 130 1 1 43 := ⟨by kernel_rfl⟩
instance : TL Try.prog 131 false 1 := ⟨by kernel_rfl, by kernel_rfl⟩
instance : TB Try.prog 131 8 := ⟨by kernel_rfl⟩
instance : TL Try.prog 132 false 1 := ⟨by kernel_rfl, by kernel_rfl⟩
instance : TB Try.prog 132 8 := ⟨by kernel_rfl⟩
instance : TL Try.prog 134 false 1 := ⟨by kernel_rfl, by kernel_rfl⟩
instance : TB Try.prog 134 8 := ⟨by kernel_rfl⟩
instance : TL Try.prog 135 false 1 := ⟨by kernel_rfl, by kernel_rfl⟩
instance : TB Try.prog 135 8 := ⟨by kernel_rfl⟩
instance : TL Try.prog 136 false 1 := ⟨by kernel_rfl, by kernel_rfl⟩
instance : TZ Try.prog 136 [.slice none 0 0] := ⟨by kernel_rfl⟩
instance : TB Try.prog 136 24 := ⟨by kernel_rfl⟩
instance : TS Try.prog 136 9 := ⟨by kernel_rfl⟩
instance : TL Try.prog 137 true 5 := ⟨by kernel_rfl, by kernel_rfl⟩
instance : TZ Try.prog 137 [.slice none 0 0, .int .i64 0, .int .i64 0, .int .i64 0, .int .i64 0] := ⟨by kernel_rfl⟩
instance : TB Try.prog 137 56 := ⟨by kernel_rfl⟩
instance : TF Try.prog 137 0 0 136 := ⟨by kernel_rfl⟩
instance : TF Try.prog 137 1 1 3 := ⟨by kernel_rfl⟩
instance : TF Try.prog 137 2 2 3 := ⟨by kernel_rfl⟩
instance : TF Try.prog 137 3 3 3 := ⟨by kernel_rfl⟩
instance : TF Try.prog 137 4 4 3 := ⟨by kernel_rfl⟩
instance : TL Try.prog 138 true 5 := ⟨by kernel_rfl, by kernel_rfl⟩
instance : TZ Try.prog 138 [.slice none 0 0, .int .i64 0, .int .i64 0, .int .i64 0, .int .i64 0] := ⟨by kernel_rfl⟩
instance : TB Try.prog 138 56 := ⟨by kernel_rfl⟩
instance : TF Try.prog 138 0 0 136 := ⟨by kernel_rfl⟩
instance : TF Try.prog 138 1 1 3 := ⟨by kernel_rfl⟩
instance : TF Try.prog 138 2 2 3 := ⟨by kernel_rfl⟩
instance : TF Try.prog 138 3 3 3 := ⟨by kernel_rfl⟩
instance : TF Try.prog 138 4 4 3 := ⟨by kernel_rfl⟩
instance : TL Try.prog 139 false 1 := ⟨by kernel_rfl, by kernel_rfl⟩
instance : TZ Try.prog 139 [.pointer none] := ⟨by kernel_rfl⟩
instance : TB Try.prog 139 8 := ⟨by kernel_rfl⟩
instance : TL Try.prog 141 false 1 := ⟨by kernel_rfl, by kernel_rfl⟩
instance : TB Try.prog 141 8 := ⟨by kernel_rfl⟩
instance : TL Try.prog 142 true 2 := ⟨by kernel_rfl, by kernel_rfl⟩
instance : TZ Try.prog 142 [.pointer none, .int .u32 0] := ⟨by kernel_rfl⟩
instance : TB Try.prog 142 16 := ⟨by kernel_rfl⟩
instance : TF Try.prog 142 0 0 139 := ⟨by kernel_rfl⟩
instance : TF Try.prog 142 1 1 48 := ⟨by kernel_rfl⟩
instance : TL Try.prog 143 true 2 := ⟨by kernel_rfl, by kernel_rfl⟩
instance : TZ Try.prog 143 [.pointer none, .int .u32 0] := ⟨by kernel_rfl⟩
instance : TB Try.prog 143 16 := ⟨by kernel_rfl⟩
instance : TF Try.prog 143 0 0 139 := ⟨by kernel_rfl⟩
instance : TF Try.prog 143 1 1 48 := ⟨by kernel_rfl⟩
instance : TL Try.prog 144 false 1 := ⟨by kernel_rfl, by kernel_rfl⟩
instance : TB Try.prog 144 8 := ⟨by kernel_rfl⟩
instance : TL Try.prog 145 false 1 := ⟨by kernel_rfl, by kernel_rfl⟩
instance : TB Try.prog 145 8 := ⟨by kernel_rfl⟩
instance : TL Try.prog 146 false 1 := ⟨by kernel_rfl, by kernel_rfl⟩
instance : TB Try.prog 146 8 := ⟨by kernel_rfl⟩
instance : TL Try.prog 147 false 1 := ⟨by kernel_rfl, by kernel_rfl⟩
instance : TB Try.prog 147 8 := ⟨by kernel_rfl⟩
instance : TL Try.prog 148 false 1 := ⟨by kernel_rfl, by kernel_rfl⟩
instance : TB Try.prog 148 8 := ⟨by kernel_rfl⟩
instance : TL Try.prog 149 false 1 := ⟨by kernel_rfl, by kernel_rfl⟩
instance : TB Try.prog 149 8 := ⟨by kernel_rfl⟩
instance : TL Try.prog 150 false 1 := ⟨by kernel_rfl, by kernel_rfl⟩
instance : TB Try.prog 150 8 := ⟨by kernel_rfl⟩
instance : TL Try.prog 151 false 1 := ⟨by kernel_rfl, by kernel_rfl⟩
instance : TB Try.prog 151 8 := ⟨by kernel_rfl⟩
instance : TL Try.prog 152 false 1 := ⟨by kernel_rfl, by kernel_rfl⟩
instance : TB Try.prog 152 8 := ⟨by kernel_rfl⟩
instance : TL Try.prog 153 false 1 := ⟨by kernel_rfl, by kernel_rfl⟩
instance : TZ Try.prog 153 [.slice none 0 0] := ⟨by kernel_rfl⟩
instance : TB Try.prog 153 24 := ⟨by kernel_rfl⟩
instance : TS Try.prog 153 48 := ⟨by kernel_rfl⟩
instance : TL Try.prog 155 false 1 := ⟨by kernel_rfl, by kernel_rfl⟩
instance : TB Try.prog 155 8 := ⟨by kernel_rfl⟩
instance : TL Try.prog 156 false 1 := ⟨by kernel_rfl, by kernel_rfl⟩
instance : TB Try.prog 156 8 := ⟨by kernel_rfl⟩
instance : TL Try.prog 157 false 1 := ⟨by kernel_rfl, by kernel_rfl⟩
instance : TB Try.prog 157 8 := ⟨by kernel_rfl⟩
instance : TL Try.prog 158 false 1 := ⟨by kernel_rfl, by kernel_rfl⟩
instance : TZ Try.prog 158 [.int .u64 0] := ⟨by kernel_rfl⟩
instance : TB Try.prog 158 8 := ⟨by kernel_rfl⟩
instance : TI Try.prog 158 .u64 := ⟨by kernel_rfl⟩
instance : TL Try.prog 159 false 1 := ⟨by kernel_rfl, by kernel_rfl⟩
instance : TB Try.prog 159 8 := ⟨by kernel_rfl⟩
instance : TL Try.prog 160 true 5 := ⟨by kernel_rfl, by kernel_rfl⟩
instance : TZ Try.prog 160 [.slice none 0 0, .int .i64 0, .int .i64 0, .int .i64 0, .int .i64 0] := ⟨by kernel_rfl⟩
instance : TB Try.prog 160 56 := ⟨by kernel_rfl⟩
instance : TF Try.prog 160 0 0 49 := ⟨by kernel_rfl⟩
instance : TF Try.prog 160 1 1 3 := ⟨by kernel_rfl⟩
instance : TF Try.prog 160 2 2 3 := ⟨by kernel_rfl⟩
instance : TF Try.prog 160 3 3 3 := ⟨by kernel_rfl⟩
instance : TF Try.prog 160 4 4 3 := ⟨by kernel_rfl⟩
instance : TL Try.prog 161 true 5 := ⟨by kernel_rfl, by kernel_rfl⟩
instance : TZ Try.prog 161 [.slice none 0 0, .int .i64 0, .int .i64 0, .int .i64 0, .int .i64 0] := ⟨by kernel_rfl⟩
instance : TB Try.prog 161 56 := ⟨by kernel_rfl⟩
instance : TF Try.prog 161 0 0 49 := ⟨by kernel_rfl⟩
instance : TF Try.prog 161 1 1 3 := ⟨by kernel_rfl⟩
instance : TF Try.prog 161 2 2 3 := ⟨by kernel_rfl⟩
instance : TF Try.prog 161 3 3 3 := ⟨by kernel_rfl⟩
instance : TF Try.prog 161 4 4 3 := ⟨by kernel_rfl⟩
instance : TL Try.prog 162 false 1 := ⟨by kernel_rfl, by kernel_rfl⟩
instance : TB Try.prog 162 8 := ⟨by kernel_rfl⟩
instance : TL Try.prog 163 true 5 := ⟨by kernel_rfl, by kernel_rfl⟩
instance : TZ Try.prog 163 [.slice none 0 0, .int .i64 0, .int .i64 0, .int .i64 0, .int .i64 0] := ⟨by kernel_rfl⟩
instance : TB Try.prog 163 56 := ⟨by kernel_rfl⟩
instance : TF Try.prog 163 0 0 80 := ⟨by kernel_rfl⟩
instance : TF Try.prog 163 1 1 3 := ⟨by kernel_rfl⟩
instance : TF Try.prog 163 2 2 3 := ⟨by kernel_rfl⟩
instance : TF Try.prog 163 3 3 3 := ⟨by kernel_rfl⟩
instance : TF Try.prog 163 4 4 3 := ⟨by kernel_rfl⟩
instance : TL Try.prog 164 true 5 := ⟨by kernel_rfl, by kernel_rfl⟩
instance : TZ Try.prog 164 [.slice none 0 0, .int .i64 0, .int .i64 0, .int .i64 0, .int .i64 0] := ⟨by kernel_rfl⟩
instance : TB Try.prog 164 56 := ⟨by kernel_rfl⟩
instance : TF Try.prog 164 0 0 80 := ⟨by kernel_rfl⟩
instance : TF Try.prog 164 1 1 3 := ⟨by kernel_rfl⟩
instance : TF Try.prog 164 2 2 3 := ⟨by kernel_rfl⟩
instance : TF Try.prog 164 3 3 3 := ⟨by kernel_rfl⟩
instance : TF Try.prog 164 4 4 3 := ⟨by kernel_rfl⟩
instance : TL Try.prog 165 false 1 := ⟨by kernel_rfl, by kernel_rfl⟩
instance : TB Try.prog 165 8 := ⟨by kernel_rfl⟩
instance : TL Try.prog 166 false 1 := ⟨by kernel_rfl, by kernel_rfl⟩
instance : TB Try.prog 166 8 := ⟨by kernel_rfl⟩
instance : TL Try.prog 167 false 1 := ⟨by kernel_rfl, by kernel_rfl⟩
instance : TB Try.prog 167 8 := ⟨by kernel_rfl⟩
instance : TL Try.prog 168 false 1 := ⟨by kernel_rfl, by kernel_rfl⟩
instance : TB Try.prog 168 8 := ⟨by kernel_rfl⟩
instance : TL Try.prog 169 false 1 := ⟨by kernel_rfl, by kernel_rfl⟩
instance : TZ Try.prog 169 [.int .u64 0] := ⟨by kernel_rfl⟩
instance : TB Try.prog 169 8 := ⟨by kernel_rfl⟩
instance : TI Try.prog 169 .u64 := ⟨by kernel_rfl⟩
instance : TL Try.prog 170 false 1 := ⟨by kernel_rfl, by kernel_rfl⟩
instance : TZ Try.prog 170 [.slice none 0 0] := ⟨by kernel_rfl⟩
instance : TB Try.prog 170 24 := ⟨by kernel_rfl⟩
instance : TS Try.prog 170 51 := ⟨by kernel_rfl⟩
instance : TL Try.prog 171 false 1 := ⟨by kernel_rfl, by kernel_rfl⟩
instance : TB Try.prog 171 8 := ⟨by kernel_rfl⟩
instance : TL Try.prog 172 false 1 := ⟨by kernel_rfl, by kernel_rfl⟩
instance : TB Try.prog 172 8 := ⟨by kernel_rfl⟩
instance : TL Try.prog 181 false 1 := ⟨by kernel_rfl, by kernel_rfl⟩
instance : TZ Try.prog 181 [.pointer none] := ⟨by kernel_rfl⟩
instance : TB Try.prog 181 8 := ⟨by kernel_rfl⟩
instance : TL Try.prog 186 false 1 := ⟨by kernel_rfl, by kernel_rfl⟩
instance : TB Try.prog 186 8 := ⟨by kernel_rfl⟩
instance : TL Try.prog 187 false 1 := ⟨by kernel_rfl, by kernel_rfl⟩
instance : TB Try.prog 187 8 := ⟨by kernel_rfl⟩
instance : TL Try.prog 188 false 1 := ⟨by kernel_rfl, by kernel_rfl⟩
instance : TB Try.prog 188 8 := ⟨by kernel_rfl⟩
instance : TL Try.prog 189 false 1 := ⟨by kernel_rfl, by kernel_rfl⟩
instance : TB Try.prog 189 8 := ⟨by kernel_rfl⟩
instance : TL Try.prog 190 false 1 := ⟨by kernel_rfl, by kernel_rfl⟩
instance : TB Try.prog 190 8 := ⟨by kernel_rfl⟩
instance : TL Try.prog 191 false 1 := ⟨by kernel_rfl, by kernel_rfl⟩
instance : TB Try.prog 191 8 := ⟨by kernel_rfl⟩
instance : TL Try.prog 192 false 1 := ⟨by kernel_rfl, by kernel_rfl⟩
instance : TB Try.prog 192 8 := ⟨by kernel_rfl⟩
instance : TL Try.prog 193 false 1 := ⟨by kernel_rfl, by kernel_rfl⟩
instance : TB Try.prog 193 8 := ⟨by kernel_rfl⟩
instance : TL Try.prog 194 false 1 := ⟨by kernel_rfl, by kernel_rfl⟩
instance : TB Try.prog 194 8 := ⟨by kernel_rfl⟩
instance : TL Try.prog 195 false 1 := ⟨by kernel_rfl, by kernel_rfl⟩
instance : TB Try.prog 195 8 := ⟨by kernel_rfl⟩
instance : TL Try.prog 197 false 1 := ⟨by kernel_rfl, by kernel_rfl⟩
instance : TB Try.prog 197 8 := ⟨by kernel_rfl⟩
instance : TL Try.prog 198 false 1 := ⟨by kernel_rfl, by kernel_rfl⟩
instance : TB Try.prog 198 8 := ⟨by kernel_rfl⟩
instance : TL Try.prog 199 false 1 := ⟨by kernel_rfl, by kernel_rfl⟩
instance : TB Try.prog 199 8 := ⟨by kernel_rfl⟩
instance : TL Try.prog 200 false 1 := ⟨by kernel_rfl, by kernel_rfl⟩
instance : TB Try.prog 200 8 := ⟨by kernel_rfl⟩
instance : TL Try.prog 201 false 1 := ⟨by kernel_rfl, by kernel_rfl⟩
instance : TB Try.prog 201 8 := ⟨by kernel_rfl⟩
instance : TL Try.prog 202 false 1 := ⟨by kernel_rfl, by kernel_rfl⟩
instance : TB Try.prog 202 8 := ⟨by kernel_rfl⟩
instance : TRw Try.prog 1 1 [.nilFunc] := ⟨by kernel_rfl, by kernel_rfl, rfl, by decide⟩
instance : TRw Try.prog 2 1 [.int .i64 0] := ⟨by kernel_rfl, by kernel_rfl, rfl, by decide⟩
instance : TRw Try.prog 3 1 [.int .i64 0] := ⟨by kernel_rfl, by kernel_rfl, rfl, by decide⟩
instance : TRw Try.prog 4 1 [.bool false] := ⟨by kernel_rfl, by kernel_rfl, rfl, by decide⟩
instance : TRw Try.prog 5 1 [.int .u8 0] := ⟨by kernel_rfl, by kernel_rfl, rfl, by decide⟩
instance : TRw Try.prog 9 1 [.string ⟨#[]⟩] := ⟨by kernel_rfl, by kernel_rfl, rfl, by decide⟩
instance : TRw Try.prog 21 1 [.int .i32 0] := ⟨by kernel_rfl, by kernel_rfl, rfl, by decide⟩
instance : TRw Try.prog 22 1 [.nilFunc] := ⟨by kernel_rfl, by kernel_rfl, rfl, by decide⟩
instance : TRw Try.prog 23 1 [.pointer none] := ⟨by kernel_rfl, by kernel_rfl, rfl, by decide⟩
instance : TRw Try.prog 24 1 [.int .i64 0] := ⟨by kernel_rfl, by kernel_rfl, rfl, by decide⟩
instance : TRw Try.prog 26 1 [.nilFunc] := ⟨by kernel_rfl, by kernel_rfl, rfl, by decide⟩
instance : TRw Try.prog 27 1 [.nilFunc] := ⟨by kernel_rfl, by kernel_rfl, rfl, by decide⟩
instance : TRw Try.prog 28 1 [.nilFunc] := ⟨by kernel_rfl, by kernel_rfl, rfl, by decide⟩
instance : TRw Try.prog 30 1 [.nilFunc] := ⟨by kernel_rfl, by kernel_rfl, rfl, by decide⟩
instance : TRw Try.prog 31 1 [.nilFunc] := ⟨by kernel_rfl, by kernel_rfl, rfl, by decide⟩
instance : TRw Try.prog 32 1 [.slice none 0 0] := ⟨by kernel_rfl, by kernel_rfl, rfl, by decide⟩
instance : TRw Try.prog 33 1 [.pointer none] := ⟨by kernel_rfl, by kernel_rfl, rfl, by decide⟩
instance : TRw Try.prog 35 1 [.nilFunc] := ⟨by kernel_rfl, by kernel_rfl, rfl, by decide⟩
instance : TRw Try.prog 36 1 [.nilFunc] := ⟨by kernel_rfl, by kernel_rfl, rfl, by decide⟩
instance : TRw Try.prog 38 1 [.nilFunc] := ⟨by kernel_rfl, by kernel_rfl, rfl, by decide⟩
instance : TRw Try.prog 39 1 [.nilFunc] := ⟨by kernel_rfl, by kernel_rfl, rfl, by decide⟩
instance : TRw Try.prog 40 1 [.nilFunc] := ⟨by kernel_rfl, by kernel_rfl, rfl, by decide⟩
instance : TRw Try.prog 41 1 [.nilFunc] := ⟨by kernel_rfl, by kernel_rfl, rfl, by decide⟩
instance : TRw Try.prog 42 1 [.nilFunc] := ⟨by kernel_rfl, by kernel_rfl, rfl, by decide⟩
instance : TRw Try.prog 43 1 [.int .u16 0] := ⟨by kernel_rfl, by kernel_rfl, rfl, by decide⟩
instance : TRw Try.prog 44 1 [.pointer none] := ⟨by kernel_rfl, by kernel_rfl, rfl, by decide⟩
instance : TRw Try.prog 46 1 [.nilFunc] := ⟨by kernel_rfl, by kernel_rfl, rfl, by decide⟩
instance : TRw Try.prog 47 1 [.nilFunc] := ⟨by kernel_rfl, by kernel_rfl, rfl, by decide⟩
instance : TRw Try.prog 48 1 [.int .u32 0] := ⟨by kernel_rfl, by kernel_rfl, rfl, by decide⟩
instance : TRw Try.prog 49 1 [.slice none 0 0] := ⟨by kernel_rfl, by kernel_rfl, rfl, by decide⟩
instance : TRw Try.prog 50 1 [.nilFunc] := ⟨by kernel_rfl, by kernel_rfl, rfl, by decide⟩
instance : TRw Try.prog 51 1 [.slice none 0 0] := ⟨by kernel_rfl, by kernel_rfl, rfl, by decide⟩
instance : TBd Try.prog 52 (fun i => #[(0, 1), (1, 1), (2, 1), (3, 1), (4, 1)][i]?) [.int .u8 0, .int .u8 0, .int .u16 0, .int .u32 0, .slice none 0 0] := ⟨fun _ => by kernel_rfl⟩
instance : TRw Try.prog 52 5 [.int .u8 0, .int .u8 0, .int .u16 0, .int .u32 0, .slice none 0 0] := ⟨by kernel_rfl, by kernel_rfl, rfl, by decide⟩
instance : TBd Try.prog 53 (fun i => #[(0, 1), (1, 1), (2, 1), (3, 1), (4, 1)][i]?) [.int .u8 0, .int .u8 0, .int .u16 0, .int .u32 0, .slice none 0 0] := ⟨fun _ => by kernel_rfl⟩
instance : TRw Try.prog 53 5 [.int .u8 0, .int .u8 0, .int .u16 0, .int .u32 0, .slice none 0 0] := ⟨by kernel_rfl, by kernel_rfl, rfl, by decide⟩
instance : TRw Try.prog 54 1 [.nilFunc] := ⟨by kernel_rfl, by kernel_rfl, rfl, by decide⟩
instance : TRw Try.prog 55 1 [.nilFunc] := ⟨by kernel_rfl, by kernel_rfl, rfl, by decide⟩
instance : TRw Try.prog 56 1 [.nilFunc] := ⟨by kernel_rfl, by kernel_rfl, rfl, by decide⟩
instance : TRw Try.prog 57 1 [.slice none 0 0] := ⟨by kernel_rfl, by kernel_rfl, rfl, by decide⟩
instance : TRw Try.prog 58 1 [.pointer none] := ⟨by kernel_rfl, by kernel_rfl, rfl, by decide⟩
instance : TBd Try.prog 59 (fun i => #[(0, 1), (1, 1), (2, 1), (3, 1)][i]?) [.slice none 0 0, .int .i64 0, .int .i64 0, .int .i64 0] := ⟨fun _ => by kernel_rfl⟩
instance : TRw Try.prog 59 4 [.slice none 0 0, .int .i64 0, .int .i64 0, .int .i64 0] := ⟨by kernel_rfl, by kernel_rfl, rfl, by decide⟩
instance : TBd Try.prog 60 (fun i => #[(0, 1), (1, 1), (2, 1), (3, 1)][i]?) [.slice none 0 0, .int .i64 0, .int .i64 0, .int .i64 0] := ⟨fun _ => by kernel_rfl⟩
instance : TRw Try.prog 60 4 [.slice none 0 0, .int .i64 0, .int .i64 0, .int .i64 0] := ⟨by kernel_rfl, by kernel_rfl, rfl, by decide⟩
instance : TBd Try.prog 61 (fun i => #[(0, 1), (1, 1), (2, 1)][i]?) [.int .u8 0, .int .i64 0, .int .i64 0] := ⟨fun _ => by kernel_rfl⟩
instance : TRw Try.prog 61 3 [.int .u8 0, .int .i64 0, .int .i64 0] := ⟨by kernel_rfl, by kernel_rfl, rfl, by decide⟩
instance : TBd Try.prog 62 (fun i => #[(0, 1), (1, 1), (2, 1)][i]?) [.int .u8 0, .int .i64 0, .int .i64 0] := ⟨fun _ => by kernel_rfl⟩
instance : TRw Try.prog 62 3 [.int .u8 0, .int .i64 0, .int .i64 0] := ⟨by kernel_rfl, by kernel_rfl, rfl, by decide⟩
instance : TRw Try.prog 64 1 [.nilFunc] := ⟨by kernel_rfl, by kernel_rfl, rfl, by decide⟩
instance : TRw Try.prog 65 1 [.nilFunc] := ⟨by kernel_rfl, by kernel_rfl, rfl, by decide⟩
instance : TRw Try.prog 67 1 [.nilFunc] := ⟨by kernel_rfl, by kernel_rfl, rfl, by decide⟩
instance : TRw Try.prog 68 1 [.nilFunc] := ⟨by kernel_rfl, by kernel_rfl, rfl, by decide⟩
instance : TRw Try.prog 69 1 [.pointer none] := ⟨by kernel_rfl, by kernel_rfl, rfl, by decide⟩
instance : TRw Try.prog 71 1 [.nilFunc] := ⟨by kernel_rfl, by kernel_rfl, rfl, by decide⟩
instance : TRw Try.prog 72 1 [.nilFunc] := ⟨by kernel_rfl, by kernel_rfl, rfl, by decide⟩
instance : TRw Try.prog 73 1 [.nilFunc] := ⟨by kernel_rfl, by kernel_rfl, rfl, by decide⟩
instance : TRw Try.prog 74 1 [.pointer none] := ⟨by kernel_rfl, by kernel_rfl, rfl, by decide⟩
instance : TRw Try.prog 76 1 [.nilFunc] := ⟨by kernel_rfl, by kernel_rfl, rfl, by decide⟩
instance : TBd Try.prog 77 (fun i => #[(0, 1), (1, 1), (2, 1), (3, 1), (4, 1)][i]?) [.int .u32 0, .int .u32 0, .int .u8 0, .int .u8 0, .int .u32 0] := ⟨fun _ => by kernel_rfl⟩
instance : TRw Try.prog 77 5 [.int .u32 0, .int .u32 0, .int .u8 0, .int .u8 0, .int .u32 0] := ⟨by kernel_rfl, by kernel_rfl, rfl, by decide⟩
instance : TBd Try.prog 78 (fun i => #[(0, 1), (1, 1), (2, 1), (3, 1), (4, 1)][i]?) [.int .u32 0, .int .u32 0, .int .u8 0, .int .u8 0, .int .u32 0] := ⟨fun _ => by kernel_rfl⟩
instance : TRw Try.prog 78 5 [.int .u32 0, .int .u32 0, .int .u8 0, .int .u8 0, .int .u32 0] := ⟨by kernel_rfl, by kernel_rfl, rfl, by decide⟩
instance : TRw Try.prog 79 1 [.nilFunc] := ⟨by kernel_rfl, by kernel_rfl, rfl, by decide⟩
instance : TRw Try.prog 80 1 [.slice none 0 0] := ⟨by kernel_rfl, by kernel_rfl, rfl, by decide⟩
instance : TRw Try.prog 81 1 [.nilFunc] := ⟨by kernel_rfl, by kernel_rfl, rfl, by decide⟩
instance : TRw Try.prog 82 1 [.nilFunc] := ⟨by kernel_rfl, by kernel_rfl, rfl, by decide⟩
instance : TRw Try.prog 83 1 [.nilFunc] := ⟨by kernel_rfl, by kernel_rfl, rfl, by decide⟩
instance : TRw Try.prog 84 1 [.nilFunc] := ⟨by kernel_rfl, by kernel_rfl, rfl, by decide⟩
instance : TRw Try.prog 85 1 [.nilFunc] := ⟨by kernel_rfl, by kernel_rfl, rfl, by decide⟩
instance : TRw Try.prog 86 1 [.nilFunc] := ⟨by kernel_rfl, by kernel_rfl, rfl, by decide⟩
instance : TRw Try.prog 87 1 [.nilFunc] := ⟨by kernel_rfl, by kernel_rfl, rfl, by decide⟩
instance : TRw Try.prog 88 1 [.nilFunc] := ⟨by kernel_rfl, by kernel_rfl, rfl, by decide⟩
instance : TRw Try.prog 89 1 [.slice none 0 0] := ⟨by kernel_rfl, by kernel_rfl, rfl, by decide⟩
instance : TBd Try.prog 90 (fun i => #[(0, 1), (1, 1), (2, 1), (3, 1), (4, 1)][i]?) [.int .u32 0, .int .u32 0, .int .u8 0, .int .u8 0, .int .u32 0] := ⟨fun _ => by kernel_rfl⟩
instance : TRw Try.prog 90 5 [.int .u32 0, .int .u32 0, .int .u8 0, .int .u8 0, .int .u32 0] := ⟨by kernel_rfl, by kernel_rfl, rfl, by decide⟩
instance : TRw Try.prog 92 1 [.nilFunc] := ⟨by kernel_rfl, by kernel_rfl, rfl, by decide⟩
instance : TRw Try.prog 93 1 [.nilFunc] := ⟨by kernel_rfl, by kernel_rfl, rfl, by decide⟩
instance : TRw Try.prog 94 1 [.nilFunc] := ⟨by kernel_rfl, by kernel_rfl, rfl, by decide⟩
instance : TRw Try.prog 95 1 [.nilFunc] := ⟨by kernel_rfl, by kernel_rfl, rfl, by decide⟩
instance : TRw Try.prog 96 1 [.nilFunc] := ⟨by kernel_rfl, by kernel_rfl, rfl, by decide⟩
instance : TRw Try.prog 97 1 [.nilFunc] := ⟨by kernel_rfl, by kernel_rfl, rfl, by decide⟩
instance : TRw Try.prog 98 1 [.slice none 0 0] := ⟨by kernel_rfl, by kernel_rfl, rfl, by decide⟩
instance : TRw Try.prog 99 1 [.pointer none] := ⟨by kernel_rfl, by kernel_rfl, rfl, by decide⟩
instance : TRw Try.prog 100 1 [.slice none 0 0] := ⟨by kernel_rfl, by kernel_rfl, rfl, by decide⟩
instance : TBd Try.prog 101 (fun i => #[(0, 1), (1, 1), (2, 1), (3, 1)][i]?) [.slice none 0 0, .int .i64 0, .int .i64 0, .int .u16 0] := ⟨fun _ => by kernel_rfl⟩
instance : TRw Try.prog 101 4 [.slice none 0 0, .int .i64 0, .int .i64 0, .int .u16 0] := ⟨by kernel_rfl, by kernel_rfl, rfl, by decide⟩
instance : TBd Try.prog 102 (fun i => #[(0, 1), (1, 1), (2, 1), (3, 1)][i]?) [.slice none 0 0, .int .i64 0, .int .i64 0, .int .u16 0] := ⟨fun _ => by kernel_rfl⟩
instance : TRw Try.prog 102 4 [.slice none 0 0, .int .i64 0, .int .i64 0, .int .u16 0] := ⟨by kernel_rfl, by kernel_rfl, rfl, by decide⟩
instance : TBd Try.prog 103 (fun i => #[(0, 1), (1, 1), (2, 1), (3, 1), (4, 1), (5, 1)][i]?) [.int .u8 0, .int .u8 0, .int .u8 0, .int .u32 0, .slice none 0 0, .int .i64 0] := ⟨fun _ => by kernel_rfl⟩
instance : TRw Try.prog 103 6 [.int .u8 0, .int .u8 0, .int .u8 0, .int .u32 0, .slice none 0 0, .int .i64 0] := ⟨by kernel_rfl, by kernel_rfl, rfl, by decide⟩
instance : TBd Try.prog 104 (fun i => #[(0, 1), (1, 1), (2, 1), (3, 1), (4, 1), (5, 1)][i]?) [.int .u8 0, .int .u8 0, .int .u8 0, .int .u32 0, .slice none 0 0, .int .i64 0] := ⟨fun _ => by kernel_rfl⟩
instance : TRw Try.prog 104 6 [.int .u8 0, .int .u8 0, .int .u8 0, .int .u32 0, .slice none 0 0, .int .i64 0] := ⟨by kernel_rfl, by kernel_rfl, rfl, by decide⟩
instance : TRw Try.prog 106 1 [.nilFunc] := ⟨by kernel_rfl, by kernel_rfl, rfl, by decide⟩
instance : TRw Try.prog 107 1 [.nilFunc] := ⟨by kernel_rfl, by kernel_rfl, rfl, by decide⟩
instance : TBd Try.prog 108 (fun i => #[(0, 1), (1, 1), (2, 1), (3, 1), (4, 1)][i]?) [.int .u8 0, .int .u8 0, .int .u16 0, .int .u32 0, .slice none 0 0] := ⟨fun _ => by kernel_rfl⟩
instance : TRw Try.prog 108 5 [.int .u8 0, .int .u8 0, .int .u16 0, .int .u32 0, .slice none 0 0] := ⟨by kernel_rfl, by kernel_rfl, rfl, by decide⟩
instance : TRw Try.prog 109 1 [.nilFunc] := ⟨by kernel_rfl, by kernel_rfl, rfl, by decide⟩
instance : TRw Try.prog 110 1 [.nilFunc] := ⟨by kernel_rfl, by kernel_rfl, rfl, by decide⟩
instance : TRw Try.prog 112 1 [.nilFunc] := ⟨by kernel_rfl, by kernel_rfl, rfl, by decide⟩
instance : TRw Try.prog 114 1 [.nilFunc] := ⟨by kernel_rfl, by kernel_rfl, rfl, by decide⟩
instance : TRw Try.prog 115 1 [.nilFunc] := ⟨by kernel_rfl, by kernel_rfl, rfl, by decide⟩
instance : TRw Try.prog 116 1 [.nilFunc] := ⟨by kernel_rfl, by kernel_rfl, rfl, by decide⟩
instance : TBd Try.prog 117 (fun i => #[(0, 1), (1, 1), (2, 1), (3, 1), (4, 1)][i]?) [.slice none 0 0, .int .i64 0, .int .i64 0, .int .i64 0, .int .i64 0] := ⟨fun _ => by kernel_rfl⟩
instance : TRw Try.prog 117 5 [.slice none 0 0, .int .i64 0, .int .i64 0, .int .i64 0, .int .i64 0] := ⟨by kernel_rfl, by kernel_rfl, rfl, by decide⟩
instance : TBd Try.prog 118 (fun i => #[(0, 1), (1, 1), (2, 1), (3, 1), (4, 1)][i]?) [.slice none 0 0, .int .i64 0, .int .i64 0, .int .i64 0, .int .i64 0] := ⟨fun _ => by kernel_rfl⟩
instance : TRw Try.prog 118 5 [.slice none 0 0, .int .i64 0, .int .i64 0, .int .i64 0, .int .i64 0] := ⟨by kernel_rfl, by kernel_rfl, rfl, by decide⟩
instance : TRw Try.prog 119 1 [.nilFunc] := ⟨by kernel_rfl, by kernel_rfl, rfl, by decide⟩
instance : TRw Try.prog 120 1 [.nilFunc] := ⟨by kernel_rfl, by kernel_rfl, rfl, by decide⟩
instance : TBd Try.prog 121 (fun i => #[(0, 1), (1, 1), (2, 1), (3, 1), (4, 1)][i]?) [.slice none 0 0, .int .i64 0, .int .i64 0, .int .i64 0, .int .i64 0] := ⟨fun _ => by kernel_rfl⟩
instance : TRw Try.prog 121 5 [.slice none 0 0, .int .i64 0, .int .i64 0, .int .i64 0, .int .i64 0] := ⟨by kernel_rfl, by kernel_rfl, rfl, by decide⟩
instance : TBd Try.prog 122 (fun i => #[(0, 1), (1, 1), (2, 1), (3, 1), (4, 1)][i]?) [.slice none 0 0, .int .i64 0, .int .i64 0, .int .i64 0, .int .i64 0] := ⟨fun _ => by kernel_rfl⟩
instance : TRw Try.prog 122 5 [.slice none 0 0, .int .i64 0, .int .i64 0, .int .i64 0, .int .i64 0] := ⟨by kernel_rfl, by kernel_rfl, rfl, by decide⟩
instance : TRw Try.prog 123 1 [.nilFunc] := ⟨by kernel_rfl, by kernel_rfl, rfl, by decide⟩
instance : TRw Try.prog 124 1 [.nilFunc] := ⟨by kernel_rfl, by kernel_rfl, rfl, by decide⟩
instance : TRw Try.prog 125 1 [.nilFunc] := ⟨by kernel_rfl, by kernel_rfl, rfl, by decide⟩
instance : TRw Try.prog 126 1 [.pointer none] := ⟨by kernel_rfl, by kernel_rfl, rfl, by decide⟩
instance : TRw Try.prog 128 1 [.nilFunc] := ⟨by kernel_rfl, by kernel_rfl, rfl, by decide⟩
instance : TBd Try.prog 129 (fun i => #[(0, 1), (1, 1)][i]?) [.pointer none, .int .u16 0] := ⟨fun _ => by kernel_rfl⟩
instance : TRw Try.prog 129 2 [.pointer none, .int .u16 0] := ⟨by kernel_rfl, by kernel_rfl, rfl, by decide⟩
instance : TBd Try.prog 130 (fun i => #[(0, 1), (1, 1)][i]?) [.pointer none, .int .u16 0] := ⟨fun _ => by kernel_rfl⟩
instance : TRw Try.prog 130 2 [.pointer none, .int .u16 0] := ⟨by kernel_rfl, by kernel_rfl, rfl, by decide⟩
instance : TRw Try.prog 131 1 [.nilFunc] := ⟨by kernel_rfl, by kernel_rfl, rfl, by decide⟩
instance : TRw Try.prog 132 1 [.nilFunc] := ⟨by kernel_rfl, by kernel_rfl, rfl, by decide⟩
instance : TRw Try.prog 134 1 [.nilFunc] := ⟨by kernel_rfl, by kernel_rfl, rfl, by decide⟩
instance : TRw Try.prog 135 1 [.nilFunc] := ⟨by kernel_rfl, by kernel_rfl, rfl, by decide⟩
instance : TRw Try.prog 136 1 [.slice none 0 0] := ⟨by kernel_rfl, by kernel_rfl, rfl, by decide⟩
instance : TBd Try.prog 137 (fun i => #[(0, 1), (1, 1), (2, 1), (3, 1), (4, 1)][i]?) [.slice none 0 0, .int .i64 0, .int .i64 0, .int .i64 0, .int .i64 0] := ⟨fun _ => by kernel_rfl⟩
instance : TRw Try.prog 137 5 [.slice none 0 0, .int .i64 0, .int .i64 0, .int .i64 0, .int .i64 0] := ⟨by kernel_rfl, by kernel_rfl, rfl, by decide⟩
instance : TBd Try.prog 138 (fun i => #[(0, 1), (1, 1), (2, 1), (3, 1), (4, 1)][i]?) [.slice none 0 0, .int .i64 0, .int .i64 0, .int .i64 0, .int .i64 0] := ⟨fun _ => by kernel_rfl⟩
instance : TRw Try.prog 138 5 [.slice none 0 0, .int .i64 0, .int .i64 0, .int .i64 0, .int .i64 0] := ⟨by kernel_rfl, by kernel_rfl, rfl, by decide⟩
instance : TRw Try.prog 139 1 [.pointer none] := ⟨by kernel_rfl, by kernel_rfl, rfl, by decide⟩
instance : TRw Try.prog 141 1 [.nilFunc] := ⟨by kernel_rfl, by kernel_rfl, rfl, by decide⟩
instance : TBd Try.prog 142 (fun i => #[(0, 1), (1, 1)][i]?) [.pointer none, .int .u32 0] := ⟨fun _ => by kernel_rfl⟩
instance : TRw Try.prog 142 2 [.pointer none, .int .u32 0] := ⟨by kernel_rfl, by kernel_rfl, rfl, by decide⟩
instance : TBd Try.prog 143 (fun i => #[(0, 1), (1, 1)][i]?) [.pointer none, .int .u32 0] := ⟨fun _ => by kernel_rfl⟩
instance : TRw Try.prog 143 2 [.pointer none, .int .u32 0] := ⟨by kernel_rfl, by kernel_rfl, rfl, by decide⟩
instance : TRw Try.prog 144 1 [.nilFunc] := ⟨by kernel_rfl, by kernel_rfl, rfl, by decide⟩
instance : TRw Try.prog 145 1 [.nilFunc] := ⟨by kernel_rfl, by kernel_rfl, rfl, by decide⟩
instance : TRw Try.prog 146 1 [.nilFunc] := ⟨by kernel_rfl, by kernel_rfl, rfl, by decide⟩
instance : TRw Try.prog 147 1 [.nilFunc] := ⟨by kernel_rfl, by kernel_rfl, rfl, by decide⟩
instance : TRw Try.prog 148 1 [.nilFunc] := ⟨by kernel_rfl, by kernel_rfl, rfl, by decide⟩
instance : TRw Try.prog 149 1 [.nilFunc] := ⟨by kernel_rfl, by kernel_rfl, rfl, by decide⟩
instance : TRw Try.prog 150 1 [.nilFunc] := ⟨by kernel_rfl, by kernel_rfl, rfl, by decide⟩
instance : TRw Try.prog 151 1 [.nilFunc] := ⟨by kernel_rfl, by kernel_rfl, rfl, by decide⟩
instance : TRw Try.prog 152 1 [.nilFunc] := ⟨by kernel_rfl, by kernel_rfl, rfl, by decide⟩
instance : TRw Try.prog 153 1 [.slice none 0 0] := ⟨by kernel_rfl, by kernel_rfl, rfl, by decide⟩
instance : TRw Try.prog 155 1 [.nilFunc] := ⟨by kernel_rfl, by kernel_rfl, rfl, by decide⟩
instance : TRw Try.prog 156 1 [.nilFunc] := ⟨by kernel_rfl, by kernel_rfl, rfl, by decide⟩
instance : TRw Try.prog 157 1 [.nilFunc] := ⟨by kernel_rfl, by kernel_rfl, rfl, by decide⟩
instance : TRw Try.prog 158 1 [.int .u64 0] := ⟨by kernel_rfl, by kernel_rfl, rfl, by decide⟩
instance : TRw Try.prog 159 1 [.nilFunc] := ⟨by kernel_rfl, by kernel_rfl, rfl, by decide⟩
instance : TBd Try.prog 160 (fun i => #[(0, 1), (1, 1), (2, 1), (3, 1), (4, 1)][i]?) [.slice none 0 0, .int .i64 0, .int .i64 0, .int .i64 0, .int .i64 0] := ⟨fun _ => by kernel_rfl⟩
instance : TRw Try.prog 160 5 [.slice none 0 0, .int .i64 0, .int .i64 0, .int .i64 0, .int .i64 0] := ⟨by kernel_rfl, by kernel_rfl, rfl, by decide⟩
instance : TBd Try.prog 161 (fun i => #[(0, 1), (1, 1), (2, 1), (3, 1), (4, 1)][i]?) [.slice none 0 0, .int .i64 0, .int .i64 0, .int .i64 0, .int .i64 0] := ⟨fun _ => by kernel_rfl⟩
instance : TRw Try.prog 161 5 [.slice none 0 0, .int .i64 0, .int .i64 0, .int .i64 0, .int .i64 0] := ⟨by kernel_rfl, by kernel_rfl, rfl, by decide⟩
instance : TRw Try.prog 162 1 [.nilFunc] := ⟨by kernel_rfl, by kernel_rfl, rfl, by decide⟩
instance : TBd Try.prog 163 (fun i => #[(0, 1), (1, 1), (2, 1), (3, 1), (4, 1)][i]?) [.slice none 0 0, .int .i64 0, .int .i64 0, .int .i64 0, .int .i64 0] := ⟨fun _ => by kernel_rfl⟩
instance : TRw Try.prog 163 5 [.slice none 0 0, .int .i64 0, .int .i64 0, .int .i64 0, .int .i64 0] := ⟨by kernel_rfl, by kernel_rfl, rfl, by decide⟩
instance : TBd Try.prog 164 (fun i => #[(0, 1), (1, 1), (2, 1), (3, 1), (4, 1)][i]?) [.slice none 0 0, .int .i64 0, .int .i64 0, .int .i64 0, .int .i64 0] := ⟨fun _ => by kernel_rfl⟩
instance : TRw Try.prog 164 5 [.slice none 0 0, .int .i64 0, .int .i64 0, .int .i64 0, .int .i64 0] := ⟨by kernel_rfl, by kernel_rfl, rfl, by decide⟩
instance : TRw Try.prog 165 1 [.nilFunc] := ⟨by kernel_rfl, by kernel_rfl, rfl, by decide⟩
instance : TRw Try.prog 166 1 [.nilFunc] := ⟨by kernel_rfl, by kernel_rfl, rfl, by decide⟩
instance : TRw Try.prog 167 1 [.nilFunc] := ⟨by kernel_rfl, by kernel_rfl, rfl, by decide⟩
instance : TRw Try.prog 168 1 [.nilFunc] := ⟨by kernel_rfl, by kernel_rfl, rfl, by decide⟩
instance : TRw Try.prog 169 1 [.int .u64 0] := ⟨by kernel_rfl, by kernel_rfl, rfl, by decide⟩
instance : TRw Try.prog 170 1 [.slice none 0 0] := ⟨by kernel_rfl, by kernel_rfl, rfl, by decide⟩
instance : TRw Try.prog 171 1 [.nilFunc] := ⟨by kernel_rfl, by kernel_rfl, rfl, by decide⟩
instance : TRw Try.prog 172 1 [.nilFunc] := ⟨by kernel_rfl, by kernel_rfl, rfl, by decide⟩
instance : TRw Try.prog 181 1 [.pointer none] := ⟨by kernel_rfl, by kernel_rfl, rfl, by decide⟩
instance : TRw Try.prog 186 1 [.nilFunc] := ⟨by kernel_rfl, by kernel_rfl, rfl, by decide⟩
instance : TRw Try.prog 187 1 [.nilFunc] := ⟨by kernel_rfl, by kernel_rfl, rfl, by decide⟩
instance : TRw Try.prog 188 1 [.nilFunc] := ⟨by kernel_rfl, by kernel_rfl, rfl, by decide⟩
instance : TRw Try.prog 189 1 [.nilFunc] := ⟨by kernel_rfl, by kernel_rfl, rfl, by decide⟩
instance : TRw Try.prog 190 1 [.nilFunc] := ⟨by kernel_rfl, by kernel_rfl, rfl, by decide⟩
instance : TRw Try.prog 191 1 [.nilFunc] := ⟨by kernel_rfl, by kernel_rfl, rfl, by decide⟩
instance : TRw Try.prog 192 1 [.nilFunc] := ⟨by kernel_rfl, by kernel_rfl, rfl, by decide⟩
instance : TRw Try.prog 193 1 [.nilFunc] := ⟨by kernel_rfl, by kernel_rfl, rfl, by decide⟩
instance : TRw Try.prog 194 1 [.nilFunc] := ⟨by kernel_rfl, by kernel_rfl, rfl, by decide⟩
instance : TRw Try.prog 195 1 [.nilFunc] := ⟨by kernel_rfl, by kernel_rfl, rfl, by decide⟩
instance : TRw Try.prog 197 1 [.nilFunc] := ⟨by kernel_rfl, by kernel_rfl, rfl, by decide⟩
instance : TRw Try.prog 198 1 [.nilFunc] := ⟨by kernel_rfl, by kernel_rfl, rfl, by decide⟩
instance : TRw Try.prog 199 1 [.nilFunc] := ⟨by kernel_rfl, by kernel_rfl, rfl, by decide⟩
instance : TRw Try.prog 200 1 [.nilFunc] := ⟨by kernel_rfl, by kernel_rfl, rfl, by decide⟩
instance : TRw Try.prog 201 1 [.nilFunc] := ⟨by kernel_rfl, by kernel_rfl, rfl, by decide⟩
instance : TRw Try.prog 202 1 [.nilFunc] := ⟨by kernel_rfl, by kernel_rfl, rfl, by decide⟩
theorem eqt_5 : EqT Try.prog 1 5 false [.i .u8] := eqt_int (by kernel_rfl) inferInstance
theorem eqt_3 : EqT Try.prog 1 3 false [.i .i64] := eqt_int (by kernel_rfl) inferInstance
theorem eqt_61 : EqT Try.prog 2 61 true [.i .u8, .i .i64, .i .i64] := eqt_structL (L := [(true, 0, 5), (true, 1, 3), (true, 2, 3)]) (by kernel_rfl) (by kernel_rfl) inferInstance (.cons eqt_5 (by decide) rfl rfl (.cons eqt_3 (by decide) rfl rfl (.cons eqt_3 (by decide) rfl rfl (.nil))))
instance : TQ Try.prog 61 [.i .u8, .i .i64, .i .i64] := ⟨⟨_, by decide, eqt_61⟩, by kernel_rfl⟩
theorem eqt_62 : EqT Try.prog 2 62 true [.i .u8, .i .i64, .i .i64] := eqt_structL (L := [(true, 0, 5), (true, 1, 3), (true, 2, 3)]) (by kernel_rfl) (by kernel_rfl) inferInstance (.cons eqt_5 (by decide) rfl rfl (.cons eqt_3 (by decide) rfl rfl (.cons eqt_3 (by decide) rfl rfl (.nil))))
instance : TQ Try.prog 62 [.i .u8, .i .i64, .i .i64] := ⟨⟨_, by decide, eqt_62⟩, by kernel_rfl⟩
theorem eqt_48 : EqT Try.prog 1 48 false [.i .u32] := eqt_int (by kernel_rfl) inferInstance
theorem eqt_77 : EqT Try.prog 2 77 true [.i .u32, .i .u32, .i .u8, .i .u8, .i .u32] := eqt_structL (L := [(true, 0, 48), (true, 1, 48), (true, 2, 5), (true, 3, 5), (true, 4, 48)]) (by kernel_rfl) (by kernel_rfl) inferInstance (.cons eqt_48 (by decide) rfl rfl (.cons eqt_48 (by decide) rfl rfl (.cons eqt_5 (by decide) rfl rfl (.cons eqt_5 (by decide) rfl rfl (.cons eqt_48 (by decide) rfl rfl (.nil))))))
instance : TQ Try.prog 77 [.i .u32, .i .u32, .i .u8, .i .u8, .i .u32] := ⟨⟨_, by decide, eqt_77⟩, by kernel_rfl⟩
theorem eqt_78 : EqT Try.prog 2 78 true [.i .u32, .i .u32, .i .u8, .i .u8, .i .u32] := eqt_structL (L := [(true, 0, 48), (true, 1, 48), (true, 2, 5), (true, 3, 5), (true, 4, 48)]) (by kernel_rfl) (by kernel_rfl) inferInstance (.cons eqt_48 (by decide) rfl rfl (.cons eqt_48 (by decide) rfl rfl (.cons eqt_5 (by decide) rfl rfl (.cons eqt_5 (by decide) rfl rfl (.cons eqt_48 (by decide) rfl rfl (.nil))))))
instance : TQ Try.prog 78 [.i .u32, .i .u32, .i .u8, .i .u8, .i .u32] := ⟨⟨_, by decide, eqt_78⟩, by kernel_rfl⟩
theorem eqt_90 : EqT Try.prog 2 90 true [.i .u32, .i .u32, .i .u8, .i .u8, .i .u32] := eqt_structL (L := [(true, 0, 48), (true, 1, 48), (true, 2, 5), (true, 3, 5), (true, 4, 48)]) (by kernel_rfl) (by kernel_rfl) inferInstance (.cons eqt_48 (by decide) rfl rfl (.cons eqt_48 (by decide) rfl rfl (.cons eqt_5 (by decide) rfl rfl (.cons eqt_5 (by decide) rfl rfl (.cons eqt_48 (by decide) rfl rfl (.nil))))))
instance : TQ Try.prog 90 [.i .u32, .i .u32, .i .u8, .i .u8, .i .u32] := ⟨⟨_, by decide, eqt_90⟩, by kernel_rfl⟩
instance : CF Try.prog 3 := ⟨fun _ _ => by kernel_rfl⟩
instance : CF Try.prog 4 := ⟨fun _ _ => by kernel_rfl⟩
instance : CF Try.prog 5 := ⟨fun _ _ => by kernel_rfl⟩
instance : CF Try.prog 6 := ⟨fun _ _ => by kernel_rfl⟩
instance : CF Try.prog 7 := ⟨fun _ _ => by kernel_rfl⟩
instance : CF Try.prog 8 := ⟨fun _ _ => by kernel_rfl⟩
instance : CF Try.prog 9 := ⟨fun _ _ => by kernel_rfl⟩
instance : CF Try.prog 10 := ⟨fun _ _ => by kernel_rfl⟩
instance : CF Try.prog 11 := ⟨fun _ _ => by kernel_rfl⟩
instance : CF Try.prog 12 := ⟨fun _ _ => by kernel_rfl⟩
instance : CF Try.prog 13 := ⟨fun _ _ => by kernel_rfl⟩
instance : CF Try.prog 14 := ⟨fun _ _ => by kernel_rfl⟩
instance : CF Try.prog 15 := ⟨fun _ _ => by kernel_rfl⟩
instance : CF Try.prog 16 := ⟨fun _ _ => by kernel_rfl⟩
instance : CF Try.prog 17 := ⟨fun _ _ => by kernel_rfl⟩
instance : CF Try.prog 18 := ⟨fun _ _ => by kernel_rfl⟩
instance : CF Try.prog 19 := ⟨fun _ _ => by kernel_rfl⟩
instance : CF Try.prog 20 := ⟨fun _ _ => by kernel_rfl⟩
instance : CF Try.prog 21 := ⟨fun _ _ => by kernel_rfl⟩
instance : CF Try.prog 22 := ⟨fun _ _ => by kernel_rfl⟩
instance : CF Try.prog 23 := ⟨fun _ _ => by kernel_rfl⟩
instance : CF Try.prog 24 := ⟨fun _ _ => by kernel_rfl⟩
instance : CF Try.prog 25 := ⟨fun _ _ => by kernel_rfl⟩
instance : CF Try.prog 26 := ⟨fun _ _ => by kernel_rfl⟩
instance : CF Try.prog 27 := ⟨fun _ _ => by kernel_rfl⟩
instance : CF Try.prog 28 := ⟨fun _ _ => by kernel_rfl⟩
instance : CF Try.prog 29 := ⟨fun _ _ => by kernel_rfl⟩
instance : CF Try.prog 30 := ⟨fun _ _ => by kernel_rfl⟩
instance : CF Try.prog 31 := ⟨fun _ _ => by kernel_rfl⟩
instance : CF Try.prog 32 := ⟨fun _ _ => by kernel_rfl⟩
instance : CF Try.prog 33 := ⟨fun _ _ => by kernel_rfl⟩
instance : CF Try.prog 34 := ⟨fun _ _ => by kernel_rfl⟩
instance : CF Try.prog 35 := ⟨fun _ _ => by kernel_rfl⟩
instance : CF Try.prog 36 := ⟨fun _ _ => by kernel_rfl⟩
instance : CF Try.prog 37 := ⟨fun _ _ => by kernel_rfl⟩
instance : CF Try.prog 38 := ⟨fun _ _ => by kernel_rfl⟩
instance : CF Try.prog 39 := ⟨fun _ _ => by kernel_rfl⟩
instance : CF Try.prog 40 := ⟨fun _ _ => by kernel_rfl⟩
instance : CF Try.prog 41 := ⟨fun _ _ => by kernel_rfl⟩
instance : CF Try.prog 42 := ⟨fun _ _ => by kernel_rfl⟩
instance : CF Try.prog 43 := ⟨fun _ _ => by kernel_rfl⟩
instance : CF Try.prog 44 := ⟨fun _ _ => by kernel_rfl⟩
instance : CF Try.prog 45 := ⟨fun _ _ => by kernel_rfl⟩
instance : CF Try.prog 46 := ⟨fun _ _ => by kernel_rfl⟩
instance : CF Try.prog 47 := ⟨fun _ _ => by kernel_rfl⟩
instance : CF Try.prog 48 := ⟨fun _ _ => by kernel_rfl⟩
instance : CF Try.prog 49 := ⟨fun _ _ => by kernel_rfl⟩
instance : CF Try.prog 50 := ⟨fun _ _ => by kernel_rfl⟩
instance : CF Try.prog 51 := ⟨fun _ _ => by kernel_rfl⟩
instance : CF Try.prog 52 := ⟨fun _ _ => by kernel_rfl⟩
instance : CF Try.prog 53 := ⟨fun _ _ => by kernel_rfl⟩
instance : CF Try.prog 54 := ⟨fun _ _ => by kernel_rfl⟩
instance : CF Try.prog 55 := ⟨fun _ _ => by kernel_rfl⟩
instance : CF Try.prog 56 := ⟨fun _ _ => by kernel_rfl⟩
instance : CF Try.prog 57 := ⟨fun _ _ => by kernel_rfl⟩
instance : CF Try.prog 58 := ⟨fun _ _ => by kernel_rfl⟩
instance : CF Try.prog 59 := ⟨fun _ _ => by kernel_rfl⟩
instance : CF Try.prog 60 := ⟨fun _ _ => by kernel_rfl⟩
instance : CF Try.prog 61 := ⟨fun _ _ => by kernel_rfl⟩
instance : CF Try.prog 62 := ⟨fun _ _ => by kernel_rfl⟩
instance : CF Try.prog 63 := ⟨fun _ _ => by kernel_rfl⟩
instance : CF Try.prog 64 := ⟨fun _ _ => by kernel_rfl⟩
instance : CF Try.prog 65 := ⟨fun _ _ => by kernel_rfl⟩
instance : CF Try.prog 66 := ⟨fun _ _ => by kernel_rfl⟩
instance : CF Try.prog 67 := ⟨fun _ _ => by kernel_rfl⟩
instance : CF Try.prog 68 := ⟨fun _ _ => by kernel_rfl⟩
instance : CF Try.prog 69 := ⟨fun _ _ => by kernel_rfl⟩
instance : CF Try.prog 70 := ⟨fun _ _ => by kernel_rfl⟩
instance : CF Try.prog 71 := ⟨fun _ _ => by kernel_rfl⟩
instance : CF Try.prog 72 := ⟨fun _ _ => by kernel_rfl⟩
instance : CF Try.prog 73 := ⟨fun _ _ => by kernel_rfl⟩
instance : CF Try.prog 74 := ⟨fun _ _ => by kernel_rfl⟩
instance : CF Try.prog 75 := ⟨fun _ _ => by kernel_rfl⟩
instance : CF Try.prog 76 := ⟨fun _ _ => by kernel_rfl⟩
instance : CF Try.prog 77 := ⟨fun _ _ => by kernel_rfl⟩
instance : CF Try.prog 78 := ⟨fun _ _ => by kernel_rfl⟩
instance : CF Try.prog 79 := ⟨fun _ _ => by kernel_rfl⟩
instance : CF Try.prog 80 := ⟨fun _ _ => by kernel_rfl⟩
instance : CF Try.prog 81 := ⟨fun _ _ => by kernel_rfl⟩
instance : CF Try.prog 82 := ⟨fun _ _ => by kernel_rfl⟩
instance : CF Try.prog 83 := ⟨fun _ _ => by kernel_rfl⟩
instance : CF Try.prog 84 := ⟨fun _ _ => by kernel_rfl⟩
instance : CF Try.prog 85 := ⟨fun _ _ => by kernel_rfl⟩
instance : CF Try.prog 86 := ⟨fun _ _ => by kernel_rfl⟩
instance : CF Try.prog 87 := ⟨fun _ _ => by kernel_rfl⟩
instance : CF Try.prog 88 := ⟨fun _ _ => by kernel_rfl⟩
instance : CF Try.prog 89 := ⟨fun _ _ => by kernel_rfl⟩
instance : CF Try.prog 90 := ⟨fun _ _ => by kernel_rfl⟩
instance : CF Try.prog 91 := ⟨fun _ _ => by kernel_rfl⟩
instance : CF Try.prog 92 := ⟨fun _ _ => by kernel_rfl⟩
instance : CF Try.prog 93 := ⟨fun _ _ => by kernel_rfl⟩
instance : CF Try.prog 94 := ⟨fun _ _ => by kernel_rfl⟩
instance : CF Try.prog 95 := ⟨fun _ _ => by kernel_rfl⟩
instance : CF Try.prog 96 := ⟨fun _ _ => by kernel_rfl⟩
instance : CF Try.prog 97 := ⟨fun _ _ => by kernel_rfl⟩
instance : CF Try.prog 98 := ⟨fun _ _ => by kernel_rfl⟩
instance : CF Try.prog 99 := ⟨fun _ _ => by kernel_rfl⟩
instance : CF Try.prog 100 := ⟨fun _ _ => by kernel_rfl⟩
instance : CF Try.prog 101 := ⟨fun _ _ => by kernel_rfl⟩
instance : CF Try.prog 102 := ⟨fun _ _ => by kernel_rfl⟩
instance : CF Try.prog 103 := ⟨fun _ _ => by kernel_rfl⟩
instance : CF Try.prog 104 := ⟨fun _ _ => by kernel_rfl⟩
instance : CF Try.prog 105 := ⟨fun _ _ => by kernel_rfl⟩
theorem followsMixed : Try.prog.follows .mixedOrders = true := by kernel_rfl
end Go.Proofs.Ytjbjnkjilgndmaa
