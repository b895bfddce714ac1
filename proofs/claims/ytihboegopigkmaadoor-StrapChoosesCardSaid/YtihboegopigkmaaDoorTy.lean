/- Facts on the types and functions of the translation, as instances. -/
import Derived.Test.YtihboegopigkmaaDoorProg
import Derived.Test.YtihboegopigkmaaDoorSq
namespace Go.Proofs.YtihboegopigkmaaDoor
set_option maxRecDepth 100000
instance : TL Tryd.prog 1 false 1 := ⟨by kernel_rfl, by kernel_rfl⟩
instance : TB Tryd.prog 1 8 := ⟨by kernel_rfl⟩
instance : TL Tryd.prog 2 false 1 := ⟨by kernel_rfl, by kernel_rfl⟩
instance : TZ Tryd.prog 2 [.int .i64 0] := ⟨by kernel_rfl⟩
instance : TB Tryd.prog 2 8 := ⟨by kernel_rfl⟩
instance : TI Tryd.prog 2 .i64 := ⟨by kernel_rfl⟩
instance : TL Tryd.prog 3 false 1 := ⟨by kernel_rfl, by kernel_rfl⟩
instance : TZ Tryd.prog 3 [.int .i64 0] := ⟨by kernel_rfl⟩
instance : TB Tryd.prog 3 8 := ⟨by kernel_rfl⟩
instance : TI Tryd.prog 3 .i64 := ⟨by kernel_rfl⟩
instance : TL Tryd.prog 4 false 1 := ⟨by kernel_rfl, by kernel_rfl⟩
instance : TZ Tryd.prog 4 [.bool false] := ⟨by kernel_rfl⟩
instance : TB Tryd.prog 4 1 := ⟨by kernel_rfl⟩
instance : TO Tryd.prog 4 := ⟨by kernel_rfl⟩
instance : TL Tryd.prog 5 false 1 := ⟨by kernel_rfl, by kernel_rfl⟩
instance : TZ Tryd.prog 5 [.int .u8 0] := ⟨by kernel_rfl⟩
instance : TB Tryd.prog 5 1 := ⟨by kernel_rfl⟩
instance : TI Tryd.prog 5 .u8 := ⟨by kernel_rfl⟩
instance : TL Tryd.prog 9 false 1 := ⟨by kernel_rfl, by kernel_rfl⟩
instance : TZ Tryd.prog 9 [.string ⟨#[]⟩] := ⟨by kernel_rfl⟩
instance : TB Tryd.prog 9 16 := ⟨by kernel_rfl⟩
instance : TL Tryd.prog 21 false 1 := ⟨by kernel_rfl, by kernel_rfl⟩
instance : TZ Tryd.prog 21 [.int .i32 0] := ⟨by kernel_rfl⟩
instance : TB Tryd.prog 21 4 := ⟨by kernel_rfl⟩
instance : TI Tryd.prog 21 .i32 := ⟨by kernel_rfl⟩
instance : TL Tryd.prog 22 false 1 := ⟨by kernel_rfl, by kernel_rfl⟩
instance : TZ Tryd.prog 22 [.int .i8 0] := ⟨by kernel_rfl⟩
instance : TB Tryd.prog 22 1 := ⟨by kernel_rfl⟩
instance : TI Tryd.prog 22 .i8 := ⟨by kernel_rfl⟩
instance : TL Tryd.prog 23 true 6 := ⟨by kernel_rfl, by kernel_rfl⟩
instance : TZ Tryd.prog 23 [.int .i8 0, .int .i8 0, .int .i8 0, .int .i8 0, .int .i8 0, .int .i8 0] := ⟨by kernel_rfl⟩
instance : TB Tryd.prog 23 6 := ⟨by kernel_rfl⟩
instance : TA Tryd.prog 23 6 22 := ⟨by kernel_rfl⟩
instance : TL Tryd.prog 24 true 6 := ⟨by kernel_rfl, by kernel_rfl⟩
instance : TZ Tryd.prog 24 [.int .i8 0, .int .i8 0, .int .i8 0, .int .i8 0, .int .i8 0, .int .i8 0] := ⟨by kernel_rfl⟩
instance : TB Tryd.prog 24 6 := ⟨by kernel_rfl⟩
instance : TA Tryd.prog 24 6 22 := ⟨by kernel_rfl⟩
instance : TL Tryd.prog 25 false 1 := ⟨by kernel_rfl, by kernel_rfl⟩
instance : TZ Tryd.prog 25 [.int .u16 0] := ⟨by kernel_rfl⟩
instance : TB Tryd.prog 25 2 := ⟨by kernel_rfl⟩
instance : TI Tryd.prog 25 .u16 := ⟨by kernel_rfl⟩
instance : TL Tryd.prog 26 false 1 := ⟨by kernel_rfl, by kernel_rfl⟩
instance : TZ Tryd.prog 26 [.int .u16 0] := ⟨by kernel_rfl⟩
instance : TB Tryd.prog 26 2 := ⟨by kernel_rfl⟩
instance : TI Tryd.prog 26 .u16 := ⟨by kernel_rfl⟩
instance : TL Tryd.prog 27 false 1 := ⟨by kernel_rfl, by kernel_rfl⟩
instance : TZ Tryd.prog 27 [.slice none 0 0] := ⟨by kernel_rfl⟩
instance : TB Tryd.prog 27 24 := ⟨by kernel_rfl⟩
instance : TS Tryd.prog 27 25 := ⟨by kernel_rfl⟩
instance : TL Tryd.prog 28 false 1 := ⟨by kernel_rfl, by kernel_rfl⟩
instance : TB Tryd.prog 28 8 := ⟨by kernel_rfl⟩
instance : TL Tryd.prog 29 true 13 := ⟨by kernel_rfl, by kernel_rfl⟩
instance : TZ Tryd.prog 29 [.int .u8 0, .int .i8 0, .int .i8 0, .int .i8 0, .int .i8 0, .int .i8 0, .int .i8 0, .int .i8 0, .int .i8 0, .int .i8 0, .int .i8 0, .int .i8 0, .int .i8 0] := ⟨by kernel_rfl⟩
instance : TB Tryd.prog 29 13 := ⟨by kernel_rfl⟩
instance : TF Tryd.prog 29 0 0 5 := ⟨by kernel_rfl⟩
instance : TF Tryd.prog 29 1 1 24 := ⟨by kernel_rfl⟩
instance : TF Tryd.prog 29 2 7 24 := ⟨by kernel_rfl⟩
instance : TL Tryd.prog 30 true 13 := ⟨by kernel_rfl, by kernel_rfl⟩
instance : TZ Tryd.prog 30 [.int .u8 0, .int .i8 0, .int .i8 0, .int .i8 0, .int .i8 0, .int .i8 0, .int .i8 0, .int .i8 0, .int .i8 0, .int .i8 0, .int .i8 0, .int .i8 0, .int .i8 0] := ⟨by kernel_rfl⟩
instance : TB Tryd.prog 30 13 := ⟨by kernel_rfl⟩
instance : TF Tryd.prog 30 0 0 5 := ⟨by kernel_rfl⟩
instance : TF Tryd.prog 30 1 1 24 := ⟨by kernel_rfl⟩
instance : TF Tryd.prog 30 2 7 24 := ⟨by kernel_rfl⟩
instance : TL Tryd.prog 31 false 1 := ⟨by kernel_rfl, by kernel_rfl⟩
instance : TZ Tryd.prog 31 [.slice none 0 0] := ⟨by kernel_rfl⟩
instance : TB Tryd.prog 31 24 := ⟨by kernel_rfl⟩
instance : TS Tryd.prog 31 3 := ⟨by kernel_rfl⟩
instance : TL Tryd.prog 32 true 4 := ⟨by kernel_rfl, by kernel_rfl⟩
instance : TZ Tryd.prog 32 [.slice none 0 0, .slice none 0 0, .bool false, .int .u16 0] := ⟨by kernel_rfl⟩
instance : TB Tryd.prog 32 56 := ⟨by kernel_rfl⟩
instance : TF Tryd.prog 32 0 0 31 := ⟨by kernel_rfl⟩
instance : TF Tryd.prog 32 1 1 31 := ⟨by kernel_rfl⟩
instance : TF Tryd.prog 32 2 2 4 := ⟨by kernel_rfl⟩
instance : TF Tryd.prog 32 3 3 26 := ⟨by kernel_rfl⟩
instance : TL Tryd.prog 33 true 4 := ⟨by kernel_rfl, by kernel_rfl⟩
instance : TZ Tryd.prog 33 [.slice none 0 0, .slice none 0 0, .bool false, .int .u16 0] := ⟨by kernel_rfl⟩
instance : TB Tryd.prog 33 56 := ⟨by kernel_rfl⟩
instance : TF Tryd.prog 33 0 0 31 := ⟨by kernel_rfl⟩
instance : TF Tryd.prog 33 1 1 31 := ⟨by kernel_rfl⟩
instance : TF Tryd.prog 33 2 2 4 := ⟨by kernel_rfl⟩
instance : TF Tryd.prog 33 3 3 26 := ⟨by kernel_rfl⟩
instance : TL Tryd.prog 34 false 1 := ⟨by kernel_rfl, by kernel_rfl⟩
instance : TZ Tryd.prog 34 [.int .i64 0] := ⟨by kernel_rfl⟩
instance : TB Tryd.prog 34 8 := ⟨by kernel_rfl⟩
instance : TI Tryd.prog 34 .i64 := ⟨by kernel_rfl⟩
instance : TL Tryd.prog 36 false 1 := ⟨by kernel_rfl, by kernel_rfl⟩
instance : TB Tryd.prog 36 8 := ⟨by kernel_rfl⟩
instance : TL Tryd.prog 38 false 1 := ⟨by kernel_rfl, by kernel_rfl⟩
instance : TB Tryd.prog 38 8 := ⟨by kernel_rfl⟩
instance : TL Tryd.prog 39 false 1 := ⟨by kernel_rfl, by kernel_rfl⟩
instance : TB Tryd.prog 39 8 := ⟨by kernel_rfl⟩
instance : TL Tryd.prog 40 false 1 := ⟨by kernel_rfl, by kernel_rfl⟩
instance : TB Tryd.prog 40 8 := ⟨by kernel_rfl⟩
instance : TL Tryd.prog 41 false 1 := ⟨by kernel_rfl, by kernel_rfl⟩
instance : TB Tryd.prog 41 8 := ⟨by kernel_rfl⟩
instance : TL Tryd.prog 42 false 1 := ⟨by kernel_rfl, by kernel_rfl⟩
instance : TB Tryd.prog 42 8 := ⟨by kernel_rfl⟩
instance : TL Tryd.prog 43 false 1 := ⟨by kernel_rfl, by kernel_rfl⟩
instance : TB Tryd.prog 43 8 := ⟨by kernel_rfl⟩
instance : TL Tryd.prog 44 false 1 := ⟨by kernel_rfl, by kernel_rfl⟩
instance : TB Tryd.prog 44 8 := ⟨by kernel_rfl⟩
instance : TL Tryd.prog 45 false 1 := ⟨by kernel_rfl, by kernel_rfl⟩
instance : TB Tryd.prog 45 8 := ⟨by kernel_rfl⟩
instance : TL Tryd.prog 46 false 1 := ⟨by kernel_rfl, by kernel_rfl⟩
instance : TB Tryd.prog 46 8 := ⟨by kernel_rfl⟩
instance : TL Tryd.prog 47 false 1 := ⟨by kernel_rfl, by kernel_rfl⟩
instance : TB Tryd.prog 47 8 := ⟨by kernel_rfl⟩
instance : TL Tryd.prog 48 true 13 := ⟨by kernel_rfl, by kernel_rfl⟩
instance : TZ Tryd.prog 48 [.int .u8 0, .int .i8 0, .int .i8 0, .int .i8 0, .int .i8 0, .int .i8 0, .int .i8 0, .int .i8 0, .int .i8 0, .int .i8 0, .int .i8 0, .int .i8 0, .int .i8 0] := ⟨by kernel_rfl⟩
instance : TB Tryd.prog 48 13 := ⟨by kernel_rfl⟩
instance : TF Tryd.prog 48 0 0 5 := ⟨by kernel_rfl⟩
instance : TF Tryd.prog 48 1 1 23 := ⟨by kernel_rfl⟩
instance : TF Tryd.prog 48 2 7 23 := ⟨by kernel_rfl⟩
instance : TL Tryd.prog 49 true 13 := ⟨by kernel_rfl, by kernel_rfl⟩
instance : TZ Tryd.prog 49 [.int .u8 0, .int .i8 0, .int .i8 0, .int .i8 0, .int .i8 0, .int .i8 0, .int .i8 0, .int .i8 0, .int .i8 0, .int .i8 0, .int .i8 0, .int .i8 0, .int .i8 0] := ⟨by kernel_rfl⟩
instance : TB Tryd.prog 49 13 := ⟨by kernel_rfl⟩
instance : TF Tryd.prog 49 0 0 5 := ⟨by kernel_rfl⟩
instance : TF Tryd.prog 49 1 1 23 := ⟨by kernel_rfl⟩
instance : TF Tryd.prog 49 2 7 23 := ⟨by kernel_rfl⟩
instance : TL Tryd.prog 51 false 1 := ⟨by kernel_rfl, by kernel_rfl⟩
instance : TB Tryd.prog 51 8 := ⟨by kernel_rfl⟩
instance : TL Tryd.prog 52 false 1 := ⟨by kernel_rfl, by kernel_rfl⟩
instance : TB Tryd.prog 52 8 := ⟨by kernel_rfl⟩
instance : TL Tryd.prog 53 false 1 := ⟨by kernel_rfl, by kernel_rfl⟩
instance : TB Tryd.prog 53 8 := ⟨by kernel_rfl⟩
instance : TL Tryd.prog 54 false 1 := ⟨by kernel_rfl, by kernel_rfl⟩
instance : TB Tryd.prog 54 8 := ⟨by kernel_rfl⟩
instance : TL Tryd.prog 55 false 1 := ⟨by kernel_rfl, by kernel_rfl⟩
instance : TB Tryd.prog 55 8 := ⟨by kernel_rfl⟩
instance : TL Tryd.prog 56 false 1 := ⟨by kernel_rfl, by kernel_rfl⟩
instance : TZ Tryd.prog 56 [.slice none 0 0] := ⟨by kernel_rfl⟩
instance : TB Tryd.prog 56 24 := ⟨by kernel_rfl⟩
instance : TS Tryd.prog 56 5 := ⟨by kernel_rfl⟩
instance : TL Tryd.prog 57 false 1 := ⟨by kernel_rfl, by kernel_rfl⟩
instance : TB Tryd.prog 57 8 := ⟨by kernel_rfl⟩
instance : TL Tryd.prog 58 false 1 := ⟨by kernel_rfl, by kernel_rfl⟩
instance : TB Tryd.prog 58 8 := ⟨by kernel_rfl⟩
instance : TL Tryd.prog 59 true 6 := ⟨by kernel_rfl, by kernel_rfl⟩
instance : TZ Tryd.prog 59 [.int .u8 0, .int .u8 0, .int .u8 0, .int .u8 0, .int .u8 0, .int .u8 0] := ⟨by kernel_rfl⟩
instance : TB Tryd.prog 59 6 := ⟨by kernel_rfl⟩
instance : TA Tryd.prog 59 6 5 := ⟨by kernel_rfl⟩
instance : TL Tryd.prog 60 true 6 := ⟨by kernel_rfl, by kernel_rfl⟩
instance : TZ Tryd.prog 60 [.int .u8 0, .int .u8 0, .int .u8 0, .int .u8 0, .int .u8 0, .int .u8 0] := ⟨by kernel_rfl⟩
instance : TB Tryd.prog 60 6 := ⟨by kernel_rfl⟩
instance : TA Tryd.prog 60 6 5 := ⟨by kernel_rfl⟩
instance : TL Tryd.prog 61 true 18 := ⟨by kernel_rfl, by kernel_rfl⟩
instance : TZ Tryd.prog 61 [.int .u16 0, .int .u16 0, .int .u8 0, .int .u8 0, .int .u8 0, .int .u8 0, .int .u8 0, .int .u8 0, .int .i8 0, .int .i8 0, .int .i8 0, .int .i8 0, .int .i8 0, .int .i8 0, .int .u8 0, .int .u16 0, .bool false, .int .u8 0] := ⟨by kernel_rfl⟩
instance : TB Tryd.prog 61 22 := ⟨by kernel_rfl⟩
instance : TF Tryd.prog 61 0 0 26 := ⟨by kernel_rfl⟩
instance : TF Tryd.prog 61 1 1 26 := ⟨by kernel_rfl⟩
instance : TF Tryd.prog 61 2 2 59 := ⟨by kernel_rfl⟩
instance : TF Tryd.prog 61 3 8 23 := ⟨by kernel_rfl⟩
instance : TF Tryd.prog 61 4 14 5 := ⟨by kernel_rfl⟩
instance : TF Tryd.prog 61 5 15 25 := ⟨by kernel_rfl⟩
instance : TF Tryd.prog 61 6 16 4 := ⟨by kernel_rfl⟩
instance : TF Tryd.prog 61 7 17 5 := ⟨by kernel_rfl⟩
instance : TL Tryd.prog 62 true 18 := ⟨by kernel_rfl, by kernel_rfl⟩
instance : TZ Tryd.prog 62 [.int .u16 0, .int .u16 0, .int .u8 0, .int .u8 0, .int .u8 0, .int .u8 0, .int .u8 0, .int .u8 0, .int .i8 0, .int .i8 0, .int .i8 0, .int .i8 0, .int .i8 0, .int .i8 0, .int .u8 0, .int .u16 0, .bool false, .int .u8 0] := ⟨by kernel_rfl⟩
instance : TB Tryd.prog 62 22 := ⟨by kernel_rfl⟩
instance : TF Tryd.prog 62 0 0 26 := ⟨by kernel_rfl⟩
instance : TF Tryd.prog 62 1 1 26 := ⟨by kernel_rfl⟩
instance : TF Tryd.prog 62 2 2 59 := ⟨by kernel_rfl⟩
instance : TF Tryd.prog 62 3 8 23 := ⟨by kernel_rfl⟩
instance : TF Tryd.prog 62 4 14 5 := ⟨by kernel_rfl⟩
instance : TF Tryd.prog 62 5 15 25 := ⟨by kernel_rfl⟩
instance : TF Tryd.prog 62 6 16 4 := ⟨by kernel_rfl⟩
instance : TF Tryd.prog 62 7 17 5 := ⟨by kernel_rfl⟩
instance : TL Tryd.prog 63 false 1 := ⟨by kernel_rfl, by kernel_rfl⟩
instance : TB Tryd.prog 63 8 := ⟨by kernel_rfl⟩
instance : TL Tryd.prog 64 false 1 := ⟨by kernel_rfl, by kernel_rfl⟩
instance : TB Tryd.prog 64 8 := ⟨by kernel_rfl⟩
instance : TL Tryd.prog 65 false 1 := ⟨by kernel_rfl, by kernel_rfl⟩
instance : TB Tryd.prog 65 8 := ⟨by kernel_rfl⟩
instance : TL Tryd.prog 66 false 1 := ⟨by kernel_rfl, by kernel_rfl⟩
instance : TB Tryd.prog 66 8 := ⟨by kernel_rfl⟩
instance : TL Tryd.prog 67 false 1 := ⟨by kernel_rfl, by kernel_rfl⟩
instance : TB Tryd.prog 67 8 := ⟨by kernel_rfl⟩
instance : TL Tryd.prog 68 false 1 := ⟨by kernel_rfl, by kernel_rfl⟩
instance : TB Tryd.prog 68 8 := ⟨by kernel_rfl⟩
instance : TL Tryd.prog 69 false 1 := ⟨by kernel_rfl, by kernel_rfl⟩
instance : TB Tryd.prog 69 8 := ⟨by kernel_rfl⟩
instance : TL Tryd.prog 70 false 1 := ⟨by kernel_rfl, by kernel_rfl⟩
instance : TB Tryd.prog 70 8 := ⟨by kernel_rfl⟩
instance : TL Tryd.prog 71 false 1 := ⟨by kernel_rfl, by kernel_rfl⟩
instance : TB Tryd.prog 71 8 := ⟨by kernel_rfl⟩
instance : TL Tryd.prog 72 false 1 := ⟨by kernel_rfl, by kernel_rfl⟩
instance : TZ Tryd.prog 72 [.slice none 0 0] := ⟨by kernel_rfl⟩
instance : TB Tryd.prog 72 24 := ⟨by kernel_rfl⟩
instance : TS Tryd.prog 72 26 := ⟨by kernel_rfl⟩
instance : TL Tryd.prog 73 true 16 := ⟨by kernel_rfl, by kernel_rfl⟩
instance : TZ Tryd.prog 73 [.int .u16 0, .int .u16 0, .int .u16 0, .int .u16 0, .int .u16 0, .int .u16 0, .int .u16 0, .int .u16 0, .int .u16 0, .int .u16 0, .int .u16 0, .int .u16 0, .int .u16 0, .int .u16 0, .int .u16 0, .int .u16 0] := ⟨by kernel_rfl⟩
instance : TB Tryd.prog 73 32 := ⟨by kernel_rfl⟩
instance : TA Tryd.prog 73 16 26 := ⟨by kernel_rfl⟩
instance : TL Tryd.prog 74 false 1 := ⟨by kernel_rfl, by kernel_rfl⟩
instance : TZ Tryd.prog 74 [.slice none 0 0] := ⟨by kernel_rfl⟩
instance : TB Tryd.prog 74 24 := ⟨by kernel_rfl⟩
instance : TS Tryd.prog 74 119 := ⟨by kernel_rfl⟩
instance : TL Tryd.prog 75 true 17 := ⟨by kernel_rfl, by kernel_rfl⟩
instance : TZ Tryd.prog 75 [.slice none 0 0, .int .u16 0, .int .u16 0, .int .u16 0, .int .u16 0, .int .u16 0, .int .u16 0, .int .u16 0, .int .u16 0, .int .u16 0, .int .u16 0, .int .u16 0, .int .u16 0, .int .u16 0, .int .u16 0, .int .u16 0, .int .u16 0] := ⟨by kernel_rfl⟩
instance : TB Tryd.prog 75 56 := ⟨by kernel_rfl⟩
instance : TF Tryd.prog 75 0 0 74 := ⟨by kernel_rfl⟩
instance : TF Tryd.prog 75 1 1 73 := ⟨by kernel_rfl⟩
instance : TL Tryd.prog 76 true 17 := ⟨by kernel_rfl, by kernel_rfl⟩
instance : TZ Tryd.prog 76 [.slice none 0 0, .int .u16 0, .int .u16 0, .int .u16 0, .int .u16 0, .int .u16 0, .int .u16 0, .int .u16 0, .int .u16 0, .int .u16 0, .int .u16 0, .int .u16 0, .int .u16 0, .int .u16 0, .int .u16 0, .int .u16 0, .int .u16 0] := ⟨by kernel_rfl⟩
instance : TB Tryd.prog 76 56 := ⟨by kernel_rfl⟩
instance : TF Tryd.prog 76 0 0 74 := ⟨by kernel_rfl⟩
instance : TF Tryd.prog 76 1 1 73 := ⟨by kernel_rfl⟩
instance : TL Tryd.prog 77 false 1 := ⟨by kernel_rfl, by kernel_rfl⟩
instance : TZ Tryd.prog 77 [.slice none 0 0] := ⟨by kernel_rfl⟩
instance : TB Tryd.prog 77 24 := ⟨by kernel_rfl⟩
instance : TS Tryd.prog 77 31 := ⟨by kernel_rfl⟩
instance : TL Tryd.prog 78 true 16 := ⟨by kernel_rfl, by kernel_rfl⟩
instance : TZ Tryd.prog 78 [.int .u16 0, .int .u16 0, .int .u16 0, .int .u16 0, .int .u16 0, .int .u16 0, .int .u16 0, .int .u16 0, .int .u16 0, .int .u16 0, .int .u16 0, .int .u16 0, .int .u16 0, .int .u16 0, .int .u16 0, .int .u16 0] := ⟨by kernel_rfl⟩
instance : TB Tryd.prog 78 32 := ⟨by kernel_rfl⟩
instance : TA Tryd.prog 78 16 25 := ⟨by kernel_rfl⟩
instance : TL Tryd.prog 79 true 17 := ⟨by kernel_rfl, by kernel_rfl⟩
instance : TZ Tryd.prog 79 [.slice none 0 0, .int .u16 0, .int .u16 0, .int .u16 0, .int .u16 0, .int .u16 0, .int .u16 0, .int .u16 0, .int .u16 0, .int .u16 0, .int .u16 0, .int .u16 0, .int .u16 0, .int .u16 0, .int .u16 0, .int .u16 0, .int .u16 0] := ⟨by kernel_rfl⟩
instance : TB Tryd.prog 79 56 := ⟨by kernel_rfl⟩
instance : TF Tryd.prog 79 0 0 77 := ⟨by kernel_rfl⟩
instance : TF Tryd.prog 79 1 1 78 := ⟨by kernel_rfl⟩
instance : TL Tryd.prog 80 true 17 := ⟨by kernel_rfl, by kernel_rfl⟩
instance : TZ Tryd.prog 80 [.slice none 0 0, .int .u16 0, .int .u16 0, .int .u16 0, .int .u16 0, .int .u16 0, .int .u16 0, .int .u16 0, .int .u16 0, .int .u16 0, .int .u16 0, .int .u16 0, .int .u16 0, .int .u16 0, .int .u16 0, .int .u16 0, .int .u16 0] := ⟨by kernel_rfl⟩
instance : TB Tryd.prog 80 56 := ⟨by kernel_rfl⟩
instance : TF Tryd.prog 80 0 0 77 := ⟨by kernel_rfl⟩
instance : TF Tryd.prog 80 1 1 78 := ⟨by kernel_rfl⟩
instance : TL Tryd.prog 82 false 1 := ⟨by kernel_rfl, by kernel_rfl⟩
instance : TB Tryd.prog 82 8 := ⟨by kernel_rfl⟩
instance : TL Tryd.prog 83 false 1 := ⟨by kernel_rfl, by kernel_rfl⟩
instance : TZ Tryd.prog 83 [.slice none 0 0] := ⟨by kernel_rfl⟩
instance : TB Tryd.prog 83 24 := ⟨by kernel_rfl⟩
instance : TS Tryd.prog 83 23 := ⟨by kernel_rfl⟩
instance : TL Tryd.prog 84 false 1 := ⟨by kernel_rfl, by kernel_rfl⟩
instance : TB Tryd.prog 84 8 := ⟨by kernel_rfl⟩
instance : TL Tryd.prog 86 false 1 := ⟨by kernel_rfl, by kernel_rfl⟩
instance : TB Tryd.prog 86 8 := ⟨by kernel_rfl⟩
instance : TL Tryd.prog 88 false 1 := ⟨by kernel_rfl, by kernel_rfl⟩
instance : TB Tryd.prog 88 8 := ⟨by kernel_rfl⟩
instance : TL Tryd.prog 89 false 1 := ⟨by kernel_rfl, by kernel_rfl⟩
instance : TB Tryd.prog 89 8 := ⟨by kernel_rfl⟩
instance : TL Tryd.prog 90 false 1 := ⟨by kernel_rfl, by kernel_rfl⟩
instance : TB Tryd.prog 90 8 := ⟨by kernel_rfl⟩
instance : TL Tryd.prog 91 false 1 := ⟨by kernel_rfl, by kernel_rfl⟩
instance : TZ Tryd.prog 91 [.slice none 0 0] := ⟨by kernel_rfl⟩
instance : TB Tryd.prog 91 24 := ⟨by kernel_rfl⟩
instance : TS Tryd.prog 91 95 := ⟨by kernel_rfl⟩
instance : TL Tryd.prog 92 true 3 := ⟨by kernel_rfl, by kernel_rfl⟩
instance : TZ Tryd.prog 92 [.int .u8 0, .int .u8 0, .int .u8 0] := ⟨by kernel_rfl⟩
instance : TB Tryd.prog 92 3 := ⟨by kernel_rfl⟩
instance : TF Tryd.prog 92 0 0 5 := ⟨by kernel_rfl⟩
instance : TF Tryd.prog 92 1 1 5 := ⟨by kernel_rfl⟩
instance : TF Tryd.prog 92 2 2 5 := ⟨by kernel_rfl⟩
instance : TL Tryd.prog 93 true 3 := ⟨by kernel_rfl, by kernel_rfl⟩
instance : TZ Tryd.prog 93 [.int .u8 0, .int .u8 0, .int .u8 0] := ⟨by kernel_rfl⟩
instance : TB Tryd.prog 93 3 := ⟨by kernel_rfl⟩
instance : TF Tryd.prog 93 0 0 5 := ⟨by kernel_rfl⟩
instance : TF Tryd.prog 93 1 1 5 := ⟨by kernel_rfl⟩
instance : TF Tryd.prog 93 2 2 5 := ⟨by kernel_rfl⟩
instance : TL Tryd.prog 94 true 2 := ⟨by kernel_rfl, by kernel_rfl⟩
instance : TZ Tryd.prog 94 [.int .u8 0, .int .u8 0] := ⟨by kernel_rfl⟩
instance : TB Tryd.prog 94 2 := ⟨by kernel_rfl⟩
instance : TF Tryd.prog 94 0 0 5 := ⟨by kernel_rfl⟩
instance : TF Tryd.prog 94 1 1 5 := ⟨by kernel_rfl⟩
instance : TL Tryd.prog 95 true 2 := ⟨by kernel_rfl, by kernel_rfl⟩
instance : TZ Tryd.prog 95 [.int .u8 0, .int .u8 0] := ⟨by kernel_rfl⟩
instance : TB Tryd.prog 95 2 := ⟨by kernel_rfl⟩
instance : TF Tryd.prog 95 0 0 5 := ⟨by kernel_rfl⟩
instance : TF Tryd.prog 95 1 1 5 := ⟨by kernel_rfl⟩
instance : TL Tryd.prog 96 true 5 := ⟨by kernel_rfl, by kernel_rfl⟩
instance : TZ Tryd.prog 96 [.int .u8 0, .int .u8 0, .int .u8 0, .int .u8 0, .int .u8 0] := ⟨by kernel_rfl⟩
instance : TB Tryd.prog 96 5 := ⟨by kernel_rfl⟩
instance : TF Tryd.prog 96 0 0 93 := ⟨by kernel_rfl⟩
instance : TF Tryd.prog 96 1 3 95 := ⟨by kernel_rfl⟩
instance : TL Tryd.prog 97 true 5 := ⟨by kernel_rfl, by kernel_rfl⟩
instance : TZ Tryd.prog 97 [.int .u8 0, .int .u8 0, .int .u8 0, .int .u8 0, .int .u8 0] := ⟨by kernel_rfl⟩
instance : TB Tryd.prog 97 5 := ⟨by kernel_rfl⟩
instance : TF Tryd.prog 97 0 0 93 := ⟨by kernel_rfl⟩
instance : TF Tryd.prog 97 1 3 95 := ⟨by kernel_rfl⟩
instance : TL Tryd.prog 98 true 80 := ⟨by kernel_rfl, by kernel_rfl⟩
instance : TZ Tryd.prog 98 [.int .u8 0, .int .u8 0, .int .u8 0, .int .u8 0, .int .u8 0, .int .u8 0, .int .u8 0, .int .u8 0, .int .u8 0, .int .u8 0, .int .u8 0, .int .u8 0, .int .u8 0, .int .u8 0, .int .u8 0, .int .u8 0, .int .u8 0, .int .u8 0, .int .u8 0, .int .u8 0, .int .u8 0, .int .u8 0, .int .u8 0, .int .u8 0, .int .u8 0, .int .u8 0, .int .u8 0, .int .u8 0, .int .u8 0, .int .u8 0, .int .u8 0, .int .u8 0, .int .u8 0, .int .u8 0, .int .u8 0, .int .u8 0, .int .u8 0, .int .u8 0, .int .u8 0, .int .u8 0, .int .u8 0, .int .u8 0, .int .u8 0, .int .u8 0, .int .u8 0, .int .u8 0, .int .u8 0, .int .u8 0, .int .u8 0, .int .u8 0, .int .u8 0, .int .u8 0, .int .u8 0, .int .u8 0, .int .u8 0, .int .u8 0, .int .u8 0, .int .u8 0, .int .u8 0, .int .u8 0, .int .u8 0, .int .u8 0, .int .u8 0, .int .u8 0, .int .u8 0, .int .u8 0, .int .u8 0, .int .u8 0, .int .u8 0, .int .u8 0, .int .u8 0, .int .u8 0, .int .u8 0, .int .u8 0, .int .u8 0, .int .u8 0, .int .u8 0, .int .u8 0, .int .u8 0, .int .u8 0] := ⟨by kernel_rfl⟩
instance : TB Tryd.prog 98 80 := ⟨by kernel_rfl⟩
instance : TA Tryd.prog 98 16 97 := ⟨by kernel_rfl⟩
instance : TL Tryd.prog 99 true 81 := ⟨by kernel_rfl, by kernel_rfl⟩
instance : TZ Tryd.prog 99 [.int .u8 0, .int .u8 0, .int .u8 0, .int .u8 0, .int .u8 0, .int .u8 0, .int .u8 0, .int .u8 0, .int .u8 0, .int .u8 0, .int .u8 0, .int .u8 0, .int .u8 0, .int .u8 0, .int .u8 0, .int .u8 0, .int .u8 0, .int .u8 0, .int .u8 0, .int .u8 0, .int .u8 0, .int .u8 0, .int .u8 0, .int .u8 0, .int .u8 0, .int .u8 0, .int .u8 0, .int .u8 0, .int .u8 0, .int .u8 0, .int .u8 0, .int .u8 0, .int .u8 0, .int .u8 0, .int .u8 0, .int .u8 0, .int .u8 0, .int .u8 0, .int .u8 0, .int .u8 0, .int .u8 0, .int .u8 0, .int .u8 0, .int .u8 0, .int .u8 0, .int .u8 0, .int .u8 0, .int .u8 0, .int .u8 0, .int .u8 0, .int .u8 0, .int .u8 0, .int .u8 0, .int .u8 0, .int .u8 0, .int .u8 0, .int .u8 0, .int .u8 0, .int .u8 0, .int .u8 0, .int .u8 0, .int .u8 0, .int .u8 0, .int .u8 0, .int .u8 0, .int .u8 0, .int .u8 0, .int .u8 0, .int .u8 0, .int .u8 0, .int .u8 0, .int .u8 0, .int .u8 0, .int .u8 0, .int .u8 0, .int .u8 0, .int .u8 0, .int .u8 0, .int .u8 0, .int .u8 0, .int .i64 0] := ⟨by kernel_rfl⟩
instance : TB Tryd.prog 99 88 := ⟨by kernel_rfl⟩
instance : TF Tryd.prog 99 0 0 98 := ⟨by kernel_rfl⟩
instance : TF Tryd.prog 99 1 80 3 := ⟨by kernel_rfl⟩
instance : TL Tryd.prog 100 true 81 := ⟨by kernel_rfl, by kernel_rfl⟩
instance : TZ Tryd.prog 100 [.int .u8 0, .int .u8 0, .int .u8 0, .int .u8 0, .int .u8 0, .int .u8 0, .int .u8 0, .int .u8 0, .int .u8 0, .int .u8 0, .int .u8 0, .int .u8 0, .int .u8 0, .int .u8 0, .int .u8 0, .int .u8 0, .int .u8 0, .int .u8 0, .int .u8 0, .int .u8 0, .int .u8 0, .int .u8 0, .int .u8 0, .int .u8 0, .int .u8 0, .int .u8 0, .int .u8 0, .int .u8 0, .int .u8 0, .int .u8 0, .int .u8 0, .int .u8 0, .int .u8 0, .int .u8 0, .int .u8 0, .int .u8 0, .int .u8 0, .int .u8 0, .int .u8 0, .int .u8 0, .int .u8 0, .int .u8 0, .int .u8 0, .int .u8 0, .int .u8 0, .int .u8 0, .int .u8 0, .int .u8 0, .int .u8 0, .int .u8 0, .int .u8 0, .int .u8 0, .int .u8 0, .int .u8 0, .int .u8 0, .int .u8 0, .int .u8 0, .int .u8 0, .int .u8 0, .int .u8 0, .int .u8 0, .int .u8 0, .int .u8 0, .int .u8 0, .int .u8 0, .int .u8 0, .int .u8 0, .int .u8 0, .int .u8 0, .int .u8 0, .int .u8 0, .int .u8 0, .int .u8 0, .int .u8 0, .int .u8 0, .int .u8 0, .int .u8 0, .int .u8 0, .int .u8 0, .int .u8 0, .int .i64 0] := ⟨by kernel_rfl⟩
instance : TB Tryd.prog 100 88 := ⟨by kernel_rfl⟩
instance : TF Tryd.prog 100 0 0 98 := ⟨by kernel_rfl⟩
instance : TF Tryd.prog 100 1 80 3 := ⟨by kernel_rfl⟩
instance : TL Tryd.prog 102 false 1 := ⟨by kernel_rfl, by kernel_rfl⟩
instance : TB Tryd.prog 102 8 := ⟨by kernel_rfl⟩
instance : TL Tryd.prog 103 false 1 := ⟨by kernel_rfl, by kernel_rfl⟩
instance : TZ Tryd.prog 103 [.slice none 0 0] := ⟨by kernel_rfl⟩
instance : TB Tryd.prog 103 24 := ⟨by kernel_rfl⟩
instance : TS Tryd.prog 103 145 := ⟨by kernel_rfl⟩
instance : TL Tryd.prog 105 false 1 := ⟨by kernel_rfl, by kernel_rfl⟩
instance : TB Tryd.prog 105 8 := ⟨by kernel_rfl⟩
instance : TL Tryd.prog 106 false 1 := ⟨by kernel_rfl, by kernel_rfl⟩
instance : TB Tryd.prog 106 8 := ⟨by kernel_rfl⟩
instance : TL Tryd.prog 108 false 1 := ⟨by kernel_rfl, by kernel_rfl⟩
instance : TB Tryd.prog 108 8 := ⟨by kernel_rfl⟩
instance : TL Tryd.prog 109 false 1 := ⟨by kernel_rfl, by kernel_rfl⟩
instance : TB Tryd.prog 109 8 := ⟨by kernel_rfl⟩
instance : TL Tryd.prog 110 false 1 := ⟨by kernel_rfl, by kernel_rfl⟩
instance : TB Tryd.prog 110 8 := ⟨by kernel_rfl⟩
instance : TL Tryd.prog 111 false 1 := ⟨by kernel_rfl, by kernel_rfl⟩
instance : TB Tryd.prog 111 8 := ⟨by kernel_rfl⟩
instance : TL Tryd.prog 112 false 1 := ⟨by kernel_rfl, by kernel_rfl⟩
instance : TB Tryd.prog 112 8 := ⟨by kernel_rfl⟩
instance : TL Tryd.prog 113 false 1 := ⟨by kernel_rfl, by kernel_rfl⟩
instance : TB Tryd.prog 113 8 := ⟨by kernel_rfl⟩
instance : TL Tryd.prog 114 true 4 := ⟨by kernel_rfl, by kernel_rfl⟩
instance : TZ Tryd.prog 114 [.int .i64 0, .int .i64 0, .int .i64 0, .int .i64 0] := ⟨by kernel_rfl⟩
instance : TB Tryd.prog 114 32 := ⟨by kernel_rfl⟩
instance : TA Tryd.prog 114 4 3 := ⟨by kernel_rfl⟩
instance : TL Tryd.prog 116 false 1 := ⟨by kernel_rfl, by kernel_rfl⟩
instance : TB Tryd.prog 116 8 := ⟨by kernel_rfl⟩
instance : TL Tryd.prog 117 false 1 := ⟨by kernel_rfl, by kernel_rfl⟩
instance : TB Tryd.prog 117 8 := ⟨by kernel_rfl⟩
instance : TL Tryd.prog 118 true 1 := ⟨by kernel_rfl, by kernel_rfl⟩
instance : TZ Tryd.prog 118 [.int .u16 0] := ⟨by kernel_rfl⟩
instance : TB Tryd.prog 118 2 := ⟨by kernel_rfl⟩
instance : TF Tryd.prog 118 0 0 26 := ⟨by kernel_rfl⟩
instance : TL Tryd.prog 119 true 1 := ⟨by kernel_rfl, by kernel_rfl⟩
instance : TZ Tryd.prog 119 [.int .u16 0] := ⟨by kernel_rfl⟩
instance : TB Tryd.prog 119 2 := ⟨by kernel_rfl⟩
instance : TF Tryd.prog 119 0 0 26 := ⟨by kernel_rfl⟩
instance : TL Tryd.prog 120 false 1 := ⟨by kernel_rfl, by kernel_rfl⟩
instance : TB Tryd.prog 120 8 := ⟨by kernel_rfl⟩
instance : TL Tryd.prog 121 false 1 := ⟨by kernel_rfl, by kernel_rfl⟩
instance : TB Tryd.prog 121 8 := ⟨by kernel_rfl⟩
instance : TL Tryd.prog 122 false 1 := ⟨by kernel_rfl, by kernel_rfl⟩
instance : TB Tryd.prog 122 8 := ⟨by kernel_rfl⟩
instance : TL Tryd.prog 123 false 1 := ⟨by kernel_rfl, by kernel_rfl⟩
instance : TB Tryd.prog 123 8 := ⟨by kernel_rfl⟩
instance : TL Tryd.prog 124 false 1 := ⟨by kernel_rfl, by kernel_rfl⟩
instance : TB Tryd.prog 124 8 := ⟨by kernel_rfl⟩
instance : TL Tryd.prog 125 false 1 := ⟨by kernel_rfl, by kernel_rfl⟩
instance : TB Tryd.prog 125 8 := ⟨by kernel_rfl⟩
instance : TL Tryd.prog 126 false 1 := ⟨by kernel_rfl, by kernel_rfl⟩
instance : TB Tryd.prog 126 8 := ⟨by kernel_rfl⟩
instance : TL Tryd.prog 127 false 1 := ⟨by kernel_rfl, by kernel_rfl⟩
instance : TB Tryd.prog 127 8 := ⟨by kernel_rfl⟩
instance : TL Tryd.prog 128 false 1 := ⟨by kernel_rfl, by kernel_rfl⟩
instance : TB Tryd.prog 128 8 := ⟨by kernel_rfl⟩
instance : TL Tryd.prog 130 false 1 := ⟨by kernel_rfl, by kernel_rfl⟩
instance : TB Tryd.prog 130 8 := ⟨by kernel_rfl⟩
instance : TL Tryd.prog 131 false 1 := ⟨by kernel_rfl, by kernel_rfl⟩
instance : TB Tryd.prog 131 8 := ⟨by kernel_rfl⟩
instance : TL Tryd.prog 132 false 1 := ⟨by kernel_rfl, by kernel_rfl⟩
instance : TB Tryd.prog 132 8 := ⟨by kernel_rfl⟩
instance : TL Tryd.prog 133 false 1 := ⟨by kernel_rfl, by kernel_rfl⟩
instance : TB Tryd.prog 133 8 := ⟨by kernel_rfl⟩
instance : TL Tryd.prog 134 false 1 := ⟨by kernel_rfl, by kernel_rfl⟩
instance : TB Tryd.prog 134 8 := ⟨by kernel_rfl⟩
instance : TL Tryd.prog 135 false 1 := ⟨by kernel_rfl, by kernel_rfl⟩
instance : TZ Tryd.prog 135 [.map none] := ⟨by kernel_rfl⟩
instance : TB Tryd.prog 135 8 := ⟨by kernel_rfl⟩
instance : TL Tryd.prog 136 false 1 := ⟨by kernel_rfl, by kernel_rfl⟩
instance : TB Tryd.prog 136 8 := ⟨by kernel_rfl⟩
instance : TL Tryd.prog 137 true 2 := ⟨by kernel_rfl, by kernel_rfl⟩
instance : TZ Tryd.prog 137 [.int .i64 0, .int .i8 0] := ⟨by kernel_rfl⟩
instance : TB Tryd.prog 137 16 := ⟨by kernel_rfl⟩
instance : TF Tryd.prog 137 0 0 3 := ⟨by kernel_rfl⟩
instance : TF Tryd.prog 137 1 1 22 := ⟨by kernel_rfl⟩
instance : TL Tryd.prog 138 true 2 := ⟨by kernel_rfl, by kernel_rfl⟩
instance : TZ Tryd.prog 138 [.int .i64 0, .int .i8 0] := ⟨by kernel_rfl⟩
instance : TB Tryd.prog 138 16 := ⟨by kernel_rfl⟩
instance : TF Tryd.prog 138 0 0 3 := ⟨by kernel_rfl⟩
instance : TF Tryd.prog 138 1 1 22 := ⟨by kernel_rfl⟩
instance : TL Tryd.prog 140 false 1 := ⟨by kernel_rfl, by kernel_rfl⟩
instance : TB Tryd.prog 140 8 := ⟨by kernel_rfl⟩
instance : TL Tryd.prog 141 true 2 := ⟨by kernel_rfl, by kernel_rfl⟩
instance : TZ Tryd.prog 141 [.int .i64 0, .int .i64 0] := ⟨by kernel_rfl⟩
instance : TB Tryd.prog 141 16 := ⟨by kernel_rfl⟩
instance : TA Tryd.prog 141 2 3 := ⟨by kernel_rfl⟩
instance : TL Tryd.prog 142 false 1 := ⟨by kernel_rfl, by kernel_rfl⟩
instance : TB Tryd.prog 142 8 := ⟨by kernel_rfl⟩
instance : TL Tryd.prog 143 false 1 := ⟨by kernel_rfl, by kernel_rfl⟩
instance : TB Tryd.prog 143 8 := ⟨by kernel_rfl⟩
instance : TL Tryd.prog 144 true 2 := ⟨by kernel_rfl, by kernel_rfl⟩
instance : TZ Tryd.prog 144 [.int .i64 0, .bool false] := ⟨by kernel_rfl⟩
instance : TB Tryd.prog 144 16 := ⟨by kernel_rfl⟩
instance : TF Tryd.prog 144 0 0 3 := ⟨by kernel_rfl⟩
instance : TF Tryd.prog 144 1 1 4 := ⟨by kernel_rfl⟩
instance : TL Tryd.prog 145 true 2 := ⟨by kernel_rfl, by kernel_rfl⟩
instance : TZ Tryd.prog 145 [.int .i64 0, .bool false] := ⟨by kernel_rfl⟩
instance : TB Tryd.prog 145 16 := ⟨by kernel_rfl⟩
instance : TF Tryd.prog 145 0 0 3 := ⟨by kernel_rfl⟩
instance : TF Tryd.prog 145 1 1 4 := ⟨by kernel_rfl⟩
instance : TL Tryd.prog 147 false 1 := ⟨by kernel_rfl, by kernel_rfl⟩
instance : TB Tryd.prog 147 8 := ⟨by kernel_rfl⟩
instance : TL Tryd.prog 148 false 1 := ⟨by kernel_rfl, by kernel_rfl⟩
instance : TB Tryd.prog 148 8 := ⟨by kernel_rfl⟩
instance : TL Tryd.prog 149 false 1 := ⟨by kernel_rfl, by kernel_rfl⟩
instance : TB Tryd.prog 149 8 := ⟨by kernel_rfl⟩
instance : TL Tryd.prog 150 true 3 := ⟨by kernel_rfl, by kernel_rfl⟩
instance : TZ Tryd.prog 150 [.int .u16 0, .int .u16 0, .int .u16 0] := ⟨by kernel_rfl⟩
instance : TB Tryd.prog 150 6 := ⟨by kernel_rfl⟩
instance : TA Tryd.prog 150 3 26 := ⟨by kernel_rfl⟩
instance : TL Tryd.prog 152 false 1 := ⟨by kernel_rfl, by kernel_rfl⟩
instance : TB Tryd.prog 152 8 := ⟨by kernel_rfl⟩
instance : TL Tryd.prog 153 false 1 := ⟨by kernel_rfl, by kernel_rfl⟩
instance : TB Tryd.prog 153 8 := ⟨by kernel_rfl⟩
instance : TL Tryd.prog 154 false 1 := ⟨by kernel_rfl, by kernel_rfl⟩
instance : TB Tryd.prog 154 8 := ⟨by kernel_rfl⟩
instance : TL Tryd.prog 155 false 1 := ⟨by kernel_rfl, by kernel_rfl⟩
instance : TB Tryd.prog 155 8 := ⟨by kernel_rfl⟩
instance : TL Tryd.prog 156 true 16 := ⟨by kernel_rfl, by kernel_rfl⟩
instance : TZ Tryd.prog 156 [.int .i64 0, .int .i64 0, .int .i64 0, .int .i64 0, .int .i64 0, .int .i64 0, .int .i64 0, .int .i64 0, .int .i64 0, .int .i64 0, .int .i64 0, .int .i64 0, .int .i64 0, .int .i64 0, .int .i64 0, .int .i64 0] := ⟨by kernel_rfl⟩
instance : TB Tryd.prog 156 128 := ⟨by kernel_rfl⟩
instance : TA Tryd.prog 156 16 3 := ⟨by kernel_rfl⟩
instance : TL Tryd.prog 157 false 1 := ⟨by kernel_rfl, by kernel_rfl⟩
instance : TB Tryd.prog 157 8 := ⟨by kernel_rfl⟩
instance : TL Tryd.prog 158 false 1 := ⟨by kernel_rfl, by kernel_rfl⟩
instance : TB Tryd.prog 158 8 := ⟨by kernel_rfl⟩
instance : TL Tryd.prog 159 true 32 := ⟨by kernel_rfl, by kernel_rfl⟩
instance : TZ Tryd.prog 159 [.int .u8 0, .int .u8 0, .int .u8 0, .int .u8 0, .int .u8 0, .int .u8 0, .int .u8 0, .int .u8 0, .int .u8 0, .int .u8 0, .int .u8 0, .int .u8 0, .int .u8 0, .int .u8 0, .int .u8 0, .int .u8 0, .int .u8 0, .int .u8 0, .int .u8 0, .int .u8 0, .int .u8 0, .int .u8 0, .int .u8 0, .int .u8 0, .int .u8 0, .int .u8 0, .int .u8 0, .int .u8 0, .int .u8 0, .int .u8 0, .int .u8 0, .int .u8 0] := ⟨by kernel_rfl⟩
instance : TB Tryd.prog 159 32 := ⟨by kernel_rfl⟩
instance : TA Tryd.prog 159 32 5 := ⟨by kernel_rfl⟩
instance : TL Tryd.prog 160 false 1 := ⟨by kernel_rfl, by kernel_rfl⟩
instance : TZ Tryd.prog 160 [.int .u32 0] := ⟨by kernel_rfl⟩
instance : TB Tryd.prog 160 4 := ⟨by kernel_rfl⟩
instance : TI Tryd.prog 160 .u32 := ⟨by kernel_rfl⟩
instance : TL Tryd.prog 161 false 1 := ⟨by kernel_rfl, by kernel_rfl⟩
instance : TZ Tryd.prog 161 [.int .u64 0] := ⟨by kernel_rfl⟩
instance : TB Tryd.prog 161 8 := ⟨by kernel_rfl⟩
instance : TI Tryd.prog 161 .u64 := ⟨by kernel_rfl⟩
instance : TL Tryd.prog 162 false 1 := ⟨by kernel_rfl, by kernel_rfl⟩
instance : TB Tryd.prog 162 8 := ⟨by kernel_rfl⟩
instance : TL Tryd.prog 163 false 1 := ⟨by kernel_rfl, by kernel_rfl⟩
instance : TB Tryd.prog 163 8 := ⟨by kernel_rfl⟩
instance : TL Tryd.prog 172 false 1 := ⟨by kernel_rfl, by kernel_rfl⟩
instance : TZ Tryd.prog 172 [.pointer none] := ⟨by kernel_rfl⟩
instance : TB Tryd.prog 172 8 := ⟨by kernel_rfl⟩
instance : TRw Tryd.prog 1 1 [.nilFunc] := ⟨by kernel_rfl, by kernel_rfl, rfl, by decide⟩
instance : TRw Tryd.prog 2 1 [.int .i64 0] := ⟨by kernel_rfl, by kernel_rfl, rfl, by decide⟩
instance : TRw Tryd.prog 3 1 [.int .i64 0] := ⟨by kernel_rfl, by kernel_rfl, rfl, by decide⟩
instance : TRw Tryd.prog 4 1 [.bool false] := ⟨by kernel_rfl, by kernel_rfl, rfl, by decide⟩
instance : TRw Tryd.prog 5 1 [.int .u8 0] := ⟨by kernel_rfl, by kernel_rfl, rfl, by decide⟩
instance : TRw Tryd.prog 9 1 [.string ⟨#[]⟩] := ⟨by kernel_rfl, by kernel_rfl, rfl, by decide⟩
instance : TRw Tryd.prog 21 1 [.int .i32 0] := ⟨by kernel_rfl, by kernel_rfl, rfl, by decide⟩
instance : TRw Tryd.prog 22 1 [.int .i8 0] := ⟨by kernel_rfl, by kernel_rfl, rfl, by decide⟩
instance : TBd Tryd.prog 23 (fun i => some (i * 1, 1)) [.int .i8 0, .int .i8 0, .int .i8 0, .int .i8 0, .int .i8 0, .int .i8 0] := ⟨fun _ => by kernel_rfl⟩
instance : TRw Tryd.prog 23 6 [.int .i8 0, .int .i8 0, .int .i8 0, .int .i8 0, .int .i8 0, .int .i8 0] := ⟨by kernel_rfl, by kernel_rfl, rfl, by decide⟩
instance : TBd Tryd.prog 24 (fun i => some (i * 1, 1)) [.int .i8 0, .int .i8 0, .int .i8 0, .int .i8 0, .int .i8 0, .int .i8 0] := ⟨fun _ => by kernel_rfl⟩
instance : TRw Tryd.prog 24 6 [.int .i8 0, .int .i8 0, .int .i8 0, .int .i8 0, .int .i8 0, .int .i8 0] := ⟨by kernel_rfl, by kernel_rfl, rfl, by decide⟩
instance : TRw Tryd.prog 25 1 [.int .u16 0] := ⟨by kernel_rfl, by kernel_rfl, rfl, by decide⟩
instance : TRw Tryd.prog 26 1 [.int .u16 0] := ⟨by kernel_rfl, by kernel_rfl, rfl, by decide⟩
instance : TRw Tryd.prog 27 1 [.slice none 0 0] := ⟨by kernel_rfl, by kernel_rfl, rfl, by decide⟩
instance : TRw Tryd.prog 28 1 [.nilFunc] := ⟨by kernel_rfl, by kernel_rfl, rfl, by decide⟩
instance : TBd Tryd.prog 29 (fun i => #[(0, 1), (1, 6), (7, 6)][i]?) [.int .u8 0, .int .i8 0, .int .i8 0, .int .i8 0, .int .i8 0, .int .i8 0, .int .i8 0, .int .i8 0, .int .i8 0, .int .i8 0, .int .i8 0, .int .i8 0, .int .i8 0] := ⟨fun _ => by kernel_rfl⟩
instance : TRw Tryd.prog 29 13 [.int .u8 0, .int .i8 0, .int .i8 0, .int .i8 0, .int .i8 0, .int .i8 0, .int .i8 0, .int .i8 0, .int .i8 0, .int .i8 0, .int .i8 0, .int .i8 0, .int .i8 0] := ⟨by kernel_rfl, by kernel_rfl, rfl, by decide⟩
instance : TBd Tryd.prog 30 (fun i => #[(0, 1), (1, 6), (7, 6)][i]?) [.int .u8 0, .int .i8 0, .int .i8 0, .int .i8 0, .int .i8 0, .int .i8 0, .int .i8 0, .int .i8 0, .int .i8 0, .int .i8 0, .int .i8 0, .int .i8 0, .int .i8 0] := ⟨fun _ => by kernel_rfl⟩
instance : TRw Tryd.prog 30 13 [.int .u8 0, .int .i8 0, .int .i8 0, .int .i8 0, .int .i8 0, .int .i8 0, .int .i8 0, .int .i8 0, .int .i8 0, .int .i8 0, .int .i8 0, .int .i8 0, .int .i8 0] := ⟨by kernel_rfl, by kernel_rfl, rfl, by decide⟩
instance : TRw Tryd.prog 31 1 [.slice none 0 0] := ⟨by kernel_rfl, by kernel_rfl, rfl, by decide⟩
instance : TBd Tryd.prog 32 (fun i => #[(0, 1), (1, 1), (2, 1), (3, 1)][i]?) [.slice none 0 0, .slice none 0 0, .bool false, .int .u16 0] := ⟨fun _ => by kernel_rfl⟩
instance : TRw Tryd.prog 32 4 [.slice none 0 0, .slice none 0 0, .bool false, .int .u16 0] := ⟨by kernel_rfl, by kernel_rfl, rfl, by decide⟩
instance : TBd Tryd.prog 33 (fun i => #[(0, 1), (1, 1), (2, 1), (3, 1)][i]?) [.slice none 0 0, .slice none 0 0, .bool false, .int .u16 0] := ⟨fun _ => by kernel_rfl⟩
instance : TRw Tryd.prog 33 4 [.slice none 0 0, .slice none 0 0, .bool false, .int .u16 0] := ⟨by kernel_rfl, by kernel_rfl, rfl, by decide⟩
instance : TRw Tryd.prog 34 1 [.int .i64 0] := ⟨by kernel_rfl, by kernel_rfl, rfl, by decide⟩
instance : TRw Tryd.prog 36 1 [.nilFunc] := ⟨by kernel_rfl, by kernel_rfl, rfl, by decide⟩
instance : TRw Tryd.prog 38 1 [.nilFunc] := ⟨by kernel_rfl, by kernel_rfl, rfl, by decide⟩
instance : TRw Tryd.prog 39 1 [.nilFunc] := ⟨by kernel_rfl, by kernel_rfl, rfl, by decide⟩
instance : TRw Tryd.prog 40 1 [.nilFunc] := ⟨by kernel_rfl, by kernel_rfl, rfl, by decide⟩
instance : TRw Tryd.prog 41 1 [.nilFunc] := ⟨by kernel_rfl, by kernel_rfl, rfl, by decide⟩
instance : TRw Tryd.prog 42 1 [.nilFunc] := ⟨by kernel_rfl, by kernel_rfl, rfl, by decide⟩
instance : TRw Tryd.prog 43 1 [.nilFunc] := ⟨by kernel_rfl, by kernel_rfl, rfl, by decide⟩
instance : TRw Tryd.prog 44 1 [.nilFunc] := ⟨by kernel_rfl, by kernel_rfl, rfl, by decide⟩
instance : TRw Tryd.prog 45 1 [.nilFunc] := ⟨by kernel_rfl, by kernel_rfl, rfl, by decide⟩
instance : TRw Tryd.prog 46 1 [.nilFunc] := ⟨by kernel_rfl, by kernel_rfl, rfl, by decide⟩
instance : TRw Tryd.prog 47 1 [.nilFunc] := ⟨by kernel_rfl, by kernel_rfl, rfl, by decide⟩
instance : TBd Tryd.prog 48 (fun i => #[(0, 1), (1, 6), (7, 6)][i]?) [.int .u8 0, .int .i8 0, .int .i8 0, .int .i8 0, .int .i8 0, .int .i8 0, .int .i8 0, .int .i8 0, .int .i8 0, .int .i8 0, .int .i8 0, .int .i8 0, .int .i8 0] := ⟨fun _ => by kernel_rfl⟩
instance : TRw Tryd.prog 48 13 [.int .u8 0, .int .i8 0, .int .i8 0, .int .i8 0, .int .i8 0, .int .i8 0, .int .i8 0, .int .i8 0, .int .i8 0, .int .i8 0, .int .i8 0, .int .i8 0, .int .i8 0] := ⟨by kernel_rfl, by kernel_rfl, rfl, by decide⟩
instance : TBd Tryd.prog 49 (fun i => #[(0, 1), (1, 6), (7, 6)][i]?) [.int .u8 0, .int .i8 0, .int .i8 0, .int .i8 0, .int .i8 0, .int .i8 0, .int .i8 0, .int .i8 0, .int .i8 0, .int .i8 0, .int .i8 0, .int .i8 0, .int .i8 0] := ⟨fun _ => by kernel_rfl⟩
instance : TRw Tryd.prog 49 13 [.int .u8 0, .int .i8 0, .int .i8 0, .int .i8 0, .int .i8 0, .int .i8 0, .int .i8 0, .int .i8 0, .int .i8 0, .int .i8 0, .int .i8 0, .int .i8 0, .int .i8 0] := ⟨by kernel_rfl, by kernel_rfl, rfl, by decide⟩
instance : TRw Tryd.prog 51 1 [.nilFunc] := ⟨by kernel_rfl, by kernel_rfl, rfl, by decide⟩
instance : TRw Tryd.prog 52 1 [.nilFunc] := ⟨by kernel_rfl, by kernel_rfl, rfl, by decide⟩
instance : TRw Tryd.prog 53 1 [.nilFunc] := ⟨by kernel_rfl, by kernel_rfl, rfl, by decide⟩
instance : TRw Tryd.prog 54 1 [.nilFunc] := ⟨by kernel_rfl, by kernel_rfl, rfl, by decide⟩
instance : TRw Tryd.prog 55 1 [.nilFunc] := ⟨by kernel_rfl, by kernel_rfl, rfl, by decide⟩
instance : TRw Tryd.prog 56 1 [.slice none 0 0] := ⟨by kernel_rfl, by kernel_rfl, rfl, by decide⟩
instance : TRw Tryd.prog 57 1 [.nilFunc] := ⟨by kernel_rfl, by kernel_rfl, rfl, by decide⟩
instance : TRw Tryd.prog 58 1 [.nilFunc] := ⟨by kernel_rfl, by kernel_rfl, rfl, by decide⟩
instance : TBd Tryd.prog 59 (fun i => some (i * 1, 1)) [.int .u8 0, .int .u8 0, .int .u8 0, .int .u8 0, .int .u8 0, .int .u8 0] := ⟨fun _ => by kernel_rfl⟩
instance : TRw Tryd.prog 59 6 [.int .u8 0, .int .u8 0, .int .u8 0, .int .u8 0, .int .u8 0, .int .u8 0] := ⟨by kernel_rfl, by kernel_rfl, rfl, by decide⟩
instance : TBd Tryd.prog 60 (fun i => some (i * 1, 1)) [.int .u8 0, .int .u8 0, .int .u8 0, .int .u8 0, .int .u8 0, .int .u8 0] := ⟨fun _ => by kernel_rfl⟩
instance : TRw Tryd.prog 60 6 [.int .u8 0, .int .u8 0, .int .u8 0, .int .u8 0, .int .u8 0, .int .u8 0] := ⟨by kernel_rfl, by kernel_rfl, rfl, by decide⟩
instance : TBd Tryd.prog 61 (fun i => #[(0, 1), (1, 1), (2, 6), (8, 6), (14, 1), (15, 1), (16, 1), (17, 1)][i]?) [.int .u16 0, .int .u16 0, .int .u8 0, .int .u8 0, .int .u8 0, .int .u8 0, .int .u8 0, .int .u8 0, .int .i8 0, .int .i8 0, .int .i8 0, .int .i8 0, .int .i8 0, .int .i8 0, .int .u8 0, .int .u16 0, .bool false, .int .u8 0] := ⟨fun _ => by kernel_rfl⟩
instance : TRw Tryd.prog 61 18 [.int .u16 0, .int .u16 0, .int .u8 0, .int .u8 0, .int .u8 0, .int .u8 0, .int .u8 0, .int .u8 0, .int .i8 0, .int .i8 0, .int .i8 0, .int .i8 0, .int .i8 0, .int .i8 0, .int .u8 0, .int .u16 0, .bool false, .int .u8 0] := ⟨by kernel_rfl, by kernel_rfl, rfl, by decide⟩
instance : TBd Tryd.prog 62 (fun i => #[(0, 1), (1, 1), (2, 6), (8, 6), (14, 1), (15, 1), (16, 1), (17, 1)][i]?) [.int .u16 0, .int .u16 0, .int .u8 0, .int .u8 0, .int .u8 0, .int .u8 0, .int .u8 0, .int .u8 0, .int .i8 0, .int .i8 0, .int .i8 0, .int .i8 0, .int .i8 0, .int .i8 0, .int .u8 0, .int .u16 0, .bool false, .int .u8 0] := ⟨fun _ => by kernel_rfl⟩
instance : TRw Tryd.prog 62 18 [.int .u16 0, .int .u16 0, .int .u8 0, .int .u8 0, .int .u8 0, .int .u8 0, .int .u8 0, .int .u8 0, .int .i8 0, .int .i8 0, .int .i8 0, .int .i8 0, .int .i8 0, .int .i8 0, .int .u8 0, .int .u16 0, .bool false, .int .u8 0] := ⟨by kernel_rfl, by kernel_rfl, rfl, by decide⟩
instance : TRw Tryd.prog 63 1 [.nilFunc] := ⟨by kernel_rfl, by kernel_rfl, rfl, by decide⟩
instance : TRw Tryd.prog 64 1 [.nilFunc] := ⟨by kernel_rfl, by kernel_rfl, rfl, by decide⟩
instance : TRw Tryd.prog 65 1 [.nilFunc] := ⟨by kernel_rfl, by kernel_rfl, rfl, by decide⟩
instance : TRw Tryd.prog 66 1 [.nilFunc] := ⟨by kernel_rfl, by kernel_rfl, rfl, by decide⟩
instance : TRw Tryd.prog 67 1 [.nilFunc] := ⟨by kernel_rfl, by kernel_rfl, rfl, by decide⟩
instance : TRw Tryd.prog 68 1 [.nilFunc] := ⟨by kernel_rfl, by kernel_rfl, rfl, by decide⟩
instance : TRw Tryd.prog 69 1 [.nilFunc] := ⟨by kernel_rfl, by kernel_rfl, rfl, by decide⟩
instance : TRw Tryd.prog 70 1 [.nilFunc] := ⟨by kernel_rfl, by kernel_rfl, rfl, by decide⟩
instance : TRw Tryd.prog 71 1 [.nilFunc] := ⟨by kernel_rfl, by kernel_rfl, rfl, by decide⟩
instance : TRw Tryd.prog 72 1 [.slice none 0 0] := ⟨by kernel_rfl, by kernel_rfl, rfl, by decide⟩
instance : TBd Tryd.prog 73 (fun i => some (i * 1, 1)) [.int .u16 0, .int .u16 0, .int .u16 0, .int .u16 0, .int .u16 0, .int .u16 0, .int .u16 0, .int .u16 0, .int .u16 0, .int .u16 0, .int .u16 0, .int .u16 0, .int .u16 0, .int .u16 0, .int .u16 0, .int .u16 0] := ⟨fun _ => by kernel_rfl⟩
instance : TRw Tryd.prog 73 16 [.int .u16 0, .int .u16 0, .int .u16 0, .int .u16 0, .int .u16 0, .int .u16 0, .int .u16 0, .int .u16 0, .int .u16 0, .int .u16 0, .int .u16 0, .int .u16 0, .int .u16 0, .int .u16 0, .int .u16 0, .int .u16 0] := ⟨by kernel_rfl, by kernel_rfl, rfl, by decide⟩
instance : TRw Tryd.prog 74 1 [.slice none 0 0] := ⟨by kernel_rfl, by kernel_rfl, rfl, by decide⟩
instance : TBd Tryd.prog 75 (fun i => #[(0, 1), (1, 16)][i]?) [.slice none 0 0, .int .u16 0, .int .u16 0, .int .u16 0, .int .u16 0, .int .u16 0, .int .u16 0, .int .u16 0, .int .u16 0, .int .u16 0, .int .u16 0, .int .u16 0, .int .u16 0, .int .u16 0, .int .u16 0, .int .u16 0, .int .u16 0] := ⟨fun _ => by kernel_rfl⟩
instance : TRw Tryd.prog 75 17 [.slice none 0 0, .int .u16 0, .int .u16 0, .int .u16 0, .int .u16 0, .int .u16 0, .int .u16 0, .int .u16 0, .int .u16 0, .int .u16 0, .int .u16 0, .int .u16 0, .int .u16 0, .int .u16 0, .int .u16 0, .int .u16 0, .int .u16 0] := ⟨by kernel_rfl, by kernel_rfl, rfl, by decide⟩
instance : TBd Tryd.prog 76 (fun i => #[(0, 1), (1, 16)][i]?) [.slice none 0 0, .int .u16 0, .int .u16 0, .int .u16 0, .int .u16 0, .int .u16 0, .int .u16 0, .int .u16 0, .int .u16 0, .int .u16 0, .int .u16 0, .int .u16 0, .int .u16 0, .int .u16 0, .int .u16 0, .int .u16 0, .int .u16 0] := ⟨fun _ => by kernel_rfl⟩
instance : TRw Tryd.prog 76 17 [.slice none 0 0, .int .u16 0, .int .u16 0, .int .u16 0, .int .u16 0, .int .u16 0, .int .u16 0, .int .u16 0, .int .u16 0, .int .u16 0, .int .u16 0, .int .u16 0, .int .u16 0, .int .u16 0, .int .u16 0, .int .u16 0, .int .u16 0] := ⟨by kernel_rfl, by kernel_rfl, rfl, by decide⟩
instance : TRw Tryd.prog 77 1 [.slice none 0 0] := ⟨by kernel_rfl, by kernel_rfl, rfl, by decide⟩
instance : TBd Tryd.prog 78 (fun i => some (i * 1, 1)) [.int .u16 0, .int .u16 0, .int .u16 0, .int .u16 0, .int .u16 0, .int .u16 0, .int .u16 0, .int .u16 0, .int .u16 0, .int .u16 0, .int .u16 0, .int .u16 0, .int .u16 0, .int .u16 0, .int .u16 0, .int .u16 0] := ⟨fun _ => by kernel_rfl⟩
instance : TRw Tryd.prog 78 16 [.int .u16 0, .int .u16 0, .int .u16 0, .int .u16 0, .int .u16 0, .int .u16 0, .int .u16 0, .int .u16 0, .int .u16 0, .int .u16 0, .int .u16 0, .int .u16 0, .int .u16 0, .int .u16 0, .int .u16 0, .int .u16 0] := ⟨by kernel_rfl, by kernel_rfl, rfl, by decide⟩
instance : TBd Tryd.prog 79 (fun i => #[(0, 1), (1, 16)][i]?) [.slice none 0 0, .int .u16 0, .int .u16 0, .int .u16 0, .int .u16 0, .int .u16 0, .int .u16 0, .int .u16 0, .int .u16 0, .int .u16 0, .int .u16 0, .int .u16 0, .int .u16 0, .int .u16 0, .int .u16 0, .int .u16 0, .int .u16 0] := ⟨fun _ => by kernel_rfl⟩
instance : TRw Tryd.prog 79 17 [.slice none 0 0, .int .u16 0, .int .u16 0, .int .u16 0, .int .u16 0, .int .u16 0, .int .u16 0, .int .u16 0, .int .u16 0, .int .u16 0, .int .u16 0, .int .u16 0, .int .u16 0, .int .u16 0, .int .u16 0, .int .u16 0, .int .u16 0] := ⟨by kernel_rfl, by kernel_rfl, rfl, by decide⟩
instance : TBd Tryd.prog 80 (fun i => #[(0, 1), (1, 16)][i]?) [.slice none 0 0, .int .u16 0, .int .u16 0, .int .u16 0, .int .u16 0, .int .u16 0, .int .u16 0, .int .u16 0, .int .u16 0, .int .u16 0, .int .u16 0, .int .u16 0, .int .u16 0, .int .u16 0, .int .u16 0, .int .u16 0, .int .u16 0] := ⟨fun _ => by kernel_rfl⟩
instance : TRw Tryd.prog 80 17 [.slice none 0 0, .int .u16 0, .int .u16 0, .int .u16 0, .int .u16 0, .int .u16 0, .int .u16 0, .int .u16 0, .int .u16 0, .int .u16 0, .int .u16 0, .int .u16 0, .int .u16 0, .int .u16 0, .int .u16 0, .int .u16 0, .int .u16 0] := ⟨by kernel_rfl, by kernel_rfl, rfl, by decide⟩
instance : TRw Tryd.prog 82 1 [.nilFunc] := ⟨by kernel_rfl, by kernel_rfl, rfl, by decide⟩
instance : TRw Tryd.prog 83 1 [.slice none 0 0] := ⟨by kernel_rfl, by kernel_rfl, rfl, by decide⟩
instance : TRw Tryd.prog 84 1 [.nilFunc] := ⟨by kernel_rfl, by kernel_rfl, rfl, by decide⟩
instance : TRw Tryd.prog 86 1 [.nilFunc] := ⟨by kernel_rfl, by kernel_rfl, rfl, by decide⟩
instance : TRw Tryd.prog 88 1 [.nilFunc] := ⟨by kernel_rfl, by kernel_rfl, rfl, by decide⟩
instance : TRw Tryd.prog 89 1 [.nilFunc] := ⟨by kernel_rfl, by kernel_rfl, rfl, by decide⟩
instance : TRw Tryd.prog 90 1 [.nilFunc] := ⟨by kernel_rfl, by kernel_rfl, rfl, by decide⟩
instance : TRw Tryd.prog 91 1 [.slice none 0 0] := ⟨by kernel_rfl, by kernel_rfl, rfl, by decide⟩
instance : TBd Tryd.prog 92 (fun i => #[(0, 1), (1, 1), (2, 1)][i]?) [.int .u8 0, .int .u8 0, .int .u8 0] := ⟨fun _ => by kernel_rfl⟩
instance : TRw Tryd.prog 92 3 [.int .u8 0, .int .u8 0, .int .u8 0] := ⟨by kernel_rfl, by kernel_rfl, rfl, by decide⟩
instance : TBd Tryd.prog 93 (fun i => #[(0, 1), (1, 1), (2, 1)][i]?) [.int .u8 0, .int .u8 0, .int .u8 0] := ⟨fun _ => by kernel_rfl⟩
instance : TRw Tryd.prog 93 3 [.int .u8 0, .int .u8 0, .int .u8 0] := ⟨by kernel_rfl, by kernel_rfl, rfl, by decide⟩
instance : TBd Tryd.prog 94 (fun i => #[(0, 1), (1, 1)][i]?) [.int .u8 0, .int .u8 0] := ⟨fun _ => by kernel_rfl⟩
instance : TRw Tryd.prog 94 2 [.int .u8 0, .int .u8 0] := ⟨by kernel_rfl, by kernel_rfl, rfl, by decide⟩
instance : TBd Tryd.prog 95 (fun i => #[(0, 1), (1, 1)][i]?) [.int .u8 0, .int .u8 0] := ⟨fun _ => by kernel_rfl⟩
instance : TRw Tryd.prog 95 2 [.int .u8 0, .int .u8 0] := ⟨by kernel_rfl, by kernel_rfl, rfl, by decide⟩
instance : TBd Tryd.prog 96 (fun i => #[(0, 3), (3, 2)][i]?) [.int .u8 0, .int .u8 0, .int .u8 0, .int .u8 0, .int .u8 0] := ⟨fun _ => by kernel_rfl⟩
instance : TRw Tryd.prog 96 5 [.int .u8 0, .int .u8 0, .int .u8 0, .int .u8 0, .int .u8 0] := ⟨by kernel_rfl, by kernel_rfl, rfl, by decide⟩
instance : TBd Tryd.prog 97 (fun i => #[(0, 3), (3, 2)][i]?) [.int .u8 0, .int .u8 0, .int .u8 0, .int .u8 0, .int .u8 0] := ⟨fun _ => by kernel_rfl⟩
instance : TRw Tryd.prog 97 5 [.int .u8 0, .int .u8 0, .int .u8 0, .int .u8 0, .int .u8 0] := ⟨by kernel_rfl, by kernel_rfl, rfl, by decide⟩
instance : TBd Tryd.prog 98 (fun i => some (i * 5, 5)) [.int .u8 0, .int .u8 0, .int .u8 0, .int .u8 0, .int .u8 0, .int .u8 0, .int .u8 0, .int .u8 0, .int .u8 0, .int .u8 0, .int .u8 0, .int .u8 0, .int .u8 0, .int .u8 0, .int .u8 0, .int .u8 0, .int .u8 0, .int .u8 0, .int .u8 0, .int .u8 0, .int .u8 0, .int .u8 0, .int .u8 0, .int .u8 0, .int .u8 0, .int .u8 0, .int .u8 0, .int .u8 0, .int .u8 0, .int .u8 0, .int .u8 0, .int .u8 0, .int .u8 0, .int .u8 0, .int .u8 0, .int .u8 0, .int .u8 0, .int .u8 0, .int .u8 0, .int .u8 0, .int .u8 0, .int .u8 0, .int .u8 0, .int .u8 0, .int .u8 0, .int .u8 0, .int .u8 0, .int .u8 0, .int .u8 0, .int .u8 0, .int .u8 0, .int .u8 0, .int .u8 0, .int .u8 0, .int .u8 0, .int .u8 0, .int .u8 0, .int .u8 0, .int .u8 0, .int .u8 0, .int .u8 0, .int .u8 0, .int .u8 0, .int .u8 0, .int .u8 0, .int .u8 0, .int .u8 0, .int .u8 0, .int .u8 0, .int .u8 0, .int .u8 0, .int .u8 0, .int .u8 0, .int .u8 0, .int .u8 0, .int .u8 0, .int .u8 0, .int .u8 0, .int .u8 0, .int .u8 0] := ⟨fun _ => by kernel_rfl⟩
instance : TRw Tryd.prog 98 80 [.int .u8 0, .int .u8 0, .int .u8 0, .int .u8 0, .int .u8 0, .int .u8 0, .int .u8 0, .int .u8 0, .int .u8 0, .int .u8 0, .int .u8 0, .int .u8 0, .int .u8 0, .int .u8 0, .int .u8 0, .int .u8 0, .int .u8 0, .int .u8 0, .int .u8 0, .int .u8 0, .int .u8 0, .int .u8 0, .int .u8 0, .int .u8 0, .int .u8 0, .int .u8 0, .int .u8 0, .int .u8 0, .int .u8 0, .int .u8 0, .int .u8 0, .int .u8 0, .int .u8 0, .int .u8 0, .int .u8 0, .int .u8 0, .int .u8 0, .int .u8 0, .int .u8 0, .int .u8 0, .int .u8 0, .int .u8 0, .int .u8 0, .int .u8 0, .int .u8 0, .int .u8 0, .int .u8 0, .int .u8 0, .int .u8 0, .int .u8 0, .int .u8 0, .int .u8 0, .int .u8 0, .int .u8 0, .int .u8 0, .int .u8 0, .int .u8 0, .int .u8 0, .int .u8 0, .int .u8 0, .int .u8 0, .int .u8 0, .int .u8 0, .int .u8 0, .int .u8 0, .int .u8 0, .int .u8 0, .int .u8 0, .int .u8 0, .int .u8 0, .int .u8 0, .int .u8 0, .int .u8 0, .int .u8 0, .int .u8 0, .int .u8 0, .int .u8 0, .int .u8 0, .int .u8 0, .int .u8 0] := ⟨by kernel_rfl, by kernel_rfl, rfl, by decide⟩
instance : TBd Tryd.prog 99 (fun i => #[(0, 80), (80, 1)][i]?) [.int .u8 0, .int .u8 0, .int .u8 0, .int .u8 0, .int .u8 0, .int .u8 0, .int .u8 0, .int .u8 0, .int .u8 0, .int .u8 0, .int .u8 0, .int .u8 0, .int .u8 0, .int .u8 0, .int .u8 0, .int .u8 0, .int .u8 0, .int .u8 0, .int .u8 0, .int .u8 0, .int .u8 0, .int .u8 0, .int .u8 0, .int .u8 0, .int .u8 0, .int .u8 0, .int .u8 0, .int .u8 0, .int .u8 0, .int .u8 0, .int .u8 0, .int .u8 0, .int .u8 0, .int .u8 0, .int .u8 0, .int .u8 0, .int .u8 0, .int .u8 0, .int .u8 0, .int .u8 0, .int .u8 0, .int .u8 0, .int .u8 0, .int .u8 0, .int .u8 0, .int .u8 0, .int .u8 0, .int .u8 0, .int .u8 0, .int .u8 0, .int .u8 0, .int .u8 0, .int .u8 0, .int .u8 0, .int .u8 0, .int .u8 0, .int .u8 0, .int .u8 0, .int .u8 0, .int .u8 0, .int .u8 0, .int .u8 0, .int .u8 0, .int .u8 0, .int .u8 0, .int .u8 0, .int .u8 0, .int .u8 0, .int .u8 0, .int .u8 0, .int .u8 0, .int .u8 0, .int .u8 0, .int .u8 0, .int .u8 0, .int .u8 0, .int .u8 0, .int .u8 0, .int .u8 0, .int .u8 0, .int .i64 0] := ⟨fun _ => by kernel_rfl⟩
instance : TRw Tryd.prog 99 81 [.int .u8 0, .int .u8 0, .int .u8 0, .int .u8 0, .int .u8 0, .int .u8 0, .int .u8 0, .int .u8 0, .int .u8 0, .int .u8 0, .int .u8 0, .int .u8 0, .int .u8 0, .int .u8 0, .int .u8 0, .int .u8 0, .int .u8 0, .int .u8 0, .int .u8 0, .int .u8 0, .int .u8 0, .int .u8 0, .int .u8 0, .int .u8 0, .int .u8 0, .int .u8 0, .int .u8 0, .int .u8 0, .int .u8 0, .int .u8 0, .int .u8 0, .int .u8 0, .int .u8 0, .int .u8 0, .int .u8 0, .int .u8 0, .int .u8 0, .int .u8 0, .int .u8 0, .int .u8 0, .int .u8 0, .int .u8 0, .int .u8 0, .int .u8 0, .int .u8 0, .int .u8 0, .int .u8 0, .int .u8 0, .int .u8 0, .int .u8 0, .int .u8 0, .int .u8 0, .int .u8 0, .int .u8 0, .int .u8 0, .int .u8 0, .int .u8 0, .int .u8 0, .int .u8 0, .int .u8 0, .int .u8 0, .int .u8 0, .int .u8 0, .int .u8 0, .int .u8 0, .int .u8 0, .int .u8 0, .int .u8 0, .int .u8 0, .int .u8 0, .int .u8 0, .int .u8 0, .int .u8 0, .int .u8 0, .int .u8 0, .int .u8 0, .int .u8 0, .int .u8 0, .int .u8 0, .int .u8 0, .int .i64 0] := ⟨by kernel_rfl, by kernel_rfl, rfl, by decide⟩
instance : TBd Tryd.prog 100 (fun i => #[(0, 80), (80, 1)][i]?) [.int .u8 0, .int .u8 0, .int .u8 0, .int .u8 0, .int .u8 0, .int .u8 0, .int .u8 0, .int .u8 0, .int .u8 0, .int .u8 0, .int .u8 0, .int .u8 0, .int .u8 0, .int .u8 0, .int .u8 0, .int .u8 0, .int .u8 0, .int .u8 0, .int .u8 0, .int .u8 0, .int .u8 0, .int .u8 0, .int .u8 0, .int .u8 0, .int .u8 0, .int .u8 0, .int .u8 0, .int .u8 0, .int .u8 0, .int .u8 0, .int .u8 0, .int .u8 0, .int .u8 0, .int .u8 0, .int .u8 0, .int .u8 0, .int .u8 0, .int .u8 0, .int .u8 0, .int .u8 0, .int .u8 0, .int .u8 0, .int .u8 0, .int .u8 0, .int .u8 0, .int .u8 0, .int .u8 0, .int .u8 0, .int .u8 0, .int .u8 0, .int .u8 0, .int .u8 0, .int .u8 0, .int .u8 0, .int .u8 0, .int .u8 0, .int .u8 0, .int .u8 0, .int .u8 0, .int .u8 0, .int .u8 0, .int .u8 0, .int .u8 0, .int .u8 0, .int .u8 0, .int .u8 0, .int .u8 0, .int .u8 0, .int .u8 0, .int .u8 0, .int .u8 0, .int .u8 0, .int .u8 0, .int .u8 0, .int .u8 0, .int .u8 0, .int .u8 0, .int .u8 0, .int .u8 0, .int .u8 0, .int .i64 0] := ⟨fun _ => by kernel_rfl⟩
instance : TRw Tryd.prog 100 81 [.int .u8 0, .int .u8 0, .int .u8 0, .int .u8 0, .int .u8 0, .int .u8 0, .int .u8 0, .int .u8 0, .int .u8 0, .int .u8 0, .int .u8 0, .int .u8 0, .int .u8 0, .int .u8 0, .int .u8 0, .int .u8 0, .int .u8 0, .int .u8 0, .int .u8 0, .int .u8 0, .int .u8 0, .int .u8 0, .int .u8 0, .int .u8 0, .int .u8 0, .int .u8 0, .int .u8 0, .int .u8 0, .int .u8 0, .int .u8 0, .int .u8 0, .int .u8 0, .int .u8 0, .int .u8 0, .int .u8 0, .int .u8 0, .int .u8 0, .int .u8 0, .int .u8 0, .int .u8 0, .int .u8 0, .int .u8 0, .int .u8 0, .int .u8 0, .int .u8 0, .int .u8 0, .int .u8 0, .int .u8 0, .int .u8 0, .int .u8 0, .int .u8 0, .int .u8 0, .int .u8 0, .int .u8 0, .int .u8 0, .int .u8 0, .int .u8 0, .int .u8 0, .int .u8 0, .int .u8 0, .int .u8 0, .int .u8 0, .int .u8 0, .int .u8 0, .int .u8 0, .int .u8 0, .int .u8 0, .int .u8 0, .int .u8 0, .int .u8 0, .int .u8 0, .int .u8 0, .int .u8 0, .int .u8 0, .int .u8 0, .int .u8 0, .int .u8 0, .int .u8 0, .int .u8 0, .int .u8 0, .int .i64 0] := ⟨by kernel_rfl, by kernel_rfl, rfl, by decide⟩
instance : TRw Tryd.prog 102 1 [.nilFunc] := ⟨by kernel_rfl, by kernel_rfl, rfl, by decide⟩
instance : TRw Tryd.prog 103 1 [.slice none 0 0] := ⟨by kernel_rfl, by kernel_rfl, rfl, by decide⟩
instance : TRw Tryd.prog 105 1 [.nilFunc] := ⟨by kernel_rfl, by kernel_rfl, rfl, by decide⟩
instance : TRw Tryd.prog 106 1 [.nilFunc] := ⟨by kernel_rfl, by kernel_rfl, rfl, by decide⟩
instance : TRw Tryd.prog 108 1 [.nilFunc] := ⟨by kernel_rfl, by kernel_rfl, rfl, by decide⟩
instance : TRw Tryd.prog 109 1 [.nilFunc] := ⟨by kernel_rfl, by kernel_rfl, rfl, by decide⟩
instance : TRw Tryd.prog 110 1 [.nilFunc] := ⟨by kernel_rfl, by kernel_rfl, rfl, by decide⟩
instance : TRw Tryd.prog 111 1 [.nilFunc] := ⟨by kernel_rfl, by kernel_rfl, rfl, by decide⟩
instance : TRw Tryd.prog 112 1 [.nilFunc] := ⟨by kernel_rfl, by kernel_rfl, rfl, by decide⟩
instance : TRw Tryd.prog 113 1 [.nilFunc] := ⟨by kernel_rfl, by kernel_rfl, rfl, by decide⟩
instance : TBd Tryd.prog 114 (fun i => some (i * 1, 1)) [.int .i64 0, .int .i64 0, .int .i64 0, .int .i64 0] := ⟨fun _ => by kernel_rfl⟩
instance : TRw Tryd.prog 114 4 [.int .i64 0, .int .i64 0, .int .i64 0, .int .i64 0] := ⟨by kernel_rfl, by kernel_rfl, rfl, by decide⟩
instance : TRw Tryd.prog 116 1 [.nilFunc] := ⟨by kernel_rfl, by kernel_rfl, rfl, by decide⟩
instance : TRw Tryd.prog 117 1 [.nilFunc] := ⟨by kernel_rfl, by kernel_rfl, rfl, by decide⟩
instance : TBd Tryd.prog 118 (fun i => #[(0, 1)][i]?) [.int .u16 0] := ⟨fun _ => by kernel_rfl⟩
instance : TRw Tryd.prog 118 1 [.int .u16 0] := ⟨by kernel_rfl, by kernel_rfl, rfl, by decide⟩
instance : TBd Tryd.prog 119 (fun i => #[(0, 1)][i]?) [.int .u16 0] := ⟨fun _ => by kernel_rfl⟩
instance : TRw Tryd.prog 119 1 [.int .u16 0] := ⟨by kernel_rfl, by kernel_rfl, rfl, by decide⟩
instance : TRw Tryd.prog 120 1 [.nilFunc] := ⟨by kernel_rfl, by kernel_rfl, rfl, by decide⟩
instance : TRw Tryd.prog 121 1 [.nilFunc] := ⟨by kernel_rfl, by kernel_rfl, rfl, by decide⟩
instance : TRw Tryd.prog 122 1 [.nilFunc] := ⟨by kernel_rfl, by kernel_rfl, rfl, by decide⟩
instance : TRw Tryd.prog 123 1 [.nilFunc] := ⟨by kernel_rfl, by kernel_rfl, rfl, by decide⟩
instance : TRw Tryd.prog 124 1 [.nilFunc] := ⟨by kernel_rfl, by kernel_rfl, rfl, by decide⟩
instance : TRw Tryd.prog 125 1 [.nilFunc] := ⟨by kernel_rfl, by kernel_rfl, rfl, by decide⟩
instance : TRw Tryd.prog 126 1 [.nilFunc] := ⟨by kernel_rfl, by kernel_rfl, rfl, by decide⟩
instance : TRw Tryd.prog 127 1 [.nilFunc] := ⟨by kernel_rfl, by kernel_rfl, rfl, by decide⟩
instance : TRw Tryd.prog 128 1 [.nilFunc] := ⟨by kernel_rfl, by kernel_rfl, rfl, by decide⟩
instance : TRw Tryd.prog 130 1 [.nilFunc] := ⟨by kernel_rfl, by kernel_rfl, rfl, by decide⟩
instance : TRw Tryd.prog 131 1 [.nilFunc] := ⟨by kernel_rfl, by kernel_rfl, rfl, by decide⟩
instance : TRw Tryd.prog 132 1 [.nilFunc] := ⟨by kernel_rfl, by kernel_rfl, rfl, by decide⟩
instance : TRw Tryd.prog 133 1 [.nilFunc] := ⟨by kernel_rfl, by kernel_rfl, rfl, by decide⟩
instance : TRw Tryd.prog 134 1 [.nilFunc] := ⟨by kernel_rfl, by kernel_rfl, rfl, by decide⟩
instance : TRw Tryd.prog 135 1 [.map none] := ⟨by kernel_rfl, by kernel_rfl, rfl, by decide⟩
instance : TRw Tryd.prog 136 1 [.nilFunc] := ⟨by kernel_rfl, by kernel_rfl, rfl, by decide⟩
instance : TBd Tryd.prog 137 (fun i => #[(0, 1), (1, 1)][i]?) [.int .i64 0, .int .i8 0] := ⟨fun _ => by kernel_rfl⟩
instance : TRw Tryd.prog 137 2 [.int .i64 0, .int .i8 0] := ⟨by kernel_rfl, by kernel_rfl, rfl, by decide⟩
instance : TBd Tryd.prog 138 (fun i => #[(0, 1), (1, 1)][i]?) [.int .i64 0, .int .i8 0] := ⟨fun _ => by kernel_rfl⟩
instance : TRw Tryd.prog 138 2 [.int .i64 0, .int .i8 0] := ⟨by kernel_rfl, by kernel_rfl, rfl, by decide⟩
instance : TRw Tryd.prog 140 1 [.nilFunc] := ⟨by kernel_rfl, by kernel_rfl, rfl, by decide⟩
instance : TBd Tryd.prog 141 (fun i => some (i * 1, 1)) [.int .i64 0, .int .i64 0] := ⟨fun _ => by kernel_rfl⟩
instance : TRw Tryd.prog 141 2 [.int .i64 0, .int .i64 0] := ⟨by kernel_rfl, by kernel_rfl, rfl, by decide⟩
instance : TRw Tryd.prog 142 1 [.nilFunc] := ⟨by kernel_rfl, by kernel_rfl, rfl, by decide⟩
instance : TRw Tryd.prog 143 1 [.nilFunc] := ⟨by kernel_rfl, by kernel_rfl, rfl, by decide⟩
instance : TBd Tryd.prog 144 (fun i => #[(0, 1), (1, 1)][i]?) [.int .i64 0, .bool false] := ⟨fun _ => by kernel_rfl⟩
instance : TRw Tryd.prog 144 2 [.int .i64 0, .bool false] := ⟨by kernel_rfl, by kernel_rfl, rfl, by decide⟩
instance : TBd Tryd.prog 145 (fun i => #[(0, 1), (1, 1)][i]?) [.int .i64 0, .bool false] := ⟨fun _ => by kernel_rfl⟩
instance : TRw Tryd.prog 145 2 [.int .i64 0, .bool false] := ⟨by kernel_rfl, by kernel_rfl, rfl, by decide⟩
instance : TRw Tryd.prog 147 1 [.nilFunc] := ⟨by kernel_rfl, by kernel_rfl, rfl, by decide⟩
instance : TRw Tryd.prog 148 1 [.nilFunc] := ⟨by kernel_rfl, by kernel_rfl, rfl, by decide⟩
instance : TRw Tryd.prog 149 1 [.nilFunc] := ⟨by kernel_rfl, by kernel_rfl, rfl, by decide⟩
instance : TBd Tryd.prog 150 (fun i => some (i * 1, 1)) [.int .u16 0, .int .u16 0, .int .u16 0] := ⟨fun _ => by kernel_rfl⟩
instance : TRw Tryd.prog 150 3 [.int .u16 0, .int .u16 0, .int .u16 0] := ⟨by kernel_rfl, by kernel_rfl, rfl, by decide⟩
instance : TRw Tryd.prog 152 1 [.nilFunc] := ⟨by kernel_rfl, by kernel_rfl, rfl, by decide⟩
instance : TRw Tryd.prog 153 1 [.nilFunc] := ⟨by kernel_rfl, by kernel_rfl, rfl, by decide⟩
instance : TRw Tryd.prog 154 1 [.nilFunc] := ⟨by kernel_rfl, by kernel_rfl, rfl, by decide⟩
instance : TRw Tryd.prog 155 1 [.nilFunc] := ⟨by kernel_rfl, by kernel_rfl, rfl, by decide⟩
instance : TBd Tryd.prog 156 (fun i => some (i * 1, 1)) [.int .i64 0, .int .i64 0, .int .i64 0, .int .i64 0, .int .i64 0, .int .i64 0, .int .i64 0, .int .i64 0, .int .i64 0, .int .i64 0, .int .i64 0, .int .i64 0, .int .i64 0, .int .i64 0, .int .i64 0, .int .i64 0] := ⟨fun _ => by kernel_rfl⟩
instance : TRw Tryd.prog 156 16 [.int .i64 0, .int .i64 0, .int .i64 0, .int .i64 0, .int .i64 0, .int .i64 0, .int .i64 0, .int .i64 0, .int .i64 0, .int .i64 0, .int .i64 0, .int .i64 0, .int .i64 0, .int .i64 0, .int .i64 0, .int .i64 0] := ⟨by kernel_rfl, by kernel_rfl, rfl, by decide⟩
instance : TRw Tryd.prog 157 1 [.nilFunc] := ⟨by kernel_rfl, by kernel_rfl, rfl, by decide⟩
instance : TRw Tryd.prog 158 1 [.nilFunc] := ⟨by kernel_rfl, by kernel_rfl, rfl, by decide⟩
instance : TBd Tryd.prog 159 (fun i => some (i * 1, 1)) [.int .u8 0, .int .u8 0, .int .u8 0, .int .u8 0, .int .u8 0, .int .u8 0, .int .u8 0, .int .u8 0, .int .u8 0, .int .u8 0, .int .u8 0, .int .u8 0, .int .u8 0, .int .u8 0, .int .u8 0, .int .u8 0, .int .u8 0, .int .u8 0, .int .u8 0, .int .u8 0, .int .u8 0, .int .u8 0, .int .u8 0, .int .u8 0, .int .u8 0, .int .u8 0, .int .u8 0, .int .u8 0, .int .u8 0, .int .u8 0, .int .u8 0, .int .u8 0] := ⟨fun _ => by kernel_rfl⟩
instance : TRw Tryd.prog 159 32 [.int .u8 0, .int .u8 0, .int .u8 0, .int .u8 0, .int .u8 0, .int .u8 0, .int .u8 0, .int .u8 0, .int .u8 0, .int .u8 0, .int .u8 0, .int .u8 0, .int .u8 0, .int .u8 0, .int .u8 0, .int .u8 0, .int .u8 0, .int .u8 0, .int .u8 0, .int .u8 0, .int .u8 0, .int .u8 0, .int .u8 0, .int .u8 0, .int .u8 0, .int .u8 0, .int .u8 0, .int .u8 0, .int .u8 0, .int .u8 0, .int .u8 0, .int .u8 0] := ⟨by kernel_rfl, by kernel_rfl, rfl, by decide⟩
instance : TRw Tryd.prog 160 1 [.int .u32 0] := ⟨by kernel_rfl, by kernel_rfl, rfl, by decide⟩
instance : TRw Tryd.prog 161 1 [.int .u64 0] := ⟨by kernel_rfl, by kernel_rfl, rfl, by decide⟩
instance : TRw Tryd.prog 162 1 [.nilFunc] := ⟨by kernel_rfl, by kernel_rfl, rfl, by decide⟩
instance : TRw Tryd.prog 163 1 [.nilFunc] := ⟨by kernel_rfl, by kernel_rfl, rfl, by decide⟩
instance : TRw Tryd.prog 172 1 [.pointer none] := ⟨by kernel_rfl, by kernel_rfl, rfl, by decide⟩
theorem eqt_22 : EqT Tryd.prog 1 22 false [.i .i8] := eqt_int (by kernel_rfl) inferInstance
theorem eqt_23 : EqT Tryd.prog 2 23 true [.i .i8, .i .i8, .i .i8, .i .i8, .i .i8, .i .i8] := eqt_array (n := 6) (by kernel_rfl) eqt_22 (by kernel_rfl) inferInstance
instance : TQ Tryd.prog 23 [.i .i8, .i .i8, .i .i8, .i .i8, .i .i8, .i .i8] := ⟨⟨_, by decide, eqt_23⟩, by kernel_rfl⟩
theorem eqt_24 : EqT Tryd.prog 2 24 true [.i .i8, .i .i8, .i .i8, .i .i8, .i .i8, .i .i8] := eqt_array (n := 6) (by kernel_rfl) eqt_22 (by kernel_rfl) inferInstance
instance : TQ Tryd.prog 24 [.i .i8, .i .i8, .i .i8, .i .i8, .i .i8, .i .i8] := ⟨⟨_, by decide, eqt_24⟩, by kernel_rfl⟩
theorem eqt_5 : EqT Tryd.prog 1 5 false [.i .u8] := eqt_int (by kernel_rfl) inferInstance
theorem eqt_29 : EqT Tryd.prog 3 29 true [.i .u8, .i .i8, .i .i8, .i .i8, .i .i8, .i .i8, .i .i8, .i .i8, .i .i8, .i .i8, .i .i8, .i .i8, .i .i8] := eqt_structL (L := [(true, 0, 5), (true, 1, 24), (true, 7, 24)]) (by kernel_rfl) (by kernel_rfl) inferInstance (.cons eqt_5 (by decide) rfl rfl (.cons eqt_24 (by decide) rfl rfl (.cons eqt_24 (by decide) rfl rfl (.nil))))
instance : TQ Tryd.prog 29 [.i .u8, .i .i8, .i .i8, .i .i8, .i .i8, .i .i8, .i .i8, .i .i8, .i .i8, .i .i8, .i .i8, .i .i8, .i .i8] := ⟨⟨_, by decide, eqt_29⟩, by kernel_rfl⟩
theorem eqt_30 : EqT Tryd.prog 3 30 true [.i .u8, .i .i8, .i .i8, .i .i8, .i .i8, .i .i8, .i .i8, .i .i8, .i .i8, .i .i8, .i .i8, .i .i8, .i .i8] := eqt_structL (L := [(true, 0, 5), (true, 1, 24), (true, 7, 24)]) (by kernel_rfl) (by kernel_rfl) inferInstance (.cons eqt_5 (by decide) rfl rfl (.cons eqt_24 (by decide) rfl rfl (.cons eqt_24 (by decide) rfl rfl (.nil))))
instance : TQ Tryd.prog 30 [.i .u8, .i .i8, .i .i8, .i .i8, .i .i8, .i .i8, .i .i8, .i .i8, .i .i8, .i .i8, .i .i8, .i .i8, .i .i8] := ⟨⟨_, by decide, eqt_30⟩, by kernel_rfl⟩
theorem eqt_48 : EqT Tryd.prog 3 48 true [.i .u8, .i .i8, .i .i8, .i .i8, .i .i8, .i .i8, .i .i8, .i .i8, .i .i8, .i .i8, .i .i8, .i .i8, .i .i8] := eqt_structL (L := [(true, 0, 5), (true, 1, 23), (true, 7, 23)]) (by kernel_rfl) (by kernel_rfl) inferInstance (.cons eqt_5 (by decide) rfl rfl (.cons eqt_23 (by decide) rfl rfl (.cons eqt_23 (by decide) rfl rfl (.nil))))
instance : TQ Tryd.prog 48 [.i .u8, .i .i8, .i .i8, .i .i8, .i .i8, .i .i8, .i .i8, .i .i8, .i .i8, .i .i8, .i .i8, .i .i8, .i .i8] := ⟨⟨_, by decide, eqt_48⟩, by kernel_rfl⟩
theorem eqt_49 : EqT Tryd.prog 3 49 true [.i .u8, .i .i8, .i .i8, .i .i8, .i .i8, .i .i8, .i .i8, .i .i8, .i .i8, .i .i8, .i .i8, .i .i8, .i .i8] := eqt_structL (L := [(true, 0, 5), (true, 1, 23), (true, 7, 23)]) (by kernel_rfl) (by kernel_rfl) inferInstance (.cons eqt_5 (by decide) rfl rfl (.cons eqt_23 (by decide) rfl rfl (.cons eqt_23 (by decide) rfl rfl (.nil))))
instance : TQ Tryd.prog 49 [.i .u8, .i .i8, .i .i8, .i .i8, .i .i8, .i .i8, .i .i8, .i .i8, .i .i8, .i .i8, .i .i8, .i .i8, .i .i8] := ⟨⟨_, by decide, eqt_49⟩, by kernel_rfl⟩
theorem eqt_59 : EqT Tryd.prog 2 59 true [.i .u8, .i .u8, .i .u8, .i .u8, .i .u8, .i .u8] := eqt_array (n := 6) (by kernel_rfl) eqt_5 (by kernel_rfl) inferInstance
instance : TQ Tryd.prog 59 [.i .u8, .i .u8, .i .u8, .i .u8, .i .u8, .i .u8] := ⟨⟨_, by decide, eqt_59⟩, by kernel_rfl⟩
theorem eqt_60 : EqT Tryd.prog 2 60 true [.i .u8, .i .u8, .i .u8, .i .u8, .i .u8, .i .u8] := eqt_array (n := 6) (by kernel_rfl) eqt_5 (by kernel_rfl) inferInstance
instance : TQ Tryd.prog 60 [.i .u8, .i .u8, .i .u8, .i .u8, .i .u8, .i .u8] := ⟨⟨_, by decide, eqt_60⟩, by kernel_rfl⟩
theorem eqt_26 : EqT Tryd.prog 1 26 false [.i .u16] := eqt_int (by kernel_rfl) inferInstance
theorem eqt_25 : EqT Tryd.prog 1 25 false [.i .u16] := eqt_int (by kernel_rfl) inferInstance
theorem eqt_4 : EqT Tryd.prog 1 4 false [.b] := eqt_bool (by kernel_rfl) inferInstance
theorem eqt_61 : EqT Tryd.prog 3 61 true [.i .u16, .i .u16, .i .u8, .i .u8, .i .u8, .i .u8, .i .u8, .i .u8, .i .i8, .i .i8, .i .i8, .i .i8, .i .i8, .i .i8, .i .u8, .i .u16, .b, .i .u8] := eqt_structL (L := [(true, 0, 26), (true, 1, 26), (true, 2, 59), (true, 8, 23), (true, 14, 5), (true, 15, 25), (true, 16, 4), (true, 17, 5)]) (by kernel_rfl) (by kernel_rfl) inferInstance (.cons eqt_26 (by decide) rfl rfl (.cons eqt_26 (by decide) rfl rfl (.cons eqt_59 (by decide) rfl rfl (.cons eqt_23 (by decide) rfl rfl (.cons eqt_5 (by decide) rfl rfl (.cons eqt_25 (by decide) rfl rfl (.cons eqt_4 (by decide) rfl rfl (.cons eqt_5 (by decide) rfl rfl (.nil)))))))))
instance : TQ Tryd.prog 61 [.i .u16, .i .u16, .i .u8, .i .u8, .i .u8, .i .u8, .i .u8, .i .u8, .i .i8, .i .i8, .i .i8, .i .i8, .i .i8, .i .i8, .i .u8, .i .u16, .b, .i .u8] := ⟨⟨_, by decide, eqt_61⟩, by kernel_rfl⟩
theorem eqt_62 : EqT Tryd.prog 3 62 true [.i .u16, .i .u16, .i .u8, .i .u8, .i .u8, .i .u8, .i .u8, .i .u8, .i .i8, .i .i8, .i .i8, .i .i8, .i .i8, .i .i8, .i .u8, .i .u16, .b, .i .u8] := eqt_structL (L := [(true, 0, 26), (true, 1, 26), (true, 2, 59), (true, 8, 23), (true, 14, 5), (true, 15, 25), (true, 16, 4), (true, 17, 5)]) (by kernel_rfl) (by kernel_rfl) inferInstance (.cons eqt_26 (by decide) rfl rfl (.cons eqt_26 (by decide) rfl rfl (.cons eqt_59 (by decide) rfl rfl (.cons eqt_23 (by decide) rfl rfl (.cons eqt_5 (by decide) rfl rfl (.cons eqt_25 (by decide) rfl rfl (.cons eqt_4 (by decide) rfl rfl (.cons eqt_5 (by decide) rfl rfl (.nil)))))))))
instance : TQ Tryd.prog 62 [.i .u16, .i .u16, .i .u8, .i .u8, .i .u8, .i .u8, .i .u8, .i .u8, .i .i8, .i .i8, .i .i8, .i .i8, .i .i8, .i .i8, .i .u8, .i .u16, .b, .i .u8] := ⟨⟨_, by decide, eqt_62⟩, by kernel_rfl⟩
theorem eqt_73 : EqT Tryd.prog 2 73 true [.i .u16, .i .u16, .i .u16, .i .u16, .i .u16, .i .u16, .i .u16, .i .u16, .i .u16, .i .u16, .i .u16, .i .u16, .i .u16, .i .u16, .i .u16, .i .u16] := eqt_array (n := 16) (by kernel_rfl) eqt_26 (by kernel_rfl) inferInstance
instance : TQ Tryd.prog 73 [.i .u16, .i .u16, .i .u16, .i .u16, .i .u16, .i .u16, .i .u16, .i .u16, .i .u16, .i .u16, .i .u16, .i .u16, .i .u16, .i .u16, .i .u16, .i .u16] := ⟨⟨_, by decide, eqt_73⟩, by kernel_rfl⟩
theorem eqt_78 : EqT Tryd.prog 2 78 true [.i .u16, .i .u16, .i .u16, .i .u16, .i .u16, .i .u16, .i .u16, .i .u16, .i .u16, .i .u16, .i .u16, .i .u16, .i .u16, .i .u16, .i .u16, .i .u16] := eqt_array (n := 16) (by kernel_rfl) eqt_25 (by kernel_rfl) inferInstance
instance : TQ Tryd.prog 78 [.i .u16, .i .u16, .i .u16, .i .u16, .i .u16, .i .u16, .i .u16, .i .u16, .i .u16, .i .u16, .i .u16, .i .u16, .i .u16, .i .u16, .i .u16, .i .u16] := ⟨⟨_, by decide, eqt_78⟩, by kernel_rfl⟩
theorem eqt_92 : EqT Tryd.prog 2 92 true [.i .u8, .i .u8, .i .u8] := eqt_structL (L := [(true, 0, 5), (true, 1, 5), (true, 2, 5)]) (by kernel_rfl) (by kernel_rfl) inferInstance (.cons eqt_5 (by decide) rfl rfl (.cons eqt_5 (by decide) rfl rfl (.cons eqt_5 (by decide) rfl rfl (.nil))))
instance : TQ Tryd.prog 92 [.i .u8, .i .u8, .i .u8] := ⟨⟨_, by decide, eqt_92⟩, by kernel_rfl⟩
theorem eqt_93 : EqT Tryd.prog 2 93 true [.i .u8, .i .u8, .i .u8] := eqt_structL (L := [(true, 0, 5), (true, 1, 5), (true, 2, 5)]) (by kernel_rfl) (by kernel_rfl) inferInstance (.cons eqt_5 (by decide) rfl rfl (.cons eqt_5 (by decide) rfl rfl (.cons eqt_5 (by decide) rfl rfl (.nil))))
instance : TQ Tryd.prog 93 [.i .u8, .i .u8, .i .u8] := ⟨⟨_, by decide, eqt_93⟩, by kernel_rfl⟩
theorem eqt_94 : EqT Tryd.prog 2 94 true [.i .u8, .i .u8] := eqt_structL (L := [(true, 0, 5), (true, 1, 5)]) (by kernel_rfl) (by kernel_rfl) inferInstance (.cons eqt_5 (by decide) rfl rfl (.cons eqt_5 (by decide) rfl rfl (.nil)))
instance : TQ Tryd.prog 94 [.i .u8, .i .u8] := ⟨⟨_, by decide, eqt_94⟩, by kernel_rfl⟩
theorem eqt_95 : EqT Tryd.prog 2 95 true [.i .u8, .i .u8] := eqt_structL (L := [(true, 0, 5), (true, 1, 5)]) (by kernel_rfl) (by kernel_rfl) inferInstance (.cons eqt_5 (by decide) rfl rfl (.cons eqt_5 (by decide) rfl rfl (.nil)))
instance : TQ Tryd.prog 95 [.i .u8, .i .u8] := ⟨⟨_, by decide, eqt_95⟩, by kernel_rfl⟩
theorem eqt_96 : EqT Tryd.prog 3 96 true [.i .u8, .i .u8, .i .u8, .i .u8, .i .u8] := eqt_structL (L := [(true, 0, 93), (true, 3, 95)]) (by kernel_rfl) (by kernel_rfl) inferInstance (.cons eqt_93 (by decide) rfl rfl (.cons eqt_95 (by decide) rfl rfl (.nil)))
instance : TQ Tryd.prog 96 [.i .u8, .i .u8, .i .u8, .i .u8, .i .u8] := ⟨⟨_, by decide, eqt_96⟩, by kernel_rfl⟩
theorem eqt_97 : EqT Tryd.prog 3 97 true [.i .u8, .i .u8, .i .u8, .i .u8, .i .u8] := eqt_structL (L := [(true, 0, 93), (true, 3, 95)]) (by kernel_rfl) (by kernel_rfl) inferInstance (.cons eqt_93 (by decide) rfl rfl (.cons eqt_95 (by decide) rfl rfl (.nil)))
instance : TQ Tryd.prog 97 [.i .u8, .i .u8, .i .u8, .i .u8, .i .u8] := ⟨⟨_, by decide, eqt_97⟩, by kernel_rfl⟩
theorem eqt_98 : EqT Tryd.prog 4 98 true [.i .u8, .i .u8, .i .u8, .i .u8, .i .u8, .i .u8, .i .u8, .i .u8, .i .u8, .i .u8, .i .u8, .i .u8, .i .u8, .i .u8, .i .u8, .i .u8, .i .u8, .i .u8, .i .u8, .i .u8, .i .u8, .i .u8, .i .u8, .i .u8, .i .u8, .i .u8, .i .u8, .i .u8, .i .u8, .i .u8, .i .u8, .i .u8, .i .u8, .i .u8, .i .u8, .i .u8, .i .u8, .i .u8, .i .u8, .i .u8, .i .u8, .i .u8, .i .u8, .i .u8, .i .u8, .i .u8, .i .u8, .i .u8, .i .u8, .i .u8, .i .u8, .i .u8, .i .u8, .i .u8, .i .u8, .i .u8, .i .u8, .i .u8, .i .u8, .i .u8, .i .u8, .i .u8, .i .u8, .i .u8, .i .u8, .i .u8, .i .u8, .i .u8, .i .u8, .i .u8, .i .u8, .i .u8, .i .u8, .i .u8, .i .u8, .i .u8, .i .u8, .i .u8, .i .u8, .i .u8] := eqt_array (n := 16) (by kernel_rfl) eqt_97 (by kernel_rfl) inferInstance
instance : TQ Tryd.prog 98 [.i .u8, .i .u8, .i .u8, .i .u8, .i .u8, .i .u8, .i .u8, .i .u8, .i .u8, .i .u8, .i .u8, .i .u8, .i .u8, .i .u8, .i .u8, .i .u8, .i .u8, .i .u8, .i .u8, .i .u8, .i .u8, .i .u8, .i .u8, .i .u8, .i .u8, .i .u8, .i .u8, .i .u8, .i .u8, .i .u8, .i .u8, .i .u8, .i .u8, .i .u8, .i .u8, .i .u8, .i .u8, .i .u8, .i .u8, .i .u8, .i .u8, .i .u8, .i .u8, .i .u8, .i .u8, .i .u8, .i .u8, .i .u8, .i .u8, .i .u8, .i .u8, .i .u8, .i .u8, .i .u8, .i .u8, .i .u8, .i .u8, .i .u8, .i .u8, .i .u8, .i .u8, .i .u8, .i .u8, .i .u8, .i .u8, .i .u8, .i .u8, .i .u8, .i .u8, .i .u8, .i .u8, .i .u8, .i .u8, .i .u8, .i .u8, .i .u8, .i .u8, .i .u8, .i .u8, .i .u8] := ⟨⟨_, by decide, eqt_98⟩, by kernel_rfl⟩
theorem eqt_3 : EqT Tryd.prog 1 3 false [.i .i64] := eqt_int (by kernel_rfl) inferInstance
theorem eqt_99 : EqT Tryd.prog 5 99 true [.i .u8, .i .u8, .i .u8, .i .u8, .i .u8, .i .u8, .i .u8, .i .u8, .i .u8, .i .u8, .i .u8, .i .u8, .i .u8, .i .u8, .i .u8, .i .u8, .i .u8, .i .u8, .i .u8, .i .u8, .i .u8, .i .u8, .i .u8, .i .u8, .i .u8, .i .u8, .i .u8, .i .u8, .i .u8, .i .u8, .i .u8, .i .u8, .i .u8, .i .u8, .i .u8, .i .u8, .i .u8, .i .u8, .i .u8, .i .u8, .i .u8, .i .u8, .i .u8, .i .u8, .i .u8, .i .u8, .i .u8, .i .u8, .i .u8, .i .u8, .i .u8, .i .u8, .i .u8, .i .u8, .i .u8, .i .u8, .i .u8, .i .u8, .i .u8, .i .u8, .i .u8, .i .u8, .i .u8, .i .u8, .i .u8, .i .u8, .i .u8, .i .u8, .i .u8, .i .u8, .i .u8, .i .u8, .i .u8, .i .u8, .i .u8, .i .u8, .i .u8, .i .u8, .i .u8, .i .u8, .i .i64] := eqt_structL (L := [(true, 0, 98), (true, 80, 3)]) (by kernel_rfl) (by kernel_rfl) inferInstance (.cons eqt_98 (by decide) rfl rfl (.cons eqt_3 (by decide) rfl rfl (.nil)))
instance : TQ Tryd.prog 99 [.i .u8, .i .u8, .i .u8, .i .u8, .i .u8, .i .u8, .i .u8, .i .u8, .i .u8, .i .u8, .i .u8, .i .u8, .i .u8, .i .u8, .i .u8, .i .u8, .i .u8, .i .u8, .i .u8, .i .u8, .i .u8, .i .u8, .i .u8, .i .u8, .i .u8, .i .u8, .i .u8, .i .u8, .i .u8, .i .u8, .i .u8, .i .u8, .i .u8, .i .u8, .i .u8, .i .u8, .i .u8, .i .u8, .i .u8, .i .u8, .i .u8, .i .u8, .i .u8, .i .u8, .i .u8, .i .u8, .i .u8, .i .u8, .i .u8, .i .u8, .i .u8, .i .u8, .i .u8, .i .u8, .i .u8, .i .u8, .i .u8, .i .u8, .i .u8, .i .u8, .i .u8, .i .u8, .i .u8, .i .u8, .i .u8, .i .u8, .i .u8, .i .u8, .i .u8, .i .u8, .i .u8, .i .u8, .i .u8, .i .u8, .i .u8, .i .u8, .i .u8, .i .u8, .i .u8, .i .u8, .i .i64] := ⟨⟨_, by decide, eqt_99⟩, by kernel_rfl⟩
theorem eqt_100 : EqT Tryd.prog 5 100 true [.i .u8, .i .u8, .i .u8, .i .u8, .i .u8, .i .u8, .i .u8, .i .u8, .i .u8, .i .u8, .i .u8, .i .u8, .i .u8, .i .u8, .i .u8, .i .u8, .i .u8, .i .u8, .i .u8, .i .u8, .i .u8, .i .u8, .i .u8, .i .u8, .i .u8, .i .u8, .i .u8, .i .u8, .i .u8, .i .u8, .i .u8, .i .u8, .i .u8, .i .u8, .i .u8, .i .u8, .i .u8, .i .u8, .i .u8, .i .u8, .i .u8, .i .u8, .i .u8, .i .u8, .i .u8, .i .u8, .i .u8, .i .u8, .i .u8, .i .u8, .i .u8, .i .u8, .i .u8, .i .u8, .i .u8, .i .u8, .i .u8, .i .u8, .i .u8, .i .u8, .i .u8, .i .u8, .i .u8, .i .u8, .i .u8, .i .u8, .i .u8, .i .u8, .i .u8, .i .u8, .i .u8, .i .u8, .i .u8, .i .u8, .i .u8, .i .u8, .i .u8, .i .u8, .i .u8, .i .u8, .i .i64] := eqt_structL (L := [(true, 0, 98), (true, 80, 3)]) (by kernel_rfl) (by kernel_rfl) inferInstance (.cons eqt_98 (by decide) rfl rfl (.cons eqt_3 (by decide) rfl rfl (.nil)))
instance : TQ Tryd.prog 100 [.i .u8, .i .u8, .i .u8, .i .u8, .i .u8, .i .u8, .i .u8, .i .u8, .i .u8, .i .u8, .i .u8, .i .u8, .i .u8, .i .u8, .i .u8, .i .u8, .i .u8, .i .u8, .i .u8, .i .u8, .i .u8, .i .u8, .i .u8, .i .u8, .i .u8, .i .u8, .i .u8, .i .u8, .i .u8, .i .u8, .i .u8, .i .u8, .i .u8, .i .u8, .i .u8, .i .u8, .i .u8, .i .u8, .i .u8, .i .u8, .i .u8, .i .u8, .i .u8, .i .u8, .i .u8, .i .u8, .i .u8, .i .u8, .i .u8, .i .u8, .i .u8, .i .u8, .i .u8, .i .u8, .i .u8, .i .u8, .i .u8, .i .u8, .i .u8, .i .u8, .i .u8, .i .u8, .i .u8, .i .u8, .i .u8, .i .u8, .i .u8, .i .u8, .i .u8, .i .u8, .i .u8, .i .u8, .i .u8, .i .u8, .i .u8, .i .u8, .i .u8, .i .u8, .i .u8, .i .u8, .i .i64] := ⟨⟨_, by decide, eqt_100⟩, by kernel_rfl⟩
theorem eqt_114 : EqT Tryd.prog 2 114 true [.i .i64, .i .i64, .i .i64, .i .i64] := eqt_array (n := 4) (by kernel_rfl) eqt_3 (by kernel_rfl) inferInstance
instance : TQ Tryd.prog 114 [.i .i64, .i .i64, .i .i64, .i .i64] := ⟨⟨_, by decide, eqt_114⟩, by kernel_rfl⟩
theorem eqt_118 : EqT Tryd.prog 2 118 true [.i .u16] := eqt_structL (L := [(true, 0, 26)]) (by kernel_rfl) (by kernel_rfl) inferInstance (.cons eqt_26 (by decide) rfl rfl (.nil))
instance : TQ Tryd.prog 118 [.i .u16] := ⟨⟨_, by decide, eqt_118⟩, by kernel_rfl⟩
theorem eqt_119 : EqT Tryd.prog 2 119 true [.i .u16] := eqt_structL (L := [(true, 0, 26)]) (by kernel_rfl) (by kernel_rfl) inferInstance (.cons eqt_26 (by decide) rfl rfl (.nil))
instance : TQ Tryd.prog 119 [.i .u16] := ⟨⟨_, by decide, eqt_119⟩, by kernel_rfl⟩
theorem eqt_137 : EqT Tryd.prog 2 137 true [.i .i64, .i .i8] := eqt_structL (L := [(true, 0, 3), (true, 1, 22)]) (by kernel_rfl) (by kernel_rfl) inferInstance (.cons eqt_3 (by decide) rfl rfl (.cons eqt_22 (by decide) rfl rfl (.nil)))
instance : TQ Tryd.prog 137 [.i .i64, .i .i8] := ⟨⟨_, by decide, eqt_137⟩, by kernel_rfl⟩
theorem eqt_138 : EqT Tryd.prog 2 138 true [.i .i64, .i .i8] := eqt_structL (L := [(true, 0, 3), (true, 1, 22)]) (by kernel_rfl) (by kernel_rfl) inferInstance (.cons eqt_3 (by decide) rfl rfl (.cons eqt_22 (by decide) rfl rfl (.nil)))
instance : TQ Tryd.prog 138 [.i .i64, .i .i8] := ⟨⟨_, by decide, eqt_138⟩, by kernel_rfl⟩
theorem eqt_141 : EqT Tryd.prog 2 141 true [.i .i64, .i .i64] := eqt_array (n := 2) (by kernel_rfl) eqt_3 (by kernel_rfl) inferInstance
instance : TQ Tryd.prog 141 [.i .i64, .i .i64] := ⟨⟨_, by decide, eqt_141⟩, by kernel_rfl⟩
theorem eqt_144 : EqT Tryd.prog 2 144 true [.i .i64, .b] := eqt_structL (L := [(true, 0, 3), (true, 1, 4)]) (by kernel_rfl) (by kernel_rfl) inferInstance (.cons eqt_3 (by decide) rfl rfl (.cons eqt_4 (by decide) rfl rfl (.nil)))
instance : TQ Tryd.prog 144 [.i .i64, .b] := ⟨⟨_, by decide, eqt_144⟩, by kernel_rfl⟩
theorem eqt_145 : EqT Tryd.prog 2 145 true [.i .i64, .b] := eqt_structL (L := [(true, 0, 3), (true, 1, 4)]) (by kernel_rfl) (by kernel_rfl) inferInstance (.cons eqt_3 (by decide) rfl rfl (.cons eqt_4 (by decide) rfl rfl (.nil)))
instance : TQ Tryd.prog 145 [.i .i64, .b] := ⟨⟨_, by decide, eqt_145⟩, by kernel_rfl⟩
theorem eqt_150 : EqT Tryd.prog 2 150 true [.i .u16, .i .u16, .i .u16] := eqt_array (n := 3) (by kernel_rfl) eqt_26 (by kernel_rfl) inferInstance
instance : TQ Tryd.prog 150 [.i .u16, .i .u16, .i .u16] := ⟨⟨_, by decide, eqt_150⟩, by kernel_rfl⟩
theorem eqt_156 : EqT Tryd.prog 2 156 true [.i .i64, .i .i64, .i .i64, .i .i64, .i .i64, .i .i64, .i .i64, .i .i64, .i .i64, .i .i64, .i .i64, .i .i64, .i .i64, .i .i64, .i .i64, .i .i64] := eqt_array (n := 16) (by kernel_rfl) eqt_3 (by kernel_rfl) inferInstance
instance : TQ Tryd.prog 156 [.i .i64, .i .i64, .i .i64, .i .i64, .i .i64, .i .i64, .i .i64, .i .i64, .i .i64, .i .i64, .i .i64, .i .i64, .i .i64, .i .i64, .i .i64, .i .i64] := ⟨⟨_, by decide, eqt_156⟩, by kernel_rfl⟩
theorem eqt_159 : EqT Tryd.prog 2 159 true [.i .u8, .i .u8, .i .u8, .i .u8, .i .u8, .i .u8, .i .u8, .i .u8, .i .u8, .i .u8, .i .u8, .i .u8, .i .u8, .i .u8, .i .u8, .i .u8, .i .u8, .i .u8, .i .u8, .i .u8, .i .u8, .i .u8, .i .u8, .i .u8, .i .u8, .i .u8, .i .u8, .i .u8, .i .u8, .i .u8, .i .u8, .i .u8] := eqt_array (n := 32) (by kernel_rfl) eqt_5 (by kernel_rfl) inferInstance
instance : TQ Tryd.prog 159 [.i .u8, .i .u8, .i .u8, .i .u8, .i .u8, .i .u8, .i .u8, .i .u8, .i .u8, .i .u8, .i .u8, .i .u8, .i .u8, .i .u8, .i .u8, .i .u8, .i .u8, .i .u8, .i .u8, .i .u8, .i .u8, .i .u8, .i .u8, .i .u8, .i .u8, .i .u8, .i .u8, .i .u8, .i .u8, .i .u8, .i .u8, .i .u8] := ⟨⟨_, by decide, eqt_159⟩, by kernel_rfl⟩
instance : CF Tryd.prog 3 := ⟨fun _ _ => by kernel_rfl⟩
instance : CF Tryd.prog 4 := ⟨fun _ _ => by kernel_rfl⟩
instance : CF Tryd.prog 5 := ⟨fun _ _ => by kernel_rfl⟩
instance : CF Tryd.prog 6 := ⟨fun _ _ => by kernel_rfl⟩
instance : CF Tryd.prog 7 := ⟨fun _ _ => by kernel_rfl⟩
instance : CF Tryd.prog 8 := ⟨fun _ _ => by kernel_rfl⟩
instance : CF Tryd.prog 9 := ⟨fun _ _ => by kernel_rfl⟩
instance : CF Tryd.prog 10 := ⟨fun _ _ => by kernel_rfl⟩
instance : CF Tryd.prog 11 := ⟨fun _ _ => by kernel_rfl⟩
instance : CF Tryd.prog 12 := ⟨fun _ _ => by kernel_rfl⟩
instance : CF Tryd.prog 13 := ⟨fun _ _ => by kernel_rfl⟩
instance : CF Tryd.prog 14 := ⟨fun _ _ => by kernel_rfl⟩
instance : CF Tryd.prog 15 := ⟨fun _ _ => by kernel_rfl⟩
instance : CF Tryd.prog 16 := ⟨fun _ _ => by kernel_rfl⟩
instance : CF Tryd.prog 17 := ⟨fun _ _ => by kernel_rfl⟩
instance : CF Tryd.prog 18 := ⟨fun _ _ => by kernel_rfl⟩
instance : CF Tryd.prog 19 := ⟨fun _ _ => by kernel_rfl⟩
instance : CF Tryd.prog 20 := ⟨fun _ _ => by kernel_rfl⟩
instance : CF Tryd.prog 21 := ⟨fun _ _ => by kernel_rfl⟩
instance : CF Tryd.prog 22 := ⟨fun _ _ => by kernel_rfl⟩
instance : CF Tryd.prog 23 := ⟨fun _ _ => by kernel_rfl⟩
instance : CF Tryd.prog 24 := ⟨fun _ _ => by kernel_rfl⟩
instance : CF Tryd.prog 25 := ⟨fun _ _ => by kernel_rfl⟩
instance : CF Tryd.prog 26 := ⟨fun _ _ => by kernel_rfl⟩
instance : CF Tryd.prog 27 := ⟨fun _ _ => by kernel_rfl⟩
instance : CF Tryd.prog 28 := ⟨fun _ _ => by kernel_rfl⟩
instance : CF Tryd.prog 29 := ⟨fun _ _ => by kernel_rfl⟩
instance : CF Tryd.prog 30 := ⟨fun _ _ => by kernel_rfl⟩
instance : CF Tryd.prog 31 := ⟨fun _ _ => by kernel_rfl⟩
instance : CF Tryd.prog 32 := ⟨fun _ _ => by kernel_rfl⟩
instance : CF Tryd.prog 33 := ⟨fun _ _ => by kernel_rfl⟩
instance : CF Tryd.prog 34 := ⟨fun _ _ => by kernel_rfl⟩
instance : CF Tryd.prog 35 := ⟨fun _ _ => by kernel_rfl⟩
instance : CF Tryd.prog 36 := ⟨fun _ _ => by kernel_rfl⟩
instance : CF Tryd.prog 37 := ⟨fun _ _ => by kernel_rfl⟩
instance : CF Tryd.prog 38 := ⟨fun _ _ => by kernel_rfl⟩
instance : CF Tryd.prog 39 := ⟨fun _ _ => by kernel_rfl⟩
instance : CF Tryd.prog 40 := ⟨fun _ _ => by kernel_rfl⟩
instance : CF Tryd.prog 41 := ⟨fun _ _ => by kernel_rfl⟩
instance : CF Tryd.prog 42 := ⟨fun _ _ => by kernel_rfl⟩
instance : CF Tryd.prog 43 := ⟨fun _ _ => by kernel_rfl⟩
instance : CF Tryd.prog 44 := ⟨fun _ _ => by kernel_rfl⟩
instance : CF Tryd.prog 45 := ⟨fun _ _ => by kernel_rfl⟩
instance : CF Tryd.prog 46 := ⟨fun _ _ => by kernel_rfl⟩
instance : CF Tryd.prog 47 := ⟨fun _ _ => by kernel_rfl⟩
instance : CF Tryd.prog 48 := ⟨fun _ _ => by kernel_rfl⟩
instance : CF Tryd.prog 49 := ⟨fun _ _ => by kernel_rfl⟩
instance : CF Tryd.prog 50 := ⟨fun _ _ => by kernel_rfl⟩
instance : CF Tryd.prog 51 := ⟨fun _ _ => by kernel_rfl⟩
instance : CF Tryd.prog 52 := ⟨fun _ _ => by kernel_rfl⟩
instance : CF Tryd.prog 53 := ⟨fun _ _ => by kernel_rfl⟩
instance : CF Tryd.prog 54 := ⟨fun _ _ => by kernel_rfl⟩
instance : CF Tryd.prog 55 := ⟨fun _ _ => by kernel_rfl⟩
instance : CF Tryd.prog 56 := ⟨fun _ _ => by kernel_rfl⟩
instance : CF Tryd.prog 57 := ⟨fun _ _ => by kernel_rfl⟩
instance : CF Tryd.prog 58 := ⟨fun _ _ => by kernel_rfl⟩
instance : CF Tryd.prog 59 := ⟨fun _ _ => by kernel_rfl⟩
instance : CF Tryd.prog 60 := ⟨fun _ _ => by kernel_rfl⟩
instance : CF Tryd.prog 61 := ⟨fun _ _ => by kernel_rfl⟩
instance : CF Tryd.prog 62 := ⟨fun _ _ => by kernel_rfl⟩
instance : CF Tryd.prog 63 := ⟨fun _ _ => by kernel_rfl⟩
instance : CF Tryd.prog 64 := ⟨fun _ _ => by kernel_rfl⟩
instance : CF Tryd.prog 65 := ⟨fun _ _ => by kernel_rfl⟩
instance : CF Tryd.prog 66 := ⟨fun _ _ => by kernel_rfl⟩
instance : CF Tryd.prog 67 := ⟨fun _ _ => by kernel_rfl⟩
instance : CF Tryd.prog 68 := ⟨fun _ _ => by kernel_rfl⟩
instance : CF Tryd.prog 69 := ⟨fun _ _ => by kernel_rfl⟩
instance : CF Tryd.prog 70 := ⟨fun _ _ => by kernel_rfl⟩
instance : CF Tryd.prog 71 := ⟨fun _ _ => by kernel_rfl⟩
instance : CF Tryd.prog 72 := ⟨fun _ _ => by kernel_rfl⟩
instance : CF Tryd.prog 73 := ⟨fun _ _ => by kernel_rfl⟩
instance : CF Tryd.prog 74 := ⟨fun _ _ => by kernel_rfl⟩
instance : CF Tryd.prog 75 := ⟨fun _ _ => by kernel_rfl⟩
instance : CF Tryd.prog 76 := ⟨fun _ _ => by kernel_rfl⟩
instance : CF Tryd.prog 77 := ⟨fun _ _ => by kernel_rfl⟩
instance : CF Tryd.prog 78 := ⟨fun _ _ => by kernel_rfl⟩
instance : CF Tryd.prog 79 := ⟨fun _ _ => by kernel_rfl⟩
instance : CF Tryd.prog 80 := ⟨fun _ _ => by kernel_rfl⟩
instance : CF Tryd.prog 81 := ⟨fun _ _ => by kernel_rfl⟩
instance : CF Tryd.prog 82 := ⟨fun _ _ => by kernel_rfl⟩
instance : CF Tryd.prog 83 := ⟨fun _ _ => by kernel_rfl⟩
instance : CF Tryd.prog 84 := ⟨fun _ _ => by kernel_rfl⟩
instance : CF Tryd.prog 85 := ⟨fun _ _ => by kernel_rfl⟩
instance : CF Tryd.prog 86 := ⟨fun _ _ => by kernel_rfl⟩
instance : CF Tryd.prog 87 := ⟨fun _ _ => by kernel_rfl⟩
instance : CF Tryd.prog 88 := ⟨fun _ _ => by kernel_rfl⟩
instance : CF Tryd.prog 89 := ⟨fun _ _ => by kernel_rfl⟩
instance : CF Tryd.prog 90 := ⟨fun _ _ => by kernel_rfl⟩
instance : CF Tryd.prog 91 := ⟨fun _ _ => by kernel_rfl⟩
instance : CF Tryd.prog 92 := ⟨fun _ _ => by kernel_rfl⟩
theorem followsMixed : Tryd.prog.follows .mixedOrders = true := by kernel_rfl
end Go.Proofs.YtihboegopigkmaaDoor
