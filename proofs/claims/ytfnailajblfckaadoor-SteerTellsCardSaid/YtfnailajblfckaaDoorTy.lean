/- Facts on the types and functions of the translation, as instances. -/
import Derived.Test.YtfnailajblfckaaDoorProg
import Derived.Test.YtfnailajblfckaaDoorSq
namespace Go.Proofs.YtfnailajblfckaaDoor
set_option maxRecDepth 100000
instance : TL Tryd.prog 1 false 1 := ⟨by kernel_rfl, by kernel_rfl⟩
instance : TB Tryd.prog 1 8 := ⟨by kernel_rfl⟩
instance : TL Tryd.prog 2 false 1 := ⟨by kernel_rfl, by kernel_rfl⟩
instance : TZ Tryd.prog 2 [.int .i64 0] := ⟨by kernel_rfl⟩
instance : TB Tryd.prog 2 8 := ⟨by kernel_rfl⟩
instance : TI Tryd.prog 2 .i64 := ⟨by kernel_rfl⟩
instance : TL Tryd.prog 3 false 1 := ⟨by kernel_rfl, by kernel_rfl⟩
instance : TZ Tryd.prog 3 [.int .i64 0] := ⟨by kernel_rfl⟩
instance : TB Tryd.prog 3 8 := ⟨by kernel_rfl⟩
instance : TI Tryd.prog 3 .i64 := ⟨by kernel_rfl⟩
instance : TL Tryd.prog 4 false 1 := ⟨by kernel_rfl, by kernel_rfl⟩
instance : TZ Tryd.prog 4 [.bool false] := ⟨by kernel_rfl⟩
instance : TB Tryd.prog 4 1 := ⟨by kernel_rfl⟩
instance : TO Tryd.prog 4 := ⟨by kernel_rfl⟩
instance : TL Tryd.prog 5 false 1 := ⟨by kernel_rfl, by kernel_rfl⟩
instance : TZ Tryd.prog 5 [.int .u8 0] := ⟨by kernel_rfl⟩
instance : TB Tryd.prog 5 1 := ⟨by kernel_rfl⟩
instance : TI Tryd.prog 5 .u8 := ⟨by kernel_rfl⟩
instance : TL Tryd.prog 9 false 1 := ⟨by kernel_rfl, by kernel_rfl⟩
instance : TZ Tryd.prog 9 [.string ⟨#[]⟩] := ⟨by kernel_rfl⟩
instance : TB Tryd.prog 9 16 := ⟨by kernel_rfl⟩
instance : TL Tryd.prog 21 false 1 := ⟨by kernel_rfl, by kernel_rfl⟩
instance : TZ Tryd.prog 21 [.int .i32 0] := ⟨by kernel_rfl⟩
instance : TB Tryd.prog 21 4 := ⟨by kernel_rfl⟩
instance : TI Tryd.prog 21 .i32 := ⟨by kernel_rfl⟩
instance : TL Tryd.prog 22 true 3 := ⟨by kernel_rfl, by kernel_rfl⟩
instance : TZ Tryd.prog 22 [.int .i32 0, .int .i32 0, .int .i32 0] := ⟨by kernel_rfl⟩
instance : TB Tryd.prog 22 12 := ⟨by kernel_rfl⟩
instance : TA Tryd.prog 22 3 21 := ⟨by kernel_rfl⟩
instance : TL Tryd.prog 23 true 3 := ⟨by kernel_rfl, by kernel_rfl⟩
instance : TZ Tryd.prog 23 [.int .i32 0, .int .i32 0, .int .i32 0] := ⟨by kernel_rfl⟩
instance : TB Tryd.prog 23 12 := ⟨by kernel_rfl⟩
instance : TA Tryd.prog 23 3 21 := ⟨by kernel_rfl⟩
instance : TL Tryd.prog 24 false 1 := ⟨by kernel_rfl, by kernel_rfl⟩
instance : TZ Tryd.prog 24 [.int .i16 0] := ⟨by kernel_rfl⟩
instance : TB Tryd.prog 24 2 := ⟨by kernel_rfl⟩
instance : TI Tryd.prog 24 .i16 := ⟨by kernel_rfl⟩
instance : TL Tryd.prog 25 false 1 := ⟨by kernel_rfl, by kernel_rfl⟩
instance : TB Tryd.prog 25 8 := ⟨by kernel_rfl⟩
instance : TL Tryd.prog 26 false 1 := ⟨by kernel_rfl, by kernel_rfl⟩
instance : TB Tryd.prog 26 8 := ⟨by kernel_rfl⟩
instance : TL Tryd.prog 27 false 1 := ⟨by kernel_rfl, by kernel_rfl⟩
instance : TZ Tryd.prog 27 [.int .u16 0] := ⟨by kernel_rfl⟩
instance : TB Tryd.prog 27 2 := ⟨by kernel_rfl⟩
instance : TI Tryd.prog 27 .u16 := ⟨by kernel_rfl⟩
instance : TL Tryd.prog 28 false 1 := ⟨by kernel_rfl, by kernel_rfl⟩
instance : TZ Tryd.prog 28 [.int .u16 0] := ⟨by kernel_rfl⟩
instance : TB Tryd.prog 28 2 := ⟨by kernel_rfl⟩
instance : TI Tryd.prog 28 .u16 := ⟨by kernel_rfl⟩
instance : TL Tryd.prog 29 false 1 := ⟨by kernel_rfl, by kernel_rfl⟩
instance : TB Tryd.prog 29 8 := ⟨by kernel_rfl⟩
instance : TL Tryd.prog 30 true 4 := ⟨by kernel_rfl, by kernel_rfl⟩
instance : TZ Tryd.prog 30 [.int .i32 0, .int .i32 0, .int .i32 0, .int .i32 0] := ⟨by kernel_rfl⟩
instance : TB Tryd.prog 30 16 := ⟨by kernel_rfl⟩
instance : TA Tryd.prog 30 4 21 := ⟨by kernel_rfl⟩
instance : TL Tryd.prog 31 false 1 := ⟨by kernel_rfl, by kernel_rfl⟩
instance : TB Tryd.prog 31 8 := ⟨by kernel_rfl⟩
instance : TL Tryd.prog 32 false 1 := ⟨by kernel_rfl, by kernel_rfl⟩
instance : TB Tryd.prog 32 8 := ⟨by kernel_rfl⟩
instance : TL Tryd.prog 33 false 1 := ⟨by kernel_rfl, by kernel_rfl⟩
instance : TB Tryd.prog 33 8 := ⟨by kernel_rfl⟩
instance : TL Tryd.prog 34 false 1 := ⟨by kernel_rfl, by kernel_rfl⟩
instance : TB Tryd.prog 34 8 := ⟨by kernel_rfl⟩
instance : TL Tryd.prog 35 false 1 := ⟨by kernel_rfl, by kernel_rfl⟩
instance : TB Tryd.prog 35 8 := ⟨by kernel_rfl⟩
instance : TL Tryd.prog 36 false 1 := ⟨by kernel_rfl, by kernel_rfl⟩
instance : TB Tryd.prog 36 8 := ⟨by kernel_rfl⟩
instance : TL Tryd.prog 37 true 3 := ⟨by kernel_rfl, by kernel_rfl⟩
instance : TZ Tryd.prog 37 [.int .i64 0, .int .i64 0, .int .i64 0] := ⟨by kernel_rfl⟩
instance : TB Tryd.prog 37 24 := ⟨by kernel_rfl⟩
instance : TA Tryd.prog 37 3 2 := ⟨by kernel_rfl⟩
instance : TL Tryd.prog 38 true 3 := ⟨by kernel_rfl, by kernel_rfl⟩
instance : TZ Tryd.prog 38 [.int .i64 0, .int .i64 0, .int .i64 0] := ⟨by kernel_rfl⟩
instance : TB Tryd.prog 38 24 := ⟨by kernel_rfl⟩
instance : TA Tryd.prog 38 3 3 := ⟨by kernel_rfl⟩
instance : TL Tryd.prog 39 false 1 := ⟨by kernel_rfl, by kernel_rfl⟩
instance : TB Tryd.prog 39 8 := ⟨by kernel_rfl⟩
instance : TL Tryd.prog 40 false 1 := ⟨by kernel_rfl, by kernel_rfl⟩
instance : TB Tryd.prog 40 8 := ⟨by kernel_rfl⟩
instance : TL Tryd.prog 41 false 1 := ⟨by kernel_rfl, by kernel_rfl⟩
instance : TB Tryd.prog 41 8 := ⟨by kernel_rfl⟩
instance : TL Tryd.prog 42 false 1 := ⟨by kernel_rfl, by kernel_rfl⟩
instance : TB Tryd.prog 42 8 := ⟨by kernel_rfl⟩
instance : TL Tryd.prog 43 false 1 := ⟨by kernel_rfl, by kernel_rfl⟩
instance : TB Tryd.prog 43 8 := ⟨by kernel_rfl⟩
instance : TL Tryd.prog 44 false 1 := ⟨by kernel_rfl, by kernel_rfl⟩
instance : TB Tryd.prog 44 8 := ⟨by kernel_rfl⟩
instance : TL Tryd.prog 45 false 1 := ⟨by kernel_rfl, by kernel_rfl⟩
instance : TB Tryd.prog 45 8 := ⟨by kernel_rfl⟩
instance : TL Tryd.prog 46 false 1 := ⟨by kernel_rfl, by kernel_rfl⟩
instance : TB Tryd.prog 46 8 := ⟨by kernel_rfl⟩
instance : TL Tryd.prog 47 false 1 := ⟨by kernel_rfl, by kernel_rfl⟩
instance : TB Tryd.prog 47 8 := ⟨by kernel_rfl⟩
instance : TL Tryd.prog 48 false 1 := ⟨by kernel_rfl, by kernel_rfl⟩
instance : TB Tryd.prog 48 8 := ⟨by kernel_rfl⟩
instance : TL Tryd.prog 49 false 1 := ⟨by kernel_rfl, by kernel_rfl⟩
instance : TB Tryd.prog 49 8 := ⟨by kernel_rfl⟩
instance : TL Tryd.prog 50 false 1 := ⟨by kernel_rfl, by kernel_rfl⟩
instance : TZ Tryd.prog 50 [.slice none 0 0] := ⟨by kernel_rfl⟩
instance : TB Tryd.prog 50 24 := ⟨by kernel_rfl⟩
instance : TS Tryd.prog 50 3 := ⟨by kernel_rfl⟩
instance : TL Tryd.prog 51 true 12 := ⟨by kernel_rfl, by kernel_rfl⟩
instance : TZ Tryd.prog 51 [.int .i32 0, .int .i32 0, .int .i32 0, .int .i32 0, .int .i32 0, .int .i32 0, .int .i32 0, .int .i32 0, .int .i32 0, .int .i32 0, .int .i32 0, .int .i32 0] := ⟨by kernel_rfl⟩
instance : TB Tryd.prog 51 48 := ⟨by kernel_rfl⟩
instance : TA Tryd.prog 51 4 23 := ⟨by kernel_rfl⟩
instance : TL Tryd.prog 52 false 1 := ⟨by kernel_rfl, by kernel_rfl⟩
instance : TB Tryd.prog 52 8 := ⟨by kernel_rfl⟩
instance : TL Tryd.prog 53 false 1 := ⟨by kernel_rfl, by kernel_rfl⟩
instance : TZ Tryd.prog 53 [.int .u64 0] := ⟨by kernel_rfl⟩
instance : TB Tryd.prog 53 8 := ⟨by kernel_rfl⟩
instance : TI Tryd.prog 53 .u64 := ⟨by kernel_rfl⟩
instance : TL Tryd.prog 54 false 1 := ⟨by kernel_rfl, by kernel_rfl⟩
instance : TB Tryd.prog 54 8 := ⟨by kernel_rfl⟩
instance : TL Tryd.prog 55 false 1 := ⟨by kernel_rfl, by kernel_rfl⟩
instance : TB Tryd.prog 55 8 := ⟨by kernel_rfl⟩
instance : TL Tryd.prog 56 false 1 := ⟨by kernel_rfl, by kernel_rfl⟩
instance : TB Tryd.prog 56 8 := ⟨by kernel_rfl⟩
instance : TL Tryd.prog 57 false 1 := ⟨by kernel_rfl, by kernel_rfl⟩
instance : TZ Tryd.prog 57 [.slice none 0 0] := ⟨by kernel_rfl⟩
instance : TB Tryd.prog 57 24 := ⟨by kernel_rfl⟩
instance : TS Tryd.prog 57 23 := ⟨by kernel_rfl⟩
instance : TL Tryd.prog 58 false 1 := ⟨by kernel_rfl, by kernel_rfl⟩
instance : TB Tryd.prog 58 8 := ⟨by kernel_rfl⟩
instance : TL Tryd.prog 59 false 1 := ⟨by kernel_rfl, by kernel_rfl⟩
instance : TB Tryd.prog 59 8 := ⟨by kernel_rfl⟩
instance : TL Tryd.prog 60 false 1 := ⟨by kernel_rfl, by kernel_rfl⟩
instance : TB Tryd.prog 60 8 := ⟨by kernel_rfl⟩
instance : TL Tryd.prog 61 false 1 := ⟨by kernel_rfl, by kernel_rfl⟩
instance : TB Tryd.prog 61 8 := ⟨by kernel_rfl⟩
instance : TL Tryd.prog 62 false 1 := ⟨by kernel_rfl, by kernel_rfl⟩
instance : TB Tryd.prog 62 8 := ⟨by kernel_rfl⟩
instance : TL Tryd.prog 63 false 1 := ⟨by kernel_rfl, by kernel_rfl⟩
instance : TZ Tryd.prog 63 [.slice none 0 0] := ⟨by kernel_rfl⟩
instance : TB Tryd.prog 63 24 := ⟨by kernel_rfl⟩
instance : TS Tryd.prog 63 2 := ⟨by kernel_rfl⟩
instance : TL Tryd.prog 64 false 1 := ⟨by kernel_rfl, by kernel_rfl⟩
instance : TB Tryd.prog 64 8 := ⟨by kernel_rfl⟩
instance : TL Tryd.prog 65 false 1 := ⟨by kernel_rfl, by kernel_rfl⟩
instance : TZ Tryd.prog 65 [.slice none 0 0] := ⟨by kernel_rfl⟩
instance : TB Tryd.prog 65 24 := ⟨by kernel_rfl⟩
instance : TS Tryd.prog 65 21 := ⟨by kernel_rfl⟩
instance : TL Tryd.prog 66 false 1 := ⟨by kernel_rfl, by kernel_rfl⟩
instance : TB Tryd.prog 66 8 := ⟨by kernel_rfl⟩
instance : TL Tryd.prog 67 false 1 := ⟨by kernel_rfl, by kernel_rfl⟩
instance : TB Tryd.prog 67 8 := ⟨by kernel_rfl⟩
instance : TL Tryd.prog 68 false 1 := ⟨by kernel_rfl, by kernel_rfl⟩
instance : TB Tryd.prog 68 8 := ⟨by kernel_rfl⟩
instance : TL Tryd.prog 69 false 1 := ⟨by kernel_rfl, by kernel_rfl⟩
instance : TB Tryd.prog 69 8 := ⟨by kernel_rfl⟩
instance : TL Tryd.prog 75 false 1 := ⟨by kernel_rfl, by kernel_rfl⟩
instance : TB Tryd.prog 75 8 := ⟨by kernel_rfl⟩
instance : TL Tryd.prog 76 false 1 := ⟨by kernel_rfl, by kernel_rfl⟩
instance : TZ Tryd.prog 76 [.int .u32 0] := ⟨by kernel_rfl⟩
instance : TB Tryd.prog 76 4 := ⟨by kernel_rfl⟩
instance : TI Tryd.prog 76 .u32 := ⟨by kernel_rfl⟩
instance : TL Tryd.prog 80 false 1 := ⟨by kernel_rfl, by kernel_rfl⟩
instance : TZ Tryd.prog 80 [.pointer none] := ⟨by kernel_rfl⟩
instance : TB Tryd.prog 80 8 := ⟨by kernel_rfl⟩
instance : TRw Tryd.prog 1 1 [.nilFunc] := ⟨by kernel_rfl, by kernel_rfl, rfl, by decide⟩
instance : TRw Tryd.prog 2 1 [.int .i64 0] := ⟨by kernel_rfl, by kernel_rfl, rfl, by decide⟩
instance : TRw Tryd.prog 3 1 [.int .i64 0] := ⟨by kernel_rfl, by kernel_rfl, rfl, by decide⟩
instance : TRw Tryd.prog 4 1 [.bool false] := ⟨by kernel_rfl, by kernel_rfl, rfl, by decide⟩
instance : TRw Tryd.prog 5 1 [.int .u8 0] := ⟨by kernel_rfl, by kernel_rfl, rfl, by decide⟩
instance : TRw Tryd.prog 9 1 [.string ⟨#[]⟩] := ⟨by kernel_rfl, by kernel_rfl, rfl, by decide⟩
instance : TRw Tryd.prog 21 1 [.int .i32 0] := ⟨by kernel_rfl, by kernel_rfl, rfl, by decide⟩
instance : TBd Tryd.prog 22 (fun i => some (i * 1, 1)) [.int .i32 0, .int .i32 0, .int .i32 0] := ⟨fun _ => by kernel_rfl⟩
instance : TRw Tryd.prog 22 3 [.int .i32 0, .int .i32 0, .int .i32 0] := ⟨by kernel_rfl, by kernel_rfl, rfl, by decide⟩
instance : TBd Tryd.prog 23 (fun i => some (i * 1, 1)) [.int .i32 0, .int .i32 0, .int .i32 0] := ⟨fun _ => by kernel_rfl⟩
instance : TRw Tryd.prog 23 3 [.int .i32 0, .int .i32 0, .int .i32 0] := ⟨by kernel_rfl, by kernel_rfl, rfl, by decide⟩
instance : TRw Tryd.prog 24 1 [.int .i16 0] := ⟨by kernel_rfl, by kernel_rfl, rfl, by decide⟩
instance : TRw Tryd.prog 25 1 [.nilFunc] := ⟨by kernel_rfl, by kernel_rfl, rfl, by decide⟩
instance : TRw Tryd.prog 26 1 [.nilFunc] := ⟨by kernel_rfl, by kernel_rfl, rfl, by decide⟩
instance : TRw Tryd.prog 27 1 [.int .u16 0] := ⟨by kernel_rfl, by kernel_rfl, rfl, by decide⟩
instance : TRw Tryd.prog 28 1 [.int .u16 0] := ⟨by kernel_rfl, by kernel_rfl, rfl, by decide⟩
instance : TRw Tryd.prog 29 1 [.nilFunc] := ⟨by kernel_rfl, by kernel_rfl, rfl, by decide⟩
instance : TBd Tryd.prog 30 (fun i => some (i * 1, 1)) [.int .i32 0, .int .i32 0, .int .i32 0, .int .i32 0] := ⟨fun _ => by kernel_rfl⟩
instance : TRw Tryd.prog 30 4 [.int .i32 0, .int .i32 0, .int .i32 0, .int .i32 0] := ⟨by kernel_rfl, by kernel_rfl, rfl, by decide⟩
instance : TRw Tryd.prog 31 1 [.nilFunc] := ⟨by kernel_rfl, by kernel_rfl, rfl, by decide⟩
instance : TRw Tryd.prog 32 1 [.nilFunc] := ⟨by kernel_rfl, by kernel_rfl, rfl, by decide⟩
instance : TRw Tryd.prog 33 1 [.nilFunc] := ⟨by kernel_rfl, by kernel_rfl, rfl, by decide⟩
instance : TRw Tryd.prog 34 1 [.nilFunc] := ⟨by kernel_rfl, by kernel_rfl, rfl, by decide⟩
instance : TRw Tryd.prog 35 1 [.nilFunc] := ⟨by kernel_rfl, by kernel_rfl, rfl, by decide⟩
instance : TRw Tryd.prog 36 1 [.nilFunc] := ⟨by kernel_rfl, by kernel_rfl, rfl, by decide⟩
instance : TBd Tryd.prog 37 (fun i => some (i * 1, 1)) [.int .i64 0, .int .i64 0, .int .i64 0] := ⟨fun _ => by kernel_rfl⟩
instance : TRw Tryd.prog 37 3 [.int .i64 0, .int .i64 0, .int .i64 0] := ⟨by kernel_rfl, by kernel_rfl, rfl, by decide⟩
instance : TBd Tryd.prog 38 (fun i => some (i * 1, 1)) [.int .i64 0, .int .i64 0, .int .i64 0] := ⟨fun _ => by kernel_rfl⟩
instance : TRw Tryd.prog 38 3 [.int .i64 0, .int .i64 0, .int .i64 0] := ⟨by kernel_rfl, by kernel_rfl, rfl, by decide⟩
instance : TRw Tryd.prog 39 1 [.nilFunc] := ⟨by kernel_rfl, by kernel_rfl, rfl, by decide⟩
instance : TRw Tryd.prog 40 1 [.nilFunc] := ⟨by kernel_rfl, by kernel_rfl, rfl, by decide⟩
instance : TRw Tryd.prog 41 1 [.nilFunc] := ⟨by kernel_rfl, by kernel_rfl, rfl, by decide⟩
instance : TRw Tryd.prog 42 1 [.nilFunc] := ⟨by kernel_rfl, by kernel_rfl, rfl, by decide⟩
instance : TRw Tryd.prog 43 1 [.nilFunc] := ⟨by kernel_rfl, by kernel_rfl, rfl, by decide⟩
instance : TRw Tryd.prog 44 1 [.nilFunc] := ⟨by kernel_rfl, by kernel_rfl, rfl, by decide⟩
instance : TRw Tryd.prog 45 1 [.nilFunc] := ⟨by kernel_rfl, by kernel_rfl, rfl, by decide⟩
instance : TRw Tryd.prog 46 1 [.nilFunc] := ⟨by kernel_rfl, by kernel_rfl, rfl, by decide⟩
instance : TRw Tryd.prog 47 1 [.nilFunc] := ⟨by kernel_rfl, by kernel_rfl, rfl, by decide⟩
instance : TRw Tryd.prog 48 1 [.nilFunc] := ⟨by kernel_rfl, by kernel_rfl, rfl, by decide⟩
instance : TRw Tryd.prog 49 1 [.nilFunc] := ⟨by kernel_rfl, by kernel_rfl, rfl, by decide⟩
instance : TRw Tryd.prog 50 1 [.slice none 0 0] := ⟨by kernel_rfl, by kernel_rfl, rfl, by decide⟩
instance : TBd Tryd.prog 51 (fun i => some (i * 3, 3)) [.int .i32 0, .int .i32 0, .int .i32 0, .int .i32 0, .int .i32 0, .int .i32 0, .int .i32 0, .int .i32 0, .int .i32 0, .int .i32 0, .int .i32 0, .int .i32 0] := ⟨fun _ => by kernel_rfl⟩
instance : TRw Tryd.prog 51 12 [.int .i32 0, .int .i32 0, .int .i32 0, .int .i32 0, .int .i32 0, .int .i32 0, .int .i32 0, .int .i32 0, .int .i32 0, .int .i32 0, .int .i32 0, .int .i32 0] := ⟨by kernel_rfl, by kernel_rfl, rfl, by decide⟩
instance : TRw Tryd.prog 52 1 [.nilFunc] := ⟨by kernel_rfl, by kernel_rfl, rfl, by decide⟩
instance : TRw Tryd.prog 53 1 [.int .u64 0] := ⟨by kernel_rfl, by kernel_rfl, rfl, by decide⟩
instance : TRw Tryd.prog 54 1 [.nilFunc] := ⟨by kernel_rfl, by kernel_rfl, rfl, by decide⟩
instance : TRw Tryd.prog 55 1 [.nilFunc] := ⟨by kernel_rfl, by kernel_rfl, rfl, by decide⟩
instance : TRw Tryd.prog 56 1 [.nilFunc] := ⟨by kernel_rfl, by kernel_rfl, rfl, by decide⟩
instance : TRw Tryd.prog 57 1 [.slice none 0 0] := ⟨by kernel_rfl, by kernel_rfl, rfl, by decide⟩
instance : TRw Tryd.prog 58 1 [.nilFunc] := ⟨by kernel_rfl, by kernel_rfl, rfl, by decide⟩
instance : TRw Tryd.prog 59 1 [.nilFunc] := ⟨by kernel_rfl, by kernel_rfl, rfl, by decide⟩
instance : TRw Tryd.prog 60 1 [.nilFunc] := ⟨by kernel_rfl, by kernel_rfl, rfl, by decide⟩
instance : TRw Tryd.prog 61 1 [.nilFunc] := ⟨by kernel_rfl, by kernel_rfl, rfl, by decide⟩
instance : TRw Tryd.prog 62 1 [.nilFunc] := ⟨by kernel_rfl, by kernel_rfl, rfl, by decide⟩
instance : TRw Tryd.prog 63 1 [.slice none 0 0] := ⟨by kernel_rfl, by kernel_rfl, rfl, by decide⟩
instance : TRw Tryd.prog 64 1 [.nilFunc] := ⟨by kernel_rfl, by kernel_rfl, rfl, by decide⟩
instance : TRw Tryd.prog 65 1 [.slice none 0 0] := ⟨by kernel_rfl, by kernel_rfl, rfl, by decide⟩
instance : TRw Tryd.prog 66 1 [.nilFunc] := ⟨by kernel_rfl, by kernel_rfl, rfl, by decide⟩
instance : TRw Tryd.prog 67 1 [.nilFunc] := ⟨by kernel_rfl, by kernel_rfl, rfl, by decide⟩
instance : TRw Tryd.prog 68 1 [.nilFunc] := ⟨by kernel_rfl, by kernel_rfl, rfl, by decide⟩
instance : TRw Tryd.prog 69 1 [.nilFunc] := ⟨by kernel_rfl, by kernel_rfl, rfl, by decide⟩
instance : TRw Tryd.prog 75 1 [.nilFunc] := ⟨by kernel_rfl, by kernel_rfl, rfl, by decide⟩
instance : TRw Tryd.prog 76 1 [.int .u32 0] := ⟨by kernel_rfl, by kernel_rfl, rfl, by decide⟩
instance : TRw Tryd.prog 80 1 [.pointer none] := ⟨by kernel_rfl, by kernel_rfl, rfl, by decide⟩
theorem eqt_21 : EqT Tryd.prog 1 21 false [.i .i32] := eqt_int (by kernel_rfl) inferInstance
theorem eqt_22 : EqT Tryd.prog 2 22 true [.i .i32, .i .i32, .i .i32] := eqt_array (n := 3) (by kernel_rfl) eqt_21 (by kernel_rfl) inferInstance
instance : TQ Tryd.prog 22 [.i .i32, .i .i32, .i .i32] := ⟨⟨_, by decide, eqt_22⟩, by kernel_rfl⟩
theorem eqt_23 : EqT Tryd.prog 2 23 true [.i .i32, .i .i32, .i .i32] := eqt_array (n := 3) (by kernel_rfl) eqt_21 (by kernel_rfl) inferInstance
instance : TQ Tryd.prog 23 [.i .i32, .i .i32, .i .i32] := ⟨⟨_, by decide, eqt_23⟩, by kernel_rfl⟩
theorem eqt_30 : EqT Tryd.prog 2 30 true [.i .i32, .i .i32, .i .i32, .i .i32] := eqt_array (n := 4) (by kernel_rfl) eqt_21 (by kernel_rfl) inferInstance
instance : TQ Tryd.prog 30 [.i .i32, .i .i32, .i .i32, .i .i32] := ⟨⟨_, by decide, eqt_30⟩, by kernel_rfl⟩
theorem eqt_2 : EqT Tryd.prog 1 2 false [.i .i64] := eqt_int (by kernel_rfl) inferInstance
theorem eqt_37 : EqT Tryd.prog 2 37 true [.i .i64, .i .i64, .i .i64] := eqt_array (n := 3) (by kernel_rfl) eqt_2 (by kernel_rfl) inferInstance
instance : TQ Tryd.prog 37 [.i .i64, .i .i64, .i .i64] := ⟨⟨_, by decide, eqt_37⟩, by kernel_rfl⟩
theorem eqt_3 : EqT Tryd.prog 1 3 false [.i .i64] := eqt_int (by kernel_rfl) inferInstance
theorem eqt_38 : EqT Tryd.prog 2 38 true [.i .i64, .i .i64, .i .i64] := eqt_array (n := 3) (by kernel_rfl) eqt_3 (by kernel_rfl) inferInstance
instance : TQ Tryd.prog 38 [.i .i64, .i .i64, .i .i64] := ⟨⟨_, by decide, eqt_38⟩, by kernel_rfl⟩
theorem eqt_51 : EqT Tryd.prog 3 51 true [.i .i32, .i .i32, .i .i32, .i .i32, .i .i32, .i .i32, .i .i32, .i .i32, .i .i32, .i .i32, .i .i32, .i .i32] := eqt_array (n := 4) (by kernel_rfl) eqt_23 (by kernel_rfl) inferInstance
instance : TQ Tryd.prog 51 [.i .i32, .i .i32, .i .i32, .i .i32, .i .i32, .i .i32, .i .i32, .i .i32, .i .i32, .i .i32, .i .i32, .i .i32] := ⟨⟨_, by decide, eqt_51⟩, by kernel_rfl⟩
instance : CF Tryd.prog 3 := ⟨fun _ _ => by kernel_rfl⟩
instance : CF Tryd.prog 4 := ⟨fun _ _ => by kernel_rfl⟩
instance : CF Tryd.prog 5 := ⟨fun _ _ => by kernel_rfl⟩
instance : CF Tryd.prog 6 := ⟨fun _ _ => by kernel_rfl⟩
instance : CF Tryd.prog 7 := ⟨fun _ _ => by kernel_rfl⟩
instance : CF Tryd.prog 8 := ⟨fun _ _ => by kernel_rfl⟩
instance : CF Tryd.prog 9 := ⟨fun _ _ => by kernel_rfl⟩
instance : CF Tryd.prog 10 := ⟨fun _ _ => by kernel_rfl⟩
instance : CF Tryd.prog 11 := ⟨fun _ _ => by kernel_rfl⟩
instance : CF Tryd.prog 12 := ⟨fun _ _ => by kernel_rfl⟩
instance : CF Tryd.prog 13 := ⟨fun _ _ => by kernel_rfl⟩
instance : CF Tryd.prog 14 := ⟨fun _ _ => by kernel_rfl⟩
instance : CF Tryd.prog 15 := ⟨fun _ _ => by kernel_rfl⟩
instance : CF Tryd.prog 16 := ⟨fun _ _ => by kernel_rfl⟩
instance : CF Tryd.prog 17 := ⟨fun _ _ => by kernel_rfl⟩
instance : CF Tryd.prog 18 := ⟨fun _ _ => by kernel_rfl⟩
instance : CF Tryd.prog 19 := ⟨fun _ _ => by kernel_rfl⟩
instance : CF Tryd.prog 20 := ⟨fun _ _ => by kernel_rfl⟩
instance : CF Tryd.prog 21 := ⟨fun _ _ => by kernel_rfl⟩
instance : CF Tryd.prog 22 := ⟨fun _ _ => by kernel_rfl⟩
instance : CF Tryd.prog 23 := ⟨fun _ _ => by kernel_rfl⟩
instance : CF Tryd.prog 24 := ⟨fun _ _ => by kernel_rfl⟩
instance : CF Tryd.prog 25 := ⟨fun _ _ => by kernel_rfl⟩
instance : CF Tryd.prog 26 := ⟨fun _ _ => by kernel_rfl⟩
instance : CF Tryd.prog 27 := ⟨fun _ _ => by kernel_rfl⟩
instance : CF Tryd.prog 28 := ⟨fun _ _ => by kernel_rfl⟩
instance : CF Tryd.prog 29 := ⟨fun _ _ => by kernel_rfl⟩
instance : CF Tryd.prog 30 := ⟨fun _ _ => by kernel_rfl⟩
instance : CF Tryd.prog 31 := ⟨fun _ _ => by kernel_rfl⟩
instance : CF Tryd.prog 32 := ⟨fun _ _ => by kernel_rfl⟩
instance : CF Tryd.prog 33 := ⟨fun _ _ => by kernel_rfl⟩
instance : CF Tryd.prog 34 := ⟨fun _ _ => by kernel_rfl⟩
instance : CF Tryd.prog 35 := ⟨fun _ _ => by kernel_rfl⟩
instance : CF Tryd.prog 36 := ⟨fun _ _ => by kernel_rfl⟩
instance : CF Tryd.prog 37 := ⟨fun _ _ => by kernel_rfl⟩
instance : CF Tryd.prog 38 := ⟨fun _ _ => by kernel_rfl⟩
instance : CF Tryd.prog 39 := ⟨fun _ _ => by kernel_rfl⟩
instance : CF Tryd.prog 40 := ⟨fun _ _ => by kernel_rfl⟩
instance : CF Tryd.prog 41 := ⟨fun _ _ => by kernel_rfl⟩
instance : CF Tryd.prog 42 := ⟨fun _ _ => by kernel_rfl⟩
instance : CF Tryd.prog 43 := ⟨fun _ _ => by kernel_rfl⟩
instance : CF Tryd.prog 44 := ⟨fun _ _ => by kernel_rfl⟩
instance : CF Tryd.prog 45 := ⟨fun _ _ => by kernel_rfl⟩
theorem followsMixed : Tryd.prog.follows .mixedOrders = true := by kernel_rfl
end Go.Proofs.YtfnailajblfckaaDoor
