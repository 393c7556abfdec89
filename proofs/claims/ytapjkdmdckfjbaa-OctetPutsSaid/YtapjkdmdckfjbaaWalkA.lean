/- What octet and its document compute, function by function (first part); no condition but on lengths. -/
import Derived.Test.YtapjkdmdckfjbaaEngC
import Derived.Test.YtapjkdmdckfjbaaProg
set_option linter.unusedVariables false
set_option linter.unusedSimpArgs false
namespace Go.Proofs.Ytapjkdmdckfjbaa
open Go Go.Eng
@[go_sem] theorem Try.csz0 : Try.prog.cellsOf 0 = 1 := by kernel_rfl
@[go_sem] theorem Try.bsz0 : Try.prog.bytesOf 0 = 0 := by kernel_rfl
@[go_sem] theorem Try.csz1 : Try.prog.cellsOf 1 = 1 := by kernel_rfl
@[go_sem] theorem Try.bsz1 : Try.prog.bytesOf 1 = 8 := by kernel_rfl
@[go_sem] theorem Try.csz2 : Try.prog.cellsOf 2 = 1 := by kernel_rfl
@[go_sem] theorem Try.bsz2 : Try.prog.bytesOf 2 = 8 := by kernel_rfl
@[go_sem] theorem Try.csz3 : Try.prog.cellsOf 3 = 1 := by kernel_rfl
@[go_sem] theorem Try.bsz3 : Try.prog.bytesOf 3 = 8 := by kernel_rfl
@[go_sem] theorem Try.csz4 : Try.prog.cellsOf 4 = 1 := by kernel_rfl
@[go_sem] theorem Try.bsz4 : Try.prog.bytesOf 4 = 1 := by kernel_rfl
@[go_sem] theorem Try.csz5 : Try.prog.cellsOf 5 = 1 := by kernel_rfl
@[go_sem] theorem Try.bsz5 : Try.prog.bytesOf 5 = 1 := by kernel_rfl
@[go_sem] theorem Try.csz6 : Try.prog.cellsOf 6 = 1 := by kernel_rfl
@[go_sem] theorem Try.bsz6 : Try.prog.bytesOf 6 = 1 := by kernel_rfl
@[go_sem] theorem Try.csz7 : Try.prog.cellsOf 7 = 4 := by kernel_rfl
@[go_sem] theorem Try.bsz7 : Try.prog.bytesOf 7 = 24 := by kernel_rfl
@[go_sem] theorem Try.csz8 : Try.prog.cellsOf 8 = 4 := by kernel_rfl
@[go_sem] theorem Try.bsz8 : Try.prog.bytesOf 8 = 24 := by kernel_rfl
@[go_sem] theorem Try.csz9 : Try.prog.cellsOf 9 = 1 := by kernel_rfl
@[go_sem] theorem Try.bsz9 : Try.prog.bytesOf 9 = 16 := by kernel_rfl
@[go_sem] theorem Try.csz10 : Try.prog.cellsOf 10 = 1 := by kernel_rfl
@[go_sem] theorem Try.bsz10 : Try.prog.bytesOf 10 = 16 := by kernel_rfl
@[go_sem] theorem Try.csz11 : Try.prog.cellsOf 11 = 1 := by kernel_rfl
@[go_sem] theorem Try.bsz11 : Try.prog.bytesOf 11 = 16 := by kernel_rfl
@[go_sem] theorem Try.csz12 : Try.prog.cellsOf 12 = 1 := by kernel_rfl
@[go_sem] theorem Try.bsz12 : Try.prog.bytesOf 12 = 8 := by kernel_rfl
@[go_sem] theorem Try.csz13 : Try.prog.cellsOf 13 = 2 := by kernel_rfl
@[go_sem] theorem Try.bsz13 : Try.prog.bytesOf 13 = 24 := by kernel_rfl
@[go_sem] theorem Try.csz14 : Try.prog.cellsOf 14 = 2 := by kernel_rfl
@[go_sem] theorem Try.bsz14 : Try.prog.bytesOf 14 = 24 := by kernel_rfl
@[go_sem] theorem Try.csz15 : Try.prog.cellsOf 15 = 1 := by kernel_rfl
@[go_sem] theorem Try.bsz15 : Try.prog.bytesOf 15 = 8 := by kernel_rfl
@[go_sem] theorem Try.csz16 : Try.prog.cellsOf 16 = 1 := by kernel_rfl
@[go_sem] theorem Try.bsz16 : Try.prog.bytesOf 16 = 8 := by kernel_rfl
@[go_sem] theorem Try.csz17 : Try.prog.cellsOf 17 = 1 := by kernel_rfl
@[go_sem] theorem Try.bsz17 : Try.prog.bytesOf 17 = 8 := by kernel_rfl
@[go_sem] theorem Try.csz18 : Try.prog.cellsOf 18 = 1 := by kernel_rfl
@[go_sem] theorem Try.bsz18 : Try.prog.bytesOf 18 = 8 := by kernel_rfl
@[go_sem] theorem Try.csz19 : Try.prog.cellsOf 19 = 1 := by kernel_rfl
@[go_sem] theorem Try.bsz19 : Try.prog.bytesOf 19 = 8 := by kernel_rfl
@[go_sem] theorem Try.csz20 : Try.prog.cellsOf 20 = 1 := by kernel_rfl
@[go_sem] theorem Try.bsz20 : Try.prog.bytesOf 20 = 16 := by kernel_rfl
@[go_sem] theorem Try.csz21 : Try.prog.cellsOf 21 = 1 := by kernel_rfl
@[go_sem] theorem Try.bsz21 : Try.prog.bytesOf 21 = 4 := by kernel_rfl
@[go_sem] theorem Try.csz22 : Try.prog.cellsOf 22 = 1 := by kernel_rfl
@[go_sem] theorem Try.bsz22 : Try.prog.bytesOf 22 = 24 := by kernel_rfl
@[go_sem] theorem Try.csz23 : Try.prog.cellsOf 23 = 1 := by kernel_rfl
@[go_sem] theorem Try.bsz23 : Try.prog.bytesOf 23 = 8 := by kernel_rfl
@[go_sem] theorem Try.csz24 : Try.prog.cellsOf 24 = 1 := by kernel_rfl
@[go_sem] theorem Try.bsz24 : Try.prog.bytesOf 24 = 8 := by kernel_rfl
@[go_sem] theorem Try.csz25 : Try.prog.cellsOf 25 = 1 := by kernel_rfl
@[go_sem] theorem Try.bsz25 : Try.prog.bytesOf 25 = 8 := by kernel_rfl
@[go_sem] theorem Try.csz26 : Try.prog.cellsOf 26 = 1 := by kernel_rfl
@[go_sem] theorem Try.bsz26 : Try.prog.bytesOf 26 = 0 := by kernel_rfl
@[go_sem] theorem Try.csz27 : Try.prog.cellsOf 27 = 1 := by kernel_rfl
@[go_sem] theorem Try.bsz27 : Try.prog.bytesOf 27 = 8 := by kernel_rfl
@[go_sem] theorem Try.csz28 : Try.prog.cellsOf 28 = 1 := by kernel_rfl
@[go_sem] theorem Try.bsz28 : Try.prog.bytesOf 28 = 0 := by kernel_rfl
@[go_sem] theorem Try.csz29 : Try.prog.cellsOf 29 = 1 := by kernel_rfl
@[go_sem] theorem Try.bsz29 : Try.prog.bytesOf 29 = 8 := by kernel_rfl
@[go_sem] theorem Try.csz30 : Try.prog.cellsOf 30 = 1 := by kernel_rfl
@[go_sem] theorem Try.bsz30 : Try.prog.bytesOf 30 = 8 := by kernel_rfl
@[go_sem] theorem Try.csz31 : Try.prog.cellsOf 31 = 1 := by kernel_rfl
@[go_sem] theorem Try.bsz31 : Try.prog.bytesOf 31 = 24 := by kernel_rfl
@[go_sem] theorem Try.csz32 : Try.prog.cellsOf 32 = 1 := by kernel_rfl
@[go_sem] theorem Try.bsz32 : Try.prog.bytesOf 32 = 0 := by kernel_rfl
@[go_sem] theorem Try.csz33 : Try.prog.cellsOf 33 = 1 := by kernel_rfl
@[go_sem] theorem Try.bsz33 : Try.prog.bytesOf 33 = 8 := by kernel_rfl
@[go_sem] theorem Try.csz34 : Try.prog.cellsOf 34 = 1 := by kernel_rfl
@[go_sem] theorem Try.bsz34 : Try.prog.bytesOf 34 = 8 := by kernel_rfl
@[go_sem] theorem Try.csz35 : Try.prog.cellsOf 35 = 1 := by kernel_rfl
@[go_sem] theorem Try.bsz35 : Try.prog.bytesOf 35 = 8 := by kernel_rfl
@[go_sem] theorem Try.csz36 : Try.prog.cellsOf 36 = 32 := by kernel_rfl
@[go_sem] theorem Try.bsz36 : Try.prog.bytesOf 36 = 32 := by kernel_rfl
@[go_sem] theorem Try.csz37 : Try.prog.cellsOf 37 = 1 := by kernel_rfl
@[go_sem] theorem Try.bsz37 : Try.prog.bytesOf 37 = 8 := by kernel_rfl
@[go_sem] theorem Try.csz38 : Try.prog.cellsOf 38 = 1 := by kernel_rfl
@[go_sem] theorem Try.bsz38 : Try.prog.bytesOf 38 = 8 := by kernel_rfl
@[go_sem] theorem Try.csz39 : Try.prog.cellsOf 39 = 1 := by kernel_rfl
@[go_sem] theorem Try.bsz39 : Try.prog.bytesOf 39 = 8 := by kernel_rfl
@[go_sem] theorem Try.csz40 : Try.prog.cellsOf 40 = 1 := by kernel_rfl
@[go_sem] theorem Try.bsz40 : Try.prog.bytesOf 40 = 8 := by kernel_rfl
@[go_sem] theorem Try.csz41 : Try.prog.cellsOf 41 = 1 := by kernel_rfl
@[go_sem] theorem Try.bsz41 : Try.prog.bytesOf 41 = 8 := by kernel_rfl
@[go_sem] theorem Try.csz42 : Try.prog.cellsOf 42 = 1 := by kernel_rfl
@[go_sem] theorem Try.bsz42 : Try.prog.bytesOf 42 = 8 := by kernel_rfl
@[go_sem] theorem Try.csz43 : Try.prog.cellsOf 43 = 1 := by kernel_rfl
@[go_sem] theorem Try.bsz43 : Try.prog.bytesOf 43 = 8 := by kernel_rfl
@[go_sem] theorem Try.csz44 : Try.prog.cellsOf 44 = 1 := by kernel_rfl
@[go_sem] theorem Try.bsz44 : Try.prog.bytesOf 44 = 8 := by kernel_rfl
@[go_sem] theorem Try.csz45 : Try.prog.cellsOf 45 = 1 := by kernel_rfl
@[go_sem] theorem Try.bsz45 : Try.prog.bytesOf 45 = 8 := by kernel_rfl
@[go_sem] theorem Try.csz46 : Try.prog.cellsOf 46 = 1 := by kernel_rfl
@[go_sem] theorem Try.bsz46 : Try.prog.bytesOf 46 = 8 := by kernel_rfl
@[go_sem] theorem Try.csz47 : Try.prog.cellsOf 47 = 1 := by kernel_rfl
@[go_sem] theorem Try.bsz47 : Try.prog.bytesOf 47 = 8 := by kernel_rfl
@[go_sem] theorem Try.csz48 : Try.prog.cellsOf 48 = 1 := by kernel_rfl
@[go_sem] theorem Try.bsz48 : Try.prog.bytesOf 48 = 8 := by kernel_rfl
@[go_sem] theorem Try.csz49 : Try.prog.cellsOf 49 = 1 := by kernel_rfl
@[go_sem] theorem Try.bsz49 : Try.prog.bytesOf 49 = 8 := by kernel_rfl
@[go_sem] theorem Try.csz50 : Try.prog.cellsOf 50 = 1 := by kernel_rfl
@[go_sem] theorem Try.bsz50 : Try.prog.bytesOf 50 = 8 := by kernel_rfl
@[go_sem] theorem Try.csz51 : Try.prog.cellsOf 51 = 1 := by kernel_rfl
@[go_sem] theorem Try.bsz51 : Try.prog.bytesOf 51 = 8 := by kernel_rfl
@[go_sem] theorem Try.csz52 : Try.prog.cellsOf 52 = 1 := by kernel_rfl
@[go_sem] theorem Try.bsz52 : Try.prog.bytesOf 52 = 8 := by kernel_rfl
@[go_sem] theorem Try.csz53 : Try.prog.cellsOf 53 = 4 := by kernel_rfl
@[go_sem] theorem Try.bsz53 : Try.prog.bytesOf 53 = 40 := by kernel_rfl
@[go_sem] theorem Try.csz54 : Try.prog.cellsOf 54 = 4 := by kernel_rfl
@[go_sem] theorem Try.bsz54 : Try.prog.bytesOf 54 = 40 := by kernel_rfl
@[go_sem] theorem Try.csz55 : Try.prog.cellsOf 55 = 0 := by kernel_rfl
@[go_sem] theorem Try.bsz55 : Try.prog.bytesOf 55 = 0 := by kernel_rfl
@[go_sem] theorem Try.csz56 : Try.prog.cellsOf 56 = 0 := by kernel_rfl
@[go_sem] theorem Try.bsz56 : Try.prog.bytesOf 56 = 0 := by kernel_rfl
@[go_sem] theorem Try.csz57 : Try.prog.cellsOf 57 = 0 := by kernel_rfl
@[go_sem] theorem Try.bsz57 : Try.prog.bytesOf 57 = 0 := by kernel_rfl
@[go_sem] theorem Try.csz58 : Try.prog.cellsOf 58 = 1 := by kernel_rfl
@[go_sem] theorem Try.bsz58 : Try.prog.bytesOf 58 = 8 := by kernel_rfl
@[go_sem] theorem Try.csz59 : Try.prog.cellsOf 59 = 1 := by kernel_rfl
@[go_sem] theorem Try.bsz59 : Try.prog.bytesOf 59 = 4 := by kernel_rfl
@[go_sem] theorem Try.csz60 : Try.prog.cellsOf 60 = 1 := by kernel_rfl
@[go_sem] theorem Try.bsz60 : Try.prog.bytesOf 60 = 1 := by kernel_rfl
@[go_sem] theorem Try.csz61 : Try.prog.cellsOf 61 = 1 := by kernel_rfl
@[go_sem] theorem Try.bsz61 : Try.prog.bytesOf 61 = 1 := by kernel_rfl
@[go_sem] theorem Try.csz62 : Try.prog.cellsOf 62 = 1 := by kernel_rfl
@[go_sem] theorem Try.bsz62 : Try.prog.bytesOf 62 = 8 := by kernel_rfl
@[go_sem] theorem Try.csz63 : Try.prog.cellsOf 63 = 1 := by kernel_rfl
@[go_sem] theorem Try.bsz63 : Try.prog.bytesOf 63 = 8 := by kernel_rfl
@[go_sem] theorem Try.csz64 : Try.prog.cellsOf 64 = 1 := by kernel_rfl
@[go_sem] theorem Try.bsz64 : Try.prog.bytesOf 64 = 4 := by kernel_rfl
@[go_sem] theorem Try.csz65 : Try.prog.cellsOf 65 = 1 := by kernel_rfl
@[go_sem] theorem Try.bsz65 : Try.prog.bytesOf 65 = 4 := by kernel_rfl
@[go_sem] theorem Try.csz66 : Try.prog.cellsOf 66 = 11 := by kernel_rfl
@[go_sem] theorem Try.bsz66 : Try.prog.bytesOf 66 = 48 := by kernel_rfl
@[go_sem] theorem Try.csz67 : Try.prog.cellsOf 67 = 11 := by kernel_rfl
@[go_sem] theorem Try.bsz67 : Try.prog.bytesOf 67 = 48 := by kernel_rfl
@[go_sem] theorem Try.csz68 : Try.prog.cellsOf 68 = 1 := by kernel_rfl
@[go_sem] theorem Try.bsz68 : Try.prog.bytesOf 68 = 8 := by kernel_rfl
attribute [go_sem] Try.underlying0 Try.underlying1 Try.underlying2 Try.underlying3 Try.underlying4 Try.underlying5 Try.underlying6 Try.underlying7 Try.underlying8 Try.underlying9 Try.underlying10 Try.underlying11 Try.underlying12 Try.underlying13 Try.underlying14 Try.underlying15 Try.underlying16 Try.underlying17 Try.underlying18 Try.underlying19 Try.underlying20 Try.underlying21 Try.underlying22 Try.underlying23 Try.underlying24 Try.underlying25 Try.underlying26 Try.underlying27 Try.underlying28 Try.underlying29 Try.underlying30 Try.underlying31 Try.underlying32 Try.underlying33 Try.underlying34 Try.underlying35 Try.underlying36 Try.underlying37 Try.underlying38 Try.underlying39 Try.underlying40 Try.underlying41 Try.underlying42 Try.underlying43 Try.underlying44 Try.underlying45 Try.underlying46 Try.underlying47 Try.underlying48 Try.underlying49 Try.underlying50 Try.underlying51 Try.underlying52 Try.underlying53 Try.underlying54 Try.underlying55 Try.underlying56 Try.underlying57 Try.underlying58 Try.underlying59 Try.underlying60 Try.underlying61 Try.underlying62 Try.underlying63 Try.underlying64 Try.underlying65 Try.underlying66 Try.underlying67 Try.underlying68
@[go_sem] theorem Try.zc1 : zeroC Try.prog 1 = [AV.v .nilFunc] := by kernel_rfl
@[go_sem] theorem Try.zok1 : zeroOk Try.prog 1 = true := by kernel_rfl
@[go_sem] theorem Try.zin1 : zinfo Try.prog 1 = true := by kernel_rfl
@[go_sem] theorem Try.zc2 : zeroC Try.prog 2 = [int 0] := by kernel_rfl
@[go_sem] theorem Try.zok2 : zeroOk Try.prog 2 = true := by kernel_rfl
@[go_sem] theorem Try.zin2 : zinfo Try.prog 2 = true := by kernel_rfl
@[go_sem] theorem Try.kind2 : kindOf Try.prog 2 = some .i64 := by kernel_rfl
@[go_sem] theorem Try.zc3 : zeroC Try.prog 3 = [int 0] := by kernel_rfl
@[go_sem] theorem Try.zok3 : zeroOk Try.prog 3 = true := by kernel_rfl
@[go_sem] theorem Try.zin3 : zinfo Try.prog 3 = true := by kernel_rfl
@[go_sem] theorem Try.kind3 : kindOf Try.prog 3 = some .i64 := by kernel_rfl
@[go_sem] theorem Try.zc4 : zeroC Try.prog 4 = [boo false] := by kernel_rfl
@[go_sem] theorem Try.zok4 : zeroOk Try.prog 4 = true := by kernel_rfl
@[go_sem] theorem Try.zin4 : zinfo Try.prog 4 = true := by kernel_rfl
@[go_sem] theorem Try.zc5 : zeroC Try.prog 5 = [u8 0] := by kernel_rfl
@[go_sem] theorem Try.zok5 : zeroOk Try.prog 5 = true := by kernel_rfl
@[go_sem] theorem Try.zin5 : zinfo Try.prog 5 = true := by kernel_rfl
@[go_sem] theorem Try.kind5 : kindOf Try.prog 5 = some .u8 := by kernel_rfl
@[go_sem] theorem Try.zc6 : zeroC Try.prog 6 = [u8 0] := by kernel_rfl
@[go_sem] theorem Try.zok6 : zeroOk Try.prog 6 = true := by kernel_rfl
@[go_sem] theorem Try.zin6 : zinfo Try.prog 6 = true := by kernel_rfl
@[go_sem] theorem Try.kind6 : kindOf Try.prog 6 = some .u8 := by kernel_rfl
@[go_sem] theorem Try.zc7 : zeroC Try.prog 7 = List.replicate 2 (int 0) ++ [boo false] ++ [u8 0] := by kernel_rfl
@[go_sem] theorem Try.zok7 : zeroOk Try.prog 7 = true := by kernel_rfl
@[go_sem] theorem Try.zin7 : zinfo Try.prog 7 = true := by kernel_rfl
@[go_sem] theorem Try.szok7 : sizedOk Try.prog 7 = true := by kernel_rfl
@[go_sem] theorem Try.fld7_0 : fldOf Try.prog 7 0 = some (0, 2) := by kernel_rfl
@[go_sem] theorem Try.plc7_0 : placeOf Try.prog 7 0 = some (0, 1) := by kernel_rfl
@[go_sem] theorem Try.fld7_1 : fldOf Try.prog 7 1 = some (1, 3) := by kernel_rfl
@[go_sem] theorem Try.plc7_1 : placeOf Try.prog 7 1 = some (1, 1) := by kernel_rfl
@[go_sem] theorem Try.fld7_2 : fldOf Try.prog 7 2 = some (2, 4) := by kernel_rfl
@[go_sem] theorem Try.plc7_2 : placeOf Try.prog 7 2 = some (2, 1) := by kernel_rfl
@[go_sem] theorem Try.fld7_3 : fldOf Try.prog 7 3 = some (3, 6) := by kernel_rfl
@[go_sem] theorem Try.plc7_3 : placeOf Try.prog 7 3 = some (3, 1) := by kernel_rfl
@[go_sem] theorem Try.zc8 : zeroC Try.prog 8 = List.replicate 2 (int 0) ++ [boo false] ++ [u8 0] := by kernel_rfl
@[go_sem] theorem Try.zok8 : zeroOk Try.prog 8 = true := by kernel_rfl
@[go_sem] theorem Try.zin8 : zinfo Try.prog 8 = true := by kernel_rfl
@[go_sem] theorem Try.szok8 : sizedOk Try.prog 8 = true := by kernel_rfl
@[go_sem] theorem Try.fld8_0 : fldOf Try.prog 8 0 = some (0, 2) := by kernel_rfl
@[go_sem] theorem Try.plc8_0 : placeOf Try.prog 8 0 = some (0, 1) := by kernel_rfl
@[go_sem] theorem Try.fld8_1 : fldOf Try.prog 8 1 = some (1, 3) := by kernel_rfl
@[go_sem] theorem Try.plc8_1 : placeOf Try.prog 8 1 = some (1, 1) := by kernel_rfl
@[go_sem] theorem Try.fld8_2 : fldOf Try.prog 8 2 = some (2, 4) := by kernel_rfl
@[go_sem] theorem Try.plc8_2 : placeOf Try.prog 8 2 = some (2, 1) := by kernel_rfl
@[go_sem] theorem Try.fld8_3 : fldOf Try.prog 8 3 = some (3, 6) := by kernel_rfl
@[go_sem] theorem Try.plc8_3 : placeOf Try.prog 8 3 = some (3, 1) := by kernel_rfl
@[go_sem] theorem Try.zc9 : zeroC Try.prog 9 = [AV.v (.string .empty)] := by kernel_rfl
@[go_sem] theorem Try.zok9 : zeroOk Try.prog 9 = true := by kernel_rfl
@[go_sem] theorem Try.zin9 : zinfo Try.prog 9 = true := by kernel_rfl
@[go_sem] theorem Try.txok9 : txOk Try.prog 9 = true := by kernel_rfl
@[go_sem] theorem Try.zc10 : zeroC Try.prog 10 = [AV.v (.string .empty)] := by kernel_rfl
@[go_sem] theorem Try.zok10 : zeroOk Try.prog 10 = true := by kernel_rfl
@[go_sem] theorem Try.zin10 : zinfo Try.prog 10 = true := by kernel_rfl
@[go_sem] theorem Try.txok10 : txOk Try.prog 10 = true := by kernel_rfl
@[go_sem] theorem Try.zc11 : zeroC Try.prog 11 = [AV.v (.string .empty)] := by kernel_rfl
@[go_sem] theorem Try.zok11 : zeroOk Try.prog 11 = true := by kernel_rfl
@[go_sem] theorem Try.zin11 : zinfo Try.prog 11 = true := by kernel_rfl
@[go_sem] theorem Try.txok11 : txOk Try.prog 11 = true := by kernel_rfl
@[go_sem] theorem Try.zc12 : zeroC Try.prog 12 = [u64 0] := by kernel_rfl
@[go_sem] theorem Try.zok12 : zeroOk Try.prog 12 = true := by kernel_rfl
@[go_sem] theorem Try.zin12 : zinfo Try.prog 12 = true := by kernel_rfl
@[go_sem] theorem Try.kind12 : kindOf Try.prog 12 = some .u64 := by kernel_rfl
@[go_sem] theorem Try.zc13 : zeroC Try.prog 13 = [AV.v (.string .empty)] ++ [u64 0] := by kernel_rfl
@[go_sem] theorem Try.zok13 : zeroOk Try.prog 13 = true := by kernel_rfl
@[go_sem] theorem Try.zin13 : zinfo Try.prog 13 = true := by kernel_rfl
@[go_sem] theorem Try.szok13 : sizedOk Try.prog 13 = true := by kernel_rfl
@[go_sem] theorem Try.fld13_0 : fldOf Try.prog 13 0 = some (0, 9) := by kernel_rfl
@[go_sem] theorem Try.plc13_0 : placeOf Try.prog 13 0 = some (0, 1) := by kernel_rfl
@[go_sem] theorem Try.fld13_1 : fldOf Try.prog 13 1 = some (1, 12) := by kernel_rfl
@[go_sem] theorem Try.plc13_1 : placeOf Try.prog 13 1 = some (1, 1) := by kernel_rfl
@[go_sem] theorem Try.zc14 : zeroC Try.prog 14 = [AV.v (.string .empty)] ++ [u64 0] := by kernel_rfl
@[go_sem] theorem Try.zok14 : zeroOk Try.prog 14 = true := by kernel_rfl
@[go_sem] theorem Try.zin14 : zinfo Try.prog 14 = true := by kernel_rfl
@[go_sem] theorem Try.szok14 : sizedOk Try.prog 14 = true := by kernel_rfl
@[go_sem] theorem Try.fld14_0 : fldOf Try.prog 14 0 = some (0, 9) := by kernel_rfl
@[go_sem] theorem Try.plc14_0 : placeOf Try.prog 14 0 = some (0, 1) := by kernel_rfl
@[go_sem] theorem Try.fld14_1 : fldOf Try.prog 14 1 = some (1, 12) := by kernel_rfl
@[go_sem] theorem Try.plc14_1 : placeOf Try.prog 14 1 = some (1, 1) := by kernel_rfl
@[go_sem] theorem Try.zc15 : zeroC Try.prog 15 = [AV.v (.pointer none)] := by kernel_rfl
@[go_sem] theorem Try.zok15 : zeroOk Try.prog 15 = true := by kernel_rfl
@[go_sem] theorem Try.zin15 : zinfo Try.prog 15 = true := by kernel_rfl
@[go_sem] theorem Try.zc16 : zeroC Try.prog 16 = [AV.v (.pointer none)] := by kernel_rfl
@[go_sem] theorem Try.zok16 : zeroOk Try.prog 16 = true := by kernel_rfl
@[go_sem] theorem Try.zin16 : zinfo Try.prog 16 = true := by kernel_rfl
@[go_sem] theorem Try.zc17 : zeroC Try.prog 17 = [AV.v (.pointer none)] := by kernel_rfl
@[go_sem] theorem Try.zok17 : zeroOk Try.prog 17 = true := by kernel_rfl
@[go_sem] theorem Try.zin17 : zinfo Try.prog 17 = true := by kernel_rfl
@[go_sem] theorem Try.zc18 : zeroC Try.prog 18 = [AV.v (.pointer none)] := by kernel_rfl
@[go_sem] theorem Try.zok18 : zeroOk Try.prog 18 = true := by kernel_rfl
@[go_sem] theorem Try.zin18 : zinfo Try.prog 18 = true := by kernel_rfl
@[go_sem] theorem Try.szok18 : sizedOk Try.prog 18 = true := by kernel_rfl
@[go_sem] theorem Try.fld18_0 : fldOf Try.prog 18 0 = some (0, 17) := by kernel_rfl
@[go_sem] theorem Try.plc18_0 : placeOf Try.prog 18 0 = some (0, 1) := by kernel_rfl
@[go_sem] theorem Try.zc19 : zeroC Try.prog 19 = [AV.v (.pointer none)] := by kernel_rfl
@[go_sem] theorem Try.zok19 : zeroOk Try.prog 19 = true := by kernel_rfl
@[go_sem] theorem Try.zin19 : zinfo Try.prog 19 = true := by kernel_rfl
@[go_sem] theorem Try.szok19 : sizedOk Try.prog 19 = true := by kernel_rfl
@[go_sem] theorem Try.fld19_0 : fldOf Try.prog 19 0 = some (0, 17) := by kernel_rfl
@[go_sem] theorem Try.plc19_0 : placeOf Try.prog 19 0 = some (0, 1) := by kernel_rfl
@[go_sem] theorem Try.zc20 : zeroC Try.prog 20 = [AV.v .nilIface] := by kernel_rfl
@[go_sem] theorem Try.zok20 : zeroOk Try.prog 20 = true := by kernel_rfl
@[go_sem] theorem Try.zin20 : zinfo Try.prog 20 = true := by kernel_rfl
@[go_sem] theorem Try.zc21 : zeroC Try.prog 21 = [AV.v (.int .i32 (0))] := by kernel_rfl
@[go_sem] theorem Try.zok21 : zeroOk Try.prog 21 = true := by kernel_rfl
@[go_sem] theorem Try.zin21 : zinfo Try.prog 21 = true := by kernel_rfl
@[go_sem] theorem Try.kind21 : kindOf Try.prog 21 = some .i32 := by kernel_rfl
@[go_sem] theorem Try.zc22 : zeroC Try.prog 22 = [nilS] := by kernel_rfl
@[go_sem] theorem Try.zok22 : zeroOk Try.prog 22 = true := by kernel_rfl
@[go_sem] theorem Try.zin22 : zinfo Try.prog 22 = true := by kernel_rfl
@[go_sem] theorem Try.txok22 : txOk Try.prog 22 = true := by kernel_rfl
@[go_sem] theorem Try.zc23 : zeroC Try.prog 23 = [u64 0] := by kernel_rfl
@[go_sem] theorem Try.zok23 : zeroOk Try.prog 23 = true := by kernel_rfl
@[go_sem] theorem Try.zin23 : zinfo Try.prog 23 = true := by kernel_rfl
@[go_sem] theorem Try.kind23 : kindOf Try.prog 23 = some .u64 := by kernel_rfl
@[go_sem] theorem Try.zc24 : zeroC Try.prog 24 = [AV.v .nilFunc] := by kernel_rfl
@[go_sem] theorem Try.zok24 : zeroOk Try.prog 24 = true := by kernel_rfl
@[go_sem] theorem Try.zin24 : zinfo Try.prog 24 = true := by kernel_rfl
@[go_sem] theorem Try.zc25 : zeroC Try.prog 25 = [int 0] := by kernel_rfl
@[go_sem] theorem Try.zok25 : zeroOk Try.prog 25 = true := by kernel_rfl
@[go_sem] theorem Try.zin25 : zinfo Try.prog 25 = true := by kernel_rfl
@[go_sem] theorem Try.kind25 : kindOf Try.prog 25 = some .i64 := by kernel_rfl
@[go_sem] theorem Try.zc27 : zeroC Try.prog 27 = [AV.v .nilFunc] := by kernel_rfl
@[go_sem] theorem Try.zok27 : zeroOk Try.prog 27 = true := by kernel_rfl
@[go_sem] theorem Try.zin27 : zinfo Try.prog 27 = true := by kernel_rfl
@[go_sem] theorem Try.zc29 : zeroC Try.prog 29 = [AV.v .nilFunc] := by kernel_rfl
@[go_sem] theorem Try.zok29 : zeroOk Try.prog 29 = true := by kernel_rfl
@[go_sem] theorem Try.zin29 : zinfo Try.prog 29 = true := by kernel_rfl
@[go_sem] theorem Try.zc30 : zeroC Try.prog 30 = [AV.v .nilFunc] := by kernel_rfl
@[go_sem] theorem Try.zok30 : zeroOk Try.prog 30 = true := by kernel_rfl
@[go_sem] theorem Try.zin30 : zinfo Try.prog 30 = true := by kernel_rfl
@[go_sem] theorem Try.zc31 : zeroC Try.prog 31 = [nilS] := by kernel_rfl
@[go_sem] theorem Try.zok31 : zeroOk Try.prog 31 = true := by kernel_rfl
@[go_sem] theorem Try.zin31 : zinfo Try.prog 31 = true := by kernel_rfl
@[go_sem] theorem Try.txok31 : txOk Try.prog 31 = true := by kernel_rfl
@[go_sem] theorem Try.zc33 : zeroC Try.prog 33 = [AV.v .nilFunc] := by kernel_rfl
@[go_sem] theorem Try.zok33 : zeroOk Try.prog 33 = true := by kernel_rfl
@[go_sem] theorem Try.zin33 : zinfo Try.prog 33 = true := by kernel_rfl
@[go_sem] theorem Try.zc34 : zeroC Try.prog 34 = [AV.v .nilFunc] := by kernel_rfl
@[go_sem] theorem Try.zok34 : zeroOk Try.prog 34 = true := by kernel_rfl
@[go_sem] theorem Try.zin34 : zinfo Try.prog 34 = true := by kernel_rfl
@[go_sem] theorem Try.zc35 : zeroC Try.prog 35 = [AV.v .nilFunc] := by kernel_rfl
@[go_sem] theorem Try.zok35 : zeroOk Try.prog 35 = true := by kernel_rfl
@[go_sem] theorem Try.zin35 : zinfo Try.prog 35 = true := by kernel_rfl
@[go_sem] theorem Try.zc36 : zeroC Try.prog 36 = List.replicate 32 (u8 0) := by kernel_rfl
@[go_sem] theorem Try.zok36 : zeroOk Try.prog 36 = true := by kernel_rfl
@[go_sem] theorem Try.zin36 : zinfo Try.prog 36 = true := by kernel_rfl
@[go_sem] theorem Try.szok36 : sizedOk Try.prog 36 = true := by kernel_rfl
@[go_sem] theorem Try.eqg36 : Try.prog.eqGuardType Try.prog.depth 36 = false := by kernel_rfl
@[go_sem] theorem Try.plc36 (i : Nat) : placeOf Try.prog 36 i = some (i * 1, 1) := by unfold placeOf; rw [Try.underlying36]; simp only [Try.csz5]
@[go_sem] theorem Try.zc37 : zeroC Try.prog 37 = [AV.v .nilFunc] := by kernel_rfl
@[go_sem] theorem Try.zok37 : zeroOk Try.prog 37 = true := by kernel_rfl
@[go_sem] theorem Try.zin37 : zinfo Try.prog 37 = true := by kernel_rfl
@[go_sem] theorem Try.zc38 : zeroC Try.prog 38 = [AV.v .nilFunc] := by kernel_rfl
@[go_sem] theorem Try.zok38 : zeroOk Try.prog 38 = true := by kernel_rfl
@[go_sem] theorem Try.zin38 : zinfo Try.prog 38 = true := by kernel_rfl
@[go_sem] theorem Try.zc39 : zeroC Try.prog 39 = [AV.v .nilFunc] := by kernel_rfl
@[go_sem] theorem Try.zok39 : zeroOk Try.prog 39 = true := by kernel_rfl
@[go_sem] theorem Try.zin39 : zinfo Try.prog 39 = true := by kernel_rfl
@[go_sem] theorem Try.zc40 : zeroC Try.prog 40 = [AV.v .nilFunc] := by kernel_rfl
@[go_sem] theorem Try.zok40 : zeroOk Try.prog 40 = true := by kernel_rfl
@[go_sem] theorem Try.zin40 : zinfo Try.prog 40 = true := by kernel_rfl
@[go_sem] theorem Try.zc41 : zeroC Try.prog 41 = [AV.v .nilFunc] := by kernel_rfl
@[go_sem] theorem Try.zok41 : zeroOk Try.prog 41 = true := by kernel_rfl
@[go_sem] theorem Try.zin41 : zinfo Try.prog 41 = true := by kernel_rfl
@[go_sem] theorem Try.zc42 : zeroC Try.prog 42 = [AV.v .nilFunc] := by kernel_rfl
@[go_sem] theorem Try.zok42 : zeroOk Try.prog 42 = true := by kernel_rfl
@[go_sem] theorem Try.zin42 : zinfo Try.prog 42 = true := by kernel_rfl
@[go_sem] theorem Try.zc43 : zeroC Try.prog 43 = [AV.v .nilFunc] := by kernel_rfl
@[go_sem] theorem Try.zok43 : zeroOk Try.prog 43 = true := by kernel_rfl
@[go_sem] theorem Try.zin43 : zinfo Try.prog 43 = true := by kernel_rfl
@[go_sem] theorem Try.zc44 : zeroC Try.prog 44 = [AV.v .nilFunc] := by kernel_rfl
@[go_sem] theorem Try.zok44 : zeroOk Try.prog 44 = true := by kernel_rfl
@[go_sem] theorem Try.zin44 : zinfo Try.prog 44 = true := by kernel_rfl
@[go_sem] theorem Try.zc45 : zeroC Try.prog 45 = [u64 0] := by kernel_rfl
@[go_sem] theorem Try.zok45 : zeroOk Try.prog 45 = true := by kernel_rfl
@[go_sem] theorem Try.zin45 : zinfo Try.prog 45 = true := by kernel_rfl
@[go_sem] theorem Try.kind45 : kindOf Try.prog 45 = some .u64 := by kernel_rfl
@[go_sem] theorem Try.zc46 : zeroC Try.prog 46 = [AV.v .nilFunc] := by kernel_rfl
@[go_sem] theorem Try.zok46 : zeroOk Try.prog 46 = true := by kernel_rfl
@[go_sem] theorem Try.zin46 : zinfo Try.prog 46 = true := by kernel_rfl
@[go_sem] theorem Try.zc47 : zeroC Try.prog 47 = [AV.v .nilFunc] := by kernel_rfl
@[go_sem] theorem Try.zok47 : zeroOk Try.prog 47 = true := by kernel_rfl
@[go_sem] theorem Try.zin47 : zinfo Try.prog 47 = true := by kernel_rfl
@[go_sem] theorem Try.zc48 : zeroC Try.prog 48 = [AV.v .nilFunc] := by kernel_rfl
@[go_sem] theorem Try.zok48 : zeroOk Try.prog 48 = true := by kernel_rfl
@[go_sem] theorem Try.zin48 : zinfo Try.prog 48 = true := by kernel_rfl
@[go_sem] theorem Try.zc49 : zeroC Try.prog 49 = [AV.v .nilFunc] := by kernel_rfl
@[go_sem] theorem Try.zok49 : zeroOk Try.prog 49 = true := by kernel_rfl
@[go_sem] theorem Try.zin49 : zinfo Try.prog 49 = true := by kernel_rfl
@[go_sem] theorem Try.zc50 : zeroC Try.prog 50 = [AV.v .nilFunc] := by kernel_rfl
@[go_sem] theorem Try.zok50 : zeroOk Try.prog 50 = true := by kernel_rfl
@[go_sem] theorem Try.zin50 : zinfo Try.prog 50 = true := by kernel_rfl
@[go_sem] theorem Try.zc51 : zeroC Try.prog 51 = [AV.v .nilFunc] := by kernel_rfl
@[go_sem] theorem Try.zok51 : zeroOk Try.prog 51 = true := by kernel_rfl
@[go_sem] theorem Try.zin51 : zinfo Try.prog 51 = true := by kernel_rfl
@[go_sem] theorem Try.zc52 : zeroC Try.prog 52 = [AV.v .nilFunc] := by kernel_rfl
@[go_sem] theorem Try.zok52 : zeroOk Try.prog 52 = true := by kernel_rfl
@[go_sem] theorem Try.zin52 : zinfo Try.prog 52 = true := by kernel_rfl
@[go_sem] theorem Try.zc53 : zeroC Try.prog 53 = List.replicate 3 (AV.v (.pointer none)) ++ [AV.v (.string .empty)] := by kernel_rfl
@[go_sem] theorem Try.zok53 : zeroOk Try.prog 53 = true := by kernel_rfl
@[go_sem] theorem Try.zin53 : zinfo Try.prog 53 = true := by kernel_rfl
@[go_sem] theorem Try.szok53 : sizedOk Try.prog 53 = true := by kernel_rfl
@[go_sem] theorem Try.fld53_0 : fldOf Try.prog 53 0 = some (0, 17) := by kernel_rfl
@[go_sem] theorem Try.plc53_0 : placeOf Try.prog 53 0 = some (0, 1) := by kernel_rfl
@[go_sem] theorem Try.fld53_1 : fldOf Try.prog 53 1 = some (1, 17) := by kernel_rfl
@[go_sem] theorem Try.plc53_1 : placeOf Try.prog 53 1 = some (1, 1) := by kernel_rfl
@[go_sem] theorem Try.fld53_2 : fldOf Try.prog 53 2 = some (2, 17) := by kernel_rfl
@[go_sem] theorem Try.plc53_2 : placeOf Try.prog 53 2 = some (2, 1) := by kernel_rfl
@[go_sem] theorem Try.fld53_3 : fldOf Try.prog 53 3 = some (3, 9) := by kernel_rfl
@[go_sem] theorem Try.plc53_3 : placeOf Try.prog 53 3 = some (3, 1) := by kernel_rfl
@[go_sem] theorem Try.zc54 : zeroC Try.prog 54 = List.replicate 3 (AV.v (.pointer none)) ++ [AV.v (.string .empty)] := by kernel_rfl
@[go_sem] theorem Try.zok54 : zeroOk Try.prog 54 = true := by kernel_rfl
@[go_sem] theorem Try.zin54 : zinfo Try.prog 54 = true := by kernel_rfl
@[go_sem] theorem Try.szok54 : sizedOk Try.prog 54 = true := by kernel_rfl
@[go_sem] theorem Try.fld54_0 : fldOf Try.prog 54 0 = some (0, 17) := by kernel_rfl
@[go_sem] theorem Try.plc54_0 : placeOf Try.prog 54 0 = some (0, 1) := by kernel_rfl
@[go_sem] theorem Try.fld54_1 : fldOf Try.prog 54 1 = some (1, 17) := by kernel_rfl
@[go_sem] theorem Try.plc54_1 : placeOf Try.prog 54 1 = some (1, 1) := by kernel_rfl
@[go_sem] theorem Try.fld54_2 : fldOf Try.prog 54 2 = some (2, 17) := by kernel_rfl
@[go_sem] theorem Try.plc54_2 : placeOf Try.prog 54 2 = some (2, 1) := by kernel_rfl
@[go_sem] theorem Try.fld54_3 : fldOf Try.prog 54 3 = some (3, 9) := by kernel_rfl
@[go_sem] theorem Try.plc54_3 : placeOf Try.prog 54 3 = some (3, 1) := by kernel_rfl
@[go_sem] theorem Try.zc58 : zeroC Try.prog 58 = [AV.v .nilFunc] := by kernel_rfl
@[go_sem] theorem Try.zok58 : zeroOk Try.prog 58 = true := by kernel_rfl
@[go_sem] theorem Try.zin58 : zinfo Try.prog 58 = true := by kernel_rfl
@[go_sem] theorem Try.zc59 : zeroC Try.prog 59 = [u32 0] := by kernel_rfl
@[go_sem] theorem Try.zok59 : zeroOk Try.prog 59 = true := by kernel_rfl
@[go_sem] theorem Try.zin59 : zinfo Try.prog 59 = true := by kernel_rfl
@[go_sem] theorem Try.kind59 : kindOf Try.prog 59 = some .u32 := by kernel_rfl
@[go_sem] theorem Try.zc60 : zeroC Try.prog 60 = [u8 0] := by kernel_rfl
@[go_sem] theorem Try.zok60 : zeroOk Try.prog 60 = true := by kernel_rfl
@[go_sem] theorem Try.zin60 : zinfo Try.prog 60 = true := by kernel_rfl
@[go_sem] theorem Try.kind60 : kindOf Try.prog 60 = some .u8 := by kernel_rfl
@[go_sem] theorem Try.zc61 : zeroC Try.prog 61 = [u8 0] := by kernel_rfl
@[go_sem] theorem Try.zok61 : zeroOk Try.prog 61 = true := by kernel_rfl
@[go_sem] theorem Try.zin61 : zinfo Try.prog 61 = true := by kernel_rfl
@[go_sem] theorem Try.kind61 : kindOf Try.prog 61 = some .u8 := by kernel_rfl
@[go_sem] theorem Try.zc62 : zeroC Try.prog 62 = [AV.v .nilFunc] := by kernel_rfl
@[go_sem] theorem Try.zok62 : zeroOk Try.prog 62 = true := by kernel_rfl
@[go_sem] theorem Try.zin62 : zinfo Try.prog 62 = true := by kernel_rfl
@[go_sem] theorem Try.zc63 : zeroC Try.prog 63 = [AV.v (.pointer none)] := by kernel_rfl
@[go_sem] theorem Try.zok63 : zeroOk Try.prog 63 = true := by kernel_rfl
@[go_sem] theorem Try.zin63 : zinfo Try.prog 63 = true := by kernel_rfl
@[go_sem] theorem Try.zc64 : zeroC Try.prog 64 = [AV.v (.int .i32 (0))] := by kernel_rfl
@[go_sem] theorem Try.zok64 : zeroOk Try.prog 64 = true := by kernel_rfl
@[go_sem] theorem Try.zin64 : zinfo Try.prog 64 = true := by kernel_rfl
@[go_sem] theorem Try.kind64 : kindOf Try.prog 64 = some .i32 := by kernel_rfl
@[go_sem] theorem Try.zc65 : zeroC Try.prog 65 = [AV.v (.int .i32 (0))] := by kernel_rfl
@[go_sem] theorem Try.zok65 : zeroOk Try.prog 65 = true := by kernel_rfl
@[go_sem] theorem Try.zin65 : zinfo Try.prog 65 = true := by kernel_rfl
@[go_sem] theorem Try.kind65 : kindOf Try.prog 65 = some .i32 := by kernel_rfl
@[go_sem] theorem Try.zc66 : zeroC Try.prog 66 = List.replicate 2 (u64 0) ++ [u32 0] ++ List.replicate 4 (u8 0) ++ [AV.v .nilFunc] ++ [AV.v (.pointer none)] ++ List.replicate 2 (AV.v (.int .i32 (0))) := by kernel_rfl
@[go_sem] theorem Try.zok66 : zeroOk Try.prog 66 = true := by kernel_rfl
@[go_sem] theorem Try.zin66 : zinfo Try.prog 66 = true := by kernel_rfl
@[go_sem] theorem Try.szok66 : sizedOk Try.prog 66 = true := by kernel_rfl
@[go_sem] theorem Try.fld66_0 : fldOf Try.prog 66 0 = some (0, 12) := by kernel_rfl
@[go_sem] theorem Try.plc66_0 : placeOf Try.prog 66 0 = some (0, 1) := by kernel_rfl
@[go_sem] theorem Try.fld66_1 : fldOf Try.prog 66 1 = some (1, 12) := by kernel_rfl
@[go_sem] theorem Try.plc66_1 : placeOf Try.prog 66 1 = some (1, 1) := by kernel_rfl
@[go_sem] theorem Try.fld66_2 : fldOf Try.prog 66 2 = some (2, 59) := by kernel_rfl
@[go_sem] theorem Try.plc66_2 : placeOf Try.prog 66 2 = some (2, 1) := by kernel_rfl
@[go_sem] theorem Try.fld66_3 : fldOf Try.prog 66 3 = some (3, 60) := by kernel_rfl
@[go_sem] theorem Try.plc66_3 : placeOf Try.prog 66 3 = some (3, 1) := by kernel_rfl
@[go_sem] theorem Try.fld66_4 : fldOf Try.prog 66 4 = some (4, 5) := by kernel_rfl
@[go_sem] theorem Try.plc66_4 : placeOf Try.prog 66 4 = some (4, 1) := by kernel_rfl
@[go_sem] theorem Try.fld66_5 : fldOf Try.prog 66 5 = some (5, 5) := by kernel_rfl
@[go_sem] theorem Try.plc66_5 : placeOf Try.prog 66 5 = some (5, 1) := by kernel_rfl
@[go_sem] theorem Try.fld66_6 : fldOf Try.prog 66 6 = some (6, 61) := by kernel_rfl
@[go_sem] theorem Try.plc66_6 : placeOf Try.prog 66 6 = some (6, 1) := by kernel_rfl
@[go_sem] theorem Try.fld66_7 : fldOf Try.prog 66 7 = some (7, 62) := by kernel_rfl
@[go_sem] theorem Try.plc66_7 : placeOf Try.prog 66 7 = some (7, 1) := by kernel_rfl
@[go_sem] theorem Try.fld66_8 : fldOf Try.prog 66 8 = some (8, 63) := by kernel_rfl
@[go_sem] theorem Try.plc66_8 : placeOf Try.prog 66 8 = some (8, 1) := by kernel_rfl
@[go_sem] theorem Try.fld66_9 : fldOf Try.prog 66 9 = some (9, 64) := by kernel_rfl
@[go_sem] theorem Try.plc66_9 : placeOf Try.prog 66 9 = some (9, 1) := by kernel_rfl
@[go_sem] theorem Try.fld66_10 : fldOf Try.prog 66 10 = some (10, 65) := by kernel_rfl
@[go_sem] theorem Try.plc66_10 : placeOf Try.prog 66 10 = some (10, 1) := by kernel_rfl
@[go_sem] theorem Try.zc67 : zeroC Try.prog 67 = List.replicate 2 (u64 0) ++ [u32 0] ++ List.replicate 4 (u8 0) ++ [AV.v .nilFunc] ++ [AV.v (.pointer none)] ++ List.replicate 2 (AV.v (.int .i32 (0))) := by kernel_rfl
@[go_sem] theorem Try.zok67 : zeroOk Try.prog 67 = true := by kernel_rfl
@[go_sem] theorem Try.zin67 : zinfo Try.prog 67 = true := by kernel_rfl
@[go_sem] theorem Try.szok67 : sizedOk Try.prog 67 = true := by kernel_rfl
@[go_sem] theorem Try.fld67_0 : fldOf Try.prog 67 0 = some (0, 12) := by kernel_rfl
@[go_sem] theorem Try.plc67_0 : placeOf Try.prog 67 0 = some (0, 1) := by kernel_rfl
@[go_sem] theorem Try.fld67_1 : fldOf Try.prog 67 1 = some (1, 12) := by kernel_rfl
@[go_sem] theorem Try.plc67_1 : placeOf Try.prog 67 1 = some (1, 1) := by kernel_rfl
@[go_sem] theorem Try.fld67_2 : fldOf Try.prog 67 2 = some (2, 59) := by kernel_rfl
@[go_sem] theorem Try.plc67_2 : placeOf Try.prog 67 2 = some (2, 1) := by kernel_rfl
@[go_sem] theorem Try.fld67_3 : fldOf Try.prog 67 3 = some (3, 60) := by kernel_rfl
@[go_sem] theorem Try.plc67_3 : placeOf Try.prog 67 3 = some (3, 1) := by kernel_rfl
@[go_sem] theorem Try.fld67_4 : fldOf Try.prog 67 4 = some (4, 5) := by kernel_rfl
@[go_sem] theorem Try.plc67_4 : placeOf Try.prog 67 4 = some (4, 1) := by kernel_rfl
@[go_sem] theorem Try.fld67_5 : fldOf Try.prog 67 5 = some (5, 5) := by kernel_rfl
@[go_sem] theorem Try.plc67_5 : placeOf Try.prog 67 5 = some (5, 1) := by kernel_rfl
@[go_sem] theorem Try.fld67_6 : fldOf Try.prog 67 6 = some (6, 61) := by kernel_rfl
@[go_sem] theorem Try.plc67_6 : placeOf Try.prog 67 6 = some (6, 1) := by kernel_rfl
@[go_sem] theorem Try.fld67_7 : fldOf Try.prog 67 7 = some (7, 62) := by kernel_rfl
@[go_sem] theorem Try.plc67_7 : placeOf Try.prog 67 7 = some (7, 1) := by kernel_rfl
@[go_sem] theorem Try.fld67_8 : fldOf Try.prog 67 8 = some (8, 63) := by kernel_rfl
@[go_sem] theorem Try.plc67_8 : placeOf Try.prog 67 8 = some (8, 1) := by kernel_rfl
@[go_sem] theorem Try.fld67_9 : fldOf Try.prog 67 9 = some (9, 64) := by kernel_rfl
@[go_sem] theorem Try.plc67_9 : placeOf Try.prog 67 9 = some (9, 1) := by kernel_rfl
@[go_sem] theorem Try.fld67_10 : fldOf Try.prog 67 10 = some (10, 65) := by kernel_rfl
@[go_sem] theorem Try.plc67_10 : placeOf Try.prog 67 10 = some (10, 1) := by kernel_rfl
@[go_sem] theorem Try.zc68 : zeroC Try.prog 68 = [AV.v (.pointer none)] := by kernel_rfl
@[go_sem] theorem Try.zok68 : zeroOk Try.prog 68 = true := by kernel_rfl
@[go_sem] theorem Try.zin68 : zinfo Try.prog 68 = true := by kernel_rfl
@[go_sem] theorem Try.res2 : Try.f2.results = #[] := rfl
@[go_sem] theorem Try.res3 : Try.f3.results = #[ResultVar.tmp 8] := rfl
@[go_sem] theorem Try.res4 : Try.f4.results = #[ResultVar.tmp 6] := rfl
@[go_sem] theorem Try.res5 : Try.f5.results = #[ResultVar.tmp 6] := rfl
@[go_sem] theorem Try.res6 : Try.f6.results = #[ResultVar.tmp 6] := rfl
@[go_sem] theorem Try.res7 : Try.f7.results = #[ResultVar.tmp 6] := rfl
@[go_sem] theorem Try.res8 : Try.f8.results = #[ResultVar.tmp 0] := rfl
@[go_sem] theorem Try.res9 : Try.f9.results = #[ResultVar.tmp 6, ResultVar.tmp 7] := rfl
@[go_sem] theorem Try.res10 : Try.f10.results = #[ResultVar.tmp 6, ResultVar.tmp 7] := rfl
@[go_sem] theorem Try.res11 : Try.f11.results = #[ResultVar.tmp 4, ResultVar.tmp 5, ResultVar.tmp 6] := rfl
@[go_sem] theorem Try.res12 : Try.f12.results = #[ResultVar.tmp 4, ResultVar.tmp 5, ResultVar.tmp 6] := rfl
@[go_sem] theorem Try.res13 : Try.f13.results = #[ResultVar.tmp 4, ResultVar.tmp 5] := rfl
@[go_sem] theorem Try.res14 : Try.f14.results = #[ResultVar.tmp 4, ResultVar.tmp 5] := rfl
@[go_sem] theorem Try.res15 : Try.f15.results = #[ResultVar.tmp 2, ResultVar.tmp 3] := rfl
@[go_sem] theorem Try.res16 : Try.f16.results = #[ResultVar.tmp 2, ResultVar.tmp 3] := rfl
@[go_sem] theorem Try.res17 : Try.f17.results = #[ResultVar.tmp 4] := rfl
@[go_sem] theorem Try.res18 : Try.f18.results = #[ResultVar.tmp 4] := rfl
@[go_sem] theorem Try.res19 : Try.f19.results = #[ResultVar.tmp 4] := rfl
@[go_sem] theorem Try.res20 : Try.f20.results = #[ResultVar.cell 4 36] := rfl
@[go_sem] theorem Try.res21 : Try.f21.results = #[ResultVar.cell 4 36] := rfl
@[go_sem] theorem Try.res22 : Try.f22.results = #[ResultVar.tmp 4] := rfl
@[go_sem] theorem Try.res23 : Try.f23.results = #[ResultVar.tmp 4] := rfl
@[go_sem] theorem Try.res24 : Try.f24.results = #[ResultVar.tmp 2] := rfl
@[go_sem] theorem Try.res25 : Try.f25.results = #[ResultVar.tmp 2] := rfl
@[go_sem] theorem Try.res26 : Try.f26.results = #[ResultVar.tmp 2] := rfl
@[go_sem] theorem Try.res27 : Try.f27.results = #[ResultVar.tmp 4] := rfl
@[go_sem] theorem Try.res28 : Try.f28.results = #[] := rfl
end Go.Proofs.Ytapjkdmdckfjbaa

namespace Go.Proofs.Ytapjkdmdckfjbaa
open Go Go.Eng Go.Proofs
set_option maxRecDepth 100000
set_option linter.unusedSimpArgs false
theorem f24 (n : Int) : AFun Try.prog 24 [int n] (boo (decide (1 ≤ n ∧ n ≤ 8))) := by
  refine AFun.enter Try.func24 rfl Try.call24 (by simp [Try.ntmps24]) fun γ1 => ?_
  simp only [frameOf, Try.ntmps24]
  repeat (first | simp only [go_sem, Nat.reduceLT, Nat.reduceEqDiff, reduceIte, Int.reduceEq, Int.reduceLE, Int.reduceLT, Nat.reduceMul, Nat.reduceAdd, Nat.reduceSub, Int.reduceNeg, Int.reduceAdd, Int.reduceMul, Int.reduceSub, Int.reduceToNat, Nat.reduceLeDiff, Nat.reduceDiv, Int.reduceDiv, reduceCtorEq] | refine AW.seq ?_ | refine AW.block ?_ | refine AW.scope ?_ | refine AW.cond_tt rfl ?_ | refine AW.cond_ff rfl ?_ | refine AW.label ?_ | refine AW.skip ?_ | refine AW.ret ?_ | refine AW.exit ?_ | refine AW.region ?_ | refine AW.draw (by kernel_rfl) (by kernel_rfl) ?_ | ((with_reducible refine And.intro ?_ ?_); (focus ((repeat' (with_reducible apply And.intro)) <;> first | trivial | omega | rfl | (unfold inI; omega)))))
  refine exG_dec (fun h1 => ?_) (fun h1 => ?_)
  · repeat (first | simp only [go_sem, Nat.reduceLT, Nat.reduceEqDiff, reduceIte, Int.reduceEq, Int.reduceLE, Int.reduceLT, Nat.reduceMul, Nat.reduceAdd, Nat.reduceSub, Int.reduceNeg, Int.reduceAdd, Int.reduceMul, Int.reduceSub, Int.reduceToNat, Nat.reduceLeDiff, Nat.reduceDiv, Int.reduceDiv, reduceCtorEq] | refine AW.seq ?_ | refine AW.block ?_ | refine AW.scope ?_ | refine AW.cond_tt rfl ?_ | refine AW.cond_ff rfl ?_ | refine AW.label ?_ | refine AW.skip ?_ | refine AW.ret ?_ | refine AW.exit ?_ | refine AW.region ?_ | refine AW.draw (by kernel_rfl) (by kernel_rfl) ?_ | ((with_reducible refine And.intro ?_ ?_); (focus ((repeat' (with_reducible apply And.intro)) <;> first | trivial | omega | rfl | (unfold inI; omega)))))
    simp [h1]
  · repeat (first | simp only [go_sem, Nat.reduceLT, Nat.reduceEqDiff, reduceIte, Int.reduceEq, Int.reduceLE, Int.reduceLT, Nat.reduceMul, Nat.reduceAdd, Nat.reduceSub, Int.reduceNeg, Int.reduceAdd, Int.reduceMul, Int.reduceSub, Int.reduceToNat, Nat.reduceLeDiff, Nat.reduceDiv, Int.reduceDiv, reduceCtorEq] | refine AW.seq ?_ | refine AW.block ?_ | refine AW.scope ?_ | refine AW.cond_tt rfl ?_ | refine AW.cond_ff rfl ?_ | refine AW.label ?_ | refine AW.skip ?_ | refine AW.ret ?_ | refine AW.exit ?_ | refine AW.region ?_ | refine AW.draw (by kernel_rfl) (by kernel_rfl) ?_ | ((with_reducible refine And.intro ?_ ?_); (focus ((repeat' (with_reducible apply And.intro)) <;> first | trivial | omega | rfl | (unfold inI; omega)))))
    simp [h1]
def bitS (k : List UInt8) (i : Int) : Int := if i < 0 ∨ 255 < i then 0 else bits .and .i64 (shr8 (k.getD (i / 8).toNat 0) (7 - i % 8).toNat).toNat 1
theorem f18 (k : List UInt8) (hk : k.length = 32) (i : Int) (hi : inI i) : AFun Try.prog 18 [.agg (k.map u8), int i] (int (bitS k i)) := by
  refine AFun.enter Try.func18 rfl Try.call18 (by simp [Try.ntmps18]) fun γ1 => ?_
  simp only [frameOf, Try.ntmps18]
  repeat (first | simp only [go_sem, Nat.reduceLT, Nat.reduceEqDiff, reduceIte, Int.reduceEq, Int.reduceLE, Int.reduceLT, Nat.reduceMul, Nat.reduceAdd, Nat.reduceSub, Int.reduceNeg, Int.reduceAdd, Int.reduceMul, Int.reduceSub, Int.reduceToNat, Nat.reduceLeDiff, Nat.reduceDiv, Int.reduceDiv, reduceCtorEq] | refine AW.seq ?_ | refine AW.block ?_ | refine AW.scope ?_ | refine AW.cond_tt rfl ?_ | refine AW.cond_ff rfl ?_ | refine AW.label ?_ | refine AW.skip ?_ | refine AW.ret ?_ | refine AW.exit ?_ | refine AW.region ?_ | refine AW.draw (by kernel_rfl) (by kernel_rfl) ?_ | ((with_reducible refine And.intro ?_ ?_); (focus ((repeat' (with_reducible apply And.intro)) <;> first | trivial | omega | rfl | (unfold inI; omega)))))
  refine exG_decf (fun h1 => ?_) (fun h1 => ?_)
  · repeat (first | simp only [go_sem, Nat.reduceLT, Nat.reduceEqDiff, reduceIte, Int.reduceEq, Int.reduceLE, Int.reduceLT, Nat.reduceMul, Nat.reduceAdd, Nat.reduceSub, Int.reduceNeg, Int.reduceAdd, Int.reduceMul, Int.reduceSub, Int.reduceToNat, Nat.reduceLeDiff, Nat.reduceDiv, Int.reduceDiv, reduceCtorEq] | refine AW.seq ?_ | refine AW.block ?_ | refine AW.scope ?_ | refine AW.cond_tt rfl ?_ | refine AW.cond_ff rfl ?_ | refine AW.label ?_ | refine AW.skip ?_ | refine AW.ret ?_ | refine AW.exit ?_ | refine AW.region ?_ | refine AW.draw (by kernel_rfl) (by kernel_rfl) ?_ | ((with_reducible refine And.intro ?_ ?_); (focus ((repeat' (with_reducible apply And.intro)) <;> first | trivial | omega | rfl | (unfold inI; omega)))))
    refine AW.cond_dec rfl (fun h2 => ?_) (fun h2 => ?_)
    · repeat (first | simp only [go_sem, Nat.reduceLT, Nat.reduceEqDiff, reduceIte, Int.reduceEq, Int.reduceLE, Int.reduceLT, Nat.reduceMul, Nat.reduceAdd, Nat.reduceSub, Int.reduceNeg, Int.reduceAdd, Int.reduceMul, Int.reduceSub, Int.reduceToNat, Nat.reduceLeDiff, Nat.reduceDiv, Int.reduceDiv, reduceCtorEq] | refine AW.seq ?_ | refine AW.block ?_ | refine AW.scope ?_ | refine AW.cond_tt rfl ?_ | refine AW.cond_ff rfl ?_ | refine AW.label ?_ | refine AW.skip ?_ | refine AW.ret ?_ | refine AW.exit ?_ | refine AW.region ?_ | refine AW.draw (by kernel_rfl) (by kernel_rfl) ?_ | ((with_reducible refine And.intro ?_ ?_); (focus ((repeat' (with_reducible apply And.intro)) <;> first | trivial | omega | rfl | (unfold inI; omega)))))
      simp [bitS, h2]
    · have hw := wrap_tdiv hi (b := 8) (by decide)
      have e1 : i.tdiv 8 = i / 8 := Int.tdiv_eq_ediv_of_nonneg (by omega)
      have e2 : i.tmod 8 = i % 8 := Int.tmod_eq_emod_of_nonneg (by omega)
      rw [e1] at hw
      have hq : (i / 8).toNat < 32 := by omega
      repeat (first | simp only [go_sem, Nat.reduceLT, Nat.reduceEqDiff, reduceIte, Int.reduceEq, Int.reduceLE, Int.reduceLT, Nat.reduceMul, Nat.reduceAdd, Nat.reduceSub, Int.reduceNeg, Int.reduceAdd, Int.reduceMul, Int.reduceSub, Int.reduceToNat, Nat.reduceLeDiff, Nat.reduceDiv, Int.reduceDiv, reduceCtorEq, row_u8, hk, hq, hw, e1, e2, List.length_drop, List.length_map] | refine AW.seq ?_ | refine AW.block ?_ | refine AW.scope ?_ | refine AW.cond_tt rfl ?_ | refine AW.cond_ff rfl ?_ | refine AW.label ?_ | refine AW.skip ?_ | refine AW.ret ?_ | refine AW.exit ?_ | refine AW.region ?_ | refine AW.draw (by kernel_rfl) (by kernel_rfl) ?_ | ((with_reducible refine And.intro ?_ ?_); (focus ((repeat' (with_reducible apply And.intro)) <;> first | trivial | omega | rfl | (unfold inI; omega)))))
      simp [bitS, h1, h2]
  · repeat (first | simp only [go_sem, Nat.reduceLT, Nat.reduceEqDiff, reduceIte, Int.reduceEq, Int.reduceLE, Int.reduceLT, Nat.reduceMul, Nat.reduceAdd, Nat.reduceSub, Int.reduceNeg, Int.reduceAdd, Int.reduceMul, Int.reduceSub, Int.reduceToNat, Nat.reduceLeDiff, Nat.reduceDiv, Int.reduceDiv, reduceCtorEq] | refine AW.seq ?_ | refine AW.block ?_ | refine AW.scope ?_ | refine AW.cond_tt rfl ?_ | refine AW.cond_ff rfl ?_ | refine AW.label ?_ | refine AW.skip ?_ | refine AW.ret ?_ | refine AW.exit ?_ | refine AW.region ?_ | refine AW.draw (by kernel_rfl) (by kernel_rfl) ?_ | ((with_reducible refine And.intro ?_ ?_); (focus ((repeat' (with_reducible apply And.intro)) <;> first | trivial | omega | rfl | (unfold inI; omega)))))
    simp [bitS, h1]
def turnS (k : List UInt8) (i : Int) : List UInt8 := if 0 ≤ i ∧ i ≤ 255 then k.set (i / 8).toNat (k.getD (i / 8).toNat 0 ^^^ shr8 (UInt8.ofNat 128) (i % 8).toNat) else k
theorem turnS_length (k : List UInt8) (i : Int) : (turnS k i).length = k.length := by unfold turnS; split <;> simp
theorem f20 (k : List UInt8) (hk : k.length = 32) (i : Int) (hi : inI i) : AFun Try.prog 20 [.agg (k.map u8), int i] (.agg ((turnS k i).map u8)) := by
  refine AFun.enter Try.func20 rfl Try.call20 (by simp [Try.ntmps20]) fun γ1 => ?_
  simp only [frameOf, Try.ntmps20]
  repeat (first | simp only [go_sem, Nat.reduceLT, Nat.reduceEqDiff, reduceIte, Int.reduceEq, Int.reduceLE, Int.reduceLT, Nat.reduceMul, Nat.reduceAdd, Nat.reduceSub, Int.reduceNeg, Int.reduceAdd, Int.reduceMul, Int.reduceSub, Int.reduceToNat, Nat.reduceLeDiff, Nat.reduceDiv, Int.reduceDiv, reduceCtorEq] | refine AW.seq ?_ | refine AW.block ?_ | refine AW.scope ?_ | refine AW.cond_tt rfl ?_ | refine AW.cond_ff rfl ?_ | refine AW.label ?_ | refine AW.skip ?_ | refine AW.ret ?_ | refine AW.exit ?_ | refine AW.region ?_ | refine AW.draw (by kernel_rfl) (by kernel_rfl) ?_ | ((with_reducible refine And.intro ?_ ?_); (focus ((repeat' (with_reducible apply And.intro)) <;> first | trivial | omega | rfl | (unfold inI; omega)))))
  refine exG_dec (fun h1 => ?_) (fun h1 => ?_)
  · repeat (first | simp only [go_sem, Nat.reduceLT, Nat.reduceEqDiff, reduceIte, Int.reduceEq, Int.reduceLE, Int.reduceLT, Nat.reduceMul, Nat.reduceAdd, Nat.reduceSub, Int.reduceNeg, Int.reduceAdd, Int.reduceMul, Int.reduceSub, Int.reduceToNat, Nat.reduceLeDiff, Nat.reduceDiv, Int.reduceDiv, reduceCtorEq] | refine AW.seq ?_ | refine AW.block ?_ | refine AW.scope ?_ | refine AW.cond_tt rfl ?_ | refine AW.cond_ff rfl ?_ | refine AW.label ?_ | refine AW.skip ?_ | refine AW.ret ?_ | refine AW.exit ?_ | refine AW.region ?_ | refine AW.draw (by kernel_rfl) (by kernel_rfl) ?_ | ((with_reducible refine And.intro ?_ ?_); (focus ((repeat' (with_reducible apply And.intro)) <;> first | trivial | omega | rfl | (unfold inI; omega)))))
    refine AW.cond_dec rfl (fun h2 => ?_) (fun h2 => ?_)
    · have hw := wrap_tdiv hi (b := 8) (by decide)
      have e1 : i.tdiv 8 = i / 8 := Int.tdiv_eq_ediv_of_nonneg (by omega)
      have e2 : i.tmod 8 = i % 8 := Int.tmod_eq_emod_of_nonneg (by omega)
      rw [e1] at hw
      have hq : (i / 8).toNat < 32 := by omega
      repeat (first | simp only [go_sem, Nat.reduceLT, Nat.reduceEqDiff, reduceIte, Int.reduceEq, Int.reduceLE, Int.reduceLT, Nat.reduceMul, Nat.reduceAdd, Nat.reduceSub, Int.reduceNeg, Int.reduceAdd, Int.reduceMul, Int.reduceSub, Int.reduceToNat, Nat.reduceLeDiff, Nat.reduceDiv, Int.reduceDiv, reduceCtorEq, List.length_map, List.length_set, List.length_replicate, List.length_drop, List.length_take, List.length_append, List.drop_zero, List.take_of_length_le, Nat.le_refl, Nat.sub_zero, splice_all, row_u8, splice_u8, wrap_u64c, hk, hq, hw, e1, e2] | refine AW.seq ?_ | refine AW.block ?_ | refine AW.scope ?_ | refine AW.cond_tt rfl ?_ | refine AW.cond_ff rfl ?_ | refine AW.label ?_ | refine AW.skip ?_ | refine AW.ret ?_ | refine AW.exit ?_ | refine AW.region ?_ | refine AW.draw (by kernel_rfl) (by kernel_rfl) ?_ | ((with_reducible refine And.intro ?_ ?_); (focus ((repeat' (with_reducible apply And.intro)) <;> first | trivial | omega | rfl | (unfold inI; omega)))))
      repeat (first | simp only [go_sem, Nat.reduceLT, Nat.reduceEqDiff, reduceIte, Int.reduceEq, Int.reduceLE, Int.reduceLT, Nat.reduceMul, Nat.reduceAdd, Nat.reduceSub, Int.reduceNeg, Int.reduceAdd, Int.reduceMul, Int.reduceSub, Int.reduceToNat, Nat.reduceLeDiff, Nat.reduceDiv, Int.reduceDiv, reduceCtorEq, List.length_map, List.length_set, List.length_replicate, List.length_drop, List.length_take, List.length_append, List.drop_zero, List.take_of_length_le, Nat.le_refl, Nat.sub_zero, splice_all, row_u8, splice_u8, wrap_u64c, hk] | refine AW.seq ?_ | refine AW.block ?_ | refine AW.scope ?_ | refine AW.cond_tt rfl ?_ | refine AW.cond_ff rfl ?_ | refine AW.label ?_ | refine AW.skip ?_ | refine AW.ret ?_ | refine AW.exit ?_ | refine AW.region ?_ | refine AW.draw (by kernel_rfl) (by kernel_rfl) ?_ | ((with_reducible refine And.intro ?_ ?_); (focus ((repeat' (with_reducible apply And.intro)) <;> first | trivial | omega | rfl | (unfold inI; omega)))))
      simp [turnS, h1, h2]
    · repeat (first | simp only [go_sem, Nat.reduceLT, Nat.reduceEqDiff, reduceIte, Int.reduceEq, Int.reduceLE, Int.reduceLT, Nat.reduceMul, Nat.reduceAdd, Nat.reduceSub, Int.reduceNeg, Int.reduceAdd, Int.reduceMul, Int.reduceSub, Int.reduceToNat, Nat.reduceLeDiff, Nat.reduceDiv, Int.reduceDiv, reduceCtorEq, List.length_map, List.length_set, List.length_replicate, List.length_drop, List.length_take, List.length_append, List.drop_zero, List.take_of_length_le, Nat.le_refl, Nat.sub_zero, splice_all, row_u8, splice_u8, wrap_u64c, hk] | refine AW.seq ?_ | refine AW.block ?_ | refine AW.scope ?_ | refine AW.cond_tt rfl ?_ | refine AW.cond_ff rfl ?_ | refine AW.label ?_ | refine AW.skip ?_ | refine AW.ret ?_ | refine AW.exit ?_ | refine AW.region ?_ | refine AW.draw (by kernel_rfl) (by kernel_rfl) ?_ | ((with_reducible refine And.intro ?_ ?_); (focus ((repeat' (with_reducible apply And.intro)) <;> first | trivial | omega | rfl | (unfold inI; omega)))))
      simp [turnS, h1, h2]
  · repeat (first | simp only [go_sem, Nat.reduceLT, Nat.reduceEqDiff, reduceIte, Int.reduceEq, Int.reduceLE, Int.reduceLT, Nat.reduceMul, Nat.reduceAdd, Nat.reduceSub, Int.reduceNeg, Int.reduceAdd, Int.reduceMul, Int.reduceSub, Int.reduceToNat, Nat.reduceLeDiff, Nat.reduceDiv, Int.reduceDiv, reduceCtorEq, List.length_map, List.length_set, List.length_replicate, List.length_drop, List.length_take, List.length_append, List.drop_zero, List.take_of_length_le, Nat.le_refl, Nat.sub_zero, splice_all, row_u8, splice_u8, wrap_u64c, hk] | refine AW.seq ?_ | refine AW.block ?_ | refine AW.scope ?_ | refine AW.cond_tt rfl ?_ | refine AW.cond_ff rfl ?_ | refine AW.label ?_ | refine AW.skip ?_ | refine AW.ret ?_ | refine AW.exit ?_ | refine AW.region ?_ | refine AW.draw (by kernel_rfl) (by kernel_rfl) ?_ | ((with_reducible refine And.intro ?_ ?_); (focus ((repeat' (with_reducible apply And.intro)) <;> first | trivial | omega | rfl | (unfold inI; omega)))))
    simp [turnS, h1]
def turn2S (k : List UInt8) (i : Int) : List UInt8 := if i < 0 ∨ 255 < i then k else k.set (i / 8).toNat (k.getD (i / 8).toNat 0 ^^^ shl8 (UInt8.ofNat 1) (7 - i % 8).toNat)
theorem f21 (k : List UInt8) (hk : k.length = 32) (i : Int) (hi : inI i) : AFun Try.prog 21 [.agg (k.map u8), int i] (.agg ((turn2S k i).map u8)) := by
  refine AFun.enter Try.func21 rfl Try.call21 (by simp [Try.ntmps21]) fun γ1 => ?_
  simp only [frameOf, Try.ntmps21]
  repeat (first | simp only [go_sem, Nat.reduceLT, Nat.reduceEqDiff, reduceIte, Int.reduceEq, Int.reduceLE, Int.reduceLT, Nat.reduceMul, Nat.reduceAdd, Nat.reduceSub, Int.reduceNeg, Int.reduceAdd, Int.reduceMul, Int.reduceSub, Int.reduceToNat, Nat.reduceLeDiff, Nat.reduceDiv, Int.reduceDiv, reduceCtorEq] | refine AW.seq ?_ | refine AW.block ?_ | refine AW.scope ?_ | refine AW.cond_tt rfl ?_ | refine AW.cond_ff rfl ?_ | refine AW.label ?_ | refine AW.skip ?_ | refine AW.ret ?_ | refine AW.exit ?_ | refine AW.region ?_ | refine AW.draw (by kernel_rfl) (by kernel_rfl) ?_ | ((with_reducible refine And.intro ?_ ?_); (focus ((repeat' (with_reducible apply And.intro)) <;> first | trivial | omega | rfl | (unfold inI; omega)))))
  refine exG_decf (fun h1 => ?_) (fun h1 => ?_)
  · repeat (first | simp only [go_sem, Nat.reduceLT, Nat.reduceEqDiff, reduceIte, Int.reduceEq, Int.reduceLE, Int.reduceLT, Nat.reduceMul, Nat.reduceAdd, Nat.reduceSub, Int.reduceNeg, Int.reduceAdd, Int.reduceMul, Int.reduceSub, Int.reduceToNat, Nat.reduceLeDiff, Nat.reduceDiv, Int.reduceDiv, reduceCtorEq] | refine AW.seq ?_ | refine AW.block ?_ | refine AW.scope ?_ | refine AW.cond_tt rfl ?_ | refine AW.cond_ff rfl ?_ | refine AW.label ?_ | refine AW.skip ?_ | refine AW.ret ?_ | refine AW.exit ?_ | refine AW.region ?_ | refine AW.draw (by kernel_rfl) (by kernel_rfl) ?_ | ((with_reducible refine And.intro ?_ ?_); (focus ((repeat' (with_reducible apply And.intro)) <;> first | trivial | omega | rfl | (unfold inI; omega)))))
    refine AW.cond_dec rfl (fun h2 => ?_) (fun h2 => ?_)
    · repeat (first | simp only [go_sem, Nat.reduceLT, Nat.reduceEqDiff, reduceIte, Int.reduceEq, Int.reduceLE, Int.reduceLT, Nat.reduceMul, Nat.reduceAdd, Nat.reduceSub, Int.reduceNeg, Int.reduceAdd, Int.reduceMul, Int.reduceSub, Int.reduceToNat, Nat.reduceLeDiff, Nat.reduceDiv, Int.reduceDiv, reduceCtorEq, List.length_map, List.length_set, List.length_replicate, List.length_drop, List.length_take, List.length_append, List.drop_zero, List.take_of_length_le, Nat.le_refl, Nat.sub_zero, splice_all, row_u8, splice_u8, wrap_u64c, hk] | refine AW.seq ?_ | refine AW.block ?_ | refine AW.scope ?_ | refine AW.cond_tt rfl ?_ | refine AW.cond_ff rfl ?_ | refine AW.label ?_ | refine AW.skip ?_ | refine AW.ret ?_ | refine AW.exit ?_ | refine AW.region ?_ | refine AW.draw (by kernel_rfl) (by kernel_rfl) ?_ | ((with_reducible refine And.intro ?_ ?_); (focus ((repeat' (with_reducible apply And.intro)) <;> first | trivial | omega | rfl | (unfold inI; omega)))))
      simp [turn2S, h2]
    · have hw := wrap_tdiv hi (b := 8) (by decide)
      have e1 : i.tdiv 8 = i / 8 := Int.tdiv_eq_ediv_of_nonneg (by omega)
      have e2 : i.tmod 8 = i % 8 := Int.tmod_eq_emod_of_nonneg (by omega)
      rw [e1] at hw
      have hq : (i / 8).toNat < 32 := by omega
      have hm : (7 - i % 8) % 18446744073709551616 = 7 - i % 8 := by omega
      repeat (first | simp only [go_sem, Nat.reduceLT, Nat.reduceEqDiff, reduceIte, Int.reduceEq, Int.reduceLE, Int.reduceLT, Nat.reduceMul, Nat.reduceAdd, Nat.reduceSub, Int.reduceNeg, Int.reduceAdd, Int.reduceMul, Int.reduceSub, Int.reduceToNat, Nat.reduceLeDiff, Nat.reduceDiv, Int.reduceDiv, reduceCtorEq, List.length_map, List.length_set, List.length_replicate, List.length_drop, List.length_take, List.length_append, List.drop_zero, List.take_of_length_le, Nat.le_refl, Nat.sub_zero, splice_all, row_u8, splice_u8, wrap_u64c, hk, hq, hw, e1, e2, hm] | refine AW.seq ?_ | refine AW.block ?_ | refine AW.scope ?_ | refine AW.cond_tt rfl ?_ | refine AW.cond_ff rfl ?_ | refine AW.label ?_ | refine AW.skip ?_ | refine AW.ret ?_ | refine AW.exit ?_ | refine AW.region ?_ | refine AW.draw (by kernel_rfl) (by kernel_rfl) ?_ | ((with_reducible refine And.intro ?_ ?_); (focus ((repeat' (with_reducible apply And.intro)) <;> first | trivial | omega | rfl | (unfold inI; omega)))))
      repeat (first | simp only [go_sem, Nat.reduceLT, Nat.reduceEqDiff, reduceIte, Int.reduceEq, Int.reduceLE, Int.reduceLT, Nat.reduceMul, Nat.reduceAdd, Nat.reduceSub, Int.reduceNeg, Int.reduceAdd, Int.reduceMul, Int.reduceSub, Int.reduceToNat, Nat.reduceLeDiff, Nat.reduceDiv, Int.reduceDiv, reduceCtorEq, List.length_map, List.length_set, List.length_replicate, List.length_drop, List.length_take, List.length_append, List.drop_zero, List.take_of_length_le, Nat.le_refl, Nat.sub_zero, splice_all, row_u8, splice_u8, wrap_u64c, hk] | refine AW.seq ?_ | refine AW.block ?_ | refine AW.scope ?_ | refine AW.cond_tt rfl ?_ | refine AW.cond_ff rfl ?_ | refine AW.label ?_ | refine AW.skip ?_ | refine AW.ret ?_ | refine AW.exit ?_ | refine AW.region ?_ | refine AW.draw (by kernel_rfl) (by kernel_rfl) ?_ | ((with_reducible refine And.intro ?_ ?_); (focus ((repeat' (with_reducible apply And.intro)) <;> first | trivial | omega | rfl | (unfold inI; omega)))))
      simp [turn2S, h1, h2]
  · repeat (first | simp only [go_sem, Nat.reduceLT, Nat.reduceEqDiff, reduceIte, Int.reduceEq, Int.reduceLE, Int.reduceLT, Nat.reduceMul, Nat.reduceAdd, Nat.reduceSub, Int.reduceNeg, Int.reduceAdd, Int.reduceMul, Int.reduceSub, Int.reduceToNat, Nat.reduceLeDiff, Nat.reduceDiv, Int.reduceDiv, reduceCtorEq, List.length_map, List.length_set, List.length_replicate, List.length_drop, List.length_take, List.length_append, List.drop_zero, List.take_of_length_le, Nat.le_refl, Nat.sub_zero, splice_all, row_u8, splice_u8, wrap_u64c, hk] | refine AW.seq ?_ | refine AW.block ?_ | refine AW.scope ?_ | refine AW.cond_tt rfl ?_ | refine AW.cond_ff rfl ?_ | refine AW.label ?_ | refine AW.skip ?_ | refine AW.ret ?_ | refine AW.exit ?_ | refine AW.region ?_ | refine AW.draw (by kernel_rfl) (by kernel_rfl) ?_ | ((with_reducible refine And.intro ?_ ?_); (focus ((repeat' (with_reducible apply And.intro)) <;> first | trivial | omega | rfl | (unfold inI; omega)))))
    simp [turn2S, h1]
def bit2S (k : List UInt8) (i : Int) : Int := if i < 0 ∨ 255 < i then 0 else (((k.getD (i / 8).toNat 0).toNat : Int).fdiv (2 ^ (min (7 - i % 8).toNat 64))).tmod 2
theorem f19 (k : List UInt8) (hk : k.length = 32) (i : Int) (hi : inI i) : AFun Try.prog 19 [.agg (k.map u8), int i] (int (bit2S k i)) := by
  refine AFun.enter Try.func19 rfl Try.call19 (by simp [Try.ntmps19]) fun γ1 => ?_
  simp only [frameOf, Try.ntmps19]
  repeat (first | simp only [go_sem, Nat.reduceLT, Nat.reduceEqDiff, reduceIte, Int.reduceEq, Int.reduceLE, Int.reduceLT, Nat.reduceMul, Nat.reduceAdd, Nat.reduceSub, Int.reduceNeg, Int.reduceAdd, Int.reduceMul, Int.reduceSub, Int.reduceToNat, Nat.reduceLeDiff, Nat.reduceDiv, Int.reduceDiv, reduceCtorEq] | refine AW.seq ?_ | refine AW.block ?_ | refine AW.scope ?_ | refine AW.cond_tt rfl ?_ | refine AW.cond_ff rfl ?_ | refine AW.label ?_ | refine AW.skip ?_ | refine AW.ret ?_ | refine AW.exit ?_ | refine AW.region ?_ | refine AW.draw (by kernel_rfl) (by kernel_rfl) ?_ | ((with_reducible refine And.intro ?_ ?_); (focus ((repeat' (with_reducible apply And.intro)) <;> first | trivial | omega | rfl | (unfold inI; omega)))))
  refine exG_decf (fun h1 => ?_) (fun h1 => ?_)
  · repeat (first | simp only [go_sem, Nat.reduceLT, Nat.reduceEqDiff, reduceIte, Int.reduceEq, Int.reduceLE, Int.reduceLT, Nat.reduceMul, Nat.reduceAdd, Nat.reduceSub, Int.reduceNeg, Int.reduceAdd, Int.reduceMul, Int.reduceSub, Int.reduceToNat, Nat.reduceLeDiff, Nat.reduceDiv, Int.reduceDiv, reduceCtorEq] | refine AW.seq ?_ | refine AW.block ?_ | refine AW.scope ?_ | refine AW.cond_tt rfl ?_ | refine AW.cond_ff rfl ?_ | refine AW.label ?_ | refine AW.skip ?_ | refine AW.ret ?_ | refine AW.exit ?_ | refine AW.region ?_ | refine AW.draw (by kernel_rfl) (by kernel_rfl) ?_ | ((with_reducible refine And.intro ?_ ?_); (focus ((repeat' (with_reducible apply And.intro)) <;> first | trivial | omega | rfl | (unfold inI; omega)))))
    refine AW.cond_dec rfl (fun h2 => ?_) (fun h2 => ?_)
    · repeat (first | simp only [go_sem, Nat.reduceLT, Nat.reduceEqDiff, reduceIte, Int.reduceEq, Int.reduceLE, Int.reduceLT, Nat.reduceMul, Nat.reduceAdd, Nat.reduceSub, Int.reduceNeg, Int.reduceAdd, Int.reduceMul, Int.reduceSub, Int.reduceToNat, Nat.reduceLeDiff, Nat.reduceDiv, Int.reduceDiv, reduceCtorEq] | refine AW.seq ?_ | refine AW.block ?_ | refine AW.scope ?_ | refine AW.cond_tt rfl ?_ | refine AW.cond_ff rfl ?_ | refine AW.label ?_ | refine AW.skip ?_ | refine AW.ret ?_ | refine AW.exit ?_ | refine AW.region ?_ | refine AW.draw (by kernel_rfl) (by kernel_rfl) ?_ | ((with_reducible refine And.intro ?_ ?_); (focus ((repeat' (with_reducible apply And.intro)) <;> first | trivial | omega | rfl | (unfold inI; omega)))))
      simp [bit2S, h2]
    · have hw := wrap_tdiv hi (b := 8) (by decide)
      have e1 : i.tdiv 8 = i / 8 := Int.tdiv_eq_ediv_of_nonneg (by omega)
      have e2 : i.tmod 8 = i % 8 := Int.tmod_eq_emod_of_nonneg (by omega)
      rw [e1] at hw
      have hq : (i / 8).toNat < 32 := by omega
      have hm : (7 - i % 8) % 18446744073709551616 = 7 - i % 8 := by omega
      repeat (first | simp only [go_sem, Nat.reduceLT, Nat.reduceEqDiff, reduceIte, Int.reduceEq, Int.reduceLE, Int.reduceLT, Nat.reduceMul, Nat.reduceAdd, Nat.reduceSub, Int.reduceNeg, Int.reduceAdd, Int.reduceMul, Int.reduceSub, Int.reduceToNat, Nat.reduceLeDiff, Nat.reduceDiv, Int.reduceDiv, reduceCtorEq, List.length_map, List.length_set, List.length_replicate, List.length_drop, List.length_take, List.length_append, List.drop_zero, List.take_of_length_le, Nat.le_refl, Nat.sub_zero, splice_all, row_u8, splice_u8, wrap_u64c, hk, hq, hw, e1, e2, hm] | refine AW.seq ?_ | refine AW.block ?_ | refine AW.scope ?_ | refine AW.cond_tt rfl ?_ | refine AW.cond_ff rfl ?_ | refine AW.label ?_ | refine AW.skip ?_ | refine AW.ret ?_ | refine AW.exit ?_ | refine AW.region ?_ | refine AW.draw (by kernel_rfl) (by kernel_rfl) ?_ | ((with_reducible refine And.intro ?_ ?_); (focus ((repeat' (with_reducible apply And.intro)) <;> first | trivial | omega | rfl | (unfold inI; omega)))))
      repeat (first | simp only [go_sem, Nat.reduceLT, Nat.reduceEqDiff, reduceIte, Int.reduceEq, Int.reduceLE, Int.reduceLT, Nat.reduceMul, Nat.reduceAdd, Nat.reduceSub, Int.reduceNeg, Int.reduceAdd, Int.reduceMul, Int.reduceSub, Int.reduceToNat, Nat.reduceLeDiff, Nat.reduceDiv, Int.reduceDiv, reduceCtorEq] | refine AW.seq ?_ | refine AW.block ?_ | refine AW.scope ?_ | refine AW.cond_tt rfl ?_ | refine AW.cond_ff rfl ?_ | refine AW.label ?_ | refine AW.skip ?_ | refine AW.ret ?_ | refine AW.exit ?_ | refine AW.region ?_ | refine AW.draw (by kernel_rfl) (by kernel_rfl) ?_ | ((with_reducible refine And.intro ?_ ?_); (focus ((repeat' (with_reducible apply And.intro)) <;> first | trivial | omega | rfl | (unfold inI; omega)))))
      simp [bit2S, h1, h2]
  · repeat (first | simp only [go_sem, Nat.reduceLT, Nat.reduceEqDiff, reduceIte, Int.reduceEq, Int.reduceLE, Int.reduceLT, Nat.reduceMul, Nat.reduceAdd, Nat.reduceSub, Int.reduceNeg, Int.reduceAdd, Int.reduceMul, Int.reduceSub, Int.reduceToNat, Nat.reduceLeDiff, Nat.reduceDiv, Int.reduceDiv, reduceCtorEq] | refine AW.seq ?_ | refine AW.block ?_ | refine AW.scope ?_ | refine AW.cond_tt rfl ?_ | refine AW.cond_ff rfl ?_ | refine AW.label ?_ | refine AW.skip ?_ | refine AW.ret ?_ | refine AW.exit ?_ | refine AW.region ?_ | refine AW.draw (by kernel_rfl) (by kernel_rfl) ?_ | ((with_reducible refine And.intro ?_ ?_); (focus ((repeat' (with_reducible apply And.intro)) <;> first | trivial | omega | rfl | (unfold inI; omega)))))
    simp [bit2S, h1]
end Go.Proofs.Ytapjkdmdckfjbaa

namespace Go.Proofs.Ytapjkdmdckfjbaa
open Go Go.Eng Go.Proofs
set_option maxRecDepth 100000
set_option linter.unusedSimpArgs false
theorem f29 (a b : List UInt8) : AFun Try.prog 29 [.sl 1 (bys a) a.length none, .sl 1 (bys b) b.length none] (int (Lib.compareBytes a b)) :=
  AFun.compare Try.func29 (by kernel_rfl) (by kernel_rfl) (by kernel_rfl) (by kernel_rfl) a b
theorem f27 (a b : List UInt8) : AFun Try.prog 27 [.sl 1 (bys a) a.length none, .sl 1 (bys b) b.length none] (int (Lib.compareBytes a b)) := by
  refine AFun.enter Try.func27 rfl Try.call27 (by simp [Try.ntmps27]) fun γ1 => ?_
  simp only [frameOf, Try.ntmps27]
  repeat (first | simp only [go_sem, Nat.reduceLT, Nat.reduceEqDiff, reduceIte, Int.reduceEq, Int.reduceLE, Int.reduceLT, Nat.reduceMul, Nat.reduceAdd, Nat.reduceSub, Int.reduceNeg, Int.reduceAdd, Int.reduceMul, Int.reduceSub, Int.reduceToNat, Nat.reduceLeDiff, Nat.reduceDiv, Int.reduceDiv, reduceCtorEq] | refine AW.seq ?_ | refine AW.block ?_ | refine AW.scope ?_ | refine AW.cond_tt rfl ?_ | refine AW.cond_ff rfl ?_ | refine AW.label ?_ | refine AW.skip ?_ | refine AW.ret ?_ | refine AW.exit ?_ | refine AW.region ?_ | refine AW.draw (by kernel_rfl) (by kernel_rfl) ?_ | ((with_reducible refine And.intro ?_ ?_); (focus ((repeat' (with_reducible apply And.intro)) <;> first | trivial | omega | rfl | (unfold inI; omega)))))
  refine CallE.flat (f29 a b) rfl rfl (by rfl) ?_
  repeat (first | simp only [go_sem, Nat.reduceLT, Nat.reduceEqDiff, reduceIte, Int.reduceEq, Int.reduceLE, Int.reduceLT, Nat.reduceMul, Nat.reduceAdd, Nat.reduceSub, Int.reduceNeg, Int.reduceAdd, Int.reduceMul, Int.reduceSub, Int.reduceToNat, Nat.reduceLeDiff, Nat.reduceDiv, Int.reduceDiv, reduceCtorEq] | refine AW.seq ?_ | refine AW.block ?_ | refine AW.scope ?_ | refine AW.cond_tt rfl ?_ | refine AW.cond_ff rfl ?_ | refine AW.label ?_ | refine AW.skip ?_ | refine AW.ret ?_ | refine AW.exit ?_ | refine AW.region ?_ | refine AW.draw (by kernel_rfl) (by kernel_rfl) ?_ | ((with_reducible refine And.intro ?_ ?_); (focus ((repeat' (with_reducible apply And.intro)) <;> first | trivial | omega | rfl | (unfold inI; omega)))))
theorem f22 (a b : List UInt8) (ha : a.length = 32) (hb : b.length = 32) : AFun Try.prog 22 [.agg (a.map u8), .agg (b.map u8)] (int (Lib.compareBytes a b)) := by
  refine AFun.enter Try.func22 rfl Try.call22 (by simp [Try.ntmps22]) fun γ1 => ?_
  simp only [frameOf, Try.ntmps22]
  repeat (first | simp only [go_sem, Nat.reduceLT, Nat.reduceEqDiff, reduceIte, Int.reduceEq, Int.reduceLE, Int.reduceLT, Nat.reduceMul, Nat.reduceAdd, Nat.reduceSub, Int.reduceNeg, Int.reduceAdd, Int.reduceMul, Int.reduceSub, Int.reduceToNat, Nat.reduceLeDiff, Nat.reduceDiv, Int.reduceDiv, reduceCtorEq] | refine AW.seq ?_ | refine AW.block ?_ | refine AW.scope ?_ | refine AW.cond_tt rfl ?_ | refine AW.cond_ff rfl ?_ | refine AW.label ?_ | refine AW.skip ?_ | refine AW.ret ?_ | refine AW.exit ?_ | refine AW.region ?_ | refine AW.draw (by kernel_rfl) (by kernel_rfl) ?_ | ((with_reducible refine And.intro ?_ ?_); (focus ((repeat' (with_reducible apply And.intro)) <;> first | trivial | omega | rfl | (unfold inI; omega)))))
  refine CallXE.flat (f27 a b) (by simp [frz, rowOf, look_cons, bys, ha, hb, dt, List.take_of_length_le]) rfl (by rfl) ?_
  repeat (first | simp only [go_sem, Nat.reduceLT, Nat.reduceEqDiff, reduceIte, Int.reduceEq, Int.reduceLE, Int.reduceLT, Nat.reduceMul, Nat.reduceAdd, Nat.reduceSub, Int.reduceNeg, Int.reduceAdd, Int.reduceMul, Int.reduceSub, Int.reduceToNat, Nat.reduceLeDiff, Nat.reduceDiv, Int.reduceDiv, reduceCtorEq] | refine AW.seq ?_ | refine AW.block ?_ | refine AW.scope ?_ | refine AW.cond_tt rfl ?_ | refine AW.cond_ff rfl ?_ | refine AW.label ?_ | refine AW.skip ?_ | refine AW.ret ?_ | refine AW.exit ?_ | refine AW.region ?_ | refine AW.draw (by kernel_rfl) (by kernel_rfl) ?_ | ((with_reducible refine And.intro ?_ ?_); (focus ((repeat' (with_reducible apply And.intro)) <;> first | trivial | omega | rfl | (unfold inI; omega)))))
theorem cmp_step (a b : List UInt8) (j : Nat) (ha : j < a.length) (hb : j < b.length) : Lib.compareBytes (a.drop j) (b.drop j) =
    if a.getD j 0 < b.getD j 0 then -1 else if b.getD j 0 < a.getD j 0 then 1 else Lib.compareBytes (a.drop (j + 1)) (b.drop (j + 1)) := by
  rw [List.drop_eq_getElem_cons ha, List.drop_eq_getElem_cons hb, Lib.compareBytes]
  simp [List.getD_eq_getElem?_getD, ha, hb]
def st23 (a b : List UInt8) (j : Nat) : S := ⟨[(5, int j), (4, int 0), (3, .loc 1 0), (2, .loc 0 0)], 24, [(1, .box (b.map u8)), (0, .box (a.map u8))], 2, []⟩
theorem f23 (a b : List UInt8) (ha : a.length = 32) (hb : b.length = 32) : AFun Try.prog 23 [.agg (a.map u8), .agg (b.map u8)] (int (Lib.compareBytes a b)) := by
  refine AFun.enter Try.func23 rfl Try.call23 (by simp [Try.ntmps23]) fun γ1 => ?_
  simp only [frameOf, Try.ntmps23]
  repeat (first | simp only [go_sem, Nat.reduceLT, Nat.reduceEqDiff, reduceIte, Int.reduceEq, Int.reduceLE, Int.reduceLT, Nat.reduceMul, Nat.reduceAdd, Nat.reduceSub, Int.reduceNeg, Int.reduceAdd, Int.reduceMul, Int.reduceSub, Int.reduceToNat, Nat.reduceLeDiff, Nat.reduceDiv, Int.reduceDiv, reduceCtorEq] | refine AW.seq ?_ | refine AW.block ?_ | refine AW.scope ?_ | refine AW.cond_tt rfl ?_ | refine AW.cond_ff rfl ?_ | refine AW.label ?_ | refine AW.skip ?_ | refine AW.ret ?_ | refine AW.exit ?_ | refine AW.region ?_ | refine AW.draw (by kernel_rfl) (by kernel_rfl) ?_ | ((with_reducible refine And.intro ?_ ?_); (focus ((repeat' (with_reducible apply And.intro)) <;> first | trivial | omega | rfl | (unfold inI; omega)))))
  refine AW.loop (fun s => ∃ j : Nat, j ≤ 32 ∧ Lib.compareBytes a b = Lib.compareBytes (a.drop j) (b.drop j) ∧ s = st23 a b j) (fun s => (32 - slotN s 5).toNat) (s0 := st23 a b 0) ?_ ⟨0, by omega, rfl, rfl⟩ ?_
  · simp only [st23]; exact (Sub.same (by first | exact Nat.zero_le _ | exact Nat.le_refl _ | decide | omega) rfl rfl (by simp) (by simp [lab, labL, ren, renL, look_cons, renL_bys, labL_bys, renL_mapu8, labL_mapu8]) (by simp [labO, renO, lab, labL, ren, renL, look_cons, renL_bys, labL_bys, renL_mapu8, labL_mapu8]))
  rintro s ⟨j, hj, hp, rfl⟩
  simp only [st23]
  repeat (first | simp only [go_sem, Nat.reduceLT, Nat.reduceEqDiff, reduceIte, Int.reduceEq, Int.reduceLE, Int.reduceLT, Nat.reduceMul, Nat.reduceAdd, Nat.reduceSub, Int.reduceNeg, Int.reduceAdd, Int.reduceMul, Int.reduceSub, Int.reduceToNat, Nat.reduceLeDiff, Nat.reduceDiv, Int.reduceDiv, reduceCtorEq] | refine AW.seq ?_ | refine AW.block ?_ | refine AW.scope ?_ | refine AW.cond_tt rfl ?_ | refine AW.cond_ff rfl ?_ | refine AW.label ?_ | refine AW.skip ?_ | refine AW.ret ?_ | refine AW.exit ?_ | refine AW.region ?_ | refine AW.draw (by kernel_rfl) (by kernel_rfl) ?_ | ((with_reducible refine And.intro ?_ ?_); (focus ((repeat' (with_reducible apply And.intro)) <;> first | trivial | omega | rfl | (unfold inI; omega)))))
  refine AW.cond_dec rfl (fun h1 => ?_) (fun h1 => ?_)
  · have hj2 : j < 32 := by omega
    repeat (first | simp only [go_sem, Nat.reduceLT, Nat.reduceEqDiff, reduceIte, Int.reduceEq, Int.reduceLE, Int.reduceLT, Nat.reduceMul, Nat.reduceAdd, Nat.reduceSub, Int.reduceNeg, Int.reduceAdd, Int.reduceMul, Int.reduceSub, Int.reduceToNat, Nat.reduceLeDiff, Nat.reduceDiv, Int.reduceDiv, reduceCtorEq, List.length_map, List.length_set, List.length_replicate, List.length_drop, List.length_take, List.length_append, List.drop_zero, List.take_of_length_le, Nat.le_refl, Nat.sub_zero, splice_all, row_u8, splice_u8, wrap_u64c, ha, hb, hj2] | refine AW.seq ?_ | refine AW.block ?_ | refine AW.scope ?_ | refine AW.cond_tt rfl ?_ | refine AW.cond_ff rfl ?_ | refine AW.label ?_ | refine AW.skip ?_ | refine AW.ret ?_ | refine AW.exit ?_ | refine AW.region ?_ | refine AW.draw (by kernel_rfl) (by kernel_rfl) ?_ | ((with_reducible refine And.intro ?_ ?_); (focus ((repeat' (with_reducible apply And.intro)) <;> first | trivial | omega | rfl | (unfold inI; omega)))))
    refine AW.cond_dec rfl (fun h2 => ?_) (fun h2 => ?_)
    · repeat (first | simp only [go_sem, Nat.reduceLT, Nat.reduceEqDiff, reduceIte, Int.reduceEq, Int.reduceLE, Int.reduceLT, Nat.reduceMul, Nat.reduceAdd, Nat.reduceSub, Int.reduceNeg, Int.reduceAdd, Int.reduceMul, Int.reduceSub, Int.reduceToNat, Nat.reduceLeDiff, Nat.reduceDiv, Int.reduceDiv, reduceCtorEq] | refine AW.seq ?_ | refine AW.block ?_ | refine AW.scope ?_ | refine AW.cond_tt rfl ?_ | refine AW.cond_ff rfl ?_ | refine AW.label ?_ | refine AW.skip ?_ | refine AW.ret ?_ | refine AW.exit ?_ | refine AW.region ?_ | refine AW.draw (by kernel_rfl) (by kernel_rfl) ?_ | ((with_reducible refine And.intro ?_ ?_); (focus ((repeat' (with_reducible apply And.intro)) <;> first | trivial | omega | rfl | (unfold inI; omega)))))
      rw [hp, cmp_step a b j (by omega) (by omega), if_pos (by rw [UInt8.lt_iff_toNat_lt]; omega)]
    · repeat (first | simp only [go_sem, Nat.reduceLT, Nat.reduceEqDiff, reduceIte, Int.reduceEq, Int.reduceLE, Int.reduceLT, Nat.reduceMul, Nat.reduceAdd, Nat.reduceSub, Int.reduceNeg, Int.reduceAdd, Int.reduceMul, Int.reduceSub, Int.reduceToNat, Nat.reduceLeDiff, Nat.reduceDiv, Int.reduceDiv, reduceCtorEq, List.length_map, List.length_set, List.length_replicate, List.length_drop, List.length_take, List.length_append, List.drop_zero, List.take_of_length_le, Nat.le_refl, Nat.sub_zero, splice_all, row_u8, splice_u8, wrap_u64c, ha, hb, hj2] | refine AW.seq ?_ | refine AW.block ?_ | refine AW.scope ?_ | refine AW.cond_tt rfl ?_ | refine AW.cond_ff rfl ?_ | refine AW.label ?_ | refine AW.skip ?_ | refine AW.ret ?_ | refine AW.exit ?_ | refine AW.region ?_ | refine AW.draw (by kernel_rfl) (by kernel_rfl) ?_ | ((with_reducible refine And.intro ?_ ?_); (focus ((repeat' (with_reducible apply And.intro)) <;> first | trivial | omega | rfl | (unfold inI; omega)))))
      refine AW.cond_dec rfl (fun h3 => ?_) (fun h3 => ?_)
      · repeat (first | simp only [go_sem, Nat.reduceLT, Nat.reduceEqDiff, reduceIte, Int.reduceEq, Int.reduceLE, Int.reduceLT, Nat.reduceMul, Nat.reduceAdd, Nat.reduceSub, Int.reduceNeg, Int.reduceAdd, Int.reduceMul, Int.reduceSub, Int.reduceToNat, Nat.reduceLeDiff, Nat.reduceDiv, Int.reduceDiv, reduceCtorEq] | refine AW.seq ?_ | refine AW.block ?_ | refine AW.scope ?_ | refine AW.cond_tt rfl ?_ | refine AW.cond_ff rfl ?_ | refine AW.label ?_ | refine AW.skip ?_ | refine AW.ret ?_ | refine AW.exit ?_ | refine AW.region ?_ | refine AW.draw (by kernel_rfl) (by kernel_rfl) ?_ | ((with_reducible refine And.intro ?_ ?_); (focus ((repeat' (with_reducible apply And.intro)) <;> first | trivial | omega | rfl | (unfold inI; omega)))))
        rw [hp, cmp_step a b j (by omega) (by omega), if_neg (by rw [UInt8.lt_iff_toNat_lt]; omega), if_pos (by rw [UInt8.lt_iff_toNat_lt]; omega)]
      · repeat (first | simp only [go_sem, Nat.reduceLT, Nat.reduceEqDiff, reduceIte, Int.reduceEq, Int.reduceLE, Int.reduceLT, Nat.reduceMul, Nat.reduceAdd, Nat.reduceSub, Int.reduceNeg, Int.reduceAdd, Int.reduceMul, Int.reduceSub, Int.reduceToNat, Nat.reduceLeDiff, Nat.reduceDiv, Int.reduceDiv, reduceCtorEq] | refine AW.seq ?_ | refine AW.block ?_ | refine AW.scope ?_ | refine AW.cond_tt rfl ?_ | refine AW.cond_ff rfl ?_ | refine AW.label ?_ | refine AW.skip ?_ | refine AW.ret ?_ | refine AW.exit ?_ | refine AW.region ?_ | refine AW.draw (by kernel_rfl) (by kernel_rfl) ?_ | ((with_reducible refine And.intro ?_ ?_); (focus ((repeat' (with_reducible apply And.intro)) <;> first | trivial | omega | rfl | (unfold inI; omega)))))
        rw [Qof_lp]
        refine ⟨st23 a b (j + 1), ?_, ⟨j + 1, by omega, ?_, rfl⟩, ?_⟩
        · simp only [st23]; exact (Sub.same (by first | exact Nat.zero_le _ | exact Nat.le_refl _ | decide | omega) rfl rfl (by simp) (by simp [lab, labL, ren, renL, look_cons, renL_bys, labL_bys, renL_mapu8, labL_mapu8]) (by simp [labO, renO, lab, labL, ren, renL, look_cons, renL_bys, labL_bys, renL_mapu8, labL_mapu8]))
        · rw [hp, cmp_step a b j (by omega) (by omega), if_neg (by rw [UInt8.lt_iff_toNat_lt]; omega), if_neg (by rw [UInt8.lt_iff_toNat_lt]; omega)]
        · simp [slotN, st23, look_cons]; omega
  · repeat (first | simp only [go_sem, Nat.reduceLT, Nat.reduceEqDiff, reduceIte, Int.reduceEq, Int.reduceLE, Int.reduceLT, Nat.reduceMul, Nat.reduceAdd, Nat.reduceSub, Int.reduceNeg, Int.reduceAdd, Int.reduceMul, Int.reduceSub, Int.reduceToNat, Nat.reduceLeDiff, Nat.reduceDiv, Int.reduceDiv, reduceCtorEq] | refine AW.seq ?_ | refine AW.block ?_ | refine AW.scope ?_ | refine AW.cond_tt rfl ?_ | refine AW.cond_ff rfl ?_ | refine AW.label ?_ | refine AW.skip ?_ | refine AW.ret ?_ | refine AW.exit ?_ | refine AW.region ?_ | refine AW.draw (by kernel_rfl) (by kernel_rfl) ?_ | ((with_reducible refine And.intro ?_ ?_); (focus ((repeat' (with_reducible apply And.intro)) <;> first | trivial | omega | rfl | (unfold inI; omega)))))
    have : j = 32 := by omega
    subst this
    rw [hp, List.drop_of_length_le (by omega), List.drop_of_length_le (by omega)]
    rfl
end Go.Proofs.Ytapjkdmdckfjbaa

namespace Go.Proofs.Ytapjkdmdckfjbaa
open Go Go.Eng Go.Proofs
set_option maxRecDepth 100000
set_option linter.unusedSimpArgs false
theorem f25 (b : List UInt8) (hb : b.length ≤ 1000000) : AFun Try.prog 25 [.sl 1 (bys b) b.length none] (.sl 1 (bys b) b.length none) := by
  refine AFun.enterW Try.func25 rfl Try.call25 (by simp [Try.ntmps25]) fun γ1 => ?_
  simp only [frameOf, Try.ntmps25]
  refine AW.seq (AW.region ?_)
  simp only [go_sem, Nat.reduceLT, Nat.reduceEqDiff, reduceIte, Int.reduceEq, Int.reduceLE, Int.reduceLT, Nat.reduceMul, Nat.reduceAdd, Nat.reduceSub, Int.reduceNeg, Int.reduceAdd, Int.reduceMul, Int.reduceSub, Int.reduceToNat, Nat.reduceLeDiff, Nat.reduceDiv, Int.reduceDiv, reduceCtorEq]
  refine AW.seq (AW.seq ?_)
  refine AW.nilTest rfl rfl rfl rfl rfl rfl (by simp) (by simp) (by simp only [go_sem]; rfl) rfl (fun h => ?_) ?_
  · repeat (first | simp only [go_sem, Nat.reduceLT, Nat.reduceEqDiff, reduceIte, Int.reduceEq, Int.reduceLE, Int.reduceLT, Nat.reduceMul, Nat.reduceAdd, Nat.reduceSub, Int.reduceNeg, Int.reduceAdd, Int.reduceMul, Int.reduceSub, Int.reduceToNat, Nat.reduceLeDiff, Nat.reduceDiv, Int.reduceDiv, reduceCtorEq] | refine AW.seq ?_ | refine AW.block ?_ | refine AW.scope ?_ | refine AW.cond_tt rfl ?_ | refine AW.cond_ff rfl ?_ | refine AW.label ?_ | refine AW.skip ?_ | refine AW.ret ?_ | refine AW.exit ?_ | refine AW.region ?_ | refine AW.draw (by kernel_rfl) (by kernel_rfl) ?_ | ((with_reducible refine And.intro ?_ ?_); (focus ((repeat' (with_reducible apply And.intro)) <;> first | trivial | omega | rfl | (unfold inI; omega)))))
    exact Wk.nil h (by simp [bys, List.eq_nil_of_length_eq_zero h])
  · repeat (first | simp only [go_sem, Nat.reduceLT, Nat.reduceEqDiff, reduceIte, Int.reduceEq, Int.reduceLE, Int.reduceLT, Nat.reduceMul, Nat.reduceAdd, Nat.reduceSub, Int.reduceNeg, Int.reduceAdd, Int.reduceMul, Int.reduceSub, Int.reduceToNat, Nat.reduceLeDiff, Nat.reduceDiv, Int.reduceDiv, reduceCtorEq] | refine AW.seq ?_ | refine AW.block ?_ | refine AW.scope ?_ | refine AW.cond_tt rfl ?_ | refine AW.cond_ff rfl ?_ | refine AW.label ?_ | refine AW.skip ?_ | refine AW.ret ?_ | refine AW.exit ?_ | refine AW.region ?_ | refine AW.draw (by kernel_rfl) (by kernel_rfl) ?_ | ((with_reducible refine And.intro ?_ ?_); (focus ((repeat' (with_reducible apply And.intro)) <;> first | trivial | omega | rfl | (unfold inI; omega)))))
    repeat (first | simp only [go_sem, Nat.reduceLT, Nat.reduceEqDiff, reduceIte, Int.reduceEq, Int.reduceLE, Int.reduceLT, Nat.reduceMul, Nat.reduceAdd, Nat.reduceSub, Int.reduceNeg, Int.reduceAdd, Int.reduceMul, Int.reduceSub, Int.reduceToNat, Nat.reduceLeDiff, Nat.reduceDiv, Int.reduceDiv, reduceCtorEq] | refine AW.seq ?_ | refine AW.block ?_ | refine AW.scope ?_ | refine AW.cond_tt rfl ?_ | refine AW.cond_ff rfl ?_ | refine AW.label ?_ | refine AW.skip ?_ | refine AW.ret ?_ | refine AW.exit ?_ | refine AW.region ?_ | refine AW.draw (by kernel_rfl) (by kernel_rfl) ?_ | ((with_reducible refine And.intro ?_ ?_); (focus ((repeat' (with_reducible apply And.intro)) <;> first | trivial | omega | rfl | (unfold inI; omega)))))
    exact Wk.refl _
def bigE (n : UInt64) (size : Int) (j : Nat) : List UInt8 := (List.range j).map fun (i : Nat) => (shr64 n (8 * (size - 1 - (i : Int))).toNat).toUInt8
theorem bigE_length (n : UInt64) (size : Int) (j : Nat) : (bigE n size j).length = j := by simp [bigE]
theorem bigE_succ (n : UInt64) (size : Int) (j : Nat) : bigE n size (j + 1) = bigE n size j ++ [(shr64 n (8 * (size - 1 - j)).toNat).toUInt8] := by
  simp [bigE, List.range_succ]
def putBad (n : UInt64) (size : Int) : Prop := ¬ (1 ≤ size ∧ size ≤ 8) ∨ (size < 8 ∧ (shr64 n (8 * size).toNat).toNat ≠ 0)
instance (n : UInt64) (size : Int) : Decidable (putBad n size) := by unfold putBad; infer_instance
def putS (b : List UInt8) (n : UInt64) (size : Int) : List UInt8 := if putBad n size then [] else b ++ bigE n size size.toNat
def putE (n : UInt64) (size : Int) : Int := if putBad n size then 10 else 0
def st9 (b : List UInt8) (n : UInt64) (size : Int) (j : Nat) : S := ⟨[(33, int j), (32, int size), (8, .sl 1 (bys (b ++ bigE n size j)) (b.length + j) (some 1)), (2, int size), (1, u64 n)], 49, [(1, .tok)], 2, []⟩
theorem f9 (b : List UInt8) (hb : b.length ≤ 1000000) (n : UInt64) (size : Int) (hs : inI size) : AFun Try.prog 9 [.sl 1 (bys b) b.length none, u64 n, int size]
    (.tup [.sl 1 (bys (putS b n size)) (putS b n size).length none, int (putE n size)]) := by
  refine AFun.enterW Try.func9 rfl Try.call9 (by simp [Try.ntmps9]) fun γ1 => ?_
  simp only [frameOf, Try.ntmps9]
  repeat (first | simp only [go_sem, Nat.reduceLT, Nat.reduceEqDiff, reduceIte, Int.reduceEq, Int.reduceLE, Int.reduceLT, Nat.reduceMul, Nat.reduceAdd, Nat.reduceSub, Int.reduceNeg, Int.reduceAdd, Int.reduceMul, Int.reduceSub, Int.reduceToNat, Nat.reduceLeDiff, Nat.reduceDiv, Int.reduceDiv, reduceCtorEq] | refine AW.seq ?_ | refine AW.block ?_ | refine AW.scope ?_ | refine AW.cond_tt rfl ?_ | refine AW.cond_ff rfl ?_ | refine AW.label ?_ | refine AW.skip ?_ | refine AW.ret ?_ | refine AW.exit ?_ | refine AW.region ?_ | refine AW.draw (by kernel_rfl) (by kernel_rfl) ?_ | ((with_reducible refine And.intro ?_ ?_); (focus ((repeat' (with_reducible apply And.intro)) <;> first | trivial | omega | rfl | (unfold inI; omega)))))
  refine CallE.flat (f24 size) rfl rfl (by rfl) ?_
  repeat (first | simp only [go_sem, Nat.reduceLT, Nat.reduceEqDiff, reduceIte, Int.reduceEq, Int.reduceLE, Int.reduceLT, Nat.reduceMul, Nat.reduceAdd, Nat.reduceSub, Int.reduceNeg, Int.reduceAdd, Int.reduceMul, Int.reduceSub, Int.reduceToNat, Nat.reduceLeDiff, Nat.reduceDiv, Int.reduceDiv, reduceCtorEq] | refine AW.seq ?_ | refine AW.block ?_ | refine AW.scope ?_ | refine AW.cond_tt rfl ?_ | refine AW.cond_ff rfl ?_ | refine AW.label ?_ | refine AW.skip ?_ | refine AW.ret ?_ | refine AW.exit ?_ | refine AW.region ?_ | refine AW.draw (by kernel_rfl) (by kernel_rfl) ?_ | ((with_reducible refine And.intro ?_ ?_); (focus ((repeat' (with_reducible apply And.intro)) <;> first | trivial | omega | rfl | (unfold inI; omega)))))
  refine exG_decf (fun h1 => ?_) (fun h1 => ?_)
  · repeat (first | simp only [go_sem, Nat.reduceLT, Nat.reduceEqDiff, reduceIte, Int.reduceEq, Int.reduceLE, Int.reduceLT, Nat.reduceMul, Nat.reduceAdd, Nat.reduceSub, Int.reduceNeg, Int.reduceAdd, Int.reduceMul, Int.reduceSub, Int.reduceToNat, Nat.reduceLeDiff, Nat.reduceDiv, Int.reduceDiv, reduceCtorEq] | refine AW.seq ?_ | refine AW.block ?_ | refine AW.scope ?_ | refine AW.cond_tt rfl ?_ | refine AW.cond_ff rfl ?_ | refine AW.label ?_ | refine AW.skip ?_ | refine AW.ret ?_ | refine AW.exit ?_ | refine AW.region ?_ | refine AW.draw (by kernel_rfl) (by kernel_rfl) ?_ | ((with_reducible refine And.intro ?_ ?_); (focus ((repeat' (with_reducible apply And.intro)) <;> first | trivial | omega | rfl | (unfold inI; omega)))))
    refine exG_dec (fun h2 => ?_) (fun h2 => ?_)
    · repeat (first | simp only [go_sem, Nat.reduceLT, Nat.reduceEqDiff, reduceIte, Int.reduceEq, Int.reduceLE, Int.reduceLT, Nat.reduceMul, Nat.reduceAdd, Nat.reduceSub, Int.reduceNeg, Int.reduceAdd, Int.reduceMul, Int.reduceSub, Int.reduceToNat, Nat.reduceLeDiff, Nat.reduceDiv, Int.reduceDiv, reduceCtorEq] | refine AW.seq ?_ | refine AW.block ?_ | refine AW.scope ?_ | refine AW.cond_tt rfl ?_ | refine AW.cond_ff rfl ?_ | refine AW.label ?_ | refine AW.skip ?_ | refine AW.ret ?_ | refine AW.exit ?_ | refine AW.region ?_ | refine AW.draw (by kernel_rfl) (by kernel_rfl) ?_ | ((with_reducible refine And.intro ?_ ?_); (focus ((repeat' (with_reducible apply And.intro)) <;> first | trivial | omega | rfl | (unfold inI; omega)))))
      repeat (first | simp only [go_sem, Nat.reduceLT, Nat.reduceEqDiff, reduceIte, Int.reduceEq, Int.reduceLE, Int.reduceLT, Nat.reduceMul, Nat.reduceAdd, Nat.reduceSub, Int.reduceNeg, Int.reduceAdd, Int.reduceMul, Int.reduceSub, Int.reduceToNat, Nat.reduceLeDiff, Nat.reduceDiv, Int.reduceDiv, reduceCtorEq] | refine AW.seq ?_ | refine AW.block ?_ | refine AW.scope ?_ | refine AW.cond_tt rfl ?_ | refine AW.cond_ff rfl ?_ | refine AW.label ?_ | refine AW.skip ?_ | refine AW.ret ?_ | refine AW.exit ?_ | refine AW.region ?_ | refine AW.draw (by kernel_rfl) (by kernel_rfl) ?_ | ((with_reducible refine And.intro ?_ ?_); (focus ((repeat' (with_reducible apply And.intro)) <;> first | trivial | omega | rfl | (unfold inI; omega)))))
      refine AW.cond_dec rfl (fun h3 => ?_) (fun h3 => ?_)
      · repeat (first | simp only [go_sem, Nat.reduceLT, Nat.reduceEqDiff, reduceIte, Int.reduceEq, Int.reduceLE, Int.reduceLT, Nat.reduceMul, Nat.reduceAdd, Nat.reduceSub, Int.reduceNeg, Int.reduceAdd, Int.reduceMul, Int.reduceSub, Int.reduceToNat, Nat.reduceLeDiff, Nat.reduceDiv, Int.reduceDiv, reduceCtorEq] | refine AW.seq ?_ | refine AW.block ?_ | refine AW.scope ?_ | refine AW.cond_tt rfl ?_ | refine AW.cond_ff rfl ?_ | refine AW.label ?_ | refine AW.skip ?_ | refine AW.ret ?_ | refine AW.exit ?_ | refine AW.region ?_ | refine AW.draw (by kernel_rfl) (by kernel_rfl) ?_ | ((with_reducible refine And.intro ?_ ?_); (focus ((repeat' (with_reducible apply And.intro)) <;> first | trivial | omega | rfl | (unfold inI; omega)))))
        have hbad : putBad n size := .inr ⟨h2, by omega⟩
        simp only [putS, putE, if_pos hbad]
        exact Wk.tup ⟨Wk.nil rfl rfl, Wk.refl _, trivial⟩
      · have hbad : ¬ putBad n size := by unfold putBad; omega
        repeat (first | simp only [go_sem, Nat.reduceLT, Nat.reduceEqDiff, reduceIte, Int.reduceEq, Int.reduceLE, Int.reduceLT, Nat.reduceMul, Nat.reduceAdd, Nat.reduceSub, Int.reduceNeg, Int.reduceAdd, Int.reduceMul, Int.reduceSub, Int.reduceToNat, Nat.reduceLeDiff, Nat.reduceDiv, Int.reduceDiv, reduceCtorEq] | refine AW.seq ?_ | refine AW.block ?_ | refine AW.scope ?_ | refine AW.cond_tt rfl ?_ | refine AW.cond_ff rfl ?_ | refine AW.label ?_ | refine AW.skip ?_ | refine AW.ret ?_ | refine AW.exit ?_ | refine AW.region ?_ | refine AW.draw (by kernel_rfl) (by kernel_rfl) ?_ | ((with_reducible refine And.intro ?_ ?_); (focus ((repeat' (with_reducible apply And.intro)) <;> first | trivial | omega | rfl | (unfold inI; omega)))))
        repeat (first | simp only [go_sem, Nat.reduceLT, Nat.reduceEqDiff, reduceIte, Int.reduceEq, Int.reduceLE, Int.reduceLT, Nat.reduceMul, Nat.reduceAdd, Nat.reduceSub, Int.reduceNeg, Int.reduceAdd, Int.reduceMul, Int.reduceSub, Int.reduceToNat, Nat.reduceLeDiff, Nat.reduceDiv, Int.reduceDiv, reduceCtorEq] | refine AW.seq ?_ | refine AW.block ?_ | refine AW.scope ?_ | refine AW.cond_tt rfl ?_ | refine AW.cond_ff rfl ?_ | refine AW.label ?_ | refine AW.skip ?_ | refine AW.ret ?_ | refine AW.exit ?_ | refine AW.region ?_ | refine AW.draw (by kernel_rfl) (by kernel_rfl) ?_ | ((with_reducible refine And.intro ?_ ?_); (focus ((repeat' (with_reducible apply And.intro)) <;> first | trivial | omega | rfl | (unfold inI; omega)))))
        refine AW.loop (fun s => ∃ j : Nat, (j : Int) ≤ size ∧ s = st9 b n size j) (fun s => (size - slotN s 33).toNat) (s0 := st9 b n size 0) ?_ ⟨0, by omega, rfl⟩ ?_
        · simp only [st9, bigE, List.range_zero, List.map_nil, List.append_nil, Nat.add_zero]; exact (Sub.same (by first | exact Nat.zero_le _ | exact Nat.le_refl _ | decide | omega) rfl rfl (by simp) (by simp [lab, labL, ren, renL, look_cons, renL_bys, labL_bys, renL_mapu8, labL_mapu8]) (by simp [labO, renO, lab, labL, ren, renL, look_cons, renL_bys, labL_bys, renL_mapu8, labL_mapu8]))
        rintro s ⟨j, hj, rfl⟩
        simp only [st9]
        repeat (first | simp only [go_sem, Nat.reduceLT, Nat.reduceEqDiff, reduceIte, Int.reduceEq, Int.reduceLE, Int.reduceLT, Nat.reduceMul, Nat.reduceAdd, Nat.reduceSub, Int.reduceNeg, Int.reduceAdd, Int.reduceMul, Int.reduceSub, Int.reduceToNat, Nat.reduceLeDiff, Nat.reduceDiv, Int.reduceDiv, reduceCtorEq] | refine AW.seq ?_ | refine AW.block ?_ | refine AW.scope ?_ | refine AW.cond_tt rfl ?_ | refine AW.cond_ff rfl ?_ | refine AW.label ?_ | refine AW.skip ?_ | refine AW.ret ?_ | refine AW.exit ?_ | refine AW.region ?_ | refine AW.draw (by kernel_rfl) (by kernel_rfl) ?_ | ((with_reducible refine And.intro ?_ ?_); (focus ((repeat' (with_reducible apply And.intro)) <;> first | trivial | omega | rfl | (unfold inI; omega)))))
        refine AW.cond_dec rfl (fun h4 => ?_) (fun h4 => ?_)
        · repeat (first | simp only [go_sem, Nat.reduceLT, Nat.reduceEqDiff, reduceIte, Int.reduceEq, Int.reduceLE, Int.reduceLT, Nat.reduceMul, Nat.reduceAdd, Nat.reduceSub, Int.reduceNeg, Int.reduceAdd, Int.reduceMul, Int.reduceSub, Int.reduceToNat, Nat.reduceLeDiff, Nat.reduceDiv, Int.reduceDiv, reduceCtorEq] | refine AW.seq ?_ | refine AW.block ?_ | refine AW.scope ?_ | refine AW.cond_tt rfl ?_ | refine AW.cond_ff rfl ?_ | refine AW.label ?_ | refine AW.skip ?_ | refine AW.ret ?_ | refine AW.exit ?_ | refine AW.region ?_ | refine AW.draw (by kernel_rfl) (by kernel_rfl) ?_ | ((with_reducible refine And.intro ?_ ?_); (focus ((repeat' (with_reducible apply And.intro)) <;> first | trivial | omega | rfl | (unfold inI; omega)))))
          repeat (first | simp only [go_sem, Nat.reduceLT, Nat.reduceEqDiff, reduceIte, Int.reduceEq, Int.reduceLE, Int.reduceLT, Nat.reduceMul, Nat.reduceAdd, Nat.reduceSub, Int.reduceNeg, Int.reduceAdd, Int.reduceMul, Int.reduceSub, Int.reduceToNat, Nat.reduceLeDiff, Nat.reduceDiv, Int.reduceDiv, reduceCtorEq] | refine AW.seq ?_ | refine AW.block ?_ | refine AW.scope ?_ | refine AW.cond_tt rfl ?_ | refine AW.cond_ff rfl ?_ | refine AW.label ?_ | refine AW.skip ?_ | refine AW.ret ?_ | refine AW.exit ?_ | refine AW.region ?_ | refine AW.draw (by kernel_rfl) (by kernel_rfl) ?_ | ((with_reducible refine And.intro ?_ ?_); (focus ((repeat' (with_reducible apply And.intro)) <;> first | trivial | omega | rfl | (unfold inI; omega)))))
          rw [Qof_lp]
          refine ⟨st9 b n size (j + 1), ?_, ⟨j + 1, by omega, rfl⟩, ?_⟩
          · simp only [st9]
            refine Sub.of (fun l => if l = 1 then 3 else l) (fun l h => absurd h (Nat.not_lt_zero l)) (by intro l l' h h' e; dsimp only at *; split at e <;> split at e <;> omega) (Nat.zero_le _) rfl rfl (by simp) ?_ ?_
            · simp [lab, labL, ren, renL, look_cons, renL_bys, labL_bys, bigE_succ, Nat.add_assoc]
            · simp [labO, renO, look_cons]
          · simp [slotN, st9, look_cons]; omega
        · repeat (first | simp only [go_sem, Nat.reduceLT, Nat.reduceEqDiff, reduceIte, Int.reduceEq, Int.reduceLE, Int.reduceLT, Nat.reduceMul, Nat.reduceAdd, Nat.reduceSub, Int.reduceNeg, Int.reduceAdd, Int.reduceMul, Int.reduceSub, Int.reduceToNat, Nat.reduceLeDiff, Nat.reduceDiv, Int.reduceDiv, reduceCtorEq] | refine AW.seq ?_ | refine AW.block ?_ | refine AW.scope ?_ | refine AW.cond_tt rfl ?_ | refine AW.cond_ff rfl ?_ | refine AW.label ?_ | refine AW.skip ?_ | refine AW.ret ?_ | refine AW.exit ?_ | refine AW.region ?_ | refine AW.draw (by kernel_rfl) (by kernel_rfl) ?_ | ((with_reducible refine And.intro ?_ ?_); (focus ((repeat' (with_reducible apply And.intro)) <;> first | trivial | omega | rfl | (unfold inI; omega)))))
          have hj' : j = size.toNat := by omega
          have e1 : putS b n size = b ++ bigE n size j := by rw [putS, if_neg hbad, hj']
          have e2 : putE n size = 0 := by rw [putE, if_neg hbad]
          rw [e1, e2, List.length_append, bigE_length]
          exact Wk.refl _
    · repeat (first | simp only [go_sem, Nat.reduceLT, Nat.reduceEqDiff, reduceIte, Int.reduceEq, Int.reduceLE, Int.reduceLT, Nat.reduceMul, Nat.reduceAdd, Nat.reduceSub, Int.reduceNeg, Int.reduceAdd, Int.reduceMul, Int.reduceSub, Int.reduceToNat, Nat.reduceLeDiff, Nat.reduceDiv, Int.reduceDiv, reduceCtorEq] | refine AW.seq ?_ | refine AW.block ?_ | refine AW.scope ?_ | refine AW.cond_tt rfl ?_ | refine AW.cond_ff rfl ?_ | refine AW.label ?_ | refine AW.skip ?_ | refine AW.ret ?_ | refine AW.exit ?_ | refine AW.region ?_ | refine AW.draw (by kernel_rfl) (by kernel_rfl) ?_ | ((with_reducible refine And.intro ?_ ?_); (focus ((repeat' (with_reducible apply And.intro)) <;> first | trivial | omega | rfl | (unfold inI; omega)))))
      repeat (first | simp only [go_sem, Nat.reduceLT, Nat.reduceEqDiff, reduceIte, Int.reduceEq, Int.reduceLE, Int.reduceLT, Nat.reduceMul, Nat.reduceAdd, Nat.reduceSub, Int.reduceNeg, Int.reduceAdd, Int.reduceMul, Int.reduceSub, Int.reduceToNat, Nat.reduceLeDiff, Nat.reduceDiv, Int.reduceDiv, reduceCtorEq] | refine AW.seq ?_ | refine AW.block ?_ | refine AW.scope ?_ | refine AW.cond_tt rfl ?_ | refine AW.cond_ff rfl ?_ | refine AW.label ?_ | refine AW.skip ?_ | refine AW.ret ?_ | refine AW.exit ?_ | refine AW.region ?_ | refine AW.draw (by kernel_rfl) (by kernel_rfl) ?_ | ((with_reducible refine And.intro ?_ ?_); (focus ((repeat' (with_reducible apply And.intro)) <;> first | trivial | omega | rfl | (unfold inI; omega)))))
      have hbad : ¬ putBad n size := by unfold putBad; omega
      repeat (first | simp only [go_sem, Nat.reduceLT, Nat.reduceEqDiff, reduceIte, Int.reduceEq, Int.reduceLE, Int.reduceLT, Nat.reduceMul, Nat.reduceAdd, Nat.reduceSub, Int.reduceNeg, Int.reduceAdd, Int.reduceMul, Int.reduceSub, Int.reduceToNat, Nat.reduceLeDiff, Nat.reduceDiv, Int.reduceDiv, reduceCtorEq] | refine AW.seq ?_ | refine AW.block ?_ | refine AW.scope ?_ | refine AW.cond_tt rfl ?_ | refine AW.cond_ff rfl ?_ | refine AW.label ?_ | refine AW.skip ?_ | refine AW.ret ?_ | refine AW.exit ?_ | refine AW.region ?_ | refine AW.draw (by kernel_rfl) (by kernel_rfl) ?_ | ((with_reducible refine And.intro ?_ ?_); (focus ((repeat' (with_reducible apply And.intro)) <;> first | trivial | omega | rfl | (unfold inI; omega)))))
      refine AW.loop (fun s => ∃ j : Nat, (j : Int) ≤ size ∧ s = st9 b n size j) (fun s => (size - slotN s 33).toNat) (s0 := st9 b n size 0) ?_ ⟨0, by omega, rfl⟩ ?_
      · simp only [st9, bigE, List.range_zero, List.map_nil, List.append_nil, Nat.add_zero]; exact (Sub.same (by first | exact Nat.zero_le _ | exact Nat.le_refl _ | decide | omega) rfl rfl (by simp) (by simp [lab, labL, ren, renL, look_cons, renL_bys, labL_bys, renL_mapu8, labL_mapu8]) (by simp [labO, renO, lab, labL, ren, renL, look_cons, renL_bys, labL_bys, renL_mapu8, labL_mapu8]))
      rintro s ⟨j, hj, rfl⟩
      simp only [st9]
      repeat (first | simp only [go_sem, Nat.reduceLT, Nat.reduceEqDiff, reduceIte, Int.reduceEq, Int.reduceLE, Int.reduceLT, Nat.reduceMul, Nat.reduceAdd, Nat.reduceSub, Int.reduceNeg, Int.reduceAdd, Int.reduceMul, Int.reduceSub, Int.reduceToNat, Nat.reduceLeDiff, Nat.reduceDiv, Int.reduceDiv, reduceCtorEq] | refine AW.seq ?_ | refine AW.block ?_ | refine AW.scope ?_ | refine AW.cond_tt rfl ?_ | refine AW.cond_ff rfl ?_ | refine AW.label ?_ | refine AW.skip ?_ | refine AW.ret ?_ | refine AW.exit ?_ | refine AW.region ?_ | refine AW.draw (by kernel_rfl) (by kernel_rfl) ?_ | ((with_reducible refine And.intro ?_ ?_); (focus ((repeat' (with_reducible apply And.intro)) <;> first | trivial | omega | rfl | (unfold inI; omega)))))
      refine AW.cond_dec rfl (fun h4 => ?_) (fun h4 => ?_)
      · repeat (first | simp only [go_sem, Nat.reduceLT, Nat.reduceEqDiff, reduceIte, Int.reduceEq, Int.reduceLE, Int.reduceLT, Nat.reduceMul, Nat.reduceAdd, Nat.reduceSub, Int.reduceNeg, Int.reduceAdd, Int.reduceMul, Int.reduceSub, Int.reduceToNat, Nat.reduceLeDiff, Nat.reduceDiv, Int.reduceDiv, reduceCtorEq] | refine AW.seq ?_ | refine AW.block ?_ | refine AW.scope ?_ | refine AW.cond_tt rfl ?_ | refine AW.cond_ff rfl ?_ | refine AW.label ?_ | refine AW.skip ?_ | refine AW.ret ?_ | refine AW.exit ?_ | refine AW.region ?_ | refine AW.draw (by kernel_rfl) (by kernel_rfl) ?_ | ((with_reducible refine And.intro ?_ ?_); (focus ((repeat' (with_reducible apply And.intro)) <;> first | trivial | omega | rfl | (unfold inI; omega)))))
        repeat (first | simp only [go_sem, Nat.reduceLT, Nat.reduceEqDiff, reduceIte, Int.reduceEq, Int.reduceLE, Int.reduceLT, Nat.reduceMul, Nat.reduceAdd, Nat.reduceSub, Int.reduceNeg, Int.reduceAdd, Int.reduceMul, Int.reduceSub, Int.reduceToNat, Nat.reduceLeDiff, Nat.reduceDiv, Int.reduceDiv, reduceCtorEq] | refine AW.seq ?_ | refine AW.block ?_ | refine AW.scope ?_ | refine AW.cond_tt rfl ?_ | refine AW.cond_ff rfl ?_ | refine AW.label ?_ | refine AW.skip ?_ | refine AW.ret ?_ | refine AW.exit ?_ | refine AW.region ?_ | refine AW.draw (by kernel_rfl) (by kernel_rfl) ?_ | ((with_reducible refine And.intro ?_ ?_); (focus ((repeat' (with_reducible apply And.intro)) <;> first | trivial | omega | rfl | (unfold inI; omega)))))
        rw [Qof_lp]
        refine ⟨st9 b n size (j + 1), ?_, ⟨j + 1, by omega, rfl⟩, ?_⟩
        · simp only [st9]
          refine Sub.of (fun l => if l = 1 then 3 else l) (fun l h => absurd h (Nat.not_lt_zero l)) (by intro l l' h h' e; dsimp only at *; split at e <;> split at e <;> omega) (Nat.zero_le _) rfl rfl (by simp) ?_ ?_
          · simp [lab, labL, ren, renL, look_cons, renL_bys, labL_bys, bigE_succ, Nat.add_assoc]
          · simp [labO, renO, look_cons]
        · simp [slotN, st9, look_cons]; omega
      · repeat (first | simp only [go_sem, Nat.reduceLT, Nat.reduceEqDiff, reduceIte, Int.reduceEq, Int.reduceLE, Int.reduceLT, Nat.reduceMul, Nat.reduceAdd, Nat.reduceSub, Int.reduceNeg, Int.reduceAdd, Int.reduceMul, Int.reduceSub, Int.reduceToNat, Nat.reduceLeDiff, Nat.reduceDiv, Int.reduceDiv, reduceCtorEq] | refine AW.seq ?_ | refine AW.block ?_ | refine AW.scope ?_ | refine AW.cond_tt rfl ?_ | refine AW.cond_ff rfl ?_ | refine AW.label ?_ | refine AW.skip ?_ | refine AW.ret ?_ | refine AW.exit ?_ | refine AW.region ?_ | refine AW.draw (by kernel_rfl) (by kernel_rfl) ?_ | ((with_reducible refine And.intro ?_ ?_); (focus ((repeat' (with_reducible apply And.intro)) <;> first | trivial | omega | rfl | (unfold inI; omega)))))
        have hj' : j = size.toNat := by omega
        have e1 : putS b n size = b ++ bigE n size j := by rw [putS, if_neg hbad, hj']
        have e2 : putE n size = 0 := by rw [putE, if_neg hbad]
        rw [e1, e2, List.length_append, bigE_length]
        exact Wk.refl _
  · repeat (first | simp only [go_sem, Nat.reduceLT, Nat.reduceEqDiff, reduceIte, Int.reduceEq, Int.reduceLE, Int.reduceLT, Nat.reduceMul, Nat.reduceAdd, Nat.reduceSub, Int.reduceNeg, Int.reduceAdd, Int.reduceMul, Int.reduceSub, Int.reduceToNat, Nat.reduceLeDiff, Nat.reduceDiv, Int.reduceDiv, reduceCtorEq] | refine AW.seq ?_ | refine AW.block ?_ | refine AW.scope ?_ | refine AW.cond_tt rfl ?_ | refine AW.cond_ff rfl ?_ | refine AW.label ?_ | refine AW.skip ?_ | refine AW.ret ?_ | refine AW.exit ?_ | refine AW.region ?_ | refine AW.draw (by kernel_rfl) (by kernel_rfl) ?_ | ((with_reducible refine And.intro ?_ ?_); (focus ((repeat' (with_reducible apply And.intro)) <;> first | trivial | omega | rfl | (unfold inI; omega)))))
    have hbad : putBad n size := .inl (by omega)
    simp only [putS, putE, if_pos hbad]
    exact Wk.tup ⟨Wk.nil rfl rfl, Wk.refl _, trivial⟩
end Go.Proofs.Ytapjkdmdckfjbaa

namespace Go.Proofs.Ytapjkdmdckfjbaa
open Go Go.Eng Go.Proofs
set_option maxRecDepth 100000
set_option linter.unusedSimpArgs false
def st10 (b : List UInt8) (n : UInt64) (size : Int) (j : Nat) : S := ⟨[(9, int (size - 1 - j)), (8, .sl 1 (bys (b ++ bigE n size j)) (b.length + j) (some 1)), (1, u64 n)], 47, [(1, .tok)], 2, []⟩
theorem f10 (b : List UInt8) (hb : b.length ≤ 1000000) (n : UInt64) (size : Int) (hs : inI size) : AFun Try.prog 10 [.sl 1 (bys b) b.length none, u64 n, int size]
    (.tup [.sl 1 (bys (putS b n size)) (putS b n size).length none, int (putE n size)]) := by
  refine AFun.enterW Try.func10 rfl Try.call10 (by simp [Try.ntmps10]) fun γ1 => ?_
  simp only [frameOf, Try.ntmps10]
  repeat (first | simp only [go_sem, Nat.reduceLT, Nat.reduceEqDiff, reduceIte, Int.reduceEq, Int.reduceLE, Int.reduceLT, Nat.reduceMul, Nat.reduceAdd, Nat.reduceSub, Int.reduceNeg, Int.reduceAdd, Int.reduceMul, Int.reduceSub, Int.reduceToNat, Nat.reduceLeDiff, Nat.reduceDiv, Int.reduceDiv, reduceCtorEq] | refine AW.seq ?_ | refine AW.block ?_ | refine AW.scope ?_ | refine AW.cond_tt rfl ?_ | refine AW.cond_ff rfl ?_ | refine AW.label ?_ | refine AW.skip ?_ | refine AW.ret ?_ | refine AW.exit ?_ | refine AW.region ?_ | refine AW.draw (by kernel_rfl) (by kernel_rfl) ?_ | ((with_reducible refine And.intro ?_ ?_); (focus ((repeat' (with_reducible apply And.intro)) <;> first | trivial | omega | rfl | (unfold inI; omega)))))
  refine exG_decf (fun h1 => ?_) (fun h1 => ?_)
  · repeat (first | simp only [go_sem, Nat.reduceLT, Nat.reduceEqDiff, reduceIte, Int.reduceEq, Int.reduceLE, Int.reduceLT, Nat.reduceMul, Nat.reduceAdd, Nat.reduceSub, Int.reduceNeg, Int.reduceAdd, Int.reduceMul, Int.reduceSub, Int.reduceToNat, Nat.reduceLeDiff, Nat.reduceDiv, Int.reduceDiv, reduceCtorEq] | refine AW.seq ?_ | refine AW.block ?_ | refine AW.scope ?_ | refine AW.cond_tt rfl ?_ | refine AW.cond_ff rfl ?_ | refine AW.label ?_ | refine AW.skip ?_ | refine AW.ret ?_ | refine AW.exit ?_ | refine AW.region ?_ | refine AW.draw (by kernel_rfl) (by kernel_rfl) ?_ | ((with_reducible refine And.intro ?_ ?_); (focus ((repeat' (with_reducible apply And.intro)) <;> first | trivial | omega | rfl | (unfold inI; omega)))))
    refine exG_decf (fun h5 => ?_) (fun h5 => ?_)
    · repeat (first | simp only [go_sem, Nat.reduceLT, Nat.reduceEqDiff, reduceIte, Int.reduceEq, Int.reduceLE, Int.reduceLT, Nat.reduceMul, Nat.reduceAdd, Nat.reduceSub, Int.reduceNeg, Int.reduceAdd, Int.reduceMul, Int.reduceSub, Int.reduceToNat, Nat.reduceLeDiff, Nat.reduceDiv, Int.reduceDiv, reduceCtorEq] | refine AW.seq ?_ | refine AW.block ?_ | refine AW.scope ?_ | refine AW.cond_tt rfl ?_ | refine AW.cond_ff rfl ?_ | refine AW.label ?_ | refine AW.skip ?_ | refine AW.ret ?_ | refine AW.exit ?_ | refine AW.region ?_ | refine AW.draw (by kernel_rfl) (by kernel_rfl) ?_ | ((with_reducible refine And.intro ?_ ?_); (focus ((repeat' (with_reducible apply And.intro)) <;> first | trivial | omega | rfl | (unfold inI; omega)))))
      refine exG_dec (fun h2 => ?_) (fun h2 => ?_)
      · have hm : (8 * size) % 18446744073709551616 = 8 * size := by omega
        repeat (first | simp only [go_sem, Nat.reduceLT, Nat.reduceEqDiff, reduceIte, Int.reduceEq, Int.reduceLE, Int.reduceLT, Nat.reduceMul, Nat.reduceAdd, Nat.reduceSub, Int.reduceNeg, Int.reduceAdd, Int.reduceMul, Int.reduceSub, Int.reduceToNat, Nat.reduceLeDiff, Nat.reduceDiv, Int.reduceDiv, reduceCtorEq, wrap_u64c, hm] | refine AW.seq ?_ | refine AW.block ?_ | refine AW.scope ?_ | refine AW.cond_tt rfl ?_ | refine AW.cond_ff rfl ?_ | refine AW.label ?_ | refine AW.skip ?_ | refine AW.ret ?_ | refine AW.exit ?_ | refine AW.region ?_ | refine AW.draw (by kernel_rfl) (by kernel_rfl) ?_ | ((with_reducible refine And.intro ?_ ?_); (focus ((repeat' (with_reducible apply And.intro)) <;> first | trivial | omega | rfl | (unfold inI; omega)))))
        repeat (first | simp only [go_sem, Nat.reduceLT, Nat.reduceEqDiff, reduceIte, Int.reduceEq, Int.reduceLE, Int.reduceLT, Nat.reduceMul, Nat.reduceAdd, Nat.reduceSub, Int.reduceNeg, Int.reduceAdd, Int.reduceMul, Int.reduceSub, Int.reduceToNat, Nat.reduceLeDiff, Nat.reduceDiv, Int.reduceDiv, reduceCtorEq] | refine AW.seq ?_ | refine AW.block ?_ | refine AW.scope ?_ | refine AW.cond_tt rfl ?_ | refine AW.cond_ff rfl ?_ | refine AW.label ?_ | refine AW.skip ?_ | refine AW.ret ?_ | refine AW.exit ?_ | refine AW.region ?_ | refine AW.draw (by kernel_rfl) (by kernel_rfl) ?_ | ((with_reducible refine And.intro ?_ ?_); (focus ((repeat' (with_reducible apply And.intro)) <;> first | trivial | omega | rfl | (unfold inI; omega)))))
        refine AW.cond_dec rfl (fun h3 => ?_) (fun h3 => ?_)
        · repeat (first | simp only [go_sem, Nat.reduceLT, Nat.reduceEqDiff, reduceIte, Int.reduceEq, Int.reduceLE, Int.reduceLT, Nat.reduceMul, Nat.reduceAdd, Nat.reduceSub, Int.reduceNeg, Int.reduceAdd, Int.reduceMul, Int.reduceSub, Int.reduceToNat, Nat.reduceLeDiff, Nat.reduceDiv, Int.reduceDiv, reduceCtorEq] | refine AW.seq ?_ | refine AW.block ?_ | refine AW.scope ?_ | refine AW.cond_tt rfl ?_ | refine AW.cond_ff rfl ?_ | refine AW.label ?_ | refine AW.skip ?_ | refine AW.ret ?_ | refine AW.exit ?_ | refine AW.region ?_ | refine AW.draw (by kernel_rfl) (by kernel_rfl) ?_ | ((with_reducible refine And.intro ?_ ?_); (focus ((repeat' (with_reducible apply And.intro)) <;> first | trivial | omega | rfl | (unfold inI; omega)))))
          have hbad : putBad n size := .inr ⟨h2, by omega⟩
          simp only [putS, putE, if_pos hbad]
          exact Wk.tup ⟨Wk.nil rfl rfl, Wk.refl _, trivial⟩
        have hbad : ¬ putBad n size := by unfold putBad; omega
        repeat (first | simp only [go_sem, Nat.reduceLT, Nat.reduceEqDiff, reduceIte, Int.reduceEq, Int.reduceLE, Int.reduceLT, Nat.reduceMul, Nat.reduceAdd, Nat.reduceSub, Int.reduceNeg, Int.reduceAdd, Int.reduceMul, Int.reduceSub, Int.reduceToNat, Nat.reduceLeDiff, Nat.reduceDiv, Int.reduceDiv, reduceCtorEq] | refine AW.seq ?_ | refine AW.block ?_ | refine AW.scope ?_ | refine AW.cond_tt rfl ?_ | refine AW.cond_ff rfl ?_ | refine AW.label ?_ | refine AW.skip ?_ | refine AW.ret ?_ | refine AW.exit ?_ | refine AW.region ?_ | refine AW.draw (by kernel_rfl) (by kernel_rfl) ?_ | ((with_reducible refine And.intro ?_ ?_); (focus ((repeat' (with_reducible apply And.intro)) <;> first | trivial | omega | rfl | (unfold inI; omega)))))
        refine AW.loop (fun s => ∃ j : Nat, (j : Int) ≤ size ∧ s = st10 b n size j) (fun s => (slotN s 9 + 1).toNat) (s0 := st10 b n size 0) ?_ ⟨0, by omega, rfl⟩ ?_
        · simp only [st10, bigE, List.range_zero, List.map_nil, List.append_nil, Nat.add_zero, Int.natCast_zero, Int.sub_zero]; exact (Sub.same (by first | exact Nat.zero_le _ | exact Nat.le_refl _ | decide | omega) rfl rfl (by simp) (by simp [lab, labL, ren, renL, look_cons, renL_bys, labL_bys, renL_mapu8, labL_mapu8]) (by simp [labO, renO, lab, labL, ren, renL, look_cons, renL_bys, labL_bys, renL_mapu8, labL_mapu8]))
        rintro s ⟨j, hj, rfl⟩
        simp only [st10]
        repeat (first | simp only [go_sem, Nat.reduceLT, Nat.reduceEqDiff, reduceIte, Int.reduceEq, Int.reduceLE, Int.reduceLT, Nat.reduceMul, Nat.reduceAdd, Nat.reduceSub, Int.reduceNeg, Int.reduceAdd, Int.reduceMul, Int.reduceSub, Int.reduceToNat, Nat.reduceLeDiff, Nat.reduceDiv, Int.reduceDiv, reduceCtorEq] | refine AW.seq ?_ | refine AW.block ?_ | refine AW.scope ?_ | refine AW.cond_tt rfl ?_ | refine AW.cond_ff rfl ?_ | refine AW.label ?_ | refine AW.skip ?_ | refine AW.ret ?_ | refine AW.exit ?_ | refine AW.region ?_ | refine AW.draw (by kernel_rfl) (by kernel_rfl) ?_ | ((with_reducible refine And.intro ?_ ?_); (focus ((repeat' (with_reducible apply And.intro)) <;> first | trivial | omega | rfl | (unfold inI; omega)))))
        refine AW.cond_dec rfl (fun h4 => ?_) (fun h4 => ?_)
        · have hm2 : (8 * (size - 1 - (j : Int))) % 18446744073709551616 = 8 * (size - 1 - (j : Int)) := by omega
          repeat (first | simp only [go_sem, Nat.reduceLT, Nat.reduceEqDiff, reduceIte, Int.reduceEq, Int.reduceLE, Int.reduceLT, Nat.reduceMul, Nat.reduceAdd, Nat.reduceSub, Int.reduceNeg, Int.reduceAdd, Int.reduceMul, Int.reduceSub, Int.reduceToNat, Nat.reduceLeDiff, Nat.reduceDiv, Int.reduceDiv, reduceCtorEq, wrap_u64c, hm2] | refine AW.seq ?_ | refine AW.block ?_ | refine AW.scope ?_ | refine AW.cond_tt rfl ?_ | refine AW.cond_ff rfl ?_ | refine AW.label ?_ | refine AW.skip ?_ | refine AW.ret ?_ | refine AW.exit ?_ | refine AW.region ?_ | refine AW.draw (by kernel_rfl) (by kernel_rfl) ?_ | ((with_reducible refine And.intro ?_ ?_); (focus ((repeat' (with_reducible apply And.intro)) <;> first | trivial | omega | rfl | (unfold inI; omega)))))
          repeat (first | simp only [go_sem, Nat.reduceLT, Nat.reduceEqDiff, reduceIte, Int.reduceEq, Int.reduceLE, Int.reduceLT, Nat.reduceMul, Nat.reduceAdd, Nat.reduceSub, Int.reduceNeg, Int.reduceAdd, Int.reduceMul, Int.reduceSub, Int.reduceToNat, Nat.reduceLeDiff, Nat.reduceDiv, Int.reduceDiv, reduceCtorEq] | refine AW.seq ?_ | refine AW.block ?_ | refine AW.scope ?_ | refine AW.cond_tt rfl ?_ | refine AW.cond_ff rfl ?_ | refine AW.label ?_ | refine AW.skip ?_ | refine AW.ret ?_ | refine AW.exit ?_ | refine AW.region ?_ | refine AW.draw (by kernel_rfl) (by kernel_rfl) ?_ | ((with_reducible refine And.intro ?_ ?_); (focus ((repeat' (with_reducible apply And.intro)) <;> first | trivial | omega | rfl | (unfold inI; omega)))))
          rw [Qof_lp]
          refine ⟨st10 b n size (j + 1), ?_, ⟨j + 1, by omega, rfl⟩, ?_⟩
          · have e9 : size - 1 - ((j + 1 : Nat) : Int) = size - 1 - j - 1 := by omega
            simp only [st10, e9]
            refine Sub.of (fun l => if l = 1 then 3 else l) (fun l h => absurd h (Nat.not_lt_zero l)) (by intro l l' h h' e; dsimp only at *; split at e <;> split at e <;> omega) (Nat.zero_le _) rfl rfl (by simp) ?_ ?_
            · simp [lab, labL, ren, renL, look_cons, renL_bys, labL_bys, bigE_succ, Nat.add_assoc]
            · simp [labO, renO, look_cons]
          · simp [slotN, st10, look_cons]; omega
        · repeat (first | simp only [go_sem, Nat.reduceLT, Nat.reduceEqDiff, reduceIte, Int.reduceEq, Int.reduceLE, Int.reduceLT, Nat.reduceMul, Nat.reduceAdd, Nat.reduceSub, Int.reduceNeg, Int.reduceAdd, Int.reduceMul, Int.reduceSub, Int.reduceToNat, Nat.reduceLeDiff, Nat.reduceDiv, Int.reduceDiv, reduceCtorEq] | refine AW.seq ?_ | refine AW.block ?_ | refine AW.scope ?_ | refine AW.cond_tt rfl ?_ | refine AW.cond_ff rfl ?_ | refine AW.label ?_ | refine AW.skip ?_ | refine AW.ret ?_ | refine AW.exit ?_ | refine AW.region ?_ | refine AW.draw (by kernel_rfl) (by kernel_rfl) ?_ | ((with_reducible refine And.intro ?_ ?_); (focus ((repeat' (with_reducible apply And.intro)) <;> first | trivial | omega | rfl | (unfold inI; omega)))))
          have hj' : j = size.toNat := by omega
          have e1 : putS b n size = b ++ bigE n size j := by rw [putS, if_neg hbad, hj']
          have e2 : putE n size = 0 := by rw [putE, if_neg hbad]
          rw [e1, e2, List.length_append, bigE_length]
          exact Wk.refl _
      · repeat (first | simp only [go_sem, Nat.reduceLT, Nat.reduceEqDiff, reduceIte, Int.reduceEq, Int.reduceLE, Int.reduceLT, Nat.reduceMul, Nat.reduceAdd, Nat.reduceSub, Int.reduceNeg, Int.reduceAdd, Int.reduceMul, Int.reduceSub, Int.reduceToNat, Nat.reduceLeDiff, Nat.reduceDiv, Int.reduceDiv, reduceCtorEq] | refine AW.seq ?_ | refine AW.block ?_ | refine AW.scope ?_ | refine AW.cond_tt rfl ?_ | refine AW.cond_ff rfl ?_ | refine AW.label ?_ | refine AW.skip ?_ | refine AW.ret ?_ | refine AW.exit ?_ | refine AW.region ?_ | refine AW.draw (by kernel_rfl) (by kernel_rfl) ?_ | ((with_reducible refine And.intro ?_ ?_); (focus ((repeat' (with_reducible apply And.intro)) <;> first | trivial | omega | rfl | (unfold inI; omega)))))
        have hbad : ¬ putBad n size := by unfold putBad; omega
        repeat (first | simp only [go_sem, Nat.reduceLT, Nat.reduceEqDiff, reduceIte, Int.reduceEq, Int.reduceLE, Int.reduceLT, Nat.reduceMul, Nat.reduceAdd, Nat.reduceSub, Int.reduceNeg, Int.reduceAdd, Int.reduceMul, Int.reduceSub, Int.reduceToNat, Nat.reduceLeDiff, Nat.reduceDiv, Int.reduceDiv, reduceCtorEq] | refine AW.seq ?_ | refine AW.block ?_ | refine AW.scope ?_ | refine AW.cond_tt rfl ?_ | refine AW.cond_ff rfl ?_ | refine AW.label ?_ | refine AW.skip ?_ | refine AW.ret ?_ | refine AW.exit ?_ | refine AW.region ?_ | refine AW.draw (by kernel_rfl) (by kernel_rfl) ?_ | ((with_reducible refine And.intro ?_ ?_); (focus ((repeat' (with_reducible apply And.intro)) <;> first | trivial | omega | rfl | (unfold inI; omega)))))
        refine AW.loop (fun s => ∃ j : Nat, (j : Int) ≤ size ∧ s = st10 b n size j) (fun s => (slotN s 9 + 1).toNat) (s0 := st10 b n size 0) ?_ ⟨0, by omega, rfl⟩ ?_
        · simp only [st10, bigE, List.range_zero, List.map_nil, List.append_nil, Nat.add_zero, Int.natCast_zero, Int.sub_zero]; exact (Sub.same (by first | exact Nat.zero_le _ | exact Nat.le_refl _ | decide | omega) rfl rfl (by simp) (by simp [lab, labL, ren, renL, look_cons, renL_bys, labL_bys, renL_mapu8, labL_mapu8]) (by simp [labO, renO, lab, labL, ren, renL, look_cons, renL_bys, labL_bys, renL_mapu8, labL_mapu8]))
        rintro s ⟨j, hj, rfl⟩
        simp only [st10]
        repeat (first | simp only [go_sem, Nat.reduceLT, Nat.reduceEqDiff, reduceIte, Int.reduceEq, Int.reduceLE, Int.reduceLT, Nat.reduceMul, Nat.reduceAdd, Nat.reduceSub, Int.reduceNeg, Int.reduceAdd, Int.reduceMul, Int.reduceSub, Int.reduceToNat, Nat.reduceLeDiff, Nat.reduceDiv, Int.reduceDiv, reduceCtorEq] | refine AW.seq ?_ | refine AW.block ?_ | refine AW.scope ?_ | refine AW.cond_tt rfl ?_ | refine AW.cond_ff rfl ?_ | refine AW.label ?_ | refine AW.skip ?_ | refine AW.ret ?_ | refine AW.exit ?_ | refine AW.region ?_ | refine AW.draw (by kernel_rfl) (by kernel_rfl) ?_ | ((with_reducible refine And.intro ?_ ?_); (focus ((repeat' (with_reducible apply And.intro)) <;> first | trivial | omega | rfl | (unfold inI; omega)))))
        refine AW.cond_dec rfl (fun h4 => ?_) (fun h4 => ?_)
        · have hm2 : (8 * (size - 1 - (j : Int))) % 18446744073709551616 = 8 * (size - 1 - (j : Int)) := by omega
          repeat (first | simp only [go_sem, Nat.reduceLT, Nat.reduceEqDiff, reduceIte, Int.reduceEq, Int.reduceLE, Int.reduceLT, Nat.reduceMul, Nat.reduceAdd, Nat.reduceSub, Int.reduceNeg, Int.reduceAdd, Int.reduceMul, Int.reduceSub, Int.reduceToNat, Nat.reduceLeDiff, Nat.reduceDiv, Int.reduceDiv, reduceCtorEq, wrap_u64c, hm2] | refine AW.seq ?_ | refine AW.block ?_ | refine AW.scope ?_ | refine AW.cond_tt rfl ?_ | refine AW.cond_ff rfl ?_ | refine AW.label ?_ | refine AW.skip ?_ | refine AW.ret ?_ | refine AW.exit ?_ | refine AW.region ?_ | refine AW.draw (by kernel_rfl) (by kernel_rfl) ?_ | ((with_reducible refine And.intro ?_ ?_); (focus ((repeat' (with_reducible apply And.intro)) <;> first | trivial | omega | rfl | (unfold inI; omega)))))
          repeat (first | simp only [go_sem, Nat.reduceLT, Nat.reduceEqDiff, reduceIte, Int.reduceEq, Int.reduceLE, Int.reduceLT, Nat.reduceMul, Nat.reduceAdd, Nat.reduceSub, Int.reduceNeg, Int.reduceAdd, Int.reduceMul, Int.reduceSub, Int.reduceToNat, Nat.reduceLeDiff, Nat.reduceDiv, Int.reduceDiv, reduceCtorEq] | refine AW.seq ?_ | refine AW.block ?_ | refine AW.scope ?_ | refine AW.cond_tt rfl ?_ | refine AW.cond_ff rfl ?_ | refine AW.label ?_ | refine AW.skip ?_ | refine AW.ret ?_ | refine AW.exit ?_ | refine AW.region ?_ | refine AW.draw (by kernel_rfl) (by kernel_rfl) ?_ | ((with_reducible refine And.intro ?_ ?_); (focus ((repeat' (with_reducible apply And.intro)) <;> first | trivial | omega | rfl | (unfold inI; omega)))))
          rw [Qof_lp]
          refine ⟨st10 b n size (j + 1), ?_, ⟨j + 1, by omega, rfl⟩, ?_⟩
          · have e9 : size - 1 - ((j + 1 : Nat) : Int) = size - 1 - j - 1 := by omega
            simp only [st10, e9]
            refine Sub.of (fun l => if l = 1 then 3 else l) (fun l h => absurd h (Nat.not_lt_zero l)) (by intro l l' h h' e; dsimp only at *; split at e <;> split at e <;> omega) (Nat.zero_le _) rfl rfl (by simp) ?_ ?_
            · simp [lab, labL, ren, renL, look_cons, renL_bys, labL_bys, bigE_succ, Nat.add_assoc]
            · simp [labO, renO, look_cons]
          · simp [slotN, st10, look_cons]; omega
        · repeat (first | simp only [go_sem, Nat.reduceLT, Nat.reduceEqDiff, reduceIte, Int.reduceEq, Int.reduceLE, Int.reduceLT, Nat.reduceMul, Nat.reduceAdd, Nat.reduceSub, Int.reduceNeg, Int.reduceAdd, Int.reduceMul, Int.reduceSub, Int.reduceToNat, Nat.reduceLeDiff, Nat.reduceDiv, Int.reduceDiv, reduceCtorEq] | refine AW.seq ?_ | refine AW.block ?_ | refine AW.scope ?_ | refine AW.cond_tt rfl ?_ | refine AW.cond_ff rfl ?_ | refine AW.label ?_ | refine AW.skip ?_ | refine AW.ret ?_ | refine AW.exit ?_ | refine AW.region ?_ | refine AW.draw (by kernel_rfl) (by kernel_rfl) ?_ | ((with_reducible refine And.intro ?_ ?_); (focus ((repeat' (with_reducible apply And.intro)) <;> first | trivial | omega | rfl | (unfold inI; omega)))))
          have hj' : j = size.toNat := by omega
          have e1 : putS b n size = b ++ bigE n size j := by rw [putS, if_neg hbad, hj']
          have e2 : putE n size = 0 := by rw [putE, if_neg hbad]
          rw [e1, e2, List.length_append, bigE_length]
          exact Wk.refl _
    · repeat (first | simp only [go_sem, Nat.reduceLT, Nat.reduceEqDiff, reduceIte, Int.reduceEq, Int.reduceLE, Int.reduceLT, Nat.reduceMul, Nat.reduceAdd, Nat.reduceSub, Int.reduceNeg, Int.reduceAdd, Int.reduceMul, Int.reduceSub, Int.reduceToNat, Nat.reduceLeDiff, Nat.reduceDiv, Int.reduceDiv, reduceCtorEq] | refine AW.seq ?_ | refine AW.block ?_ | refine AW.scope ?_ | refine AW.cond_tt rfl ?_ | refine AW.cond_ff rfl ?_ | refine AW.label ?_ | refine AW.skip ?_ | refine AW.ret ?_ | refine AW.exit ?_ | refine AW.region ?_ | refine AW.draw (by kernel_rfl) (by kernel_rfl) ?_ | ((with_reducible refine And.intro ?_ ?_); (focus ((repeat' (with_reducible apply And.intro)) <;> first | trivial | omega | rfl | (unfold inI; omega)))))
      have hbad : putBad n size := .inl (by omega)
      simp only [putS, putE, if_pos hbad]
      exact Wk.tup ⟨Wk.nil rfl rfl, Wk.refl _, trivial⟩
  · repeat (first | simp only [go_sem, Nat.reduceLT, Nat.reduceEqDiff, reduceIte, Int.reduceEq, Int.reduceLE, Int.reduceLT, Nat.reduceMul, Nat.reduceAdd, Nat.reduceSub, Int.reduceNeg, Int.reduceAdd, Int.reduceMul, Int.reduceSub, Int.reduceToNat, Nat.reduceLeDiff, Nat.reduceDiv, Int.reduceDiv, reduceCtorEq] | refine AW.seq ?_ | refine AW.block ?_ | refine AW.scope ?_ | refine AW.cond_tt rfl ?_ | refine AW.cond_ff rfl ?_ | refine AW.label ?_ | refine AW.skip ?_ | refine AW.ret ?_ | refine AW.exit ?_ | refine AW.region ?_ | refine AW.draw (by kernel_rfl) (by kernel_rfl) ?_ | ((with_reducible refine And.intro ?_ ?_); (focus ((repeat' (with_reducible apply And.intro)) <;> first | trivial | omega | rfl | (unfold inI; omega)))))
    have hbad : putBad n size := .inl (by omega)
    simp only [putS, putE, if_pos hbad]
    exact Wk.tup ⟨Wk.nil rfl rfl, Wk.refl _, trivial⟩
end Go.Proofs.Ytapjkdmdckfjbaa

namespace Go.Proofs.Ytapjkdmdckfjbaa
open Go Go.Eng Go.Proofs
set_option maxRecDepth 100000
set_option linter.unusedSimpArgs false
set_option linter.unusedVariables false
def takeBad (b : List UInt8) (size : Int) : Prop := ¬ (1 ≤ size ∧ size ≤ 8) ∨ (b.length : Int) < size
instance (b : List UInt8) (size : Int) : Decidable (takeBad b size) := by unfold takeBad; infer_instance
def takeF (b : List UInt8) : UInt64 := b.foldl (fun n x => shl64 n 8 ||| x.toUInt64) 0
def takeN (b : List UInt8) (size : Int) : UInt64 := if takeBad b size then 0 else takeF (b.take size.toNat)
def takeR (b : List UInt8) (size : Int) : List UInt8 := if takeBad b size then [] else b.drop size.toNat
def takeE (b : List UInt8) (size : Int) : Int := if takeBad b size then 10 else 0
theorem u8mod (x : UInt8) : ((x.toNat : Int) % 18446744073709551616) = (x.toUInt64.toNat : Int) := by
  have := x.toNat_lt
  rw [UInt8.toNat_toUInt64]
  omega
theorem takeF_succ (b : List UInt8) (j : Nat) (h : j < b.length) : takeF (b.take (j + 1)) = shl64 (takeF (b.take j)) 8 ||| (b.getD j 0).toUInt64 := by
  unfold takeF
  rw [List.take_succ_eq_append_getElem h, List.foldl_append]
  simp [List.getD_eq_getElem?_getD, h]
def st11 (b : List UInt8) (size : Int) (j : Nat) : S := ⟨[(23, int j), (22, int (size.toNat : Nat)), (21, .sl 1 (bys (b.take size.toNat)) size.toNat none), (7, u64 (takeF (b.take j))), (0, .sl 1 (bys b) b.length none), (1, int size)], 38, [], 0, []⟩
theorem f11 (b : List UInt8) (hb : b.length ≤ 1000000) (size : Int) (hs : inI size) : AFun Try.prog 11 [.sl 1 (bys b) b.length none, int size]
    (.tup [u64 (takeN b size), .sl 1 (bys (takeR b size)) (takeR b size).length none, int (takeE b size)]) := by
  refine AFun.enterW Try.func11 rfl Try.call11 (by simp [Try.ntmps11]) fun γ1 => ?_
  simp only [frameOf, Try.ntmps11]
  repeat (first | simp only [go_sem, Nat.reduceLT, Nat.reduceEqDiff, reduceIte, Int.reduceEq, Int.reduceLE, Int.reduceLT, Nat.reduceMul, Nat.reduceAdd, Nat.reduceSub, Int.reduceNeg, Int.reduceAdd, Int.reduceMul, Int.reduceSub, Int.reduceToNat, Nat.reduceLeDiff, Nat.reduceDiv, Int.reduceDiv, reduceCtorEq] | refine AW.seq ?_ | refine AW.block ?_ | refine AW.scope ?_ | refine AW.cond_tt rfl ?_ | refine AW.cond_ff rfl ?_ | refine AW.label ?_ | refine AW.skip ?_ | refine AW.ret ?_ | refine AW.exit ?_ | refine AW.region ?_ | refine AW.draw (by kernel_rfl) (by kernel_rfl) ?_ | ((with_reducible refine And.intro ?_ ?_); (focus ((repeat' (with_reducible apply And.intro)) <;> first | trivial | omega | rfl | (unfold inI; omega)))))
  refine CallE.flat (f24 size) rfl rfl (by rfl) ?_
  repeat (first | simp only [go_sem, Nat.reduceLT, Nat.reduceEqDiff, reduceIte, Int.reduceEq, Int.reduceLE, Int.reduceLT, Nat.reduceMul, Nat.reduceAdd, Nat.reduceSub, Int.reduceNeg, Int.reduceAdd, Int.reduceMul, Int.reduceSub, Int.reduceToNat, Nat.reduceLeDiff, Nat.reduceDiv, Int.reduceDiv, reduceCtorEq] | refine AW.seq ?_ | refine AW.block ?_ | refine AW.scope ?_ | refine AW.cond_tt rfl ?_ | refine AW.cond_ff rfl ?_ | refine AW.label ?_ | refine AW.skip ?_ | refine AW.ret ?_ | refine AW.exit ?_ | refine AW.region ?_ | refine AW.draw (by kernel_rfl) (by kernel_rfl) ?_ | ((with_reducible refine And.intro ?_ ?_); (focus ((repeat' (with_reducible apply And.intro)) <;> first | trivial | omega | rfl | (unfold inI; omega)))))
  refine exG_decf (fun h1 => ?_) (fun h1 => ?_)
  · repeat (first | simp only [go_sem, Nat.reduceLT, Nat.reduceEqDiff, reduceIte, Int.reduceEq, Int.reduceLE, Int.reduceLT, Nat.reduceMul, Nat.reduceAdd, Nat.reduceSub, Int.reduceNeg, Int.reduceAdd, Int.reduceMul, Int.reduceSub, Int.reduceToNat, Nat.reduceLeDiff, Nat.reduceDiv, Int.reduceDiv, reduceCtorEq] | refine AW.seq ?_ | refine AW.block ?_ | refine AW.scope ?_ | refine AW.cond_tt rfl ?_ | refine AW.cond_ff rfl ?_ | refine AW.label ?_ | refine AW.skip ?_ | refine AW.ret ?_ | refine AW.exit ?_ | refine AW.region ?_ | refine AW.draw (by kernel_rfl) (by kernel_rfl) ?_ | ((with_reducible refine And.intro ?_ ?_); (focus ((repeat' (with_reducible apply And.intro)) <;> first | trivial | omega | rfl | (unfold inI; omega)))))
    refine AW.cond_dec rfl (fun h2 => ?_) (fun h2 => ?_)
    · repeat (first | simp only [go_sem, Nat.reduceLT, Nat.reduceEqDiff, reduceIte, Int.reduceEq, Int.reduceLE, Int.reduceLT, Nat.reduceMul, Nat.reduceAdd, Nat.reduceSub, Int.reduceNeg, Int.reduceAdd, Int.reduceMul, Int.reduceSub, Int.reduceToNat, Nat.reduceLeDiff, Nat.reduceDiv, Int.reduceDiv, reduceCtorEq] | refine AW.seq ?_ | refine AW.block ?_ | refine AW.scope ?_ | refine AW.cond_tt rfl ?_ | refine AW.cond_ff rfl ?_ | refine AW.label ?_ | refine AW.skip ?_ | refine AW.ret ?_ | refine AW.exit ?_ | refine AW.region ?_ | refine AW.draw (by kernel_rfl) (by kernel_rfl) ?_ | ((with_reducible refine And.intro ?_ ?_); (focus ((repeat' (with_reducible apply And.intro)) <;> first | trivial | omega | rfl | (unfold inI; omega)))))
      have hbad : takeBad b size := .inr h2
      simp only [takeN, takeR, takeE, if_pos hbad]
      exact Wk.tup ⟨Wk.refl _, Wk.nil rfl rfl, Wk.refl _, trivial⟩
    · have hbad : ¬ takeBad b size := by unfold takeBad; omega
      repeat (first | simp only [go_sem, Nat.reduceLT, Nat.reduceEqDiff, reduceIte, Int.reduceEq, Int.reduceLE, Int.reduceLT, Nat.reduceMul, Nat.reduceAdd, Nat.reduceSub, Int.reduceNeg, Int.reduceAdd, Int.reduceMul, Int.reduceSub, Int.reduceToNat, Nat.reduceLeDiff, Nat.reduceDiv, Int.reduceDiv, reduceCtorEq] | refine AW.seq ?_ | refine AW.block ?_ | refine AW.scope ?_ | refine AW.cond_tt rfl ?_ | refine AW.cond_ff rfl ?_ | refine AW.label ?_ | refine AW.skip ?_ | refine AW.ret ?_ | refine AW.exit ?_ | refine AW.region ?_ | refine AW.draw (by kernel_rfl) (by kernel_rfl) ?_ | ((with_reducible refine And.intro ?_ ?_); (focus ((repeat' (with_reducible apply And.intro)) <;> first | trivial | omega | rfl | (unfold inI; omega)))))
      refine AW.loop (fun s => ∃ j : Nat, (j : Int) ≤ size ∧ s = st11 b size j) (fun s => (size - slotN s 23).toNat) (s0 := st11 b size 0) ?_ ⟨0, by omega, rfl⟩ ?_
      · simp only [st11, takeF, List.take_zero, List.foldl_nil]; exact (Sub.same (by first | exact Nat.zero_le _ | exact Nat.le_refl _ | decide | omega) rfl rfl (by simp) (by simp [lab, labL, ren, renL, look_cons, renL_bys, labL_bys, renL_mapu8, labL_mapu8]) (by simp [labO, renO, lab, labL, ren, renL, look_cons, renL_bys, labL_bys, renL_mapu8, labL_mapu8]))
      rintro s ⟨j, hj, rfl⟩
      simp only [st11]
      repeat (first | simp only [go_sem, Nat.reduceLT, Nat.reduceEqDiff, reduceIte, Int.reduceEq, Int.reduceLE, Int.reduceLT, Nat.reduceMul, Nat.reduceAdd, Nat.reduceSub, Int.reduceNeg, Int.reduceAdd, Int.reduceMul, Int.reduceSub, Int.reduceToNat, Nat.reduceLeDiff, Nat.reduceDiv, Int.reduceDiv, reduceCtorEq] | refine AW.seq ?_ | refine AW.block ?_ | refine AW.scope ?_ | refine AW.cond_tt rfl ?_ | refine AW.cond_ff rfl ?_ | refine AW.label ?_ | refine AW.skip ?_ | refine AW.ret ?_ | refine AW.exit ?_ | refine AW.region ?_ | refine AW.draw (by kernel_rfl) (by kernel_rfl) ?_ | ((with_reducible refine And.intro ?_ ?_); (focus ((repeat' (with_reducible apply And.intro)) <;> first | trivial | omega | rfl | (unfold inI; omega)))))
      refine AW.cond_dec rfl (fun h3 => ?_) (fun h3 => ?_)
      · have hjb : j < b.length := by omega
        have hl : 0 < ((b.take size.toNat).drop j).length := by simp; omega
        have hg : ((b.take size.toNat).drop j).getD 0 0 = b.getD j 0 := by
          simp [List.getD_eq_getElem?_getD, List.getElem?_take, show j < size.toNat by omega]
        have hl2 : 1 ≤ ((b.take size.toNat).drop j).length := hl
        repeat (first | simp only [go_sem, Nat.reduceLT, Nat.reduceEqDiff, reduceIte, Int.reduceEq, Int.reduceLE, Int.reduceLT, Nat.reduceMul, Nat.reduceAdd, Nat.reduceSub, Int.reduceNeg, Int.reduceAdd, Int.reduceMul, Int.reduceSub, Int.reduceToNat, Nat.reduceLeDiff, Nat.reduceDiv, Int.reduceDiv, reduceCtorEq, bys_get, hl, hl2, hg, eq_self, u8mod] | refine AW.seq ?_ | refine AW.block ?_ | refine AW.scope ?_ | refine AW.cond_tt rfl ?_ | refine AW.cond_ff rfl ?_ | refine AW.label ?_ | refine AW.skip ?_ | refine AW.ret ?_ | refine AW.exit ?_ | refine AW.region ?_ | refine AW.draw (by kernel_rfl) (by kernel_rfl) ?_ | ((with_reducible refine And.intro ?_ ?_); (focus ((repeat' (with_reducible apply And.intro)) <;> first | trivial | omega | rfl | (unfold inI; omega)))))
        rw [Qof_lp]
        refine ⟨st11 b size (j + 1), ?_, ⟨j + 1, by omega, rfl⟩, ?_⟩
        · simp only [st11]
          rw [takeF_succ b j hjb]
          exact (Sub.same (by first | exact Nat.zero_le _ | exact Nat.le_refl _ | decide | omega) rfl rfl (by simp) (by simp [lab, labL, ren, renL, look_cons, renL_bys, labL_bys, renL_mapu8, labL_mapu8]) (by simp [labO, renO, lab, labL, ren, renL, look_cons, renL_bys, labL_bys, renL_mapu8, labL_mapu8]))
        · simp [slotN, st11, look_cons]; omega
      · have hjs : j = size.toNat := by omega
        repeat (first | simp only [go_sem, Nat.reduceLT, Nat.reduceEqDiff, reduceIte, Int.reduceEq, Int.reduceLE, Int.reduceLT, Nat.reduceMul, Nat.reduceAdd, Nat.reduceSub, Int.reduceNeg, Int.reduceAdd, Int.reduceMul, Int.reduceSub, Int.reduceToNat, Nat.reduceLeDiff, Nat.reduceDiv, Int.reduceDiv, reduceCtorEq] | refine AW.seq ?_ | refine AW.block ?_ | refine AW.scope ?_ | refine AW.cond_tt rfl ?_ | refine AW.cond_ff rfl ?_ | refine AW.label ?_ | refine AW.skip ?_ | refine AW.ret ?_ | refine AW.exit ?_ | refine AW.region ?_ | refine AW.draw (by kernel_rfl) (by kernel_rfl) ?_ | ((with_reducible refine And.intro ?_ ?_); (focus ((repeat' (with_reducible apply And.intro)) <;> first | trivial | omega | rfl | (unfold inI; omega)))))
        refine CallE.mem (f25 (b.drop size.toNat) (by simp; omega)) ?_ (by simp [bor]) (by rfl) ?_
        · have e1 : ((b.length : Int) - size).toNat = b.length - size.toNat := by omega
          simp only [List.map_cons, List.map_nil, frz_sl, e1, List.take_of_length_le, List.length_drop, Nat.le_refl]
        repeat (first | simp only [go_sem, Nat.reduceLT, Nat.reduceEqDiff, reduceIte, Int.reduceEq, Int.reduceLE, Int.reduceLT, Nat.reduceMul, Nat.reduceAdd, Nat.reduceSub, Int.reduceNeg, Int.reduceAdd, Int.reduceMul, Int.reduceSub, Int.reduceToNat, Nat.reduceLeDiff, Nat.reduceDiv, Int.reduceDiv, reduceCtorEq] | refine AW.seq ?_ | refine AW.block ?_ | refine AW.scope ?_ | refine AW.cond_tt rfl ?_ | refine AW.cond_ff rfl ?_ | refine AW.label ?_ | refine AW.skip ?_ | refine AW.ret ?_ | refine AW.exit ?_ | refine AW.region ?_ | refine AW.draw (by kernel_rfl) (by kernel_rfl) ?_ | ((with_reducible refine And.intro ?_ ?_); (focus ((repeat' (with_reducible apply And.intro)) <;> first | trivial | omega | rfl | (unfold inI; omega)))))
        simp only [takeN, takeR, takeE, if_neg hbad, hjs]
        exact Wk.refl _
  · repeat (first | simp only [go_sem, Nat.reduceLT, Nat.reduceEqDiff, reduceIte, Int.reduceEq, Int.reduceLE, Int.reduceLT, Nat.reduceMul, Nat.reduceAdd, Nat.reduceSub, Int.reduceNeg, Int.reduceAdd, Int.reduceMul, Int.reduceSub, Int.reduceToNat, Nat.reduceLeDiff, Nat.reduceDiv, Int.reduceDiv, reduceCtorEq] | refine AW.seq ?_ | refine AW.block ?_ | refine AW.scope ?_ | refine AW.cond_tt rfl ?_ | refine AW.cond_ff rfl ?_ | refine AW.label ?_ | refine AW.skip ?_ | refine AW.ret ?_ | refine AW.exit ?_ | refine AW.region ?_ | refine AW.draw (by kernel_rfl) (by kernel_rfl) ?_ | ((with_reducible refine And.intro ?_ ?_); (focus ((repeat' (with_reducible apply And.intro)) <;> first | trivial | omega | rfl | (unfold inI; omega)))))
    have hbad : takeBad b size := .inl (by omega)
    simp only [takeN, takeR, takeE, if_pos hbad]
    exact Wk.tup ⟨Wk.refl _, Wk.nil rfl rfl, Wk.refl _, trivial⟩
end Go.Proofs.Ytapjkdmdckfjbaa

namespace Go.Proofs.Ytapjkdmdckfjbaa
open Go Go.Eng Go.Proofs
set_option maxRecDepth 100000
set_option linter.unusedSimpArgs false
set_option linter.unusedVariables false
theorem mul256 (P : Program) (t : TypeId) (a : UInt64) : binO P t .mul (u64 a) (.v (.int .u64 256)) = (True, u64 (a * 256)) := bin_mul_u64 P t a 256
def takeG (b : List UInt8) : UInt64 := b.foldl (fun n x => n * 256 + x.toUInt64) 0
theorem takeG_succ (b : List UInt8) (j : Nat) (h : j < b.length) : takeG (b.take (j + 1)) = takeG (b.take j) * 256 + (b.getD j 0).toUInt64 := by
  unfold takeG
  rw [List.take_succ_eq_append_getElem h, List.foldl_append]
  simp [List.getD_eq_getElem?_getD, h]
def takeM (b : List UInt8) (size : Int) : UInt64 := if takeBad b size then 0 else takeG (b.take size.toNat)
def st12 (b : List UInt8) (size : Int) (j : Nat) : S := ⟨[(8, int j), (7, u64 (takeG (b.take j))), (0, .sl 1 (bys b) b.length none), (1, int size)], 40, [], 0, []⟩
theorem f12 (b : List UInt8) (hb : b.length ≤ 1000000) (size : Int) (hs : inI size) : AFun Try.prog 12 [.sl 1 (bys b) b.length none, int size]
    (.tup [u64 (takeM b size), .sl 1 (bys (takeR b size)) (takeR b size).length none, int (takeE b size)]) := by
  refine AFun.enterW Try.func12 rfl Try.call12 (by simp [Try.ntmps12]) fun γ1 => ?_
  simp only [frameOf, Try.ntmps12]
  repeat (first | simp only [go_sem, Nat.reduceLT, Nat.reduceEqDiff, reduceIte, Int.reduceEq, Int.reduceLE, Int.reduceLT, Nat.reduceMul, Nat.reduceAdd, Nat.reduceSub, Int.reduceNeg, Int.reduceAdd, Int.reduceMul, Int.reduceSub, Int.reduceToNat, Nat.reduceLeDiff, Nat.reduceDiv, Int.reduceDiv, reduceCtorEq] | refine AW.seq ?_ | refine AW.block ?_ | refine AW.scope ?_ | refine AW.cond_tt rfl ?_ | refine AW.cond_ff rfl ?_ | refine AW.label ?_ | refine AW.skip ?_ | refine AW.ret ?_ | refine AW.exit ?_ | refine AW.region ?_ | refine AW.draw (by kernel_rfl) (by kernel_rfl) ?_ | ((with_reducible refine And.intro ?_ ?_); (focus ((repeat' (with_reducible apply And.intro)) <;> first | trivial | omega | rfl | (unfold inI; omega)))))
  refine exG_decf (fun h1 => ?_) (fun h1 => ?_)
  · repeat (first | simp only [go_sem, Nat.reduceLT, Nat.reduceEqDiff, reduceIte, Int.reduceEq, Int.reduceLE, Int.reduceLT, Nat.reduceMul, Nat.reduceAdd, Nat.reduceSub, Int.reduceNeg, Int.reduceAdd, Int.reduceMul, Int.reduceSub, Int.reduceToNat, Nat.reduceLeDiff, Nat.reduceDiv, Int.reduceDiv, reduceCtorEq] | refine AW.seq ?_ | refine AW.block ?_ | refine AW.scope ?_ | refine AW.cond_tt rfl ?_ | refine AW.cond_ff rfl ?_ | refine AW.label ?_ | refine AW.skip ?_ | refine AW.ret ?_ | refine AW.exit ?_ | refine AW.region ?_ | refine AW.draw (by kernel_rfl) (by kernel_rfl) ?_ | ((with_reducible refine And.intro ?_ ?_); (focus ((repeat' (with_reducible apply And.intro)) <;> first | trivial | omega | rfl | (unfold inI; omega)))))
    refine exG_decf (fun h5 => ?_) (fun h5 => ?_)
    · repeat (first | simp only [go_sem, Nat.reduceLT, Nat.reduceEqDiff, reduceIte, Int.reduceEq, Int.reduceLE, Int.reduceLT, Nat.reduceMul, Nat.reduceAdd, Nat.reduceSub, Int.reduceNeg, Int.reduceAdd, Int.reduceMul, Int.reduceSub, Int.reduceToNat, Nat.reduceLeDiff, Nat.reduceDiv, Int.reduceDiv, reduceCtorEq] | refine AW.seq ?_ | refine AW.block ?_ | refine AW.scope ?_ | refine AW.cond_tt rfl ?_ | refine AW.cond_ff rfl ?_ | refine AW.label ?_ | refine AW.skip ?_ | refine AW.ret ?_ | refine AW.exit ?_ | refine AW.region ?_ | refine AW.draw (by kernel_rfl) (by kernel_rfl) ?_ | ((with_reducible refine And.intro ?_ ?_); (focus ((repeat' (with_reducible apply And.intro)) <;> first | trivial | omega | rfl | (unfold inI; omega)))))
      refine AW.cond_dec rfl (fun h2 => ?_) (fun h2 => ?_)
      · repeat (first | simp only [go_sem, Nat.reduceLT, Nat.reduceEqDiff, reduceIte, Int.reduceEq, Int.reduceLE, Int.reduceLT, Nat.reduceMul, Nat.reduceAdd, Nat.reduceSub, Int.reduceNeg, Int.reduceAdd, Int.reduceMul, Int.reduceSub, Int.reduceToNat, Nat.reduceLeDiff, Nat.reduceDiv, Int.reduceDiv, reduceCtorEq] | refine AW.seq ?_ | refine AW.block ?_ | refine AW.scope ?_ | refine AW.cond_tt rfl ?_ | refine AW.cond_ff rfl ?_ | refine AW.label ?_ | refine AW.skip ?_ | refine AW.ret ?_ | refine AW.exit ?_ | refine AW.region ?_ | refine AW.draw (by kernel_rfl) (by kernel_rfl) ?_ | ((with_reducible refine And.intro ?_ ?_); (focus ((repeat' (with_reducible apply And.intro)) <;> first | trivial | omega | rfl | (unfold inI; omega)))))
        have hbad : takeBad b size := .inr h2
        simp only [takeM, takeR, takeE, if_pos hbad]
        exact Wk.tup ⟨Wk.refl _, Wk.nil rfl rfl, Wk.refl _, trivial⟩
      · have hbad : ¬ takeBad b size := by unfold takeBad; omega
        repeat (first | simp only [go_sem, Nat.reduceLT, Nat.reduceEqDiff, reduceIte, Int.reduceEq, Int.reduceLE, Int.reduceLT, Nat.reduceMul, Nat.reduceAdd, Nat.reduceSub, Int.reduceNeg, Int.reduceAdd, Int.reduceMul, Int.reduceSub, Int.reduceToNat, Nat.reduceLeDiff, Nat.reduceDiv, Int.reduceDiv, reduceCtorEq] | refine AW.seq ?_ | refine AW.block ?_ | refine AW.scope ?_ | refine AW.cond_tt rfl ?_ | refine AW.cond_ff rfl ?_ | refine AW.label ?_ | refine AW.skip ?_ | refine AW.ret ?_ | refine AW.exit ?_ | refine AW.region ?_ | refine AW.draw (by kernel_rfl) (by kernel_rfl) ?_ | ((with_reducible refine And.intro ?_ ?_); (focus ((repeat' (with_reducible apply And.intro)) <;> first | trivial | omega | rfl | (unfold inI; omega)))))
        refine AW.loop (fun s => ∃ j : Nat, (j : Int) ≤ size ∧ s = st12 b size j) (fun s => (size - slotN s 8).toNat) (s0 := st12 b size 0) ?_ ⟨0, by omega, rfl⟩ ?_
        · simp only [st12, takeG, List.take_zero, List.foldl_nil]; exact (Sub.same (by first | exact Nat.zero_le _ | exact Nat.le_refl _ | decide | omega) rfl rfl (by simp) (by simp [lab, labL, ren, renL, look_cons, renL_bys, labL_bys, renL_mapu8, labL_mapu8]) (by simp [labO, renO, lab, labL, ren, renL, look_cons, renL_bys, labL_bys, renL_mapu8, labL_mapu8]))
        rintro s ⟨j, hj, rfl⟩
        simp only [st12]
        repeat (first | simp only [go_sem, Nat.reduceLT, Nat.reduceEqDiff, reduceIte, Int.reduceEq, Int.reduceLE, Int.reduceLT, Nat.reduceMul, Nat.reduceAdd, Nat.reduceSub, Int.reduceNeg, Int.reduceAdd, Int.reduceMul, Int.reduceSub, Int.reduceToNat, Nat.reduceLeDiff, Nat.reduceDiv, Int.reduceDiv, reduceCtorEq] | refine AW.seq ?_ | refine AW.block ?_ | refine AW.scope ?_ | refine AW.cond_tt rfl ?_ | refine AW.cond_ff rfl ?_ | refine AW.label ?_ | refine AW.skip ?_ | refine AW.ret ?_ | refine AW.exit ?_ | refine AW.region ?_ | refine AW.draw (by kernel_rfl) (by kernel_rfl) ?_ | ((with_reducible refine And.intro ?_ ?_); (focus ((repeat' (with_reducible apply And.intro)) <;> first | trivial | omega | rfl | (unfold inI; omega)))))
        refine AW.cond_dec rfl (fun h3 => ?_) (fun h3 => ?_)
        · have hjb : j < b.length := by omega
          have hl : 0 < (b.drop j).length := by simp; omega
          have hg : (b.drop j).getD 0 0 = b.getD j 0 := by simp [List.getD_eq_getElem?_getD]
          have hl2 : 1 ≤ (b.drop j).length := hl
          repeat (first | simp only [go_sem, Nat.reduceLT, Nat.reduceEqDiff, reduceIte, Int.reduceEq, Int.reduceLE, Int.reduceLT, Nat.reduceMul, Nat.reduceAdd, Nat.reduceSub, Int.reduceNeg, Int.reduceAdd, Int.reduceMul, Int.reduceSub, Int.reduceToNat, Nat.reduceLeDiff, Nat.reduceDiv, Int.reduceDiv, reduceCtorEq, bys_get, hl, hl2, hg, eq_self, u8mod, mul256] | refine AW.seq ?_ | refine AW.block ?_ | refine AW.scope ?_ | refine AW.cond_tt rfl ?_ | refine AW.cond_ff rfl ?_ | refine AW.label ?_ | refine AW.skip ?_ | refine AW.ret ?_ | refine AW.exit ?_ | refine AW.region ?_ | refine AW.draw (by kernel_rfl) (by kernel_rfl) ?_ | ((with_reducible refine And.intro ?_ ?_); (focus ((repeat' (with_reducible apply And.intro)) <;> first | trivial | omega | rfl | (unfold inI; omega)))))
          rw [Qof_lp]
          refine ⟨st12 b size (j + 1), ?_, ⟨j + 1, by omega, rfl⟩, ?_⟩
          · simp only [st12]
            rw [takeG_succ b j hjb]
            exact (Sub.same (by first | exact Nat.zero_le _ | exact Nat.le_refl _ | decide | omega) rfl rfl (by simp) (by simp [lab, labL, ren, renL, look_cons, renL_bys, labL_bys, renL_mapu8, labL_mapu8]) (by simp [labO, renO, lab, labL, ren, renL, look_cons, renL_bys, labL_bys, renL_mapu8, labL_mapu8]))
          · simp [slotN, st12, look_cons]; omega
        · have hjs : j = size.toNat := by omega
          have e1 : ((b.length : Int) - size).toNat = b.length - size.toNat := by omega
          repeat (first | simp only [go_sem, Nat.reduceLT, Nat.reduceEqDiff, reduceIte, Int.reduceEq, Int.reduceLE, Int.reduceLT, Nat.reduceMul, Nat.reduceAdd, Nat.reduceSub, Int.reduceNeg, Int.reduceAdd, Int.reduceMul, Int.reduceSub, Int.reduceToNat, Nat.reduceLeDiff, Nat.reduceDiv, Int.reduceDiv, reduceCtorEq, e1, List.take_of_length_le, List.length_drop, Nat.le_refl, Nat.zero_add] | refine AW.seq ?_ | refine AW.block ?_ | refine AW.scope ?_ | refine AW.cond_tt rfl ?_ | refine AW.cond_ff rfl ?_ | refine AW.label ?_ | refine AW.skip ?_ | refine AW.ret ?_ | refine AW.exit ?_ | refine AW.region ?_ | refine AW.draw (by kernel_rfl) (by kernel_rfl) ?_ | ((with_reducible refine And.intro ?_ ?_); (focus ((repeat' (with_reducible apply And.intro)) <;> first | trivial | omega | rfl | (unfold inI; omega)))))
          simp only [takeM, takeR, takeE, if_neg hbad, hjs, List.length_drop]
          exact Wk.refl _
    · repeat (first | simp only [go_sem, Nat.reduceLT, Nat.reduceEqDiff, reduceIte, Int.reduceEq, Int.reduceLE, Int.reduceLT, Nat.reduceMul, Nat.reduceAdd, Nat.reduceSub, Int.reduceNeg, Int.reduceAdd, Int.reduceMul, Int.reduceSub, Int.reduceToNat, Nat.reduceLeDiff, Nat.reduceDiv, Int.reduceDiv, reduceCtorEq] | refine AW.seq ?_ | refine AW.block ?_ | refine AW.scope ?_ | refine AW.cond_tt rfl ?_ | refine AW.cond_ff rfl ?_ | refine AW.label ?_ | refine AW.skip ?_ | refine AW.ret ?_ | refine AW.exit ?_ | refine AW.region ?_ | refine AW.draw (by kernel_rfl) (by kernel_rfl) ?_ | ((with_reducible refine And.intro ?_ ?_); (focus ((repeat' (with_reducible apply And.intro)) <;> first | trivial | omega | rfl | (unfold inI; omega)))))
      have hbad : takeBad b size := .inl (by omega)
      simp only [takeM, takeR, takeE, if_pos hbad]
      exact Wk.tup ⟨Wk.refl _, Wk.nil rfl rfl, Wk.refl _, trivial⟩
  · repeat (first | simp only [go_sem, Nat.reduceLT, Nat.reduceEqDiff, reduceIte, Int.reduceEq, Int.reduceLE, Int.reduceLT, Nat.reduceMul, Nat.reduceAdd, Nat.reduceSub, Int.reduceNeg, Int.reduceAdd, Int.reduceMul, Int.reduceSub, Int.reduceToNat, Nat.reduceLeDiff, Nat.reduceDiv, Int.reduceDiv, reduceCtorEq] | refine AW.seq ?_ | refine AW.block ?_ | refine AW.scope ?_ | refine AW.cond_tt rfl ?_ | refine AW.cond_ff rfl ?_ | refine AW.label ?_ | refine AW.skip ?_ | refine AW.ret ?_ | refine AW.exit ?_ | refine AW.region ?_ | refine AW.draw (by kernel_rfl) (by kernel_rfl) ?_ | ((with_reducible refine And.intro ?_ ?_); (focus ((repeat' (with_reducible apply And.intro)) <;> first | trivial | omega | rfl | (unfold inI; omega)))))
    have hbad : takeBad b size := .inl (by omega)
    simp only [takeM, takeR, takeE, if_pos hbad]
    exact Wk.tup ⟨Wk.refl _, Wk.nil rfl rfl, Wk.refl _, trivial⟩
end Go.Proofs.Ytapjkdmdckfjbaa

namespace Go.Proofs.Ytapjkdmdckfjbaa
open Go Go.Eng Go.Proofs
set_option maxRecDepth 100000
set_option linter.unusedSimpArgs false
set_option linter.unusedVariables false
def textS (b t : List UInt8) : List UInt8 := if 65535 < t.length then [] else b ++ [UInt8.ofNat (t.length / 256), UInt8.ofNat t.length] ++ t
def textE (t : List UInt8) : Int := if 65535 < t.length then 10 else 0
theorem lo8 (n : Nat) : IntKind.u8.wrap (n : Int) = ((UInt8.ofNat n).toNat : Int) := by
  rw [wrap_u _ rfl, UInt8.toNat_ofNat']; rfl
theorem hi8 (n : Nat) : IntKind.u8.wrap ((n : Int).fdiv (2 ^ min 8 64)) = ((UInt8.ofNat (n / 256)).toNat : Int) := by
  rw [show (2 ^ min 8 64 : Int) = 256 from rfl, Int.fdiv_eq_ediv_of_nonneg _ (by decide), show ((n : Int) / 256) = ((n / 256 : Nat) : Int) from by omega, lo8]
theorem f13 (b t : List UInt8) (hb : b.length ≤ 1000000) (ht : t.length ≤ 1000000) : AFun Try.prog 13 [.sl 1 (bys b) b.length none, .sl 1 (bys t) t.length none]
    (.tup [.sl 1 (bys (textS b t)) (textS b t).length none, int (textE t)]) := by
  refine AFun.enterW Try.func13 rfl Try.call13 (by simp [Try.ntmps13]) fun γ1 => ?_
  simp only [frameOf, Try.ntmps13]
  repeat (first | simp only [go_sem, Nat.reduceLT, Nat.reduceEqDiff, reduceIte, Int.reduceEq, Int.reduceLE, Int.reduceLT, Nat.reduceMul, Nat.reduceAdd, Nat.reduceSub, Int.reduceNeg, Int.reduceAdd, Int.reduceMul, Int.reduceSub, Int.reduceToNat, Nat.reduceLeDiff, Nat.reduceDiv, Int.reduceDiv, reduceCtorEq] | refine AW.seq ?_ | refine AW.block ?_ | refine AW.scope ?_ | refine AW.cond_tt rfl ?_ | refine AW.cond_ff rfl ?_ | refine AW.label ?_ | refine AW.skip ?_ | refine AW.ret ?_ | refine AW.exit ?_ | refine AW.region ?_ | refine AW.draw (by kernel_rfl) (by kernel_rfl) ?_ | ((with_reducible refine And.intro ?_ ?_); (focus ((repeat' (with_reducible apply And.intro)) <;> first | trivial | omega | rfl | (unfold inI; omega)))))
  refine AW.cond_dec rfl (fun h1 => ?_) (fun h1 => ?_)
  · repeat (first | simp only [go_sem, Nat.reduceLT, Nat.reduceEqDiff, reduceIte, Int.reduceEq, Int.reduceLE, Int.reduceLT, Nat.reduceMul, Nat.reduceAdd, Nat.reduceSub, Int.reduceNeg, Int.reduceAdd, Int.reduceMul, Int.reduceSub, Int.reduceToNat, Nat.reduceLeDiff, Nat.reduceDiv, Int.reduceDiv, reduceCtorEq] | refine AW.seq ?_ | refine AW.block ?_ | refine AW.scope ?_ | refine AW.cond_tt rfl ?_ | refine AW.cond_ff rfl ?_ | refine AW.label ?_ | refine AW.skip ?_ | refine AW.ret ?_ | refine AW.exit ?_ | refine AW.region ?_ | refine AW.draw (by kernel_rfl) (by kernel_rfl) ?_ | ((with_reducible refine And.intro ?_ ?_); (focus ((repeat' (with_reducible apply And.intro)) <;> first | trivial | omega | rfl | (unfold inI; omega)))))
    have hbad : 65535 < t.length := by omega
    simp only [textS, textE, if_pos hbad]
    exact Wk.tup ⟨Wk.nil rfl rfl, Wk.refl _, trivial⟩
  · repeat (first | simp only [go_sem, Nat.reduceLT, Nat.reduceEqDiff, reduceIte, Int.reduceEq, Int.reduceLE, Int.reduceLT, Nat.reduceMul, Nat.reduceAdd, Nat.reduceSub, Int.reduceNeg, Int.reduceAdd, Int.reduceMul, Int.reduceSub, Int.reduceToNat, Nat.reduceLeDiff, Nat.reduceDiv, Int.reduceDiv, reduceCtorEq] | refine AW.seq ?_ | refine AW.block ?_ | refine AW.scope ?_ | refine AW.cond_tt rfl ?_ | refine AW.cond_ff rfl ?_ | refine AW.label ?_ | refine AW.skip ?_ | refine AW.ret ?_ | refine AW.exit ?_ | refine AW.region ?_ | refine AW.draw (by kernel_rfl) (by kernel_rfl) ?_ | ((with_reducible refine And.intro ?_ ?_); (focus ((repeat' (with_reducible apply And.intro)) <;> first | trivial | omega | rfl | (unfold inI; omega)))))
    have hbad : ¬ 65535 < t.length := by omega
    rw [hi8, lo8]
    simp only [textS, textE, if_neg hbad, bys_two, bys_append, List.length_append, List.length_cons, List.length_nil, Nat.zero_add, Nat.reduceAdd]
    exact Wk.refl _
end Go.Proofs.Ytapjkdmdckfjbaa
