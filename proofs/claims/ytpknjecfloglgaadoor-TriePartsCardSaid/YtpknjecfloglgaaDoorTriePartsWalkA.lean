/- What sha and its document compute, function by function (first part); conditions on lengths alone. -/
import Derived.Test.YtpknjecfloglgaaDoorTriePartsEngD
import Derived.Test.YtpknjecfloglgaaDoorProg
set_option linter.unusedVariables false
set_option linter.unusedSimpArgs false
namespace Go.Proofs.YtpknjecfloglgaaDoor
open Go Go.Eng
@[go_sem] theorem Tryd.csz0 : Tryd.prog.cellsOf 0 = 1 := by kernel_rfl
@[go_sem] theorem Tryd.bsz0 : Tryd.prog.bytesOf 0 = 0 := by kernel_rfl
@[go_sem] theorem Tryd.csz1 : Tryd.prog.cellsOf 1 = 1 := by kernel_rfl
@[go_sem] theorem Tryd.bsz1 : Tryd.prog.bytesOf 1 = 8 := by kernel_rfl
@[go_sem] theorem Tryd.csz2 : Tryd.prog.cellsOf 2 = 1 := by kernel_rfl
@[go_sem] theorem Tryd.bsz2 : Tryd.prog.bytesOf 2 = 8 := by kernel_rfl
@[go_sem] theorem Tryd.csz3 : Tryd.prog.cellsOf 3 = 1 := by kernel_rfl
@[go_sem] theorem Tryd.bsz3 : Tryd.prog.bytesOf 3 = 8 := by kernel_rfl
@[go_sem] theorem Tryd.csz4 : Tryd.prog.cellsOf 4 = 1 := by kernel_rfl
@[go_sem] theorem Tryd.bsz4 : Tryd.prog.bytesOf 4 = 1 := by kernel_rfl
@[go_sem] theorem Tryd.csz5 : Tryd.prog.cellsOf 5 = 1 := by kernel_rfl
@[go_sem] theorem Tryd.bsz5 : Tryd.prog.bytesOf 5 = 1 := by kernel_rfl
@[go_sem] theorem Tryd.csz6 : Tryd.prog.cellsOf 6 = 1 := by kernel_rfl
@[go_sem] theorem Tryd.bsz6 : Tryd.prog.bytesOf 6 = 1 := by kernel_rfl
@[go_sem] theorem Tryd.csz7 : Tryd.prog.cellsOf 7 = 4 := by kernel_rfl
@[go_sem] theorem Tryd.bsz7 : Tryd.prog.bytesOf 7 = 24 := by kernel_rfl
@[go_sem] theorem Tryd.csz8 : Tryd.prog.cellsOf 8 = 4 := by kernel_rfl
@[go_sem] theorem Tryd.bsz8 : Tryd.prog.bytesOf 8 = 24 := by kernel_rfl
@[go_sem] theorem Tryd.csz9 : Tryd.prog.cellsOf 9 = 1 := by kernel_rfl
@[go_sem] theorem Tryd.bsz9 : Tryd.prog.bytesOf 9 = 16 := by kernel_rfl
@[go_sem] theorem Tryd.csz10 : Tryd.prog.cellsOf 10 = 1 := by kernel_rfl
@[go_sem] theorem Tryd.bsz10 : Tryd.prog.bytesOf 10 = 16 := by kernel_rfl
@[go_sem] theorem Tryd.csz11 : Tryd.prog.cellsOf 11 = 1 := by kernel_rfl
@[go_sem] theorem Tryd.bsz11 : Tryd.prog.bytesOf 11 = 16 := by kernel_rfl
@[go_sem] theorem Tryd.csz12 : Tryd.prog.cellsOf 12 = 1 := by kernel_rfl
@[go_sem] theorem Tryd.bsz12 : Tryd.prog.bytesOf 12 = 8 := by kernel_rfl
@[go_sem] theorem Tryd.csz13 : Tryd.prog.cellsOf 13 = 2 := by kernel_rfl
@[go_sem] theorem Tryd.bsz13 : Tryd.prog.bytesOf 13 = 24 := by kernel_rfl
@[go_sem] theorem Tryd.csz14 : Tryd.prog.cellsOf 14 = 2 := by kernel_rfl
@[go_sem] theorem Tryd.bsz14 : Tryd.prog.bytesOf 14 = 24 := by kernel_rfl
@[go_sem] theorem Tryd.csz15 : Tryd.prog.cellsOf 15 = 1 := by kernel_rfl
@[go_sem] theorem Tryd.bsz15 : Tryd.prog.bytesOf 15 = 8 := by kernel_rfl
@[go_sem] theorem Tryd.csz16 : Tryd.prog.cellsOf 16 = 1 := by kernel_rfl
@[go_sem] theorem Tryd.bsz16 : Tryd.prog.bytesOf 16 = 8 := by kernel_rfl
@[go_sem] theorem Tryd.csz17 : Tryd.prog.cellsOf 17 = 1 := by kernel_rfl
@[go_sem] theorem Tryd.bsz17 : Tryd.prog.bytesOf 17 = 8 := by kernel_rfl
@[go_sem] theorem Tryd.csz18 : Tryd.prog.cellsOf 18 = 1 := by kernel_rfl
@[go_sem] theorem Tryd.bsz18 : Tryd.prog.bytesOf 18 = 8 := by kernel_rfl
@[go_sem] theorem Tryd.csz19 : Tryd.prog.cellsOf 19 = 1 := by kernel_rfl
@[go_sem] theorem Tryd.bsz19 : Tryd.prog.bytesOf 19 = 8 := by kernel_rfl
@[go_sem] theorem Tryd.csz20 : Tryd.prog.cellsOf 20 = 1 := by kernel_rfl
@[go_sem] theorem Tryd.bsz20 : Tryd.prog.bytesOf 20 = 16 := by kernel_rfl
@[go_sem] theorem Tryd.csz21 : Tryd.prog.cellsOf 21 = 1 := by kernel_rfl
@[go_sem] theorem Tryd.bsz21 : Tryd.prog.bytesOf 21 = 4 := by kernel_rfl
@[go_sem] theorem Tryd.csz22 : Tryd.prog.cellsOf 22 = 1 := by kernel_rfl
@[go_sem] theorem Tryd.bsz22 : Tryd.prog.bytesOf 22 = 24 := by kernel_rfl
@[go_sem] theorem Tryd.csz23 : Tryd.prog.cellsOf 23 = 32 := by kernel_rfl
@[go_sem] theorem Tryd.bsz23 : Tryd.prog.bytesOf 23 = 32 := by kernel_rfl
@[go_sem] theorem Tryd.csz24 : Tryd.prog.cellsOf 24 = 1 := by kernel_rfl
@[go_sem] theorem Tryd.bsz24 : Tryd.prog.bytesOf 24 = 8 := by kernel_rfl
@[go_sem] theorem Tryd.csz25 : Tryd.prog.cellsOf 25 = 1 := by kernel_rfl
@[go_sem] theorem Tryd.bsz25 : Tryd.prog.bytesOf 25 = 8 := by kernel_rfl
@[go_sem] theorem Tryd.csz26 : Tryd.prog.cellsOf 26 = 1 := by kernel_rfl
@[go_sem] theorem Tryd.bsz26 : Tryd.prog.bytesOf 26 = 0 := by kernel_rfl
@[go_sem] theorem Tryd.csz27 : Tryd.prog.cellsOf 27 = 1 := by kernel_rfl
@[go_sem] theorem Tryd.bsz27 : Tryd.prog.bytesOf 27 = 8 := by kernel_rfl
@[go_sem] theorem Tryd.csz28 : Tryd.prog.cellsOf 28 = 1 := by kernel_rfl
@[go_sem] theorem Tryd.bsz28 : Tryd.prog.bytesOf 28 = 8 := by kernel_rfl
@[go_sem] theorem Tryd.csz29 : Tryd.prog.cellsOf 29 = 1 := by kernel_rfl
@[go_sem] theorem Tryd.bsz29 : Tryd.prog.bytesOf 29 = 0 := by kernel_rfl
@[go_sem] theorem Tryd.csz30 : Tryd.prog.cellsOf 30 = 1 := by kernel_rfl
@[go_sem] theorem Tryd.bsz30 : Tryd.prog.bytesOf 30 = 8 := by kernel_rfl
@[go_sem] theorem Tryd.csz31 : Tryd.prog.cellsOf 31 = 1 := by kernel_rfl
@[go_sem] theorem Tryd.bsz31 : Tryd.prog.bytesOf 31 = 8 := by kernel_rfl
@[go_sem] theorem Tryd.csz32 : Tryd.prog.cellsOf 32 = 1 := by kernel_rfl
@[go_sem] theorem Tryd.bsz32 : Tryd.prog.bytesOf 32 = 8 := by kernel_rfl
@[go_sem] theorem Tryd.csz33 : Tryd.prog.cellsOf 33 = 1 := by kernel_rfl
@[go_sem] theorem Tryd.bsz33 : Tryd.prog.bytesOf 33 = 8 := by kernel_rfl
@[go_sem] theorem Tryd.csz34 : Tryd.prog.cellsOf 34 = 1 := by kernel_rfl
@[go_sem] theorem Tryd.bsz34 : Tryd.prog.bytesOf 34 = 0 := by kernel_rfl
@[go_sem] theorem Tryd.csz35 : Tryd.prog.cellsOf 35 = 1 := by kernel_rfl
@[go_sem] theorem Tryd.bsz35 : Tryd.prog.bytesOf 35 = 8 := by kernel_rfl
@[go_sem] theorem Tryd.csz36 : Tryd.prog.cellsOf 36 = 1 := by kernel_rfl
@[go_sem] theorem Tryd.bsz36 : Tryd.prog.bytesOf 36 = 8 := by kernel_rfl
@[go_sem] theorem Tryd.csz37 : Tryd.prog.cellsOf 37 = 64 := by kernel_rfl
@[go_sem] theorem Tryd.bsz37 : Tryd.prog.bytesOf 37 = 64 := by kernel_rfl
@[go_sem] theorem Tryd.csz38 : Tryd.prog.cellsOf 38 = 64 := by kernel_rfl
@[go_sem] theorem Tryd.bsz38 : Tryd.prog.bytesOf 38 = 64 := by kernel_rfl
@[go_sem] theorem Tryd.csz39 : Tryd.prog.cellsOf 39 = 1 := by kernel_rfl
@[go_sem] theorem Tryd.bsz39 : Tryd.prog.bytesOf 39 = 8 := by kernel_rfl
@[go_sem] theorem Tryd.csz40 : Tryd.prog.cellsOf 40 = 1 := by kernel_rfl
@[go_sem] theorem Tryd.bsz40 : Tryd.prog.bytesOf 40 = 8 := by kernel_rfl
@[go_sem] theorem Tryd.csz41 : Tryd.prog.cellsOf 41 = 1 := by kernel_rfl
@[go_sem] theorem Tryd.bsz41 : Tryd.prog.bytesOf 41 = 8 := by kernel_rfl
@[go_sem] theorem Tryd.csz42 : Tryd.prog.cellsOf 42 = 1 := by kernel_rfl
@[go_sem] theorem Tryd.bsz42 : Tryd.prog.bytesOf 42 = 8 := by kernel_rfl
@[go_sem] theorem Tryd.csz43 : Tryd.prog.cellsOf 43 = 1 := by kernel_rfl
@[go_sem] theorem Tryd.bsz43 : Tryd.prog.bytesOf 43 = 8 := by kernel_rfl
@[go_sem] theorem Tryd.csz44 : Tryd.prog.cellsOf 44 = 1 := by kernel_rfl
@[go_sem] theorem Tryd.bsz44 : Tryd.prog.bytesOf 44 = 8 := by kernel_rfl
@[go_sem] theorem Tryd.csz45 : Tryd.prog.cellsOf 45 = 1 := by kernel_rfl
@[go_sem] theorem Tryd.bsz45 : Tryd.prog.bytesOf 45 = 8 := by kernel_rfl
@[go_sem] theorem Tryd.csz46 : Tryd.prog.cellsOf 46 = 1 := by kernel_rfl
@[go_sem] theorem Tryd.bsz46 : Tryd.prog.bytesOf 46 = 8 := by kernel_rfl
@[go_sem] theorem Tryd.csz47 : Tryd.prog.cellsOf 47 = 1 := by kernel_rfl
@[go_sem] theorem Tryd.bsz47 : Tryd.prog.bytesOf 47 = 8 := by kernel_rfl
@[go_sem] theorem Tryd.csz48 : Tryd.prog.cellsOf 48 = 1 := by kernel_rfl
@[go_sem] theorem Tryd.bsz48 : Tryd.prog.bytesOf 48 = 24 := by kernel_rfl
@[go_sem] theorem Tryd.csz49 : Tryd.prog.cellsOf 49 = 1 := by kernel_rfl
@[go_sem] theorem Tryd.bsz49 : Tryd.prog.bytesOf 49 = 8 := by kernel_rfl
@[go_sem] theorem Tryd.csz50 : Tryd.prog.cellsOf 50 = 1 := by kernel_rfl
@[go_sem] theorem Tryd.bsz50 : Tryd.prog.bytesOf 50 = 0 := by kernel_rfl
@[go_sem] theorem Tryd.csz51 : Tryd.prog.cellsOf 51 = 1 := by kernel_rfl
@[go_sem] theorem Tryd.bsz51 : Tryd.prog.bytesOf 51 = 8 := by kernel_rfl
@[go_sem] theorem Tryd.csz52 : Tryd.prog.cellsOf 52 = 1 := by kernel_rfl
@[go_sem] theorem Tryd.bsz52 : Tryd.prog.bytesOf 52 = 8 := by kernel_rfl
@[go_sem] theorem Tryd.csz53 : Tryd.prog.cellsOf 53 = 1 := by kernel_rfl
@[go_sem] theorem Tryd.bsz53 : Tryd.prog.bytesOf 53 = 8 := by kernel_rfl
@[go_sem] theorem Tryd.csz54 : Tryd.prog.cellsOf 54 = 1 := by kernel_rfl
@[go_sem] theorem Tryd.bsz54 : Tryd.prog.bytesOf 54 = 8 := by kernel_rfl
@[go_sem] theorem Tryd.csz55 : Tryd.prog.cellsOf 55 = 1 := by kernel_rfl
@[go_sem] theorem Tryd.bsz55 : Tryd.prog.bytesOf 55 = 8 := by kernel_rfl
@[go_sem] theorem Tryd.csz56 : Tryd.prog.cellsOf 56 = 1 := by kernel_rfl
@[go_sem] theorem Tryd.bsz56 : Tryd.prog.bytesOf 56 = 8 := by kernel_rfl
@[go_sem] theorem Tryd.csz57 : Tryd.prog.cellsOf 57 = 8224 := by kernel_rfl
@[go_sem] theorem Tryd.bsz57 : Tryd.prog.bytesOf 57 = 8224 := by kernel_rfl
@[go_sem] theorem Tryd.csz58 : Tryd.prog.cellsOf 58 = 1 := by kernel_rfl
@[go_sem] theorem Tryd.bsz58 : Tryd.prog.bytesOf 58 = 8 := by kernel_rfl
@[go_sem] theorem Tryd.csz59 : Tryd.prog.cellsOf 59 = 1 := by kernel_rfl
@[go_sem] theorem Tryd.bsz59 : Tryd.prog.bytesOf 59 = 8 := by kernel_rfl
@[go_sem] theorem Tryd.csz60 : Tryd.prog.cellsOf 60 = 1 := by kernel_rfl
@[go_sem] theorem Tryd.bsz60 : Tryd.prog.bytesOf 60 = 8 := by kernel_rfl
@[go_sem] theorem Tryd.csz61 : Tryd.prog.cellsOf 61 = 1 := by kernel_rfl
@[go_sem] theorem Tryd.bsz61 : Tryd.prog.bytesOf 61 = 8 := by kernel_rfl
@[go_sem] theorem Tryd.csz62 : Tryd.prog.cellsOf 62 = 1 := by kernel_rfl
@[go_sem] theorem Tryd.bsz62 : Tryd.prog.bytesOf 62 = 4 := by kernel_rfl
@[go_sem] theorem Tryd.csz63 : Tryd.prog.cellsOf 63 = 8 := by kernel_rfl
@[go_sem] theorem Tryd.bsz63 : Tryd.prog.bytesOf 63 = 32 := by kernel_rfl
@[go_sem] theorem Tryd.csz64 : Tryd.prog.cellsOf 64 = 1 := by kernel_rfl
@[go_sem] theorem Tryd.bsz64 : Tryd.prog.bytesOf 64 = 8 := by kernel_rfl
@[go_sem] theorem Tryd.csz65 : Tryd.prog.cellsOf 65 = 10 := by kernel_rfl
@[go_sem] theorem Tryd.bsz65 : Tryd.prog.bytesOf 65 = 64 := by kernel_rfl
@[go_sem] theorem Tryd.csz66 : Tryd.prog.cellsOf 66 = 10 := by kernel_rfl
@[go_sem] theorem Tryd.bsz66 : Tryd.prog.bytesOf 66 = 64 := by kernel_rfl
@[go_sem] theorem Tryd.csz67 : Tryd.prog.cellsOf 67 = 1 := by kernel_rfl
@[go_sem] theorem Tryd.bsz67 : Tryd.prog.bytesOf 67 = 0 := by kernel_rfl
@[go_sem] theorem Tryd.csz68 : Tryd.prog.cellsOf 68 = 1 := by kernel_rfl
@[go_sem] theorem Tryd.bsz68 : Tryd.prog.bytesOf 68 = 8 := by kernel_rfl
@[go_sem] theorem Tryd.csz69 : Tryd.prog.cellsOf 69 = 1 := by kernel_rfl
@[go_sem] theorem Tryd.bsz69 : Tryd.prog.bytesOf 69 = 8 := by kernel_rfl
@[go_sem] theorem Tryd.csz70 : Tryd.prog.cellsOf 70 = 1 := by kernel_rfl
@[go_sem] theorem Tryd.bsz70 : Tryd.prog.bytesOf 70 = 8 := by kernel_rfl
@[go_sem] theorem Tryd.csz71 : Tryd.prog.cellsOf 71 = 1 := by kernel_rfl
@[go_sem] theorem Tryd.bsz71 : Tryd.prog.bytesOf 71 = 8 := by kernel_rfl
@[go_sem] theorem Tryd.csz72 : Tryd.prog.cellsOf 72 = 1 := by kernel_rfl
@[go_sem] theorem Tryd.bsz72 : Tryd.prog.bytesOf 72 = 8 := by kernel_rfl
@[go_sem] theorem Tryd.csz73 : Tryd.prog.cellsOf 73 = 1 := by kernel_rfl
@[go_sem] theorem Tryd.bsz73 : Tryd.prog.bytesOf 73 = 8 := by kernel_rfl
@[go_sem] theorem Tryd.csz74 : Tryd.prog.cellsOf 74 = 1 := by kernel_rfl
@[go_sem] theorem Tryd.bsz74 : Tryd.prog.bytesOf 74 = 8 := by kernel_rfl
@[go_sem] theorem Tryd.csz75 : Tryd.prog.cellsOf 75 = 1 := by kernel_rfl
@[go_sem] theorem Tryd.bsz75 : Tryd.prog.bytesOf 75 = 8 := by kernel_rfl
@[go_sem] theorem Tryd.csz76 : Tryd.prog.cellsOf 76 = 1 := by kernel_rfl
@[go_sem] theorem Tryd.bsz76 : Tryd.prog.bytesOf 76 = 8 := by kernel_rfl
@[go_sem] theorem Tryd.csz77 : Tryd.prog.cellsOf 77 = 65 := by kernel_rfl
@[go_sem] theorem Tryd.bsz77 : Tryd.prog.bytesOf 77 = 65 := by kernel_rfl
@[go_sem] theorem Tryd.csz78 : Tryd.prog.cellsOf 78 = 1 := by kernel_rfl
@[go_sem] theorem Tryd.bsz78 : Tryd.prog.bytesOf 78 = 8 := by kernel_rfl
@[go_sem] theorem Tryd.csz79 : Tryd.prog.cellsOf 79 = 1 := by kernel_rfl
@[go_sem] theorem Tryd.bsz79 : Tryd.prog.bytesOf 79 = 8 := by kernel_rfl
@[go_sem] theorem Tryd.csz80 : Tryd.prog.cellsOf 80 = 1 := by kernel_rfl
@[go_sem] theorem Tryd.bsz80 : Tryd.prog.bytesOf 80 = 8 := by kernel_rfl
@[go_sem] theorem Tryd.csz81 : Tryd.prog.cellsOf 81 = 1 := by kernel_rfl
@[go_sem] theorem Tryd.bsz81 : Tryd.prog.bytesOf 81 = 0 := by kernel_rfl
@[go_sem] theorem Tryd.csz82 : Tryd.prog.cellsOf 82 = 1 := by kernel_rfl
@[go_sem] theorem Tryd.bsz82 : Tryd.prog.bytesOf 82 = 8 := by kernel_rfl
@[go_sem] theorem Tryd.csz83 : Tryd.prog.cellsOf 83 = 1 := by kernel_rfl
@[go_sem] theorem Tryd.bsz83 : Tryd.prog.bytesOf 83 = 8 := by kernel_rfl
@[go_sem] theorem Tryd.csz84 : Tryd.prog.cellsOf 84 = 16 := by kernel_rfl
@[go_sem] theorem Tryd.bsz84 : Tryd.prog.bytesOf 84 = 64 := by kernel_rfl
@[go_sem] theorem Tryd.csz85 : Tryd.prog.cellsOf 85 = 1 := by kernel_rfl
@[go_sem] theorem Tryd.bsz85 : Tryd.prog.bytesOf 85 = 8 := by kernel_rfl
@[go_sem] theorem Tryd.csz86 : Tryd.prog.cellsOf 86 = 1 := by kernel_rfl
@[go_sem] theorem Tryd.bsz86 : Tryd.prog.bytesOf 86 = 8 := by kernel_rfl
@[go_sem] theorem Tryd.csz87 : Tryd.prog.cellsOf 87 = 64 := by kernel_rfl
@[go_sem] theorem Tryd.bsz87 : Tryd.prog.bytesOf 87 = 256 := by kernel_rfl
@[go_sem] theorem Tryd.csz88 : Tryd.prog.cellsOf 88 = 1 := by kernel_rfl
@[go_sem] theorem Tryd.bsz88 : Tryd.prog.bytesOf 88 = 8 := by kernel_rfl
@[go_sem] theorem Tryd.csz89 : Tryd.prog.cellsOf 89 = 1 := by kernel_rfl
@[go_sem] theorem Tryd.bsz89 : Tryd.prog.bytesOf 89 = 8 := by kernel_rfl
@[go_sem] theorem Tryd.csz90 : Tryd.prog.cellsOf 90 = 1 := by kernel_rfl
@[go_sem] theorem Tryd.bsz90 : Tryd.prog.bytesOf 90 = 8 := by kernel_rfl
@[go_sem] theorem Tryd.csz91 : Tryd.prog.cellsOf 91 = 1 := by kernel_rfl
@[go_sem] theorem Tryd.bsz91 : Tryd.prog.bytesOf 91 = 8 := by kernel_rfl
@[go_sem] theorem Tryd.csz92 : Tryd.prog.cellsOf 92 = 1 := by kernel_rfl
@[go_sem] theorem Tryd.bsz92 : Tryd.prog.bytesOf 92 = 8 := by kernel_rfl
@[go_sem] theorem Tryd.csz93 : Tryd.prog.cellsOf 93 = 4 := by kernel_rfl
@[go_sem] theorem Tryd.bsz93 : Tryd.prog.bytesOf 93 = 40 := by kernel_rfl
@[go_sem] theorem Tryd.csz94 : Tryd.prog.cellsOf 94 = 4 := by kernel_rfl
@[go_sem] theorem Tryd.bsz94 : Tryd.prog.bytesOf 94 = 40 := by kernel_rfl
@[go_sem] theorem Tryd.csz95 : Tryd.prog.cellsOf 95 = 0 := by kernel_rfl
@[go_sem] theorem Tryd.bsz95 : Tryd.prog.bytesOf 95 = 0 := by kernel_rfl
@[go_sem] theorem Tryd.csz96 : Tryd.prog.cellsOf 96 = 0 := by kernel_rfl
@[go_sem] theorem Tryd.bsz96 : Tryd.prog.bytesOf 96 = 0 := by kernel_rfl
@[go_sem] theorem Tryd.csz97 : Tryd.prog.cellsOf 97 = 0 := by kernel_rfl
@[go_sem] theorem Tryd.bsz97 : Tryd.prog.bytesOf 97 = 0 := by kernel_rfl
@[go_sem] theorem Tryd.csz98 : Tryd.prog.cellsOf 98 = 1 := by kernel_rfl
@[go_sem] theorem Tryd.bsz98 : Tryd.prog.bytesOf 98 = 8 := by kernel_rfl
@[go_sem] theorem Tryd.csz99 : Tryd.prog.cellsOf 99 = 1 := by kernel_rfl
@[go_sem] theorem Tryd.bsz99 : Tryd.prog.bytesOf 99 = 1 := by kernel_rfl
@[go_sem] theorem Tryd.csz100 : Tryd.prog.cellsOf 100 = 1 := by kernel_rfl
@[go_sem] theorem Tryd.bsz100 : Tryd.prog.bytesOf 100 = 1 := by kernel_rfl
@[go_sem] theorem Tryd.csz101 : Tryd.prog.cellsOf 101 = 1 := by kernel_rfl
@[go_sem] theorem Tryd.bsz101 : Tryd.prog.bytesOf 101 = 8 := by kernel_rfl
@[go_sem] theorem Tryd.csz102 : Tryd.prog.cellsOf 102 = 1 := by kernel_rfl
@[go_sem] theorem Tryd.bsz102 : Tryd.prog.bytesOf 102 = 8 := by kernel_rfl
@[go_sem] theorem Tryd.csz103 : Tryd.prog.cellsOf 103 = 1 := by kernel_rfl
@[go_sem] theorem Tryd.bsz103 : Tryd.prog.bytesOf 103 = 4 := by kernel_rfl
@[go_sem] theorem Tryd.csz104 : Tryd.prog.cellsOf 104 = 1 := by kernel_rfl
@[go_sem] theorem Tryd.bsz104 : Tryd.prog.bytesOf 104 = 4 := by kernel_rfl
@[go_sem] theorem Tryd.csz105 : Tryd.prog.cellsOf 105 = 11 := by kernel_rfl
@[go_sem] theorem Tryd.bsz105 : Tryd.prog.bytesOf 105 = 48 := by kernel_rfl
@[go_sem] theorem Tryd.csz106 : Tryd.prog.cellsOf 106 = 11 := by kernel_rfl
@[go_sem] theorem Tryd.bsz106 : Tryd.prog.bytesOf 106 = 48 := by kernel_rfl
@[go_sem] theorem Tryd.csz107 : Tryd.prog.cellsOf 107 = 1 := by kernel_rfl
@[go_sem] theorem Tryd.bsz107 : Tryd.prog.bytesOf 107 = 8 := by kernel_rfl
attribute [go_sem] Tryd.underlying0 Tryd.underlying1 Tryd.underlying2 Tryd.underlying3 Tryd.underlying4 Tryd.underlying5 Tryd.underlying6 Tryd.underlying7 Tryd.underlying8 Tryd.underlying9 Tryd.underlying10 Tryd.underlying11 Tryd.underlying12 Tryd.underlying13 Tryd.underlying14 Tryd.underlying15 Tryd.underlying16 Tryd.underlying17 Tryd.underlying18 Tryd.underlying19 Tryd.underlying20 Tryd.underlying21 Tryd.underlying22 Tryd.underlying23 Tryd.underlying24 Tryd.underlying25 Tryd.underlying26 Tryd.underlying27 Tryd.underlying28 Tryd.underlying29 Tryd.underlying30 Tryd.underlying31 Tryd.underlying32 Tryd.underlying33 Tryd.underlying34 Tryd.underlying35 Tryd.underlying36 Tryd.underlying37 Tryd.underlying38 Tryd.underlying39 Tryd.underlying40 Tryd.underlying41 Tryd.underlying42 Tryd.underlying43 Tryd.underlying44 Tryd.underlying45 Tryd.underlying46 Tryd.underlying47 Tryd.underlying48 Tryd.underlying49 Tryd.underlying50 Tryd.underlying51 Tryd.underlying52 Tryd.underlying53 Tryd.underlying54 Tryd.underlying55 Tryd.underlying56 Tryd.underlying57 Tryd.underlying58 Tryd.underlying59 Tryd.underlying60 Tryd.underlying61 Tryd.underlying62 Tryd.underlying63 Tryd.underlying64 Tryd.underlying65 Tryd.underlying66 Tryd.underlying67 Tryd.underlying68 Tryd.underlying69 Tryd.underlying70 Tryd.underlying71 Tryd.underlying72 Tryd.underlying73 Tryd.underlying74 Tryd.underlying75 Tryd.underlying76 Tryd.underlying77 Tryd.underlying78 Tryd.underlying79 Tryd.underlying80 Tryd.underlying81 Tryd.underlying82 Tryd.underlying83 Tryd.underlying84 Tryd.underlying85 Tryd.underlying86 Tryd.underlying87 Tryd.underlying88 Tryd.underlying89 Tryd.underlying90 Tryd.underlying91 Tryd.underlying92 Tryd.underlying93 Tryd.underlying94 Tryd.underlying95 Tryd.underlying96 Tryd.underlying97 Tryd.underlying98 Tryd.underlying99 Tryd.underlying100 Tryd.underlying101 Tryd.underlying102 Tryd.underlying103 Tryd.underlying104 Tryd.underlying105 Tryd.underlying106 Tryd.underlying107
@[go_sem] theorem Tryd.zc1 : zeroC Tryd.prog 1 = [AV.v .nilFunc] := by kernel_rfl
@[go_sem] theorem Tryd.zok1 : zeroOk Tryd.prog 1 = true := by kernel_rfl
@[go_sem] theorem Tryd.zin1 : zinfo Tryd.prog 1 = true := by kernel_rfl
@[go_sem] theorem Tryd.zc2 : zeroC Tryd.prog 2 = [int 0] := by kernel_rfl
@[go_sem] theorem Tryd.zok2 : zeroOk Tryd.prog 2 = true := by kernel_rfl
@[go_sem] theorem Tryd.zin2 : zinfo Tryd.prog 2 = true := by kernel_rfl
@[go_sem] theorem Tryd.kind2 : kindOf Tryd.prog 2 = some .i64 := by kernel_rfl
@[go_sem] theorem Tryd.zc3 : zeroC Tryd.prog 3 = [int 0] := by kernel_rfl
@[go_sem] theorem Tryd.zok3 : zeroOk Tryd.prog 3 = true := by kernel_rfl
@[go_sem] theorem Tryd.zin3 : zinfo Tryd.prog 3 = true := by kernel_rfl
@[go_sem] theorem Tryd.kind3 : kindOf Tryd.prog 3 = some .i64 := by kernel_rfl
@[go_sem] theorem Tryd.zc4 : zeroC Tryd.prog 4 = [boo false] := by kernel_rfl
@[go_sem] theorem Tryd.zok4 : zeroOk Tryd.prog 4 = true := by kernel_rfl
@[go_sem] theorem Tryd.zin4 : zinfo Tryd.prog 4 = true := by kernel_rfl
@[go_sem] theorem Tryd.zc5 : zeroC Tryd.prog 5 = [u8 0] := by kernel_rfl
@[go_sem] theorem Tryd.zok5 : zeroOk Tryd.prog 5 = true := by kernel_rfl
@[go_sem] theorem Tryd.zin5 : zinfo Tryd.prog 5 = true := by kernel_rfl
@[go_sem] theorem Tryd.kind5 : kindOf Tryd.prog 5 = some .u8 := by kernel_rfl
@[go_sem] theorem Tryd.zc6 : zeroC Tryd.prog 6 = [u8 0] := by kernel_rfl
@[go_sem] theorem Tryd.zok6 : zeroOk Tryd.prog 6 = true := by kernel_rfl
@[go_sem] theorem Tryd.zin6 : zinfo Tryd.prog 6 = true := by kernel_rfl
@[go_sem] theorem Tryd.kind6 : kindOf Tryd.prog 6 = some .u8 := by kernel_rfl
@[go_sem] theorem Tryd.zc7 : zeroC Tryd.prog 7 = List.replicate 2 (int 0) ++ [boo false] ++ [u8 0] := by kernel_rfl
@[go_sem] theorem Tryd.zok7 : zeroOk Tryd.prog 7 = true := by kernel_rfl
@[go_sem] theorem Tryd.zin7 : zinfo Tryd.prog 7 = true := by kernel_rfl
@[go_sem] theorem Tryd.szok7 : sizedOk Tryd.prog 7 = true := by kernel_rfl
@[go_sem] theorem Tryd.fld7_0 : fldOf Tryd.prog 7 0 = some (0, 2) := by kernel_rfl
@[go_sem] theorem Tryd.plc7_0 : placeOf Tryd.prog 7 0 = some (0, 1) := by kernel_rfl
@[go_sem] theorem Tryd.fld7_1 : fldOf Tryd.prog 7 1 = some (1, 3) := by kernel_rfl
@[go_sem] theorem Tryd.plc7_1 : placeOf Tryd.prog 7 1 = some (1, 1) := by kernel_rfl
@[go_sem] theorem Tryd.fld7_2 : fldOf Tryd.prog 7 2 = some (2, 4) := by kernel_rfl
@[go_sem] theorem Tryd.plc7_2 : placeOf Tryd.prog 7 2 = some (2, 1) := by kernel_rfl
@[go_sem] theorem Tryd.fld7_3 : fldOf Tryd.prog 7 3 = some (3, 6) := by kernel_rfl
@[go_sem] theorem Tryd.plc7_3 : placeOf Tryd.prog 7 3 = some (3, 1) := by kernel_rfl
@[go_sem] theorem Tryd.zc8 : zeroC Tryd.prog 8 = List.replicate 2 (int 0) ++ [boo false] ++ [u8 0] := by kernel_rfl
@[go_sem] theorem Tryd.zok8 : zeroOk Tryd.prog 8 = true := by kernel_rfl
@[go_sem] theorem Tryd.zin8 : zinfo Tryd.prog 8 = true := by kernel_rfl
@[go_sem] theorem Tryd.szok8 : sizedOk Tryd.prog 8 = true := by kernel_rfl
@[go_sem] theorem Tryd.fld8_0 : fldOf Tryd.prog 8 0 = some (0, 2) := by kernel_rfl
@[go_sem] theorem Tryd.plc8_0 : placeOf Tryd.prog 8 0 = some (0, 1) := by kernel_rfl
@[go_sem] theorem Tryd.fld8_1 : fldOf Tryd.prog 8 1 = some (1, 3) := by kernel_rfl
@[go_sem] theorem Tryd.plc8_1 : placeOf Tryd.prog 8 1 = some (1, 1) := by kernel_rfl
@[go_sem] theorem Tryd.fld8_2 : fldOf Tryd.prog 8 2 = some (2, 4) := by kernel_rfl
@[go_sem] theorem Tryd.plc8_2 : placeOf Tryd.prog 8 2 = some (2, 1) := by kernel_rfl
@[go_sem] theorem Tryd.fld8_3 : fldOf Tryd.prog 8 3 = some (3, 6) := by kernel_rfl
@[go_sem] theorem Tryd.plc8_3 : placeOf Tryd.prog 8 3 = some (3, 1) := by kernel_rfl
@[go_sem] theorem Tryd.zc9 : zeroC Tryd.prog 9 = [AV.v (.string .empty)] := by kernel_rfl
@[go_sem] theorem Tryd.zok9 : zeroOk Tryd.prog 9 = true := by kernel_rfl
@[go_sem] theorem Tryd.zin9 : zinfo Tryd.prog 9 = true := by kernel_rfl
@[go_sem] theorem Tryd.txok9 : txOk Tryd.prog 9 = true := by kernel_rfl
@[go_sem] theorem Tryd.zc10 : zeroC Tryd.prog 10 = [AV.v (.string .empty)] := by kernel_rfl
@[go_sem] theorem Tryd.zok10 : zeroOk Tryd.prog 10 = true := by kernel_rfl
@[go_sem] theorem Tryd.zin10 : zinfo Tryd.prog 10 = true := by kernel_rfl
@[go_sem] theorem Tryd.txok10 : txOk Tryd.prog 10 = true := by kernel_rfl
@[go_sem] theorem Tryd.zc11 : zeroC Tryd.prog 11 = [AV.v (.string .empty)] := by kernel_rfl
@[go_sem] theorem Tryd.zok11 : zeroOk Tryd.prog 11 = true := by kernel_rfl
@[go_sem] theorem Tryd.zin11 : zinfo Tryd.prog 11 = true := by kernel_rfl
@[go_sem] theorem Tryd.txok11 : txOk Tryd.prog 11 = true := by kernel_rfl
@[go_sem] theorem Tryd.zc12 : zeroC Tryd.prog 12 = [u64 0] := by kernel_rfl
@[go_sem] theorem Tryd.zok12 : zeroOk Tryd.prog 12 = true := by kernel_rfl
@[go_sem] theorem Tryd.zin12 : zinfo Tryd.prog 12 = true := by kernel_rfl
@[go_sem] theorem Tryd.kind12 : kindOf Tryd.prog 12 = some .u64 := by kernel_rfl
@[go_sem] theorem Tryd.zc13 : zeroC Tryd.prog 13 = [AV.v (.string .empty)] ++ [u64 0] := by kernel_rfl
@[go_sem] theorem Tryd.zok13 : zeroOk Tryd.prog 13 = true := by kernel_rfl
@[go_sem] theorem Tryd.zin13 : zinfo Tryd.prog 13 = true := by kernel_rfl
@[go_sem] theorem Tryd.szok13 : sizedOk Tryd.prog 13 = true := by kernel_rfl
@[go_sem] theorem Tryd.fld13_0 : fldOf Tryd.prog 13 0 = some (0, 9) := by kernel_rfl
@[go_sem] theorem Tryd.plc13_0 : placeOf Tryd.prog 13 0 = some (0, 1) := by kernel_rfl
@[go_sem] theorem Tryd.fld13_1 : fldOf Tryd.prog 13 1 = some (1, 12) := by kernel_rfl
@[go_sem] theorem Tryd.plc13_1 : placeOf Tryd.prog 13 1 = some (1, 1) := by kernel_rfl
@[go_sem] theorem Tryd.zc14 : zeroC Tryd.prog 14 = [AV.v (.string .empty)] ++ [u64 0] := by kernel_rfl
@[go_sem] theorem Tryd.zok14 : zeroOk Tryd.prog 14 = true := by kernel_rfl
@[go_sem] theorem Tryd.zin14 : zinfo Tryd.prog 14 = true := by kernel_rfl
@[go_sem] theorem Tryd.szok14 : sizedOk Tryd.prog 14 = true := by kernel_rfl
@[go_sem] theorem Tryd.fld14_0 : fldOf Tryd.prog 14 0 = some (0, 9) := by kernel_rfl
@[go_sem] theorem Tryd.plc14_0 : placeOf Tryd.prog 14 0 = some (0, 1) := by kernel_rfl
@[go_sem] theorem Tryd.fld14_1 : fldOf Tryd.prog 14 1 = some (1, 12) := by kernel_rfl
@[go_sem] theorem Tryd.plc14_1 : placeOf Tryd.prog 14 1 = some (1, 1) := by kernel_rfl
@[go_sem] theorem Tryd.zc15 : zeroC Tryd.prog 15 = [AV.v (.pointer none)] := by kernel_rfl
@[go_sem] theorem Tryd.zok15 : zeroOk Tryd.prog 15 = true := by kernel_rfl
@[go_sem] theorem Tryd.zin15 : zinfo Tryd.prog 15 = true := by kernel_rfl
@[go_sem] theorem Tryd.zc16 : zeroC Tryd.prog 16 = [AV.v (.pointer none)] := by kernel_rfl
@[go_sem] theorem Tryd.zok16 : zeroOk Tryd.prog 16 = true := by kernel_rfl
@[go_sem] theorem Tryd.zin16 : zinfo Tryd.prog 16 = true := by kernel_rfl
@[go_sem] theorem Tryd.zc17 : zeroC Tryd.prog 17 = [AV.v (.pointer none)] := by kernel_rfl
@[go_sem] theorem Tryd.zok17 : zeroOk Tryd.prog 17 = true := by kernel_rfl
@[go_sem] theorem Tryd.zin17 : zinfo Tryd.prog 17 = true := by kernel_rfl
@[go_sem] theorem Tryd.zc18 : zeroC Tryd.prog 18 = [AV.v (.pointer none)] := by kernel_rfl
@[go_sem] theorem Tryd.zok18 : zeroOk Tryd.prog 18 = true := by kernel_rfl
@[go_sem] theorem Tryd.zin18 : zinfo Tryd.prog 18 = true := by kernel_rfl
@[go_sem] theorem Tryd.szok18 : sizedOk Tryd.prog 18 = true := by kernel_rfl
@[go_sem] theorem Tryd.fld18_0 : fldOf Tryd.prog 18 0 = some (0, 17) := by kernel_rfl
@[go_sem] theorem Tryd.plc18_0 : placeOf Tryd.prog 18 0 = some (0, 1) := by kernel_rfl
@[go_sem] theorem Tryd.zc19 : zeroC Tryd.prog 19 = [AV.v (.pointer none)] := by kernel_rfl
@[go_sem] theorem Tryd.zok19 : zeroOk Tryd.prog 19 = true := by kernel_rfl
@[go_sem] theorem Tryd.zin19 : zinfo Tryd.prog 19 = true := by kernel_rfl
@[go_sem] theorem Tryd.szok19 : sizedOk Tryd.prog 19 = true := by kernel_rfl
@[go_sem] theorem Tryd.fld19_0 : fldOf Tryd.prog 19 0 = some (0, 17) := by kernel_rfl
@[go_sem] theorem Tryd.plc19_0 : placeOf Tryd.prog 19 0 = some (0, 1) := by kernel_rfl
@[go_sem] theorem Tryd.zc20 : zeroC Tryd.prog 20 = [AV.v .nilIface] := by kernel_rfl
@[go_sem] theorem Tryd.zok20 : zeroOk Tryd.prog 20 = true := by kernel_rfl
@[go_sem] theorem Tryd.zin20 : zinfo Tryd.prog 20 = true := by kernel_rfl
@[go_sem] theorem Tryd.zc21 : zeroC Tryd.prog 21 = [AV.v (.int .i32 (0))] := by kernel_rfl
@[go_sem] theorem Tryd.zok21 : zeroOk Tryd.prog 21 = true := by kernel_rfl
@[go_sem] theorem Tryd.zin21 : zinfo Tryd.prog 21 = true := by kernel_rfl
@[go_sem] theorem Tryd.kind21 : kindOf Tryd.prog 21 = some .i32 := by kernel_rfl
@[go_sem] theorem Tryd.zc22 : zeroC Tryd.prog 22 = [nilS] := by kernel_rfl
@[go_sem] theorem Tryd.zok22 : zeroOk Tryd.prog 22 = true := by kernel_rfl
@[go_sem] theorem Tryd.zin22 : zinfo Tryd.prog 22 = true := by kernel_rfl
@[go_sem] theorem Tryd.txok22 : txOk Tryd.prog 22 = true := by kernel_rfl
@[go_sem] theorem Tryd.zc23 : zeroC Tryd.prog 23 = List.replicate 32 (u8 0) := by kernel_rfl
@[go_sem] theorem Tryd.zok23 : zeroOk Tryd.prog 23 = true := by kernel_rfl
@[go_sem] theorem Tryd.zin23 : zinfo Tryd.prog 23 = true := by kernel_rfl
@[go_sem] theorem Tryd.szok23 : sizedOk Tryd.prog 23 = true := by kernel_rfl
@[go_sem] theorem Tryd.eqg23 : Tryd.prog.eqGuardType Tryd.prog.depth 23 = false := by kernel_rfl
@[go_sem] theorem Tryd.plc23 (i : Nat) : placeOf Tryd.prog 23 i = some (i * 1, 1) := by unfold placeOf; rw [Tryd.underlying23]; simp only [Tryd.csz5]
@[go_sem] theorem Tryd.zc24 : zeroC Tryd.prog 24 = [AV.v .nilFunc] := by kernel_rfl
@[go_sem] theorem Tryd.zok24 : zeroOk Tryd.prog 24 = true := by kernel_rfl
@[go_sem] theorem Tryd.zin24 : zinfo Tryd.prog 24 = true := by kernel_rfl
@[go_sem] theorem Tryd.zc25 : zeroC Tryd.prog 25 = [int 0] := by kernel_rfl
@[go_sem] theorem Tryd.zok25 : zeroOk Tryd.prog 25 = true := by kernel_rfl
@[go_sem] theorem Tryd.zin25 : zinfo Tryd.prog 25 = true := by kernel_rfl
@[go_sem] theorem Tryd.kind25 : kindOf Tryd.prog 25 = some .i64 := by kernel_rfl
@[go_sem] theorem Tryd.zc27 : zeroC Tryd.prog 27 = [AV.v .nilFunc] := by kernel_rfl
@[go_sem] theorem Tryd.zok27 : zeroOk Tryd.prog 27 = true := by kernel_rfl
@[go_sem] theorem Tryd.zin27 : zinfo Tryd.prog 27 = true := by kernel_rfl
@[go_sem] theorem Tryd.zc28 : zeroC Tryd.prog 28 = [AV.v .nilFunc] := by kernel_rfl
@[go_sem] theorem Tryd.zok28 : zeroOk Tryd.prog 28 = true := by kernel_rfl
@[go_sem] theorem Tryd.zin28 : zinfo Tryd.prog 28 = true := by kernel_rfl
@[go_sem] theorem Tryd.zc30 : zeroC Tryd.prog 30 = [AV.v .nilFunc] := by kernel_rfl
@[go_sem] theorem Tryd.zok30 : zeroOk Tryd.prog 30 = true := by kernel_rfl
@[go_sem] theorem Tryd.zin30 : zinfo Tryd.prog 30 = true := by kernel_rfl
@[go_sem] theorem Tryd.zc31 : zeroC Tryd.prog 31 = [AV.v .nilFunc] := by kernel_rfl
@[go_sem] theorem Tryd.zok31 : zeroOk Tryd.prog 31 = true := by kernel_rfl
@[go_sem] theorem Tryd.zin31 : zinfo Tryd.prog 31 = true := by kernel_rfl
@[go_sem] theorem Tryd.zc32 : zeroC Tryd.prog 32 = [AV.v .nilFunc] := by kernel_rfl
@[go_sem] theorem Tryd.zok32 : zeroOk Tryd.prog 32 = true := by kernel_rfl
@[go_sem] theorem Tryd.zin32 : zinfo Tryd.prog 32 = true := by kernel_rfl
@[go_sem] theorem Tryd.zc33 : zeroC Tryd.prog 33 = [AV.v .nilFunc] := by kernel_rfl
@[go_sem] theorem Tryd.zok33 : zeroOk Tryd.prog 33 = true := by kernel_rfl
@[go_sem] theorem Tryd.zin33 : zinfo Tryd.prog 33 = true := by kernel_rfl
@[go_sem] theorem Tryd.zc35 : zeroC Tryd.prog 35 = [AV.v .nilFunc] := by kernel_rfl
@[go_sem] theorem Tryd.zok35 : zeroOk Tryd.prog 35 = true := by kernel_rfl
@[go_sem] theorem Tryd.zin35 : zinfo Tryd.prog 35 = true := by kernel_rfl
@[go_sem] theorem Tryd.zc36 : zeroC Tryd.prog 36 = [AV.v .nilFunc] := by kernel_rfl
@[go_sem] theorem Tryd.zok36 : zeroOk Tryd.prog 36 = true := by kernel_rfl
@[go_sem] theorem Tryd.zin36 : zinfo Tryd.prog 36 = true := by kernel_rfl
@[go_sem] theorem Tryd.zc37 : zeroC Tryd.prog 37 = List.replicate 64 (u8 0) := by kernel_rfl
@[go_sem] theorem Tryd.zok37 : zeroOk Tryd.prog 37 = true := by kernel_rfl
@[go_sem] theorem Tryd.zin37 : zinfo Tryd.prog 37 = true := by kernel_rfl
@[go_sem] theorem Tryd.szok37 : sizedOk Tryd.prog 37 = true := by kernel_rfl
@[go_sem] theorem Tryd.eqg37 : Tryd.prog.eqGuardType Tryd.prog.depth 37 = false := by kernel_rfl
@[go_sem] theorem Tryd.dpt37 : deepT Tryd.prog 37 = true := by kernel_rfl
@[go_sem] theorem Tryd.fld37_0 : fldOf Tryd.prog 37 0 = some (0, 23) := by kernel_rfl
@[go_sem] theorem Tryd.plc37_0 : placeOf Tryd.prog 37 0 = some (0, 32) := by kernel_rfl
@[go_sem] theorem Tryd.fld37_1 : fldOf Tryd.prog 37 1 = some (32, 23) := by kernel_rfl
@[go_sem] theorem Tryd.plc37_1 : placeOf Tryd.prog 37 1 = some (32, 32) := by kernel_rfl
@[go_sem] theorem Tryd.zc38 : zeroC Tryd.prog 38 = List.replicate 64 (u8 0) := by kernel_rfl
@[go_sem] theorem Tryd.zok38 : zeroOk Tryd.prog 38 = true := by kernel_rfl
@[go_sem] theorem Tryd.zin38 : zinfo Tryd.prog 38 = true := by kernel_rfl
@[go_sem] theorem Tryd.szok38 : sizedOk Tryd.prog 38 = true := by kernel_rfl
@[go_sem] theorem Tryd.eqg38 : Tryd.prog.eqGuardType Tryd.prog.depth 38 = false := by kernel_rfl
@[go_sem] theorem Tryd.dpt38 : deepT Tryd.prog 38 = true := by kernel_rfl
@[go_sem] theorem Tryd.fld38_0 : fldOf Tryd.prog 38 0 = some (0, 23) := by kernel_rfl
@[go_sem] theorem Tryd.plc38_0 : placeOf Tryd.prog 38 0 = some (0, 32) := by kernel_rfl
@[go_sem] theorem Tryd.fld38_1 : fldOf Tryd.prog 38 1 = some (32, 23) := by kernel_rfl
@[go_sem] theorem Tryd.plc38_1 : placeOf Tryd.prog 38 1 = some (32, 32) := by kernel_rfl
@[go_sem] theorem Tryd.zc39 : zeroC Tryd.prog 39 = [AV.v .nilFunc] := by kernel_rfl
@[go_sem] theorem Tryd.zok39 : zeroOk Tryd.prog 39 = true := by kernel_rfl
@[go_sem] theorem Tryd.zin39 : zinfo Tryd.prog 39 = true := by kernel_rfl
@[go_sem] theorem Tryd.zc40 : zeroC Tryd.prog 40 = [AV.v .nilFunc] := by kernel_rfl
@[go_sem] theorem Tryd.zok40 : zeroOk Tryd.prog 40 = true := by kernel_rfl
@[go_sem] theorem Tryd.zin40 : zinfo Tryd.prog 40 = true := by kernel_rfl
@[go_sem] theorem Tryd.zc41 : zeroC Tryd.prog 41 = [AV.v .nilFunc] := by kernel_rfl
@[go_sem] theorem Tryd.zok41 : zeroOk Tryd.prog 41 = true := by kernel_rfl
@[go_sem] theorem Tryd.zin41 : zinfo Tryd.prog 41 = true := by kernel_rfl
@[go_sem] theorem Tryd.zc42 : zeroC Tryd.prog 42 = [AV.v .nilFunc] := by kernel_rfl
@[go_sem] theorem Tryd.zok42 : zeroOk Tryd.prog 42 = true := by kernel_rfl
@[go_sem] theorem Tryd.zin42 : zinfo Tryd.prog 42 = true := by kernel_rfl
@[go_sem] theorem Tryd.zc43 : zeroC Tryd.prog 43 = [AV.v .nilFunc] := by kernel_rfl
@[go_sem] theorem Tryd.zok43 : zeroOk Tryd.prog 43 = true := by kernel_rfl
@[go_sem] theorem Tryd.zin43 : zinfo Tryd.prog 43 = true := by kernel_rfl
@[go_sem] theorem Tryd.zc44 : zeroC Tryd.prog 44 = [AV.v .nilFunc] := by kernel_rfl
@[go_sem] theorem Tryd.zok44 : zeroOk Tryd.prog 44 = true := by kernel_rfl
@[go_sem] theorem Tryd.zin44 : zinfo Tryd.prog 44 = true := by kernel_rfl
@[go_sem] theorem Tryd.zc45 : zeroC Tryd.prog 45 = [AV.v .nilFunc] := by kernel_rfl
@[go_sem] theorem Tryd.zok45 : zeroOk Tryd.prog 45 = true := by kernel_rfl
@[go_sem] theorem Tryd.zin45 : zinfo Tryd.prog 45 = true := by kernel_rfl
@[go_sem] theorem Tryd.zc46 : zeroC Tryd.prog 46 = [AV.v .nilFunc] := by kernel_rfl
@[go_sem] theorem Tryd.zok46 : zeroOk Tryd.prog 46 = true := by kernel_rfl
@[go_sem] theorem Tryd.zin46 : zinfo Tryd.prog 46 = true := by kernel_rfl
@[go_sem] theorem Tryd.zc47 : zeroC Tryd.prog 47 = [AV.v .nilFunc] := by kernel_rfl
@[go_sem] theorem Tryd.zok47 : zeroOk Tryd.prog 47 = true := by kernel_rfl
@[go_sem] theorem Tryd.zin47 : zinfo Tryd.prog 47 = true := by kernel_rfl
@[go_sem] theorem Tryd.zc48 : zeroC Tryd.prog 48 = [nilS] := by kernel_rfl
@[go_sem] theorem Tryd.zok48 : zeroOk Tryd.prog 48 = true := by kernel_rfl
@[go_sem] theorem Tryd.zin48 : zinfo Tryd.prog 48 = true := by kernel_rfl
@[go_sem] theorem Tryd.txok48 : txOk Tryd.prog 48 = true := by kernel_rfl
@[go_sem] theorem Tryd.zc49 : zeroC Tryd.prog 49 = [AV.v .nilFunc] := by kernel_rfl
@[go_sem] theorem Tryd.zok49 : zeroOk Tryd.prog 49 = true := by kernel_rfl
@[go_sem] theorem Tryd.zin49 : zinfo Tryd.prog 49 = true := by kernel_rfl
@[go_sem] theorem Tryd.zc51 : zeroC Tryd.prog 51 = [AV.v .nilFunc] := by kernel_rfl
@[go_sem] theorem Tryd.zok51 : zeroOk Tryd.prog 51 = true := by kernel_rfl
@[go_sem] theorem Tryd.zin51 : zinfo Tryd.prog 51 = true := by kernel_rfl
@[go_sem] theorem Tryd.zc52 : zeroC Tryd.prog 52 = [AV.v .nilFunc] := by kernel_rfl
@[go_sem] theorem Tryd.zok52 : zeroOk Tryd.prog 52 = true := by kernel_rfl
@[go_sem] theorem Tryd.zin52 : zinfo Tryd.prog 52 = true := by kernel_rfl
@[go_sem] theorem Tryd.zc53 : zeroC Tryd.prog 53 = [AV.v .nilFunc] := by kernel_rfl
@[go_sem] theorem Tryd.zok53 : zeroOk Tryd.prog 53 = true := by kernel_rfl
@[go_sem] theorem Tryd.zin53 : zinfo Tryd.prog 53 = true := by kernel_rfl
@[go_sem] theorem Tryd.zc54 : zeroC Tryd.prog 54 = [AV.v .nilFunc] := by kernel_rfl
@[go_sem] theorem Tryd.zok54 : zeroOk Tryd.prog 54 = true := by kernel_rfl
@[go_sem] theorem Tryd.zin54 : zinfo Tryd.prog 54 = true := by kernel_rfl
@[go_sem] theorem Tryd.zc55 : zeroC Tryd.prog 55 = [AV.v .nilFunc] := by kernel_rfl
@[go_sem] theorem Tryd.zok55 : zeroOk Tryd.prog 55 = true := by kernel_rfl
@[go_sem] theorem Tryd.zin55 : zinfo Tryd.prog 55 = true := by kernel_rfl
@[go_sem] theorem Tryd.zc56 : zeroC Tryd.prog 56 = [AV.v .nilFunc] := by kernel_rfl
@[go_sem] theorem Tryd.zok56 : zeroOk Tryd.prog 56 = true := by kernel_rfl
@[go_sem] theorem Tryd.zin56 : zinfo Tryd.prog 56 = true := by kernel_rfl
def isZ8 : AV → Bool
  | .v (.int .u8 0) => true
  | _ => false
def chkZ : List AV → Nat → Bool
  | [], 0 => true
  | x :: xs, n + 1 => isZ8 x && chkZ xs n
  | _, _ => false
theorem chkZ_eq : ∀ (l : List AV) (n : Nat), chkZ l n = true → l = List.replicate n (u8 0)
  | [], 0, _ => rfl
  | x :: xs, n + 1, h => by
    simp only [chkZ, Bool.and_eq_true] at h
    have hx : x = u8 0 := by
      have h1 := h.1
      unfold isZ8 at h1
      split at h1
      · rfl
      · cases h1
    rw [List.replicate_succ, ← chkZ_eq xs n h.2, hx]
  | [], n + 1, h => by simp [chkZ] at h
  | x :: xs, 0, h => by simp [chkZ] at h
@[go_sem] theorem Tryd.zc57 : zeroC Tryd.prog 57 = List.replicate 8224 (u8 0) := chkZ_eq _ _ (by kernel_rfl)
@[go_sem] theorem Tryd.zok57 : zeroOk Tryd.prog 57 = true := by kernel_rfl
@[go_sem] theorem Tryd.zin57 : zinfo Tryd.prog 57 = true := by kernel_rfl
@[go_sem] theorem Tryd.szok57 : sizedOk Tryd.prog 57 = true := by kernel_rfl
@[go_sem] theorem Tryd.eqg57 : Tryd.prog.eqGuardType Tryd.prog.depth 57 = false := by kernel_rfl
@[go_sem] theorem Tryd.dpt57 : deepT Tryd.prog 57 = true := by kernel_rfl
@[go_sem] theorem Tryd.plc57 (i : Nat) : placeOf Tryd.prog 57 i = some (i * 32, 32) := by unfold placeOf; rw [Tryd.underlying57]; simp only [Tryd.csz23]
@[go_sem] theorem Tryd.zc58 : zeroC Tryd.prog 58 = [AV.v .nilFunc] := by kernel_rfl
@[go_sem] theorem Tryd.zok58 : zeroOk Tryd.prog 58 = true := by kernel_rfl
@[go_sem] theorem Tryd.zin58 : zinfo Tryd.prog 58 = true := by kernel_rfl
@[go_sem] theorem Tryd.zc59 : zeroC Tryd.prog 59 = [AV.v .nilFunc] := by kernel_rfl
@[go_sem] theorem Tryd.zok59 : zeroOk Tryd.prog 59 = true := by kernel_rfl
@[go_sem] theorem Tryd.zin59 : zinfo Tryd.prog 59 = true := by kernel_rfl
@[go_sem] theorem Tryd.zc60 : zeroC Tryd.prog 60 = [AV.v .nilFunc] := by kernel_rfl
@[go_sem] theorem Tryd.zok60 : zeroOk Tryd.prog 60 = true := by kernel_rfl
@[go_sem] theorem Tryd.zin60 : zinfo Tryd.prog 60 = true := by kernel_rfl
@[go_sem] theorem Tryd.zc61 : zeroC Tryd.prog 61 = [AV.v .nilFunc] := by kernel_rfl
@[go_sem] theorem Tryd.zok61 : zeroOk Tryd.prog 61 = true := by kernel_rfl
@[go_sem] theorem Tryd.zin61 : zinfo Tryd.prog 61 = true := by kernel_rfl
@[go_sem] theorem Tryd.zc62 : zeroC Tryd.prog 62 = [u32 0] := by kernel_rfl
@[go_sem] theorem Tryd.zok62 : zeroOk Tryd.prog 62 = true := by kernel_rfl
@[go_sem] theorem Tryd.zin62 : zinfo Tryd.prog 62 = true := by kernel_rfl
@[go_sem] theorem Tryd.kind62 : kindOf Tryd.prog 62 = some .u32 := by kernel_rfl
@[go_sem] theorem Tryd.zc63 : zeroC Tryd.prog 63 = List.replicate 8 (u32 0) := by kernel_rfl
@[go_sem] theorem Tryd.zok63 : zeroOk Tryd.prog 63 = true := by kernel_rfl
@[go_sem] theorem Tryd.zin63 : zinfo Tryd.prog 63 = true := by kernel_rfl
@[go_sem] theorem Tryd.szok63 : sizedOk Tryd.prog 63 = true := by kernel_rfl
@[go_sem] theorem Tryd.eqg63 : Tryd.prog.eqGuardType Tryd.prog.depth 63 = false := by kernel_rfl
@[go_sem] theorem Tryd.plc63 (i : Nat) : placeOf Tryd.prog 63 i = some (i * 1, 1) := by unfold placeOf; rw [Tryd.underlying63]; simp only [Tryd.csz62]
@[go_sem] theorem Tryd.zc64 : zeroC Tryd.prog 64 = [u64 0] := by kernel_rfl
@[go_sem] theorem Tryd.zok64 : zeroOk Tryd.prog 64 = true := by kernel_rfl
@[go_sem] theorem Tryd.zin64 : zinfo Tryd.prog 64 = true := by kernel_rfl
@[go_sem] theorem Tryd.kind64 : kindOf Tryd.prog 64 = some .u64 := by kernel_rfl
@[go_sem] theorem Tryd.zc65 : zeroC Tryd.prog 65 = List.replicate 8 (u32 0) ++ [nilS] ++ [u64 0] := by kernel_rfl
@[go_sem] theorem Tryd.zok65 : zeroOk Tryd.prog 65 = true := by kernel_rfl
@[go_sem] theorem Tryd.zin65 : zinfo Tryd.prog 65 = true := by kernel_rfl
@[go_sem] theorem Tryd.szok65 : sizedOk Tryd.prog 65 = true := by kernel_rfl
@[go_sem] theorem Tryd.fld65_0 : fldOf Tryd.prog 65 0 = some (0, 63) := by kernel_rfl
@[go_sem] theorem Tryd.plc65_0 : placeOf Tryd.prog 65 0 = some (0, 8) := by kernel_rfl
@[go_sem] theorem Tryd.fld65_1 : fldOf Tryd.prog 65 1 = some (8, 48) := by kernel_rfl
@[go_sem] theorem Tryd.plc65_1 : placeOf Tryd.prog 65 1 = some (8, 1) := by kernel_rfl
@[go_sem] theorem Tryd.fld65_2 : fldOf Tryd.prog 65 2 = some (9, 64) := by kernel_rfl
@[go_sem] theorem Tryd.plc65_2 : placeOf Tryd.prog 65 2 = some (9, 1) := by kernel_rfl
@[go_sem] theorem Tryd.zc66 : zeroC Tryd.prog 66 = List.replicate 8 (u32 0) ++ [nilS] ++ [u64 0] := by kernel_rfl
@[go_sem] theorem Tryd.zok66 : zeroOk Tryd.prog 66 = true := by kernel_rfl
@[go_sem] theorem Tryd.zin66 : zinfo Tryd.prog 66 = true := by kernel_rfl
@[go_sem] theorem Tryd.szok66 : sizedOk Tryd.prog 66 = true := by kernel_rfl
@[go_sem] theorem Tryd.fld66_0 : fldOf Tryd.prog 66 0 = some (0, 63) := by kernel_rfl
@[go_sem] theorem Tryd.plc66_0 : placeOf Tryd.prog 66 0 = some (0, 8) := by kernel_rfl
@[go_sem] theorem Tryd.fld66_1 : fldOf Tryd.prog 66 1 = some (8, 48) := by kernel_rfl
@[go_sem] theorem Tryd.plc66_1 : placeOf Tryd.prog 66 1 = some (8, 1) := by kernel_rfl
@[go_sem] theorem Tryd.fld66_2 : fldOf Tryd.prog 66 2 = some (9, 64) := by kernel_rfl
@[go_sem] theorem Tryd.plc66_2 : placeOf Tryd.prog 66 2 = some (9, 1) := by kernel_rfl
@[go_sem] theorem Tryd.zc68 : zeroC Tryd.prog 68 = [AV.v .nilFunc] := by kernel_rfl
@[go_sem] theorem Tryd.zok68 : zeroOk Tryd.prog 68 = true := by kernel_rfl
@[go_sem] theorem Tryd.zin68 : zinfo Tryd.prog 68 = true := by kernel_rfl
@[go_sem] theorem Tryd.zc69 : zeroC Tryd.prog 69 = [AV.v .nilFunc] := by kernel_rfl
@[go_sem] theorem Tryd.zok69 : zeroOk Tryd.prog 69 = true := by kernel_rfl
@[go_sem] theorem Tryd.zin69 : zinfo Tryd.prog 69 = true := by kernel_rfl
@[go_sem] theorem Tryd.zc70 : zeroC Tryd.prog 70 = [AV.v .nilFunc] := by kernel_rfl
@[go_sem] theorem Tryd.zok70 : zeroOk Tryd.prog 70 = true := by kernel_rfl
@[go_sem] theorem Tryd.zin70 : zinfo Tryd.prog 70 = true := by kernel_rfl
@[go_sem] theorem Tryd.zc71 : zeroC Tryd.prog 71 = [u64 0] := by kernel_rfl
@[go_sem] theorem Tryd.zok71 : zeroOk Tryd.prog 71 = true := by kernel_rfl
@[go_sem] theorem Tryd.zin71 : zinfo Tryd.prog 71 = true := by kernel_rfl
@[go_sem] theorem Tryd.kind71 : kindOf Tryd.prog 71 = some .u64 := by kernel_rfl
@[go_sem] theorem Tryd.zc72 : zeroC Tryd.prog 72 = [AV.v .nilFunc] := by kernel_rfl
@[go_sem] theorem Tryd.zok72 : zeroOk Tryd.prog 72 = true := by kernel_rfl
@[go_sem] theorem Tryd.zin72 : zinfo Tryd.prog 72 = true := by kernel_rfl
@[go_sem] theorem Tryd.zc73 : zeroC Tryd.prog 73 = [AV.v .nilFunc] := by kernel_rfl
@[go_sem] theorem Tryd.zok73 : zeroOk Tryd.prog 73 = true := by kernel_rfl
@[go_sem] theorem Tryd.zin73 : zinfo Tryd.prog 73 = true := by kernel_rfl
@[go_sem] theorem Tryd.zc74 : zeroC Tryd.prog 74 = [AV.v .nilFunc] := by kernel_rfl
@[go_sem] theorem Tryd.zok74 : zeroOk Tryd.prog 74 = true := by kernel_rfl
@[go_sem] theorem Tryd.zin74 : zinfo Tryd.prog 74 = true := by kernel_rfl
@[go_sem] theorem Tryd.zc75 : zeroC Tryd.prog 75 = [AV.v .nilFunc] := by kernel_rfl
@[go_sem] theorem Tryd.zok75 : zeroOk Tryd.prog 75 = true := by kernel_rfl
@[go_sem] theorem Tryd.zin75 : zinfo Tryd.prog 75 = true := by kernel_rfl
@[go_sem] theorem Tryd.zc76 : zeroC Tryd.prog 76 = [AV.v .nilFunc] := by kernel_rfl
@[go_sem] theorem Tryd.zok76 : zeroOk Tryd.prog 76 = true := by kernel_rfl
@[go_sem] theorem Tryd.zin76 : zinfo Tryd.prog 76 = true := by kernel_rfl
@[go_sem] theorem Tryd.zc77 : zeroC Tryd.prog 77 = List.replicate 65 (u8 0) := by kernel_rfl
@[go_sem] theorem Tryd.zok77 : zeroOk Tryd.prog 77 = true := by kernel_rfl
@[go_sem] theorem Tryd.zin77 : zinfo Tryd.prog 77 = true := by kernel_rfl
@[go_sem] theorem Tryd.szok77 : sizedOk Tryd.prog 77 = true := by kernel_rfl
@[go_sem] theorem Tryd.eqg77 : Tryd.prog.eqGuardType Tryd.prog.depth 77 = false := by kernel_rfl
@[go_sem] theorem Tryd.plc77 (i : Nat) : placeOf Tryd.prog 77 i = some (i * 1, 1) := by unfold placeOf; rw [Tryd.underlying77]; simp only [Tryd.csz5]
@[go_sem] theorem Tryd.zc78 : zeroC Tryd.prog 78 = [AV.v .nilFunc] := by kernel_rfl
@[go_sem] theorem Tryd.zok78 : zeroOk Tryd.prog 78 = true := by kernel_rfl
@[go_sem] theorem Tryd.zin78 : zinfo Tryd.prog 78 = true := by kernel_rfl
@[go_sem] theorem Tryd.zc79 : zeroC Tryd.prog 79 = [AV.v .nilFunc] := by kernel_rfl
@[go_sem] theorem Tryd.zok79 : zeroOk Tryd.prog 79 = true := by kernel_rfl
@[go_sem] theorem Tryd.zin79 : zinfo Tryd.prog 79 = true := by kernel_rfl
@[go_sem] theorem Tryd.zc80 : zeroC Tryd.prog 80 = [AV.v .nilFunc] := by kernel_rfl
@[go_sem] theorem Tryd.zok80 : zeroOk Tryd.prog 80 = true := by kernel_rfl
@[go_sem] theorem Tryd.zin80 : zinfo Tryd.prog 80 = true := by kernel_rfl
@[go_sem] theorem Tryd.zc82 : zeroC Tryd.prog 82 = [AV.v .nilFunc] := by kernel_rfl
@[go_sem] theorem Tryd.zok82 : zeroOk Tryd.prog 82 = true := by kernel_rfl
@[go_sem] theorem Tryd.zin82 : zinfo Tryd.prog 82 = true := by kernel_rfl
@[go_sem] theorem Tryd.zc83 : zeroC Tryd.prog 83 = [AV.v .nilFunc] := by kernel_rfl
@[go_sem] theorem Tryd.zok83 : zeroOk Tryd.prog 83 = true := by kernel_rfl
@[go_sem] theorem Tryd.zin83 : zinfo Tryd.prog 83 = true := by kernel_rfl
@[go_sem] theorem Tryd.zc84 : zeroC Tryd.prog 84 = List.replicate 16 (u32 0) := by kernel_rfl
@[go_sem] theorem Tryd.zok84 : zeroOk Tryd.prog 84 = true := by kernel_rfl
@[go_sem] theorem Tryd.zin84 : zinfo Tryd.prog 84 = true := by kernel_rfl
@[go_sem] theorem Tryd.szok84 : sizedOk Tryd.prog 84 = true := by kernel_rfl
@[go_sem] theorem Tryd.eqg84 : Tryd.prog.eqGuardType Tryd.prog.depth 84 = false := by kernel_rfl
@[go_sem] theorem Tryd.plc84 (i : Nat) : placeOf Tryd.prog 84 i = some (i * 1, 1) := by unfold placeOf; rw [Tryd.underlying84]; simp only [Tryd.csz62]
@[go_sem] theorem Tryd.zc85 : zeroC Tryd.prog 85 = [AV.v .nilFunc] := by kernel_rfl
@[go_sem] theorem Tryd.zok85 : zeroOk Tryd.prog 85 = true := by kernel_rfl
@[go_sem] theorem Tryd.zin85 : zinfo Tryd.prog 85 = true := by kernel_rfl
@[go_sem] theorem Tryd.zc86 : zeroC Tryd.prog 86 = [AV.v .nilFunc] := by kernel_rfl
@[go_sem] theorem Tryd.zok86 : zeroOk Tryd.prog 86 = true := by kernel_rfl
@[go_sem] theorem Tryd.zin86 : zinfo Tryd.prog 86 = true := by kernel_rfl
@[go_sem] theorem Tryd.zc87 : zeroC Tryd.prog 87 = List.replicate 64 (u32 0) := by kernel_rfl
@[go_sem] theorem Tryd.zok87 : zeroOk Tryd.prog 87 = true := by kernel_rfl
@[go_sem] theorem Tryd.zin87 : zinfo Tryd.prog 87 = true := by kernel_rfl
@[go_sem] theorem Tryd.szok87 : sizedOk Tryd.prog 87 = true := by kernel_rfl
@[go_sem] theorem Tryd.eqg87 : Tryd.prog.eqGuardType Tryd.prog.depth 87 = false := by kernel_rfl
@[go_sem] theorem Tryd.plc87 (i : Nat) : placeOf Tryd.prog 87 i = some (i * 1, 1) := by unfold placeOf; rw [Tryd.underlying87]; simp only [Tryd.csz62]
@[go_sem] theorem Tryd.zc88 : zeroC Tryd.prog 88 = [AV.v .nilFunc] := by kernel_rfl
@[go_sem] theorem Tryd.zok88 : zeroOk Tryd.prog 88 = true := by kernel_rfl
@[go_sem] theorem Tryd.zin88 : zinfo Tryd.prog 88 = true := by kernel_rfl
@[go_sem] theorem Tryd.zc89 : zeroC Tryd.prog 89 = [AV.v .nilFunc] := by kernel_rfl
@[go_sem] theorem Tryd.zok89 : zeroOk Tryd.prog 89 = true := by kernel_rfl
@[go_sem] theorem Tryd.zin89 : zinfo Tryd.prog 89 = true := by kernel_rfl
@[go_sem] theorem Tryd.zc90 : zeroC Tryd.prog 90 = [AV.v .nilFunc] := by kernel_rfl
@[go_sem] theorem Tryd.zok90 : zeroOk Tryd.prog 90 = true := by kernel_rfl
@[go_sem] theorem Tryd.zin90 : zinfo Tryd.prog 90 = true := by kernel_rfl
@[go_sem] theorem Tryd.zc91 : zeroC Tryd.prog 91 = [AV.v .nilFunc] := by kernel_rfl
@[go_sem] theorem Tryd.zok91 : zeroOk Tryd.prog 91 = true := by kernel_rfl
@[go_sem] theorem Tryd.zin91 : zinfo Tryd.prog 91 = true := by kernel_rfl
@[go_sem] theorem Tryd.zc92 : zeroC Tryd.prog 92 = [AV.v .nilFunc] := by kernel_rfl
@[go_sem] theorem Tryd.zok92 : zeroOk Tryd.prog 92 = true := by kernel_rfl
@[go_sem] theorem Tryd.zin92 : zinfo Tryd.prog 92 = true := by kernel_rfl
@[go_sem] theorem Tryd.zc93 : zeroC Tryd.prog 93 = List.replicate 3 (AV.v (.pointer none)) ++ [AV.v (.string .empty)] := by kernel_rfl
@[go_sem] theorem Tryd.zok93 : zeroOk Tryd.prog 93 = true := by kernel_rfl
@[go_sem] theorem Tryd.zin93 : zinfo Tryd.prog 93 = true := by kernel_rfl
@[go_sem] theorem Tryd.szok93 : sizedOk Tryd.prog 93 = true := by kernel_rfl
@[go_sem] theorem Tryd.fld93_0 : fldOf Tryd.prog 93 0 = some (0, 17) := by kernel_rfl
@[go_sem] theorem Tryd.plc93_0 : placeOf Tryd.prog 93 0 = some (0, 1) := by kernel_rfl
@[go_sem] theorem Tryd.fld93_1 : fldOf Tryd.prog 93 1 = some (1, 17) := by kernel_rfl
@[go_sem] theorem Tryd.plc93_1 : placeOf Tryd.prog 93 1 = some (1, 1) := by kernel_rfl
@[go_sem] theorem Tryd.fld93_2 : fldOf Tryd.prog 93 2 = some (2, 17) := by kernel_rfl
@[go_sem] theorem Tryd.plc93_2 : placeOf Tryd.prog 93 2 = some (2, 1) := by kernel_rfl
@[go_sem] theorem Tryd.fld93_3 : fldOf Tryd.prog 93 3 = some (3, 9) := by kernel_rfl
@[go_sem] theorem Tryd.plc93_3 : placeOf Tryd.prog 93 3 = some (3, 1) := by kernel_rfl
@[go_sem] theorem Tryd.zc94 : zeroC Tryd.prog 94 = List.replicate 3 (AV.v (.pointer none)) ++ [AV.v (.string .empty)] := by kernel_rfl
@[go_sem] theorem Tryd.zok94 : zeroOk Tryd.prog 94 = true := by kernel_rfl
@[go_sem] theorem Tryd.zin94 : zinfo Tryd.prog 94 = true := by kernel_rfl
@[go_sem] theorem Tryd.szok94 : sizedOk Tryd.prog 94 = true := by kernel_rfl
@[go_sem] theorem Tryd.fld94_0 : fldOf Tryd.prog 94 0 = some (0, 17) := by kernel_rfl
@[go_sem] theorem Tryd.plc94_0 : placeOf Tryd.prog 94 0 = some (0, 1) := by kernel_rfl
@[go_sem] theorem Tryd.fld94_1 : fldOf Tryd.prog 94 1 = some (1, 17) := by kernel_rfl
@[go_sem] theorem Tryd.plc94_1 : placeOf Tryd.prog 94 1 = some (1, 1) := by kernel_rfl
@[go_sem] theorem Tryd.fld94_2 : fldOf Tryd.prog 94 2 = some (2, 17) := by kernel_rfl
@[go_sem] theorem Tryd.plc94_2 : placeOf Tryd.prog 94 2 = some (2, 1) := by kernel_rfl
@[go_sem] theorem Tryd.fld94_3 : fldOf Tryd.prog 94 3 = some (3, 9) := by kernel_rfl
@[go_sem] theorem Tryd.plc94_3 : placeOf Tryd.prog 94 3 = some (3, 1) := by kernel_rfl
@[go_sem] theorem Tryd.zc98 : zeroC Tryd.prog 98 = [AV.v .nilFunc] := by kernel_rfl
@[go_sem] theorem Tryd.zok98 : zeroOk Tryd.prog 98 = true := by kernel_rfl
@[go_sem] theorem Tryd.zin98 : zinfo Tryd.prog 98 = true := by kernel_rfl
@[go_sem] theorem Tryd.zc99 : zeroC Tryd.prog 99 = [u8 0] := by kernel_rfl
@[go_sem] theorem Tryd.zok99 : zeroOk Tryd.prog 99 = true := by kernel_rfl
@[go_sem] theorem Tryd.zin99 : zinfo Tryd.prog 99 = true := by kernel_rfl
@[go_sem] theorem Tryd.kind99 : kindOf Tryd.prog 99 = some .u8 := by kernel_rfl
@[go_sem] theorem Tryd.zc100 : zeroC Tryd.prog 100 = [u8 0] := by kernel_rfl
@[go_sem] theorem Tryd.zok100 : zeroOk Tryd.prog 100 = true := by kernel_rfl
@[go_sem] theorem Tryd.zin100 : zinfo Tryd.prog 100 = true := by kernel_rfl
@[go_sem] theorem Tryd.kind100 : kindOf Tryd.prog 100 = some .u8 := by kernel_rfl
@[go_sem] theorem Tryd.zc101 : zeroC Tryd.prog 101 = [AV.v .nilFunc] := by kernel_rfl
@[go_sem] theorem Tryd.zok101 : zeroOk Tryd.prog 101 = true := by kernel_rfl
@[go_sem] theorem Tryd.zin101 : zinfo Tryd.prog 101 = true := by kernel_rfl
@[go_sem] theorem Tryd.zc102 : zeroC Tryd.prog 102 = [AV.v (.pointer none)] := by kernel_rfl
@[go_sem] theorem Tryd.zok102 : zeroOk Tryd.prog 102 = true := by kernel_rfl
@[go_sem] theorem Tryd.zin102 : zinfo Tryd.prog 102 = true := by kernel_rfl
@[go_sem] theorem Tryd.zc103 : zeroC Tryd.prog 103 = [AV.v (.int .i32 (0))] := by kernel_rfl
@[go_sem] theorem Tryd.zok103 : zeroOk Tryd.prog 103 = true := by kernel_rfl
@[go_sem] theorem Tryd.zin103 : zinfo Tryd.prog 103 = true := by kernel_rfl
@[go_sem] theorem Tryd.kind103 : kindOf Tryd.prog 103 = some .i32 := by kernel_rfl
@[go_sem] theorem Tryd.zc104 : zeroC Tryd.prog 104 = [AV.v (.int .i32 (0))] := by kernel_rfl
@[go_sem] theorem Tryd.zok104 : zeroOk Tryd.prog 104 = true := by kernel_rfl
@[go_sem] theorem Tryd.zin104 : zinfo Tryd.prog 104 = true := by kernel_rfl
@[go_sem] theorem Tryd.kind104 : kindOf Tryd.prog 104 = some .i32 := by kernel_rfl
@[go_sem] theorem Tryd.zc105 : zeroC Tryd.prog 105 = List.replicate 2 (u64 0) ++ [u32 0] ++ List.replicate 4 (u8 0) ++ [AV.v .nilFunc] ++ [AV.v (.pointer none)] ++ List.replicate 2 (AV.v (.int .i32 (0))) := by kernel_rfl
@[go_sem] theorem Tryd.zok105 : zeroOk Tryd.prog 105 = true := by kernel_rfl
@[go_sem] theorem Tryd.zin105 : zinfo Tryd.prog 105 = true := by kernel_rfl
@[go_sem] theorem Tryd.szok105 : sizedOk Tryd.prog 105 = true := by kernel_rfl
@[go_sem] theorem Tryd.fld105_0 : fldOf Tryd.prog 105 0 = some (0, 12) := by kernel_rfl
@[go_sem] theorem Tryd.plc105_0 : placeOf Tryd.prog 105 0 = some (0, 1) := by kernel_rfl
@[go_sem] theorem Tryd.fld105_1 : fldOf Tryd.prog 105 1 = some (1, 12) := by kernel_rfl
@[go_sem] theorem Tryd.plc105_1 : placeOf Tryd.prog 105 1 = some (1, 1) := by kernel_rfl
@[go_sem] theorem Tryd.fld105_2 : fldOf Tryd.prog 105 2 = some (2, 62) := by kernel_rfl
@[go_sem] theorem Tryd.plc105_2 : placeOf Tryd.prog 105 2 = some (2, 1) := by kernel_rfl
@[go_sem] theorem Tryd.fld105_3 : fldOf Tryd.prog 105 3 = some (3, 99) := by kernel_rfl
@[go_sem] theorem Tryd.plc105_3 : placeOf Tryd.prog 105 3 = some (3, 1) := by kernel_rfl
@[go_sem] theorem Tryd.fld105_4 : fldOf Tryd.prog 105 4 = some (4, 5) := by kernel_rfl
@[go_sem] theorem Tryd.plc105_4 : placeOf Tryd.prog 105 4 = some (4, 1) := by kernel_rfl
@[go_sem] theorem Tryd.fld105_5 : fldOf Tryd.prog 105 5 = some (5, 5) := by kernel_rfl
@[go_sem] theorem Tryd.plc105_5 : placeOf Tryd.prog 105 5 = some (5, 1) := by kernel_rfl
@[go_sem] theorem Tryd.fld105_6 : fldOf Tryd.prog 105 6 = some (6, 100) := by kernel_rfl
@[go_sem] theorem Tryd.plc105_6 : placeOf Tryd.prog 105 6 = some (6, 1) := by kernel_rfl
@[go_sem] theorem Tryd.fld105_7 : fldOf Tryd.prog 105 7 = some (7, 101) := by kernel_rfl
@[go_sem] theorem Tryd.plc105_7 : placeOf Tryd.prog 105 7 = some (7, 1) := by kernel_rfl
@[go_sem] theorem Tryd.fld105_8 : fldOf Tryd.prog 105 8 = some (8, 102) := by kernel_rfl
@[go_sem] theorem Tryd.plc105_8 : placeOf Tryd.prog 105 8 = some (8, 1) := by kernel_rfl
@[go_sem] theorem Tryd.fld105_9 : fldOf Tryd.prog 105 9 = some (9, 103) := by kernel_rfl
@[go_sem] theorem Tryd.plc105_9 : placeOf Tryd.prog 105 9 = some (9, 1) := by kernel_rfl
@[go_sem] theorem Tryd.fld105_10 : fldOf Tryd.prog 105 10 = some (10, 104) := by kernel_rfl
@[go_sem] theorem Tryd.plc105_10 : placeOf Tryd.prog 105 10 = some (10, 1) := by kernel_rfl
@[go_sem] theorem Tryd.zc106 : zeroC Tryd.prog 106 = List.replicate 2 (u64 0) ++ [u32 0] ++ List.replicate 4 (u8 0) ++ [AV.v .nilFunc] ++ [AV.v (.pointer none)] ++ List.replicate 2 (AV.v (.int .i32 (0))) := by kernel_rfl
@[go_sem] theorem Tryd.zok106 : zeroOk Tryd.prog 106 = true := by kernel_rfl
@[go_sem] theorem Tryd.zin106 : zinfo Tryd.prog 106 = true := by kernel_rfl
@[go_sem] theorem Tryd.szok106 : sizedOk Tryd.prog 106 = true := by kernel_rfl
@[go_sem] theorem Tryd.fld106_0 : fldOf Tryd.prog 106 0 = some (0, 12) := by kernel_rfl
@[go_sem] theorem Tryd.plc106_0 : placeOf Tryd.prog 106 0 = some (0, 1) := by kernel_rfl
@[go_sem] theorem Tryd.fld106_1 : fldOf Tryd.prog 106 1 = some (1, 12) := by kernel_rfl
@[go_sem] theorem Tryd.plc106_1 : placeOf Tryd.prog 106 1 = some (1, 1) := by kernel_rfl
@[go_sem] theorem Tryd.fld106_2 : fldOf Tryd.prog 106 2 = some (2, 62) := by kernel_rfl
@[go_sem] theorem Tryd.plc106_2 : placeOf Tryd.prog 106 2 = some (2, 1) := by kernel_rfl
@[go_sem] theorem Tryd.fld106_3 : fldOf Tryd.prog 106 3 = some (3, 99) := by kernel_rfl
@[go_sem] theorem Tryd.plc106_3 : placeOf Tryd.prog 106 3 = some (3, 1) := by kernel_rfl
@[go_sem] theorem Tryd.fld106_4 : fldOf Tryd.prog 106 4 = some (4, 5) := by kernel_rfl
@[go_sem] theorem Tryd.plc106_4 : placeOf Tryd.prog 106 4 = some (4, 1) := by kernel_rfl
@[go_sem] theorem Tryd.fld106_5 : fldOf Tryd.prog 106 5 = some (5, 5) := by kernel_rfl
@[go_sem] theorem Tryd.plc106_5 : placeOf Tryd.prog 106 5 = some (5, 1) := by kernel_rfl
@[go_sem] theorem Tryd.fld106_6 : fldOf Tryd.prog 106 6 = some (6, 100) := by kernel_rfl
@[go_sem] theorem Tryd.plc106_6 : placeOf Tryd.prog 106 6 = some (6, 1) := by kernel_rfl
@[go_sem] theorem Tryd.fld106_7 : fldOf Tryd.prog 106 7 = some (7, 101) := by kernel_rfl
@[go_sem] theorem Tryd.plc106_7 : placeOf Tryd.prog 106 7 = some (7, 1) := by kernel_rfl
@[go_sem] theorem Tryd.fld106_8 : fldOf Tryd.prog 106 8 = some (8, 102) := by kernel_rfl
@[go_sem] theorem Tryd.plc106_8 : placeOf Tryd.prog 106 8 = some (8, 1) := by kernel_rfl
@[go_sem] theorem Tryd.fld106_9 : fldOf Tryd.prog 106 9 = some (9, 103) := by kernel_rfl
@[go_sem] theorem Tryd.plc106_9 : placeOf Tryd.prog 106 9 = some (9, 1) := by kernel_rfl
@[go_sem] theorem Tryd.fld106_10 : fldOf Tryd.prog 106 10 = some (10, 104) := by kernel_rfl
@[go_sem] theorem Tryd.plc106_10 : placeOf Tryd.prog 106 10 = some (10, 1) := by kernel_rfl
@[go_sem] theorem Tryd.zc107 : zeroC Tryd.prog 107 = [AV.v (.pointer none)] := by kernel_rfl
@[go_sem] theorem Tryd.zok107 : zeroOk Tryd.prog 107 = true := by kernel_rfl
@[go_sem] theorem Tryd.zin107 : zinfo Tryd.prog 107 = true := by kernel_rfl
@[go_sem] theorem Tryd.res2 : Tryd.f2.results = #[] := rfl
@[go_sem] theorem Tryd.res3 : Tryd.f3.results = #[ResultVar.tmp 6] := rfl
@[go_sem] theorem Tryd.res4 : Tryd.f4.results = #[ResultVar.tmp 10] := rfl
@[go_sem] theorem Tryd.res5 : Tryd.f5.results = #[ResultVar.tmp 6] := rfl
@[go_sem] theorem Tryd.res6 : Tryd.f6.results = #[ResultVar.tmp 4] := rfl
@[go_sem] theorem Tryd.res7 : Tryd.f7.results = #[ResultVar.tmp 6] := rfl
@[go_sem] theorem Tryd.res8 : Tryd.f8.results = #[ResultVar.tmp 0] := rfl
@[go_sem] theorem Tryd.res9 : Tryd.f9.results = #[ResultVar.tmp 4, ResultVar.tmp 5] := rfl
@[go_sem] theorem Tryd.res10 : Tryd.f10.results = #[ResultVar.tmp 4, ResultVar.tmp 5] := rfl
@[go_sem] theorem Tryd.res11 : Tryd.f11.results = #[ResultVar.cell 4 23, ResultVar.tmp 5] := rfl
@[go_sem] theorem Tryd.res12 : Tryd.f12.results = #[ResultVar.cell 4 23, ResultVar.tmp 5] := rfl
@[go_sem] theorem Tryd.res13 : Tryd.f13.results = #[ResultVar.tmp 4] := rfl
@[go_sem] theorem Tryd.res14 : Tryd.f14.results = #[ResultVar.tmp 2] := rfl
@[go_sem] theorem Tryd.res15 : Tryd.f15.results = #[ResultVar.tmp 2] := rfl
@[go_sem] theorem Tryd.res16 : Tryd.f16.results = #[ResultVar.cell 2 23, ResultVar.tmp 3] := rfl
@[go_sem] theorem Tryd.res17 : Tryd.f17.results = #[ResultVar.cell 2 23, ResultVar.tmp 3] := rfl
@[go_sem] theorem Tryd.res18 : Tryd.f18.results = #[ResultVar.cell 6 23, ResultVar.tmp 7] := rfl
@[go_sem] theorem Tryd.res19 : Tryd.f19.results = #[ResultVar.cell 6 23, ResultVar.tmp 7] := rfl
@[go_sem] theorem Tryd.res20 : Tryd.f20.results = #[ResultVar.cell 2 23] := rfl
@[go_sem] theorem Tryd.res21 : Tryd.f21.results = #[ResultVar.cell 2 23] := rfl
@[go_sem] theorem Tryd.res22 : Tryd.f22.results = #[ResultVar.cell 4 23] := rfl
@[go_sem] theorem Tryd.res23 : Tryd.f23.results = #[ResultVar.cell 4 23] := rfl
@[go_sem] theorem Tryd.res24 : Tryd.f24.results = #[ResultVar.cell 2 23] := rfl
@[go_sem] theorem Tryd.res25 : Tryd.f25.results = #[ResultVar.cell 2 23] := rfl
@[go_sem] theorem Tryd.res26 : Tryd.f26.results = #[ResultVar.tmp 4] := rfl
@[go_sem] theorem Tryd.res27 : Tryd.f27.results = #[ResultVar.cell 4 23] := rfl
@[go_sem] theorem Tryd.res28 : Tryd.f28.results = #[ResultVar.cell 2 23] := rfl
@[go_sem] theorem Tryd.res29 : Tryd.f29.results = #[ResultVar.tmp 2] := rfl
@[go_sem] theorem Tryd.res30 : Tryd.f30.results = #[ResultVar.tmp 6, ResultVar.tmp 7] := rfl
@[go_sem] theorem Tryd.res31 : Tryd.f31.results = #[ResultVar.tmp 4] := rfl
@[go_sem] theorem Tryd.res32 : Tryd.f32.results = #[ResultVar.tmp 4] := rfl
@[go_sem] theorem Tryd.res33 : Tryd.f33.results = #[ResultVar.tmp 6] := rfl
@[go_sem] theorem Tryd.res34 : Tryd.f34.results = #[ResultVar.tmp 4] := rfl
@[go_sem] theorem Tryd.res35 : Tryd.f35.results = #[ResultVar.cell 4 23] := rfl
@[go_sem] theorem Tryd.res36 : Tryd.f36.results = #[ResultVar.cell 6 23] := rfl
@[go_sem] theorem Tryd.res37 : Tryd.f37.results = #[ResultVar.cell 0 57] := rfl
@[go_sem] theorem Tryd.res38 : Tryd.f38.results = #[ResultVar.tmp 6] := rfl
@[go_sem] theorem Tryd.res39 : Tryd.f39.results = #[ResultVar.tmp 6] := rfl
@[go_sem] theorem Tryd.res40 : Tryd.f40.results = #[ResultVar.cell 2 57] := rfl
@[go_sem] theorem Tryd.res41 : Tryd.f41.results = #[ResultVar.cell 6 23] := rfl
@[go_sem] theorem Tryd.res42 : Tryd.f42.results = #[ResultVar.cell 2 23] := rfl
@[go_sem] theorem Tryd.res43 : Tryd.f43.results = #[ResultVar.cell 4 66, ResultVar.tmp 5] := rfl
@[go_sem] theorem Tryd.res44 : Tryd.f44.results = #[ResultVar.cell 0 66] := rfl
@[go_sem] theorem Tryd.res45 : Tryd.f45.results = #[ResultVar.cell 2 23, ResultVar.tmp 3] := rfl
@[go_sem] theorem Tryd.res46 : Tryd.f46.results = #[ResultVar.tmp 4] := rfl
@[go_sem] theorem Tryd.res48 : Tryd.f48.results = #[] := rfl
@[go_sem] theorem Tryd.res49 : Tryd.f49.results = #[ResultVar.cell 6 23] := rfl
@[go_sem] theorem Tryd.res50 : Tryd.f50.results = #[ResultVar.tmp 4] := rfl
@[go_sem] theorem Tryd.res51 : Tryd.f51.results = #[ResultVar.tmp 2] := rfl
@[go_sem] theorem Tryd.res52 : Tryd.f52.results = #[ResultVar.cell 4 66, ResultVar.tmp 5] := rfl
@[go_sem] theorem Tryd.res53 : Tryd.f53.results = #[ResultVar.cell 0 66] := rfl
@[go_sem] theorem Tryd.res54 : Tryd.f54.results = #[ResultVar.cell 2 23, ResultVar.tmp 3] := rfl
@[go_sem] theorem Tryd.res55 : Tryd.f55.results = #[ResultVar.tmp 2] := rfl
@[go_sem] theorem Tryd.res56 : Tryd.f56.results = #[ResultVar.tmp 2] := rfl
@[go_sem] theorem Tryd.res57 : Tryd.f57.results = #[ResultVar.cell 4 63] := rfl
@[go_sem] theorem Tryd.res58 : Tryd.f58.results = #[ResultVar.tmp 6, ResultVar.tmp 7] := rfl
@[go_sem] theorem Tryd.res60 : Tryd.f60.results = #[] := rfl
@[go_sem] theorem Tryd.res61 : Tryd.f61.results = #[] := rfl
@[go_sem] theorem Tryd.res62 : Tryd.f62.results = #[ResultVar.tmp 2] := rfl
@[go_sem] theorem Tryd.res63 : Tryd.f63.results = #[ResultVar.cell 4 63] := rfl
@[go_sem] theorem Tryd.res64 : Tryd.f64.results = #[ResultVar.tmp 3] := rfl
@[go_sem] theorem Tryd.res65 : Tryd.f65.results = #[ResultVar.tmp 4] := rfl
@[go_sem] theorem Tryd.res66 : Tryd.f66.results = #[ResultVar.tmp 2] := rfl
@[go_sem] theorem Tryd.res67 : Tryd.f67.results = #[] := rfl
@[go_sem] theorem Tryd.res68 : Tryd.f68.results = #[ResultVar.cell 2 87] := rfl
@[go_sem] theorem Tryd.res69 : Tryd.f69.results = #[ResultVar.cell 0 87] := rfl
@[go_sem] theorem Tryd.res70 : Tryd.f70.results = #[ResultVar.tmp 4] := rfl
@[go_sem] theorem Tryd.res71 : Tryd.f71.results = #[ResultVar.tmp 4] := rfl
@[go_sem] theorem Tryd.res93 : Tryd.f93.results = #[] := rfl
end Go.Proofs.YtpknjecfloglgaaDoor

namespace Go.Proofs.YtpknjecfloglgaaDoor
open Go Go.Eng Go.Proofs
set_option maxRecDepth 100000
set_option linter.unusedSimpArgs false
theorem f66 (n : Int) : AFun Tryd.prog 66 [int n] (boo (decide (1 ≤ n ∧ n ≤ 8))) := by
  refine AFun.enter Tryd.func66 rfl Tryd.call66 (by simp [Tryd.ntmps66]) fun γ1 => ?_
  simp only [frameOf, Tryd.ntmps66]
  repeat (first | simp only [go_sem, Nat.reduceLT, Nat.reduceEqDiff, reduceIte, Int.reduceEq, Int.reduceLE, Int.reduceLT, Nat.reduceMul, Nat.reduceAdd, Nat.reduceSub, Int.reduceNeg, Int.reduceAdd, Int.reduceMul, Int.reduceSub, Int.reduceToNat, Nat.reduceLeDiff, Nat.reduceDiv, Int.reduceDiv, reduceCtorEq, Option.some.injEq, exists_eq_left'] | refine AW.seq ?_ | refine AW.block ?_ | refine AW.scope ?_ | refine AW.cond_tt rfl ?_ | refine AW.cond_ff rfl ?_ | refine AW.label ?_ | refine AW.skip ?_ | refine AW.ret ?_ | refine AW.exit ?_ | refine AW.region ?_ | refine AW.draw (by kernel_rfl) (by decide +kernel) ?_ | refine AW.drawN (by kernel_rfl) (by decide +kernel) ?_ | ((with_reducible refine And.intro ?_ ?_); (focus ((repeat' (with_reducible apply And.intro)) <;> first | (with_reducible exact OrdAt.of (by kernel_rfl)) | (with_reducible exact OrdT.of (by kernel_rfl)) | exact True.intro | (with_reducible assumption) | omega | rfl | exact Nat.le_of_ble_eq_true rfl | exact Or.inl trivial | (unfold inI; omega)))))
  refine exG_dec (fun h1 => ?_) (fun h1 => ?_)
  · repeat (first | simp only [go_sem, Nat.reduceLT, Nat.reduceEqDiff, reduceIte, Int.reduceEq, Int.reduceLE, Int.reduceLT, Nat.reduceMul, Nat.reduceAdd, Nat.reduceSub, Int.reduceNeg, Int.reduceAdd, Int.reduceMul, Int.reduceSub, Int.reduceToNat, Nat.reduceLeDiff, Nat.reduceDiv, Int.reduceDiv, reduceCtorEq, Option.some.injEq, exists_eq_left'] | refine AW.seq ?_ | refine AW.block ?_ | refine AW.scope ?_ | refine AW.cond_tt rfl ?_ | refine AW.cond_ff rfl ?_ | refine AW.label ?_ | refine AW.skip ?_ | refine AW.ret ?_ | refine AW.exit ?_ | refine AW.region ?_ | refine AW.draw (by kernel_rfl) (by decide +kernel) ?_ | refine AW.drawN (by kernel_rfl) (by decide +kernel) ?_ | ((with_reducible refine And.intro ?_ ?_); (focus ((repeat' (with_reducible apply And.intro)) <;> first | (with_reducible exact OrdAt.of (by kernel_rfl)) | (with_reducible exact OrdT.of (by kernel_rfl)) | exact True.intro | (with_reducible assumption) | omega | rfl | exact Nat.le_of_ble_eq_true rfl | exact Or.inl trivial | (unfold inI; omega)))))
    simp [h1]
  · repeat (first | simp only [go_sem, Nat.reduceLT, Nat.reduceEqDiff, reduceIte, Int.reduceEq, Int.reduceLE, Int.reduceLT, Nat.reduceMul, Nat.reduceAdd, Nat.reduceSub, Int.reduceNeg, Int.reduceAdd, Int.reduceMul, Int.reduceSub, Int.reduceToNat, Nat.reduceLeDiff, Nat.reduceDiv, Int.reduceDiv, reduceCtorEq, Option.some.injEq, exists_eq_left'] | refine AW.seq ?_ | refine AW.block ?_ | refine AW.scope ?_ | refine AW.cond_tt rfl ?_ | refine AW.cond_ff rfl ?_ | refine AW.label ?_ | refine AW.skip ?_ | refine AW.ret ?_ | refine AW.exit ?_ | refine AW.region ?_ | refine AW.draw (by kernel_rfl) (by decide +kernel) ?_ | refine AW.drawN (by kernel_rfl) (by decide +kernel) ?_ | ((with_reducible refine And.intro ?_ ?_); (focus ((repeat' (with_reducible apply And.intro)) <;> first | (with_reducible exact OrdAt.of (by kernel_rfl)) | (with_reducible exact OrdT.of (by kernel_rfl)) | exact True.intro | (with_reducible assumption) | omega | rfl | exact Nat.le_of_ble_eq_true rfl | exact Or.inl trivial | (unfold inI; omega)))))
    simp [h1]
def bitS (k : List UInt8) (i : Int) : Int := if i < 0 ∨ 255 < i then 0 else bits .and .i64 (shr8 (k.getD (i / 8).toNat 0) (7 - i % 8).toNat).toNat 1
theorem f26 (k : List UInt8) (hk : k.length = 32) (i : Int) (hi : inI i) : AFun Tryd.prog 26 [.agg (k.map u8), int i] (int (bitS k i)) := by
  refine AFun.enter Tryd.func26 rfl Tryd.call26 (by simp [Tryd.ntmps26]) fun γ1 => ?_
  simp only [frameOf, Tryd.ntmps26]
  repeat (first | simp only [go_sem, Nat.reduceLT, Nat.reduceEqDiff, reduceIte, Int.reduceEq, Int.reduceLE, Int.reduceLT, Nat.reduceMul, Nat.reduceAdd, Nat.reduceSub, Int.reduceNeg, Int.reduceAdd, Int.reduceMul, Int.reduceSub, Int.reduceToNat, Nat.reduceLeDiff, Nat.reduceDiv, Int.reduceDiv, reduceCtorEq, Option.some.injEq, exists_eq_left'] | refine AW.seq ?_ | refine AW.block ?_ | refine AW.scope ?_ | refine AW.cond_tt rfl ?_ | refine AW.cond_ff rfl ?_ | refine AW.label ?_ | refine AW.skip ?_ | refine AW.ret ?_ | refine AW.exit ?_ | refine AW.region ?_ | refine AW.draw (by kernel_rfl) (by decide +kernel) ?_ | refine AW.drawN (by kernel_rfl) (by decide +kernel) ?_ | ((with_reducible refine And.intro ?_ ?_); (focus ((repeat' (with_reducible apply And.intro)) <;> first | (with_reducible exact OrdAt.of (by kernel_rfl)) | (with_reducible exact OrdT.of (by kernel_rfl)) | exact True.intro | (with_reducible assumption) | omega | rfl | exact Nat.le_of_ble_eq_true rfl | exact Or.inl trivial | (unfold inI; omega)))))
  refine exG_decf (fun h1 => ?_) (fun h1 => ?_)
  · repeat (first | simp only [go_sem, Nat.reduceLT, Nat.reduceEqDiff, reduceIte, Int.reduceEq, Int.reduceLE, Int.reduceLT, Nat.reduceMul, Nat.reduceAdd, Nat.reduceSub, Int.reduceNeg, Int.reduceAdd, Int.reduceMul, Int.reduceSub, Int.reduceToNat, Nat.reduceLeDiff, Nat.reduceDiv, Int.reduceDiv, reduceCtorEq, Option.some.injEq, exists_eq_left'] | refine AW.seq ?_ | refine AW.block ?_ | refine AW.scope ?_ | refine AW.cond_tt rfl ?_ | refine AW.cond_ff rfl ?_ | refine AW.label ?_ | refine AW.skip ?_ | refine AW.ret ?_ | refine AW.exit ?_ | refine AW.region ?_ | refine AW.draw (by kernel_rfl) (by decide +kernel) ?_ | refine AW.drawN (by kernel_rfl) (by decide +kernel) ?_ | ((with_reducible refine And.intro ?_ ?_); (focus ((repeat' (with_reducible apply And.intro)) <;> first | (with_reducible exact OrdAt.of (by kernel_rfl)) | (with_reducible exact OrdT.of (by kernel_rfl)) | exact True.intro | (with_reducible assumption) | omega | rfl | exact Nat.le_of_ble_eq_true rfl | exact Or.inl trivial | (unfold inI; omega)))))
    refine AW.cond_dec rfl (fun h2 => ?_) (fun h2 => ?_)
    · repeat (first | simp only [go_sem, Nat.reduceLT, Nat.reduceEqDiff, reduceIte, Int.reduceEq, Int.reduceLE, Int.reduceLT, Nat.reduceMul, Nat.reduceAdd, Nat.reduceSub, Int.reduceNeg, Int.reduceAdd, Int.reduceMul, Int.reduceSub, Int.reduceToNat, Nat.reduceLeDiff, Nat.reduceDiv, Int.reduceDiv, reduceCtorEq, Option.some.injEq, exists_eq_left'] | refine AW.seq ?_ | refine AW.block ?_ | refine AW.scope ?_ | refine AW.cond_tt rfl ?_ | refine AW.cond_ff rfl ?_ | refine AW.label ?_ | refine AW.skip ?_ | refine AW.ret ?_ | refine AW.exit ?_ | refine AW.region ?_ | refine AW.draw (by kernel_rfl) (by decide +kernel) ?_ | refine AW.drawN (by kernel_rfl) (by decide +kernel) ?_ | ((with_reducible refine And.intro ?_ ?_); (focus ((repeat' (with_reducible apply And.intro)) <;> first | (with_reducible exact OrdAt.of (by kernel_rfl)) | (with_reducible exact OrdT.of (by kernel_rfl)) | exact True.intro | (with_reducible assumption) | omega | rfl | exact Nat.le_of_ble_eq_true rfl | exact Or.inl trivial | (unfold inI; omega)))))
      simp [bitS, h2]
    · have hw := wrap_tdiv hi (b := 8) (by decide)
      have e1 : i.tdiv 8 = i / 8 := Int.tdiv_eq_ediv_of_nonneg (by omega)
      have e2 : i.tmod 8 = i % 8 := Int.tmod_eq_emod_of_nonneg (by omega)
      rw [e1] at hw
      have hq : (i / 8).toNat < 32 := by omega
      repeat (first | simp only [go_sem, Nat.reduceLT, Nat.reduceEqDiff, reduceIte, Int.reduceEq, Int.reduceLE, Int.reduceLT, Nat.reduceMul, Nat.reduceAdd, Nat.reduceSub, Int.reduceNeg, Int.reduceAdd, Int.reduceMul, Int.reduceSub, Int.reduceToNat, Nat.reduceLeDiff, Nat.reduceDiv, Int.reduceDiv, reduceCtorEq, Option.some.injEq, exists_eq_left', row_u8, hk, hq, hw, e1, e2, List.length_drop, List.length_map] | refine AW.seq ?_ | refine AW.block ?_ | refine AW.scope ?_ | refine AW.cond_tt rfl ?_ | refine AW.cond_ff rfl ?_ | refine AW.label ?_ | refine AW.skip ?_ | refine AW.ret ?_ | refine AW.exit ?_ | refine AW.region ?_ | refine AW.draw (by kernel_rfl) (by decide +kernel) ?_ | refine AW.drawN (by kernel_rfl) (by decide +kernel) ?_ | ((with_reducible refine And.intro ?_ ?_); (focus ((repeat' (with_reducible apply And.intro)) <;> first | (with_reducible exact OrdAt.of (by kernel_rfl)) | (with_reducible exact OrdT.of (by kernel_rfl)) | exact True.intro | (with_reducible assumption) | omega | rfl | exact Nat.le_of_ble_eq_true rfl | exact Or.inl trivial | (unfold inI; omega)))))
      simp [bitS, h1, h2]
  · repeat (first | simp only [go_sem, Nat.reduceLT, Nat.reduceEqDiff, reduceIte, Int.reduceEq, Int.reduceLE, Int.reduceLT, Nat.reduceMul, Nat.reduceAdd, Nat.reduceSub, Int.reduceNeg, Int.reduceAdd, Int.reduceMul, Int.reduceSub, Int.reduceToNat, Nat.reduceLeDiff, Nat.reduceDiv, Int.reduceDiv, reduceCtorEq, Option.some.injEq, exists_eq_left'] | refine AW.seq ?_ | refine AW.block ?_ | refine AW.scope ?_ | refine AW.cond_tt rfl ?_ | refine AW.cond_ff rfl ?_ | refine AW.label ?_ | refine AW.skip ?_ | refine AW.ret ?_ | refine AW.exit ?_ | refine AW.region ?_ | refine AW.draw (by kernel_rfl) (by decide +kernel) ?_ | refine AW.drawN (by kernel_rfl) (by decide +kernel) ?_ | ((with_reducible refine And.intro ?_ ?_); (focus ((repeat' (with_reducible apply And.intro)) <;> first | (with_reducible exact OrdAt.of (by kernel_rfl)) | (with_reducible exact OrdT.of (by kernel_rfl)) | exact True.intro | (with_reducible assumption) | omega | rfl | exact Nat.le_of_ble_eq_true rfl | exact Or.inl trivial | (unfold inI; omega)))))
    simp [bitS, h1]
def turnS (k : List UInt8) (i : Int) : List UInt8 := if 0 ≤ i ∧ i ≤ 255 then k.set (i / 8).toNat (k.getD (i / 8).toNat 0 ^^^ shr8 (UInt8.ofNat 128) (i % 8).toNat) else k
theorem turnS_length (k : List UInt8) (i : Int) : (turnS k i).length = k.length := by unfold turnS; split <;> simp
theorem f27 (k : List UInt8) (hk : k.length = 32) (i : Int) (hi : inI i) : AFun Tryd.prog 27 [.agg (k.map u8), int i] (.agg ((turnS k i).map u8)) := by
  refine AFun.enter Tryd.func27 rfl Tryd.call27 (by simp [Tryd.ntmps27]) fun γ1 => ?_
  simp only [frameOf, Tryd.ntmps27]
  repeat (first | simp only [go_sem, Nat.reduceLT, Nat.reduceEqDiff, reduceIte, Int.reduceEq, Int.reduceLE, Int.reduceLT, Nat.reduceMul, Nat.reduceAdd, Nat.reduceSub, Int.reduceNeg, Int.reduceAdd, Int.reduceMul, Int.reduceSub, Int.reduceToNat, Nat.reduceLeDiff, Nat.reduceDiv, Int.reduceDiv, reduceCtorEq, Option.some.injEq, exists_eq_left'] | refine AW.seq ?_ | refine AW.block ?_ | refine AW.scope ?_ | refine AW.cond_tt rfl ?_ | refine AW.cond_ff rfl ?_ | refine AW.label ?_ | refine AW.skip ?_ | refine AW.ret ?_ | refine AW.exit ?_ | refine AW.region ?_ | refine AW.draw (by kernel_rfl) (by decide +kernel) ?_ | refine AW.drawN (by kernel_rfl) (by decide +kernel) ?_ | ((with_reducible refine And.intro ?_ ?_); (focus ((repeat' (with_reducible apply And.intro)) <;> first | (with_reducible exact OrdAt.of (by kernel_rfl)) | (with_reducible exact OrdT.of (by kernel_rfl)) | exact True.intro | (with_reducible assumption) | omega | rfl | exact Nat.le_of_ble_eq_true rfl | exact Or.inl trivial | (unfold inI; omega)))))
  refine exG_dec (fun h1 => ?_) (fun h1 => ?_)
  · repeat (first | simp only [go_sem, Nat.reduceLT, Nat.reduceEqDiff, reduceIte, Int.reduceEq, Int.reduceLE, Int.reduceLT, Nat.reduceMul, Nat.reduceAdd, Nat.reduceSub, Int.reduceNeg, Int.reduceAdd, Int.reduceMul, Int.reduceSub, Int.reduceToNat, Nat.reduceLeDiff, Nat.reduceDiv, Int.reduceDiv, reduceCtorEq, Option.some.injEq, exists_eq_left'] | refine AW.seq ?_ | refine AW.block ?_ | refine AW.scope ?_ | refine AW.cond_tt rfl ?_ | refine AW.cond_ff rfl ?_ | refine AW.label ?_ | refine AW.skip ?_ | refine AW.ret ?_ | refine AW.exit ?_ | refine AW.region ?_ | refine AW.draw (by kernel_rfl) (by decide +kernel) ?_ | refine AW.drawN (by kernel_rfl) (by decide +kernel) ?_ | ((with_reducible refine And.intro ?_ ?_); (focus ((repeat' (with_reducible apply And.intro)) <;> first | (with_reducible exact OrdAt.of (by kernel_rfl)) | (with_reducible exact OrdT.of (by kernel_rfl)) | exact True.intro | (with_reducible assumption) | omega | rfl | exact Nat.le_of_ble_eq_true rfl | exact Or.inl trivial | (unfold inI; omega)))))
    refine AW.cond_dec rfl (fun h2 => ?_) (fun h2 => ?_)
    · have hw := wrap_tdiv hi (b := 8) (by decide)
      have e1 : i.tdiv 8 = i / 8 := Int.tdiv_eq_ediv_of_nonneg (by omega)
      have e2 : i.tmod 8 = i % 8 := Int.tmod_eq_emod_of_nonneg (by omega)
      rw [e1] at hw
      have hq : (i / 8).toNat < 32 := by omega
      repeat (first | simp only [go_sem, Nat.reduceLT, Nat.reduceEqDiff, reduceIte, Int.reduceEq, Int.reduceLE, Int.reduceLT, Nat.reduceMul, Nat.reduceAdd, Nat.reduceSub, Int.reduceNeg, Int.reduceAdd, Int.reduceMul, Int.reduceSub, Int.reduceToNat, Nat.reduceLeDiff, Nat.reduceDiv, Int.reduceDiv, reduceCtorEq, Option.some.injEq, exists_eq_left', List.length_map, List.length_set, List.length_replicate, List.length_drop, List.length_take, List.length_append, List.drop_zero, List.take_of_length_le, Nat.le_refl, Nat.sub_zero, splice_all, row_u8, splice_u8, wrap_u64c, hk, hq, hw, e1, e2] | refine AW.seq ?_ | refine AW.block ?_ | refine AW.scope ?_ | refine AW.cond_tt rfl ?_ | refine AW.cond_ff rfl ?_ | refine AW.label ?_ | refine AW.skip ?_ | refine AW.ret ?_ | refine AW.exit ?_ | refine AW.region ?_ | refine AW.draw (by kernel_rfl) (by decide +kernel) ?_ | refine AW.drawN (by kernel_rfl) (by decide +kernel) ?_ | ((with_reducible refine And.intro ?_ ?_); (focus ((repeat' (with_reducible apply And.intro)) <;> first | (with_reducible exact OrdAt.of (by kernel_rfl)) | (with_reducible exact OrdT.of (by kernel_rfl)) | exact True.intro | (with_reducible assumption) | omega | rfl | exact Nat.le_of_ble_eq_true rfl | exact Or.inl trivial | (unfold inI; omega)))))
      repeat (first | simp only [go_sem, Nat.reduceLT, Nat.reduceEqDiff, reduceIte, Int.reduceEq, Int.reduceLE, Int.reduceLT, Nat.reduceMul, Nat.reduceAdd, Nat.reduceSub, Int.reduceNeg, Int.reduceAdd, Int.reduceMul, Int.reduceSub, Int.reduceToNat, Nat.reduceLeDiff, Nat.reduceDiv, Int.reduceDiv, reduceCtorEq, Option.some.injEq, exists_eq_left', List.length_map, List.length_set, List.length_replicate, List.length_drop, List.length_take, List.length_append, List.drop_zero, List.take_of_length_le, Nat.le_refl, Nat.sub_zero, splice_all, row_u8, splice_u8, wrap_u64c, hk] | refine AW.seq ?_ | refine AW.block ?_ | refine AW.scope ?_ | refine AW.cond_tt rfl ?_ | refine AW.cond_ff rfl ?_ | refine AW.label ?_ | refine AW.skip ?_ | refine AW.ret ?_ | refine AW.exit ?_ | refine AW.region ?_ | refine AW.draw (by kernel_rfl) (by decide +kernel) ?_ | refine AW.drawN (by kernel_rfl) (by decide +kernel) ?_ | ((with_reducible refine And.intro ?_ ?_); (focus ((repeat' (with_reducible apply And.intro)) <;> first | (with_reducible exact OrdAt.of (by kernel_rfl)) | (with_reducible exact OrdT.of (by kernel_rfl)) | exact True.intro | (with_reducible assumption) | omega | rfl | exact Nat.le_of_ble_eq_true rfl | exact Or.inl trivial | (unfold inI; omega)))))
      simp [turnS, h1, h2]
    · repeat (first | simp only [go_sem, Nat.reduceLT, Nat.reduceEqDiff, reduceIte, Int.reduceEq, Int.reduceLE, Int.reduceLT, Nat.reduceMul, Nat.reduceAdd, Nat.reduceSub, Int.reduceNeg, Int.reduceAdd, Int.reduceMul, Int.reduceSub, Int.reduceToNat, Nat.reduceLeDiff, Nat.reduceDiv, Int.reduceDiv, reduceCtorEq, Option.some.injEq, exists_eq_left', List.length_map, List.length_set, List.length_replicate, List.length_drop, List.length_take, List.length_append, List.drop_zero, List.take_of_length_le, Nat.le_refl, Nat.sub_zero, splice_all, row_u8, splice_u8, wrap_u64c, hk] | refine AW.seq ?_ | refine AW.block ?_ | refine AW.scope ?_ | refine AW.cond_tt rfl ?_ | refine AW.cond_ff rfl ?_ | refine AW.label ?_ | refine AW.skip ?_ | refine AW.ret ?_ | refine AW.exit ?_ | refine AW.region ?_ | refine AW.draw (by kernel_rfl) (by decide +kernel) ?_ | refine AW.drawN (by kernel_rfl) (by decide +kernel) ?_ | ((with_reducible refine And.intro ?_ ?_); (focus ((repeat' (with_reducible apply And.intro)) <;> first | (with_reducible exact OrdAt.of (by kernel_rfl)) | (with_reducible exact OrdT.of (by kernel_rfl)) | exact True.intro | (with_reducible assumption) | omega | rfl | exact Nat.le_of_ble_eq_true rfl | exact Or.inl trivial | (unfold inI; omega)))))
      simp [turnS, h1, h2]
  · repeat (first | simp only [go_sem, Nat.reduceLT, Nat.reduceEqDiff, reduceIte, Int.reduceEq, Int.reduceLE, Int.reduceLT, Nat.reduceMul, Nat.reduceAdd, Nat.reduceSub, Int.reduceNeg, Int.reduceAdd, Int.reduceMul, Int.reduceSub, Int.reduceToNat, Nat.reduceLeDiff, Nat.reduceDiv, Int.reduceDiv, reduceCtorEq, Option.some.injEq, exists_eq_left', List.length_map, List.length_set, List.length_replicate, List.length_drop, List.length_take, List.length_append, List.drop_zero, List.take_of_length_le, Nat.le_refl, Nat.sub_zero, splice_all, row_u8, splice_u8, wrap_u64c, hk] | refine AW.seq ?_ | refine AW.block ?_ | refine AW.scope ?_ | refine AW.cond_tt rfl ?_ | refine AW.cond_ff rfl ?_ | refine AW.label ?_ | refine AW.skip ?_ | refine AW.ret ?_ | refine AW.exit ?_ | refine AW.region ?_ | refine AW.draw (by kernel_rfl) (by decide +kernel) ?_ | refine AW.drawN (by kernel_rfl) (by decide +kernel) ?_ | ((with_reducible refine And.intro ?_ ?_); (focus ((repeat' (with_reducible apply And.intro)) <;> first | (with_reducible exact OrdAt.of (by kernel_rfl)) | (with_reducible exact OrdT.of (by kernel_rfl)) | exact True.intro | (with_reducible assumption) | omega | rfl | exact Nat.le_of_ble_eq_true rfl | exact Or.inl trivial | (unfold inI; omega)))))
    simp [turnS, h1]
end Go.Proofs.YtpknjecfloglgaaDoor

namespace Go.Proofs.YtpknjecfloglgaaDoor
open Go Go.Eng Go.Proofs
set_option maxRecDepth 100000
set_option linter.unusedSimpArgs false
theorem f59 (a b : List UInt8) : AFun Tryd.prog 59 [.sl 1 (bys a) a.length none, .sl 1 (bys b) b.length none] (int (Lib.compareBytes a b)) :=
  AFun.compare Tryd.func59 (by kernel_rfl) (by kernel_rfl) (by kernel_rfl) (by kernel_rfl) a b
theorem f46 (a b : List UInt8) : AFun Tryd.prog 46 [.sl 1 (bys a) a.length none, .sl 1 (bys b) b.length none] (int (Lib.compareBytes a b)) := by
  refine AFun.enter Tryd.func46 rfl Tryd.call46 (by simp [Tryd.ntmps46]) fun γ1 => ?_
  simp only [frameOf, Tryd.ntmps46]
  repeat (first | simp only [go_sem, Nat.reduceLT, Nat.reduceEqDiff, reduceIte, Int.reduceEq, Int.reduceLE, Int.reduceLT, Nat.reduceMul, Nat.reduceAdd, Nat.reduceSub, Int.reduceNeg, Int.reduceAdd, Int.reduceMul, Int.reduceSub, Int.reduceToNat, Nat.reduceLeDiff, Nat.reduceDiv, Int.reduceDiv, reduceCtorEq, Option.some.injEq, exists_eq_left'] | refine AW.seq ?_ | refine AW.block ?_ | refine AW.scope ?_ | refine AW.cond_tt rfl ?_ | refine AW.cond_ff rfl ?_ | refine AW.label ?_ | refine AW.skip ?_ | refine AW.ret ?_ | refine AW.exit ?_ | refine AW.region ?_ | refine AW.draw (by kernel_rfl) (by decide +kernel) ?_ | refine AW.drawN (by kernel_rfl) (by decide +kernel) ?_ | ((with_reducible refine And.intro ?_ ?_); (focus ((repeat' (with_reducible apply And.intro)) <;> first | (with_reducible exact OrdAt.of (by kernel_rfl)) | (with_reducible exact OrdT.of (by kernel_rfl)) | exact True.intro | (with_reducible assumption) | omega | rfl | exact Nat.le_of_ble_eq_true rfl | exact Or.inl trivial | (unfold inI; omega)))))
  refine CallE.flat (f59 a b) rfl rfl (by rfl) ?_
  repeat (first | simp only [go_sem, Nat.reduceLT, Nat.reduceEqDiff, reduceIte, Int.reduceEq, Int.reduceLE, Int.reduceLT, Nat.reduceMul, Nat.reduceAdd, Nat.reduceSub, Int.reduceNeg, Int.reduceAdd, Int.reduceMul, Int.reduceSub, Int.reduceToNat, Nat.reduceLeDiff, Nat.reduceDiv, Int.reduceDiv, reduceCtorEq, Option.some.injEq, exists_eq_left'] | refine AW.seq ?_ | refine AW.block ?_ | refine AW.scope ?_ | refine AW.cond_tt rfl ?_ | refine AW.cond_ff rfl ?_ | refine AW.label ?_ | refine AW.skip ?_ | refine AW.ret ?_ | refine AW.exit ?_ | refine AW.region ?_ | refine AW.draw (by kernel_rfl) (by decide +kernel) ?_ | refine AW.drawN (by kernel_rfl) (by decide +kernel) ?_ | ((with_reducible refine And.intro ?_ ?_); (focus ((repeat' (with_reducible apply And.intro)) <;> first | (with_reducible exact OrdAt.of (by kernel_rfl)) | (with_reducible exact OrdT.of (by kernel_rfl)) | exact True.intro | (with_reducible assumption) | omega | rfl | exact Nat.le_of_ble_eq_true rfl | exact Or.inl trivial | (unfold inI; omega)))))
theorem f32 (a b : List UInt8) (ha : a.length = 32) (hb : b.length = 32) : AFun Tryd.prog 32 [.agg (a.map u8), .agg (b.map u8)] (int (Lib.compareBytes a b)) := by
  refine AFun.enter Tryd.func32 rfl Tryd.call32 (by simp [Tryd.ntmps32]) fun γ1 => ?_
  simp only [frameOf, Tryd.ntmps32]
  repeat (first | simp only [go_sem, Nat.reduceLT, Nat.reduceEqDiff, reduceIte, Int.reduceEq, Int.reduceLE, Int.reduceLT, Nat.reduceMul, Nat.reduceAdd, Nat.reduceSub, Int.reduceNeg, Int.reduceAdd, Int.reduceMul, Int.reduceSub, Int.reduceToNat, Nat.reduceLeDiff, Nat.reduceDiv, Int.reduceDiv, reduceCtorEq, Option.some.injEq, exists_eq_left'] | refine AW.seq ?_ | refine AW.block ?_ | refine AW.scope ?_ | refine AW.cond_tt rfl ?_ | refine AW.cond_ff rfl ?_ | refine AW.label ?_ | refine AW.skip ?_ | refine AW.ret ?_ | refine AW.exit ?_ | refine AW.region ?_ | refine AW.draw (by kernel_rfl) (by decide +kernel) ?_ | refine AW.drawN (by kernel_rfl) (by decide +kernel) ?_ | ((with_reducible refine And.intro ?_ ?_); (focus ((repeat' (with_reducible apply And.intro)) <;> first | (with_reducible exact OrdAt.of (by kernel_rfl)) | (with_reducible exact OrdT.of (by kernel_rfl)) | exact True.intro | (with_reducible assumption) | omega | rfl | exact Nat.le_of_ble_eq_true rfl | exact Or.inl trivial | (unfold inI; omega)))))
  refine CallXE.flat (f46 a b) (by simp [frz, rowOf, look_cons, bys, ha, hb, dt, List.take_of_length_le]) rfl (by rfl) ?_
  repeat (first | simp only [go_sem, Nat.reduceLT, Nat.reduceEqDiff, reduceIte, Int.reduceEq, Int.reduceLE, Int.reduceLT, Nat.reduceMul, Nat.reduceAdd, Nat.reduceSub, Int.reduceNeg, Int.reduceAdd, Int.reduceMul, Int.reduceSub, Int.reduceToNat, Nat.reduceLeDiff, Nat.reduceDiv, Int.reduceDiv, reduceCtorEq, Option.some.injEq, exists_eq_left'] | refine AW.seq ?_ | refine AW.block ?_ | refine AW.scope ?_ | refine AW.cond_tt rfl ?_ | refine AW.cond_ff rfl ?_ | refine AW.label ?_ | refine AW.skip ?_ | refine AW.ret ?_ | refine AW.exit ?_ | refine AW.region ?_ | refine AW.draw (by kernel_rfl) (by decide +kernel) ?_ | refine AW.drawN (by kernel_rfl) (by decide +kernel) ?_ | ((with_reducible refine And.intro ?_ ?_); (focus ((repeat' (with_reducible apply And.intro)) <;> first | (with_reducible exact OrdAt.of (by kernel_rfl)) | (with_reducible exact OrdT.of (by kernel_rfl)) | exact True.intro | (with_reducible assumption) | omega | rfl | exact Nat.le_of_ble_eq_true rfl | exact Or.inl trivial | (unfold inI; omega)))))
theorem cmp_step (a b : List UInt8) (j : Nat) (ha : j < a.length) (hb : j < b.length) : Lib.compareBytes (a.drop j) (b.drop j) =
    if a.getD j 0 < b.getD j 0 then -1 else if b.getD j 0 < a.getD j 0 then 1 else Lib.compareBytes (a.drop (j + 1)) (b.drop (j + 1)) := by
  rw [List.drop_eq_getElem_cons ha, List.drop_eq_getElem_cons hb, Lib.compareBytes]
  simp [List.getD_eq_getElem?_getD, ha, hb]
def st23 (a b : List UInt8) (j : Nat) : S := ⟨[(5, int j), (4, int 0), (3, .loc 1 0), (2, .loc 0 0)], 24, [(1, .box (b.map u8)), (0, .box (a.map u8))], 2, []⟩
theorem f34 (a b : List UInt8) (ha : a.length = 32) (hb : b.length = 32) : AFun Tryd.prog 34 [.agg (a.map u8), .agg (b.map u8)] (int (Lib.compareBytes a b)) := by
  refine AFun.enter Tryd.func34 rfl Tryd.call34 (by simp [Tryd.ntmps34]) fun γ1 => ?_
  simp only [frameOf, Tryd.ntmps34]
  repeat (first | simp only [go_sem, Nat.reduceLT, Nat.reduceEqDiff, reduceIte, Int.reduceEq, Int.reduceLE, Int.reduceLT, Nat.reduceMul, Nat.reduceAdd, Nat.reduceSub, Int.reduceNeg, Int.reduceAdd, Int.reduceMul, Int.reduceSub, Int.reduceToNat, Nat.reduceLeDiff, Nat.reduceDiv, Int.reduceDiv, reduceCtorEq, Option.some.injEq, exists_eq_left'] | refine AW.seq ?_ | refine AW.block ?_ | refine AW.scope ?_ | refine AW.cond_tt rfl ?_ | refine AW.cond_ff rfl ?_ | refine AW.label ?_ | refine AW.skip ?_ | refine AW.ret ?_ | refine AW.exit ?_ | refine AW.region ?_ | refine AW.draw (by kernel_rfl) (by decide +kernel) ?_ | refine AW.drawN (by kernel_rfl) (by decide +kernel) ?_ | ((with_reducible refine And.intro ?_ ?_); (focus ((repeat' (with_reducible apply And.intro)) <;> first | (with_reducible exact OrdAt.of (by kernel_rfl)) | (with_reducible exact OrdT.of (by kernel_rfl)) | exact True.intro | (with_reducible assumption) | omega | rfl | exact Nat.le_of_ble_eq_true rfl | exact Or.inl trivial | (unfold inI; omega)))))
  refine AW.loop (fun s => ∃ j : Nat, j ≤ 32 ∧ Lib.compareBytes a b = Lib.compareBytes (a.drop j) (b.drop j) ∧ s = st23 a b j) (fun s => (32 - slotN s 5).toNat) (s0 := st23 a b 0) ?_ ⟨0, by omega, rfl, rfl⟩ ?_
  · simp only [st23]; exact (Sub.same (by first | exact Nat.zero_le _ | exact Nat.le_refl _ | decide | omega) rfl rfl (by simp) (by simp [lab, labL, ren, renL, look_cons, renL_bys, labL_bys, renL_mapu8, labL_mapu8, renL_mapu32, labL_mapu32]) (by simp [labO, renO, lab, labL, ren, renL, look_cons, renL_bys, labL_bys, renL_mapu8, labL_mapu8, renL_mapu32, labL_mapu32]))
  rintro s ⟨j, hj, hp, rfl⟩
  simp only [st23]
  repeat (first | simp only [go_sem, Nat.reduceLT, Nat.reduceEqDiff, reduceIte, Int.reduceEq, Int.reduceLE, Int.reduceLT, Nat.reduceMul, Nat.reduceAdd, Nat.reduceSub, Int.reduceNeg, Int.reduceAdd, Int.reduceMul, Int.reduceSub, Int.reduceToNat, Nat.reduceLeDiff, Nat.reduceDiv, Int.reduceDiv, reduceCtorEq, Option.some.injEq, exists_eq_left'] | refine AW.seq ?_ | refine AW.block ?_ | refine AW.scope ?_ | refine AW.cond_tt rfl ?_ | refine AW.cond_ff rfl ?_ | refine AW.label ?_ | refine AW.skip ?_ | refine AW.ret ?_ | refine AW.exit ?_ | refine AW.region ?_ | refine AW.draw (by kernel_rfl) (by decide +kernel) ?_ | refine AW.drawN (by kernel_rfl) (by decide +kernel) ?_ | ((with_reducible refine And.intro ?_ ?_); (focus ((repeat' (with_reducible apply And.intro)) <;> first | (with_reducible exact OrdAt.of (by kernel_rfl)) | (with_reducible exact OrdT.of (by kernel_rfl)) | exact True.intro | (with_reducible assumption) | omega | rfl | exact Nat.le_of_ble_eq_true rfl | exact Or.inl trivial | (unfold inI; omega)))))
  refine AW.cond_dec rfl (fun h1 => ?_) (fun h1 => ?_)
  · have hj2 : j < 32 := by omega
    repeat (first | simp only [go_sem, Nat.reduceLT, Nat.reduceEqDiff, reduceIte, Int.reduceEq, Int.reduceLE, Int.reduceLT, Nat.reduceMul, Nat.reduceAdd, Nat.reduceSub, Int.reduceNeg, Int.reduceAdd, Int.reduceMul, Int.reduceSub, Int.reduceToNat, Nat.reduceLeDiff, Nat.reduceDiv, Int.reduceDiv, reduceCtorEq, Option.some.injEq, exists_eq_left', List.length_map, List.length_set, List.length_replicate, List.length_drop, List.length_take, List.length_append, List.drop_zero, List.take_of_length_le, Nat.le_refl, Nat.sub_zero, splice_all, row_u8, splice_u8, wrap_u64c, ha, hb, hj2] | refine AW.seq ?_ | refine AW.block ?_ | refine AW.scope ?_ | refine AW.cond_tt rfl ?_ | refine AW.cond_ff rfl ?_ | refine AW.label ?_ | refine AW.skip ?_ | refine AW.ret ?_ | refine AW.exit ?_ | refine AW.region ?_ | refine AW.draw (by kernel_rfl) (by decide +kernel) ?_ | refine AW.drawN (by kernel_rfl) (by decide +kernel) ?_ | ((with_reducible refine And.intro ?_ ?_); (focus ((repeat' (with_reducible apply And.intro)) <;> first | (with_reducible exact OrdAt.of (by kernel_rfl)) | (with_reducible exact OrdT.of (by kernel_rfl)) | exact True.intro | (with_reducible assumption) | omega | rfl | exact Nat.le_of_ble_eq_true rfl | exact Or.inl trivial | (unfold inI; omega)))))
    refine AW.cond_dec rfl (fun h2 => ?_) (fun h2 => ?_)
    · repeat (first | simp only [go_sem, Nat.reduceLT, Nat.reduceEqDiff, reduceIte, Int.reduceEq, Int.reduceLE, Int.reduceLT, Nat.reduceMul, Nat.reduceAdd, Nat.reduceSub, Int.reduceNeg, Int.reduceAdd, Int.reduceMul, Int.reduceSub, Int.reduceToNat, Nat.reduceLeDiff, Nat.reduceDiv, Int.reduceDiv, reduceCtorEq, Option.some.injEq, exists_eq_left'] | refine AW.seq ?_ | refine AW.block ?_ | refine AW.scope ?_ | refine AW.cond_tt rfl ?_ | refine AW.cond_ff rfl ?_ | refine AW.label ?_ | refine AW.skip ?_ | refine AW.ret ?_ | refine AW.exit ?_ | refine AW.region ?_ | refine AW.draw (by kernel_rfl) (by decide +kernel) ?_ | refine AW.drawN (by kernel_rfl) (by decide +kernel) ?_ | ((with_reducible refine And.intro ?_ ?_); (focus ((repeat' (with_reducible apply And.intro)) <;> first | (with_reducible exact OrdAt.of (by kernel_rfl)) | (with_reducible exact OrdT.of (by kernel_rfl)) | exact True.intro | (with_reducible assumption) | omega | rfl | exact Nat.le_of_ble_eq_true rfl | exact Or.inl trivial | (unfold inI; omega)))))
      rw [hp, cmp_step a b j (by omega) (by omega), if_pos (by rw [UInt8.lt_iff_toNat_lt]; omega)]
    · repeat (first | simp only [go_sem, Nat.reduceLT, Nat.reduceEqDiff, reduceIte, Int.reduceEq, Int.reduceLE, Int.reduceLT, Nat.reduceMul, Nat.reduceAdd, Nat.reduceSub, Int.reduceNeg, Int.reduceAdd, Int.reduceMul, Int.reduceSub, Int.reduceToNat, Nat.reduceLeDiff, Nat.reduceDiv, Int.reduceDiv, reduceCtorEq, Option.some.injEq, exists_eq_left', List.length_map, List.length_set, List.length_replicate, List.length_drop, List.length_take, List.length_append, List.drop_zero, List.take_of_length_le, Nat.le_refl, Nat.sub_zero, splice_all, row_u8, splice_u8, wrap_u64c, ha, hb, hj2] | refine AW.seq ?_ | refine AW.block ?_ | refine AW.scope ?_ | refine AW.cond_tt rfl ?_ | refine AW.cond_ff rfl ?_ | refine AW.label ?_ | refine AW.skip ?_ | refine AW.ret ?_ | refine AW.exit ?_ | refine AW.region ?_ | refine AW.draw (by kernel_rfl) (by decide +kernel) ?_ | refine AW.drawN (by kernel_rfl) (by decide +kernel) ?_ | ((with_reducible refine And.intro ?_ ?_); (focus ((repeat' (with_reducible apply And.intro)) <;> first | (with_reducible exact OrdAt.of (by kernel_rfl)) | (with_reducible exact OrdT.of (by kernel_rfl)) | exact True.intro | (with_reducible assumption) | omega | rfl | exact Nat.le_of_ble_eq_true rfl | exact Or.inl trivial | (unfold inI; omega)))))
      refine AW.cond_dec rfl (fun h3 => ?_) (fun h3 => ?_)
      · repeat (first | simp only [go_sem, Nat.reduceLT, Nat.reduceEqDiff, reduceIte, Int.reduceEq, Int.reduceLE, Int.reduceLT, Nat.reduceMul, Nat.reduceAdd, Nat.reduceSub, Int.reduceNeg, Int.reduceAdd, Int.reduceMul, Int.reduceSub, Int.reduceToNat, Nat.reduceLeDiff, Nat.reduceDiv, Int.reduceDiv, reduceCtorEq, Option.some.injEq, exists_eq_left'] | refine AW.seq ?_ | refine AW.block ?_ | refine AW.scope ?_ | refine AW.cond_tt rfl ?_ | refine AW.cond_ff rfl ?_ | refine AW.label ?_ | refine AW.skip ?_ | refine AW.ret ?_ | refine AW.exit ?_ | refine AW.region ?_ | refine AW.draw (by kernel_rfl) (by decide +kernel) ?_ | refine AW.drawN (by kernel_rfl) (by decide +kernel) ?_ | ((with_reducible refine And.intro ?_ ?_); (focus ((repeat' (with_reducible apply And.intro)) <;> first | (with_reducible exact OrdAt.of (by kernel_rfl)) | (with_reducible exact OrdT.of (by kernel_rfl)) | exact True.intro | (with_reducible assumption) | omega | rfl | exact Nat.le_of_ble_eq_true rfl | exact Or.inl trivial | (unfold inI; omega)))))
        rw [hp, cmp_step a b j (by omega) (by omega), if_neg (by rw [UInt8.lt_iff_toNat_lt]; omega), if_pos (by rw [UInt8.lt_iff_toNat_lt]; omega)]
      · repeat (first | simp only [go_sem, Nat.reduceLT, Nat.reduceEqDiff, reduceIte, Int.reduceEq, Int.reduceLE, Int.reduceLT, Nat.reduceMul, Nat.reduceAdd, Nat.reduceSub, Int.reduceNeg, Int.reduceAdd, Int.reduceMul, Int.reduceSub, Int.reduceToNat, Nat.reduceLeDiff, Nat.reduceDiv, Int.reduceDiv, reduceCtorEq, Option.some.injEq, exists_eq_left'] | refine AW.seq ?_ | refine AW.block ?_ | refine AW.scope ?_ | refine AW.cond_tt rfl ?_ | refine AW.cond_ff rfl ?_ | refine AW.label ?_ | refine AW.skip ?_ | refine AW.ret ?_ | refine AW.exit ?_ | refine AW.region ?_ | refine AW.draw (by kernel_rfl) (by decide +kernel) ?_ | refine AW.drawN (by kernel_rfl) (by decide +kernel) ?_ | ((with_reducible refine And.intro ?_ ?_); (focus ((repeat' (with_reducible apply And.intro)) <;> first | (with_reducible exact OrdAt.of (by kernel_rfl)) | (with_reducible exact OrdT.of (by kernel_rfl)) | exact True.intro | (with_reducible assumption) | omega | rfl | exact Nat.le_of_ble_eq_true rfl | exact Or.inl trivial | (unfold inI; omega)))))
        rw [Qof_lp]
        refine ⟨st23 a b (j + 1), ?_, ⟨j + 1, by omega, ?_, rfl⟩, ?_⟩
        · simp only [st23]; exact (Sub.same (by first | exact Nat.zero_le _ | exact Nat.le_refl _ | decide | omega) rfl rfl (by simp) (by simp [lab, labL, ren, renL, look_cons, renL_bys, labL_bys, renL_mapu8, labL_mapu8, renL_mapu32, labL_mapu32]) (by simp [labO, renO, lab, labL, ren, renL, look_cons, renL_bys, labL_bys, renL_mapu8, labL_mapu8, renL_mapu32, labL_mapu32]))
        · rw [hp, cmp_step a b j (by omega) (by omega), if_neg (by rw [UInt8.lt_iff_toNat_lt]; omega), if_neg (by rw [UInt8.lt_iff_toNat_lt]; omega)]
        · simp [slotN, st23, look_cons]; omega
  · repeat (first | simp only [go_sem, Nat.reduceLT, Nat.reduceEqDiff, reduceIte, Int.reduceEq, Int.reduceLE, Int.reduceLT, Nat.reduceMul, Nat.reduceAdd, Nat.reduceSub, Int.reduceNeg, Int.reduceAdd, Int.reduceMul, Int.reduceSub, Int.reduceToNat, Nat.reduceLeDiff, Nat.reduceDiv, Int.reduceDiv, reduceCtorEq, Option.some.injEq, exists_eq_left'] | refine AW.seq ?_ | refine AW.block ?_ | refine AW.scope ?_ | refine AW.cond_tt rfl ?_ | refine AW.cond_ff rfl ?_ | refine AW.label ?_ | refine AW.skip ?_ | refine AW.ret ?_ | refine AW.exit ?_ | refine AW.region ?_ | refine AW.draw (by kernel_rfl) (by decide +kernel) ?_ | refine AW.drawN (by kernel_rfl) (by decide +kernel) ?_ | ((with_reducible refine And.intro ?_ ?_); (focus ((repeat' (with_reducible apply And.intro)) <;> first | (with_reducible exact OrdAt.of (by kernel_rfl)) | (with_reducible exact OrdT.of (by kernel_rfl)) | exact True.intro | (with_reducible assumption) | omega | rfl | exact Nat.le_of_ble_eq_true rfl | exact Or.inl trivial | (unfold inI; omega)))))
    have : j = 32 := by omega
    subst this
    rw [hp, List.drop_of_length_le (by omega), List.drop_of_length_le (by omega)]
    rfl
end Go.Proofs.YtpknjecfloglgaaDoor

namespace Go.Proofs.YtpknjecfloglgaaDoor
open Go Go.Eng Go.Proofs
set_option maxRecDepth 100000
set_option linter.unusedSimpArgs false
theorem f56 (b : List UInt8) (hb : b.length ≤ 1000000) : AFun Tryd.prog 56 [.sl 1 (bys b) b.length none] (.sl 1 (bys b) b.length none) := by
  refine AFun.enterW Tryd.func56 rfl Tryd.call56 (by simp [Tryd.ntmps56]) fun γ1 => ?_
  simp only [frameOf, Tryd.ntmps56]
  refine AW.seq (AW.region ?_)
  simp only [go_sem, Nat.reduceLT, Nat.reduceEqDiff, reduceIte, Int.reduceEq, Int.reduceLE, Int.reduceLT, Nat.reduceMul, Nat.reduceAdd, Nat.reduceSub, Int.reduceNeg, Int.reduceAdd, Int.reduceMul, Int.reduceSub, Int.reduceToNat, Nat.reduceLeDiff, Nat.reduceDiv, Int.reduceDiv, reduceCtorEq, Option.some.injEq, exists_eq_left']
  refine AW.seq (AW.seq ?_)
  refine AW.nilTest rfl rfl rfl rfl rfl rfl (by simp) (by simp) (by simp only [go_sem]; rfl) rfl (fun h => ?_) ?_
  · repeat (first | simp only [go_sem, Nat.reduceLT, Nat.reduceEqDiff, reduceIte, Int.reduceEq, Int.reduceLE, Int.reduceLT, Nat.reduceMul, Nat.reduceAdd, Nat.reduceSub, Int.reduceNeg, Int.reduceAdd, Int.reduceMul, Int.reduceSub, Int.reduceToNat, Nat.reduceLeDiff, Nat.reduceDiv, Int.reduceDiv, reduceCtorEq, Option.some.injEq, exists_eq_left'] | refine AW.seq ?_ | refine AW.block ?_ | refine AW.scope ?_ | refine AW.cond_tt rfl ?_ | refine AW.cond_ff rfl ?_ | refine AW.label ?_ | refine AW.skip ?_ | refine AW.ret ?_ | refine AW.exit ?_ | refine AW.region ?_ | refine AW.draw (by kernel_rfl) (by decide +kernel) ?_ | refine AW.drawN (by kernel_rfl) (by decide +kernel) ?_ | ((with_reducible refine And.intro ?_ ?_); (focus ((repeat' (with_reducible apply And.intro)) <;> first | (with_reducible exact OrdAt.of (by kernel_rfl)) | (with_reducible exact OrdT.of (by kernel_rfl)) | exact True.intro | (with_reducible assumption) | omega | rfl | exact Nat.le_of_ble_eq_true rfl | exact Or.inl trivial | (unfold inI; omega)))))
    exact Wk.nil h (by simp [bys, List.eq_nil_of_length_eq_zero h])
  · repeat (first | simp only [go_sem, Nat.reduceLT, Nat.reduceEqDiff, reduceIte, Int.reduceEq, Int.reduceLE, Int.reduceLT, Nat.reduceMul, Nat.reduceAdd, Nat.reduceSub, Int.reduceNeg, Int.reduceAdd, Int.reduceMul, Int.reduceSub, Int.reduceToNat, Nat.reduceLeDiff, Nat.reduceDiv, Int.reduceDiv, reduceCtorEq, Option.some.injEq, exists_eq_left'] | refine AW.seq ?_ | refine AW.block ?_ | refine AW.scope ?_ | refine AW.cond_tt rfl ?_ | refine AW.cond_ff rfl ?_ | refine AW.label ?_ | refine AW.skip ?_ | refine AW.ret ?_ | refine AW.exit ?_ | refine AW.region ?_ | refine AW.draw (by kernel_rfl) (by decide +kernel) ?_ | refine AW.drawN (by kernel_rfl) (by decide +kernel) ?_ | ((with_reducible refine And.intro ?_ ?_); (focus ((repeat' (with_reducible apply And.intro)) <;> first | (with_reducible exact OrdAt.of (by kernel_rfl)) | (with_reducible exact OrdT.of (by kernel_rfl)) | exact True.intro | (with_reducible assumption) | omega | rfl | exact Nat.le_of_ble_eq_true rfl | exact Or.inl trivial | (unfold inI; omega)))))
    repeat (first | simp only [go_sem, Nat.reduceLT, Nat.reduceEqDiff, reduceIte, Int.reduceEq, Int.reduceLE, Int.reduceLT, Nat.reduceMul, Nat.reduceAdd, Nat.reduceSub, Int.reduceNeg, Int.reduceAdd, Int.reduceMul, Int.reduceSub, Int.reduceToNat, Nat.reduceLeDiff, Nat.reduceDiv, Int.reduceDiv, reduceCtorEq, Option.some.injEq, exists_eq_left'] | refine AW.seq ?_ | refine AW.block ?_ | refine AW.scope ?_ | refine AW.cond_tt rfl ?_ | refine AW.cond_ff rfl ?_ | refine AW.label ?_ | refine AW.skip ?_ | refine AW.ret ?_ | refine AW.exit ?_ | refine AW.region ?_ | refine AW.draw (by kernel_rfl) (by decide +kernel) ?_ | refine AW.drawN (by kernel_rfl) (by decide +kernel) ?_ | ((with_reducible refine And.intro ?_ ?_); (focus ((repeat' (with_reducible apply And.intro)) <;> first | (with_reducible exact OrdAt.of (by kernel_rfl)) | (with_reducible exact OrdT.of (by kernel_rfl)) | exact True.intro | (with_reducible assumption) | omega | rfl | exact Nat.le_of_ble_eq_true rfl | exact Or.inl trivial | (unfold inI; omega)))))
    exact Wk.refl _
def bigE (n : UInt64) (size : Int) (j : Nat) : List UInt8 := (List.range j).map fun (i : Nat) => (shr64 n (8 * (size - 1 - (i : Int))).toNat).toUInt8
theorem bigE_length (n : UInt64) (size : Int) (j : Nat) : (bigE n size j).length = j := by simp [bigE]
theorem bigE_succ (n : UInt64) (size : Int) (j : Nat) : bigE n size (j + 1) = bigE n size j ++ [(shr64 n (8 * (size - 1 - j)).toNat).toUInt8] := by
  simp [bigE, List.range_succ]
def putBad (n : UInt64) (size : Int) : Prop := ¬ (1 ≤ size ∧ size ≤ 8) ∨ (size < 8 ∧ (shr64 n (8 * size).toNat).toNat ≠ 0)
instance (n : UInt64) (size : Int) : Decidable (putBad n size) := by unfold putBad; infer_instance
def putS (b : List UInt8) (n : UInt64) (size : Int) : List UInt8 := if putBad n size then [] else b ++ bigE n size size.toNat
def putE (n : UInt64) (size : Int) : Int := if putBad n size then 10 else 0
def st9 (b : List UInt8) (n : UInt64) (size : Int) (j : Nat) : S := ⟨[(33, int j), (32, int size), (8, .sl 1 (bys (b ++ bigE n size j)) (b.length + j) (some 1)), (2, int size), (1, u64 n)], 49, [(1, .tok)], 2, []⟩
theorem f58 (b : List UInt8) (hb : b.length ≤ 1000000) (n : UInt64) (size : Int) (hs : inI size) : AFun Tryd.prog 58 [.sl 1 (bys b) b.length none, u64 n, int size]
    (.tup [.sl 1 (bys (putS b n size)) (putS b n size).length none, int (putE n size)]) := by
  refine AFun.enterW Tryd.func58 rfl Tryd.call58 (by simp [Tryd.ntmps58]) fun γ1 => ?_
  simp only [frameOf, Tryd.ntmps58]
  repeat (first | simp only [go_sem, Nat.reduceLT, Nat.reduceEqDiff, reduceIte, Int.reduceEq, Int.reduceLE, Int.reduceLT, Nat.reduceMul, Nat.reduceAdd, Nat.reduceSub, Int.reduceNeg, Int.reduceAdd, Int.reduceMul, Int.reduceSub, Int.reduceToNat, Nat.reduceLeDiff, Nat.reduceDiv, Int.reduceDiv, reduceCtorEq, Option.some.injEq, exists_eq_left'] | refine AW.seq ?_ | refine AW.block ?_ | refine AW.scope ?_ | refine AW.cond_tt rfl ?_ | refine AW.cond_ff rfl ?_ | refine AW.label ?_ | refine AW.skip ?_ | refine AW.ret ?_ | refine AW.exit ?_ | refine AW.region ?_ | refine AW.draw (by kernel_rfl) (by decide +kernel) ?_ | refine AW.drawN (by kernel_rfl) (by decide +kernel) ?_ | ((with_reducible refine And.intro ?_ ?_); (focus ((repeat' (with_reducible apply And.intro)) <;> first | (with_reducible exact OrdAt.of (by kernel_rfl)) | (with_reducible exact OrdT.of (by kernel_rfl)) | exact True.intro | (with_reducible assumption) | omega | rfl | exact Nat.le_of_ble_eq_true rfl | exact Or.inl trivial | (unfold inI; omega)))))
  refine CallE.flat (f66 size) rfl rfl (by rfl) ?_
  repeat (first | simp only [go_sem, Nat.reduceLT, Nat.reduceEqDiff, reduceIte, Int.reduceEq, Int.reduceLE, Int.reduceLT, Nat.reduceMul, Nat.reduceAdd, Nat.reduceSub, Int.reduceNeg, Int.reduceAdd, Int.reduceMul, Int.reduceSub, Int.reduceToNat, Nat.reduceLeDiff, Nat.reduceDiv, Int.reduceDiv, reduceCtorEq, Option.some.injEq, exists_eq_left'] | refine AW.seq ?_ | refine AW.block ?_ | refine AW.scope ?_ | refine AW.cond_tt rfl ?_ | refine AW.cond_ff rfl ?_ | refine AW.label ?_ | refine AW.skip ?_ | refine AW.ret ?_ | refine AW.exit ?_ | refine AW.region ?_ | refine AW.draw (by kernel_rfl) (by decide +kernel) ?_ | refine AW.drawN (by kernel_rfl) (by decide +kernel) ?_ | ((with_reducible refine And.intro ?_ ?_); (focus ((repeat' (with_reducible apply And.intro)) <;> first | (with_reducible exact OrdAt.of (by kernel_rfl)) | (with_reducible exact OrdT.of (by kernel_rfl)) | exact True.intro | (with_reducible assumption) | omega | rfl | exact Nat.le_of_ble_eq_true rfl | exact Or.inl trivial | (unfold inI; omega)))))
  refine exG_decf (fun h1 => ?_) (fun h1 => ?_)
  · repeat (first | simp only [go_sem, Nat.reduceLT, Nat.reduceEqDiff, reduceIte, Int.reduceEq, Int.reduceLE, Int.reduceLT, Nat.reduceMul, Nat.reduceAdd, Nat.reduceSub, Int.reduceNeg, Int.reduceAdd, Int.reduceMul, Int.reduceSub, Int.reduceToNat, Nat.reduceLeDiff, Nat.reduceDiv, Int.reduceDiv, reduceCtorEq, Option.some.injEq, exists_eq_left'] | refine AW.seq ?_ | refine AW.block ?_ | refine AW.scope ?_ | refine AW.cond_tt rfl ?_ | refine AW.cond_ff rfl ?_ | refine AW.label ?_ | refine AW.skip ?_ | refine AW.ret ?_ | refine AW.exit ?_ | refine AW.region ?_ | refine AW.draw (by kernel_rfl) (by decide +kernel) ?_ | refine AW.drawN (by kernel_rfl) (by decide +kernel) ?_ | ((with_reducible refine And.intro ?_ ?_); (focus ((repeat' (with_reducible apply And.intro)) <;> first | (with_reducible exact OrdAt.of (by kernel_rfl)) | (with_reducible exact OrdT.of (by kernel_rfl)) | exact True.intro | (with_reducible assumption) | omega | rfl | exact Nat.le_of_ble_eq_true rfl | exact Or.inl trivial | (unfold inI; omega)))))
    refine exG_dec (fun h2 => ?_) (fun h2 => ?_)
    · repeat (first | simp only [go_sem, Nat.reduceLT, Nat.reduceEqDiff, reduceIte, Int.reduceEq, Int.reduceLE, Int.reduceLT, Nat.reduceMul, Nat.reduceAdd, Nat.reduceSub, Int.reduceNeg, Int.reduceAdd, Int.reduceMul, Int.reduceSub, Int.reduceToNat, Nat.reduceLeDiff, Nat.reduceDiv, Int.reduceDiv, reduceCtorEq, Option.some.injEq, exists_eq_left'] | refine AW.seq ?_ | refine AW.block ?_ | refine AW.scope ?_ | refine AW.cond_tt rfl ?_ | refine AW.cond_ff rfl ?_ | refine AW.label ?_ | refine AW.skip ?_ | refine AW.ret ?_ | refine AW.exit ?_ | refine AW.region ?_ | refine AW.draw (by kernel_rfl) (by decide +kernel) ?_ | refine AW.drawN (by kernel_rfl) (by decide +kernel) ?_ | ((with_reducible refine And.intro ?_ ?_); (focus ((repeat' (with_reducible apply And.intro)) <;> first | (with_reducible exact OrdAt.of (by kernel_rfl)) | (with_reducible exact OrdT.of (by kernel_rfl)) | exact True.intro | (with_reducible assumption) | omega | rfl | exact Nat.le_of_ble_eq_true rfl | exact Or.inl trivial | (unfold inI; omega)))))
      repeat (first | simp only [go_sem, Nat.reduceLT, Nat.reduceEqDiff, reduceIte, Int.reduceEq, Int.reduceLE, Int.reduceLT, Nat.reduceMul, Nat.reduceAdd, Nat.reduceSub, Int.reduceNeg, Int.reduceAdd, Int.reduceMul, Int.reduceSub, Int.reduceToNat, Nat.reduceLeDiff, Nat.reduceDiv, Int.reduceDiv, reduceCtorEq, Option.some.injEq, exists_eq_left'] | refine AW.seq ?_ | refine AW.block ?_ | refine AW.scope ?_ | refine AW.cond_tt rfl ?_ | refine AW.cond_ff rfl ?_ | refine AW.label ?_ | refine AW.skip ?_ | refine AW.ret ?_ | refine AW.exit ?_ | refine AW.region ?_ | refine AW.draw (by kernel_rfl) (by decide +kernel) ?_ | refine AW.drawN (by kernel_rfl) (by decide +kernel) ?_ | ((with_reducible refine And.intro ?_ ?_); (focus ((repeat' (with_reducible apply And.intro)) <;> first | (with_reducible exact OrdAt.of (by kernel_rfl)) | (with_reducible exact OrdT.of (by kernel_rfl)) | exact True.intro | (with_reducible assumption) | omega | rfl | exact Nat.le_of_ble_eq_true rfl | exact Or.inl trivial | (unfold inI; omega)))))
      refine AW.cond_dec rfl (fun h3 => ?_) (fun h3 => ?_)
      · repeat (first | simp only [go_sem, Nat.reduceLT, Nat.reduceEqDiff, reduceIte, Int.reduceEq, Int.reduceLE, Int.reduceLT, Nat.reduceMul, Nat.reduceAdd, Nat.reduceSub, Int.reduceNeg, Int.reduceAdd, Int.reduceMul, Int.reduceSub, Int.reduceToNat, Nat.reduceLeDiff, Nat.reduceDiv, Int.reduceDiv, reduceCtorEq, Option.some.injEq, exists_eq_left'] | refine AW.seq ?_ | refine AW.block ?_ | refine AW.scope ?_ | refine AW.cond_tt rfl ?_ | refine AW.cond_ff rfl ?_ | refine AW.label ?_ | refine AW.skip ?_ | refine AW.ret ?_ | refine AW.exit ?_ | refine AW.region ?_ | refine AW.draw (by kernel_rfl) (by decide +kernel) ?_ | refine AW.drawN (by kernel_rfl) (by decide +kernel) ?_ | ((with_reducible refine And.intro ?_ ?_); (focus ((repeat' (with_reducible apply And.intro)) <;> first | (with_reducible exact OrdAt.of (by kernel_rfl)) | (with_reducible exact OrdT.of (by kernel_rfl)) | exact True.intro | (with_reducible assumption) | omega | rfl | exact Nat.le_of_ble_eq_true rfl | exact Or.inl trivial | (unfold inI; omega)))))
        have hbad : putBad n size := .inr ⟨h2, by omega⟩
        simp only [putS, putE, if_pos hbad]
        exact Wk.tup ⟨Wk.nil rfl rfl, Wk.refl _, trivial⟩
      · have hbad : ¬ putBad n size := by unfold putBad; omega
        repeat (first | simp only [go_sem, Nat.reduceLT, Nat.reduceEqDiff, reduceIte, Int.reduceEq, Int.reduceLE, Int.reduceLT, Nat.reduceMul, Nat.reduceAdd, Nat.reduceSub, Int.reduceNeg, Int.reduceAdd, Int.reduceMul, Int.reduceSub, Int.reduceToNat, Nat.reduceLeDiff, Nat.reduceDiv, Int.reduceDiv, reduceCtorEq, Option.some.injEq, exists_eq_left'] | refine AW.seq ?_ | refine AW.block ?_ | refine AW.scope ?_ | refine AW.cond_tt rfl ?_ | refine AW.cond_ff rfl ?_ | refine AW.label ?_ | refine AW.skip ?_ | refine AW.ret ?_ | refine AW.exit ?_ | refine AW.region ?_ | refine AW.draw (by kernel_rfl) (by decide +kernel) ?_ | refine AW.drawN (by kernel_rfl) (by decide +kernel) ?_ | ((with_reducible refine And.intro ?_ ?_); (focus ((repeat' (with_reducible apply And.intro)) <;> first | (with_reducible exact OrdAt.of (by kernel_rfl)) | (with_reducible exact OrdT.of (by kernel_rfl)) | exact True.intro | (with_reducible assumption) | omega | rfl | exact Nat.le_of_ble_eq_true rfl | exact Or.inl trivial | (unfold inI; omega)))))
        repeat (first | simp only [go_sem, Nat.reduceLT, Nat.reduceEqDiff, reduceIte, Int.reduceEq, Int.reduceLE, Int.reduceLT, Nat.reduceMul, Nat.reduceAdd, Nat.reduceSub, Int.reduceNeg, Int.reduceAdd, Int.reduceMul, Int.reduceSub, Int.reduceToNat, Nat.reduceLeDiff, Nat.reduceDiv, Int.reduceDiv, reduceCtorEq, Option.some.injEq, exists_eq_left'] | refine AW.seq ?_ | refine AW.block ?_ | refine AW.scope ?_ | refine AW.cond_tt rfl ?_ | refine AW.cond_ff rfl ?_ | refine AW.label ?_ | refine AW.skip ?_ | refine AW.ret ?_ | refine AW.exit ?_ | refine AW.region ?_ | refine AW.draw (by kernel_rfl) (by decide +kernel) ?_ | refine AW.drawN (by kernel_rfl) (by decide +kernel) ?_ | ((with_reducible refine And.intro ?_ ?_); (focus ((repeat' (with_reducible apply And.intro)) <;> first | (with_reducible exact OrdAt.of (by kernel_rfl)) | (with_reducible exact OrdT.of (by kernel_rfl)) | exact True.intro | (with_reducible assumption) | omega | rfl | exact Nat.le_of_ble_eq_true rfl | exact Or.inl trivial | (unfold inI; omega)))))
        refine AW.loop (fun s => ∃ j : Nat, (j : Int) ≤ size ∧ s = st9 b n size j) (fun s => (size - slotN s 33).toNat) (s0 := st9 b n size 0) ?_ ⟨0, by omega, rfl⟩ ?_
        · simp only [st9, bigE, List.range_zero, List.map_nil, List.append_nil, Nat.add_zero]; exact (Sub.same (by first | exact Nat.zero_le _ | exact Nat.le_refl _ | decide | omega) rfl rfl (by simp) (by simp [lab, labL, ren, renL, look_cons, renL_bys, labL_bys, renL_mapu8, labL_mapu8, renL_mapu32, labL_mapu32]) (by simp [labO, renO, lab, labL, ren, renL, look_cons, renL_bys, labL_bys, renL_mapu8, labL_mapu8, renL_mapu32, labL_mapu32]))
        rintro s ⟨j, hj, rfl⟩
        simp only [st9]
        repeat (first | simp only [go_sem, Nat.reduceLT, Nat.reduceEqDiff, reduceIte, Int.reduceEq, Int.reduceLE, Int.reduceLT, Nat.reduceMul, Nat.reduceAdd, Nat.reduceSub, Int.reduceNeg, Int.reduceAdd, Int.reduceMul, Int.reduceSub, Int.reduceToNat, Nat.reduceLeDiff, Nat.reduceDiv, Int.reduceDiv, reduceCtorEq, Option.some.injEq, exists_eq_left'] | refine AW.seq ?_ | refine AW.block ?_ | refine AW.scope ?_ | refine AW.cond_tt rfl ?_ | refine AW.cond_ff rfl ?_ | refine AW.label ?_ | refine AW.skip ?_ | refine AW.ret ?_ | refine AW.exit ?_ | refine AW.region ?_ | refine AW.draw (by kernel_rfl) (by decide +kernel) ?_ | refine AW.drawN (by kernel_rfl) (by decide +kernel) ?_ | ((with_reducible refine And.intro ?_ ?_); (focus ((repeat' (with_reducible apply And.intro)) <;> first | (with_reducible exact OrdAt.of (by kernel_rfl)) | (with_reducible exact OrdT.of (by kernel_rfl)) | exact True.intro | (with_reducible assumption) | omega | rfl | exact Nat.le_of_ble_eq_true rfl | exact Or.inl trivial | (unfold inI; omega)))))
        refine AW.cond_dec rfl (fun h4 => ?_) (fun h4 => ?_)
        · repeat (first | simp only [go_sem, Nat.reduceLT, Nat.reduceEqDiff, reduceIte, Int.reduceEq, Int.reduceLE, Int.reduceLT, Nat.reduceMul, Nat.reduceAdd, Nat.reduceSub, Int.reduceNeg, Int.reduceAdd, Int.reduceMul, Int.reduceSub, Int.reduceToNat, Nat.reduceLeDiff, Nat.reduceDiv, Int.reduceDiv, reduceCtorEq, Option.some.injEq, exists_eq_left'] | refine AW.seq ?_ | refine AW.block ?_ | refine AW.scope ?_ | refine AW.cond_tt rfl ?_ | refine AW.cond_ff rfl ?_ | refine AW.label ?_ | refine AW.skip ?_ | refine AW.ret ?_ | refine AW.exit ?_ | refine AW.region ?_ | refine AW.draw (by kernel_rfl) (by decide +kernel) ?_ | refine AW.drawN (by kernel_rfl) (by decide +kernel) ?_ | ((with_reducible refine And.intro ?_ ?_); (focus ((repeat' (with_reducible apply And.intro)) <;> first | (with_reducible exact OrdAt.of (by kernel_rfl)) | (with_reducible exact OrdT.of (by kernel_rfl)) | exact True.intro | (with_reducible assumption) | omega | rfl | exact Nat.le_of_ble_eq_true rfl | exact Or.inl trivial | (unfold inI; omega)))))
          repeat (first | simp only [go_sem, Nat.reduceLT, Nat.reduceEqDiff, reduceIte, Int.reduceEq, Int.reduceLE, Int.reduceLT, Nat.reduceMul, Nat.reduceAdd, Nat.reduceSub, Int.reduceNeg, Int.reduceAdd, Int.reduceMul, Int.reduceSub, Int.reduceToNat, Nat.reduceLeDiff, Nat.reduceDiv, Int.reduceDiv, reduceCtorEq, Option.some.injEq, exists_eq_left'] | refine AW.seq ?_ | refine AW.block ?_ | refine AW.scope ?_ | refine AW.cond_tt rfl ?_ | refine AW.cond_ff rfl ?_ | refine AW.label ?_ | refine AW.skip ?_ | refine AW.ret ?_ | refine AW.exit ?_ | refine AW.region ?_ | refine AW.draw (by kernel_rfl) (by decide +kernel) ?_ | refine AW.drawN (by kernel_rfl) (by decide +kernel) ?_ | ((with_reducible refine And.intro ?_ ?_); (focus ((repeat' (with_reducible apply And.intro)) <;> first | (with_reducible exact OrdAt.of (by kernel_rfl)) | (with_reducible exact OrdT.of (by kernel_rfl)) | exact True.intro | (with_reducible assumption) | omega | rfl | exact Nat.le_of_ble_eq_true rfl | exact Or.inl trivial | (unfold inI; omega)))))
          rw [Qof_lp]
          refine ⟨st9 b n size (j + 1), ?_, ⟨j + 1, by omega, rfl⟩, ?_⟩
          · simp only [st9]
            refine Sub.of (fun l => if l = 1 then 3 else l) (fun l h => absurd h (Nat.not_lt_zero l)) (by intro l l' h h' e; dsimp only at *; split at e <;> split at e <;> omega) (Nat.zero_le _) rfl rfl (by simp) ?_ ?_
            · simp [lab, labL, ren, renL, look_cons, renL_bys, labL_bys, bigE_succ, Nat.add_assoc]
            · simp [labO, renO, look_cons]
          · simp [slotN, st9, look_cons]; omega
        · repeat (first | simp only [go_sem, Nat.reduceLT, Nat.reduceEqDiff, reduceIte, Int.reduceEq, Int.reduceLE, Int.reduceLT, Nat.reduceMul, Nat.reduceAdd, Nat.reduceSub, Int.reduceNeg, Int.reduceAdd, Int.reduceMul, Int.reduceSub, Int.reduceToNat, Nat.reduceLeDiff, Nat.reduceDiv, Int.reduceDiv, reduceCtorEq, Option.some.injEq, exists_eq_left'] | refine AW.seq ?_ | refine AW.block ?_ | refine AW.scope ?_ | refine AW.cond_tt rfl ?_ | refine AW.cond_ff rfl ?_ | refine AW.label ?_ | refine AW.skip ?_ | refine AW.ret ?_ | refine AW.exit ?_ | refine AW.region ?_ | refine AW.draw (by kernel_rfl) (by decide +kernel) ?_ | refine AW.drawN (by kernel_rfl) (by decide +kernel) ?_ | ((with_reducible refine And.intro ?_ ?_); (focus ((repeat' (with_reducible apply And.intro)) <;> first | (with_reducible exact OrdAt.of (by kernel_rfl)) | (with_reducible exact OrdT.of (by kernel_rfl)) | exact True.intro | (with_reducible assumption) | omega | rfl | exact Nat.le_of_ble_eq_true rfl | exact Or.inl trivial | (unfold inI; omega)))))
          have hj' : j = size.toNat := by omega
          have e1 : putS b n size = b ++ bigE n size j := by rw [putS, if_neg hbad, hj']
          have e2 : putE n size = 0 := by rw [putE, if_neg hbad]
          rw [e1, e2, List.length_append, bigE_length]
          exact Wk.refl _
    · repeat (first | simp only [go_sem, Nat.reduceLT, Nat.reduceEqDiff, reduceIte, Int.reduceEq, Int.reduceLE, Int.reduceLT, Nat.reduceMul, Nat.reduceAdd, Nat.reduceSub, Int.reduceNeg, Int.reduceAdd, Int.reduceMul, Int.reduceSub, Int.reduceToNat, Nat.reduceLeDiff, Nat.reduceDiv, Int.reduceDiv, reduceCtorEq, Option.some.injEq, exists_eq_left'] | refine AW.seq ?_ | refine AW.block ?_ | refine AW.scope ?_ | refine AW.cond_tt rfl ?_ | refine AW.cond_ff rfl ?_ | refine AW.label ?_ | refine AW.skip ?_ | refine AW.ret ?_ | refine AW.exit ?_ | refine AW.region ?_ | refine AW.draw (by kernel_rfl) (by decide +kernel) ?_ | refine AW.drawN (by kernel_rfl) (by decide +kernel) ?_ | ((with_reducible refine And.intro ?_ ?_); (focus ((repeat' (with_reducible apply And.intro)) <;> first | (with_reducible exact OrdAt.of (by kernel_rfl)) | (with_reducible exact OrdT.of (by kernel_rfl)) | exact True.intro | (with_reducible assumption) | omega | rfl | exact Nat.le_of_ble_eq_true rfl | exact Or.inl trivial | (unfold inI; omega)))))
      repeat (first | simp only [go_sem, Nat.reduceLT, Nat.reduceEqDiff, reduceIte, Int.reduceEq, Int.reduceLE, Int.reduceLT, Nat.reduceMul, Nat.reduceAdd, Nat.reduceSub, Int.reduceNeg, Int.reduceAdd, Int.reduceMul, Int.reduceSub, Int.reduceToNat, Nat.reduceLeDiff, Nat.reduceDiv, Int.reduceDiv, reduceCtorEq, Option.some.injEq, exists_eq_left'] | refine AW.seq ?_ | refine AW.block ?_ | refine AW.scope ?_ | refine AW.cond_tt rfl ?_ | refine AW.cond_ff rfl ?_ | refine AW.label ?_ | refine AW.skip ?_ | refine AW.ret ?_ | refine AW.exit ?_ | refine AW.region ?_ | refine AW.draw (by kernel_rfl) (by decide +kernel) ?_ | refine AW.drawN (by kernel_rfl) (by decide +kernel) ?_ | ((with_reducible refine And.intro ?_ ?_); (focus ((repeat' (with_reducible apply And.intro)) <;> first | (with_reducible exact OrdAt.of (by kernel_rfl)) | (with_reducible exact OrdT.of (by kernel_rfl)) | exact True.intro | (with_reducible assumption) | omega | rfl | exact Nat.le_of_ble_eq_true rfl | exact Or.inl trivial | (unfold inI; omega)))))
      have hbad : ¬ putBad n size := by unfold putBad; omega
      repeat (first | simp only [go_sem, Nat.reduceLT, Nat.reduceEqDiff, reduceIte, Int.reduceEq, Int.reduceLE, Int.reduceLT, Nat.reduceMul, Nat.reduceAdd, Nat.reduceSub, Int.reduceNeg, Int.reduceAdd, Int.reduceMul, Int.reduceSub, Int.reduceToNat, Nat.reduceLeDiff, Nat.reduceDiv, Int.reduceDiv, reduceCtorEq, Option.some.injEq, exists_eq_left'] | refine AW.seq ?_ | refine AW.block ?_ | refine AW.scope ?_ | refine AW.cond_tt rfl ?_ | refine AW.cond_ff rfl ?_ | refine AW.label ?_ | refine AW.skip ?_ | refine AW.ret ?_ | refine AW.exit ?_ | refine AW.region ?_ | refine AW.draw (by kernel_rfl) (by decide +kernel) ?_ | refine AW.drawN (by kernel_rfl) (by decide +kernel) ?_ | ((with_reducible refine And.intro ?_ ?_); (focus ((repeat' (with_reducible apply And.intro)) <;> first | (with_reducible exact OrdAt.of (by kernel_rfl)) | (with_reducible exact OrdT.of (by kernel_rfl)) | exact True.intro | (with_reducible assumption) | omega | rfl | exact Nat.le_of_ble_eq_true rfl | exact Or.inl trivial | (unfold inI; omega)))))
      refine AW.loop (fun s => ∃ j : Nat, (j : Int) ≤ size ∧ s = st9 b n size j) (fun s => (size - slotN s 33).toNat) (s0 := st9 b n size 0) ?_ ⟨0, by omega, rfl⟩ ?_
      · simp only [st9, bigE, List.range_zero, List.map_nil, List.append_nil, Nat.add_zero]; exact (Sub.same (by first | exact Nat.zero_le _ | exact Nat.le_refl _ | decide | omega) rfl rfl (by simp) (by simp [lab, labL, ren, renL, look_cons, renL_bys, labL_bys, renL_mapu8, labL_mapu8, renL_mapu32, labL_mapu32]) (by simp [labO, renO, lab, labL, ren, renL, look_cons, renL_bys, labL_bys, renL_mapu8, labL_mapu8, renL_mapu32, labL_mapu32]))
      rintro s ⟨j, hj, rfl⟩
      simp only [st9]
      repeat (first | simp only [go_sem, Nat.reduceLT, Nat.reduceEqDiff, reduceIte, Int.reduceEq, Int.reduceLE, Int.reduceLT, Nat.reduceMul, Nat.reduceAdd, Nat.reduceSub, Int.reduceNeg, Int.reduceAdd, Int.reduceMul, Int.reduceSub, Int.reduceToNat, Nat.reduceLeDiff, Nat.reduceDiv, Int.reduceDiv, reduceCtorEq, Option.some.injEq, exists_eq_left'] | refine AW.seq ?_ | refine AW.block ?_ | refine AW.scope ?_ | refine AW.cond_tt rfl ?_ | refine AW.cond_ff rfl ?_ | refine AW.label ?_ | refine AW.skip ?_ | refine AW.ret ?_ | refine AW.exit ?_ | refine AW.region ?_ | refine AW.draw (by kernel_rfl) (by decide +kernel) ?_ | refine AW.drawN (by kernel_rfl) (by decide +kernel) ?_ | ((with_reducible refine And.intro ?_ ?_); (focus ((repeat' (with_reducible apply And.intro)) <;> first | (with_reducible exact OrdAt.of (by kernel_rfl)) | (with_reducible exact OrdT.of (by kernel_rfl)) | exact True.intro | (with_reducible assumption) | omega | rfl | exact Nat.le_of_ble_eq_true rfl | exact Or.inl trivial | (unfold inI; omega)))))
      refine AW.cond_dec rfl (fun h4 => ?_) (fun h4 => ?_)
      · repeat (first | simp only [go_sem, Nat.reduceLT, Nat.reduceEqDiff, reduceIte, Int.reduceEq, Int.reduceLE, Int.reduceLT, Nat.reduceMul, Nat.reduceAdd, Nat.reduceSub, Int.reduceNeg, Int.reduceAdd, Int.reduceMul, Int.reduceSub, Int.reduceToNat, Nat.reduceLeDiff, Nat.reduceDiv, Int.reduceDiv, reduceCtorEq, Option.some.injEq, exists_eq_left'] | refine AW.seq ?_ | refine AW.block ?_ | refine AW.scope ?_ | refine AW.cond_tt rfl ?_ | refine AW.cond_ff rfl ?_ | refine AW.label ?_ | refine AW.skip ?_ | refine AW.ret ?_ | refine AW.exit ?_ | refine AW.region ?_ | refine AW.draw (by kernel_rfl) (by decide +kernel) ?_ | refine AW.drawN (by kernel_rfl) (by decide +kernel) ?_ | ((with_reducible refine And.intro ?_ ?_); (focus ((repeat' (with_reducible apply And.intro)) <;> first | (with_reducible exact OrdAt.of (by kernel_rfl)) | (with_reducible exact OrdT.of (by kernel_rfl)) | exact True.intro | (with_reducible assumption) | omega | rfl | exact Nat.le_of_ble_eq_true rfl | exact Or.inl trivial | (unfold inI; omega)))))
        repeat (first | simp only [go_sem, Nat.reduceLT, Nat.reduceEqDiff, reduceIte, Int.reduceEq, Int.reduceLE, Int.reduceLT, Nat.reduceMul, Nat.reduceAdd, Nat.reduceSub, Int.reduceNeg, Int.reduceAdd, Int.reduceMul, Int.reduceSub, Int.reduceToNat, Nat.reduceLeDiff, Nat.reduceDiv, Int.reduceDiv, reduceCtorEq, Option.some.injEq, exists_eq_left'] | refine AW.seq ?_ | refine AW.block ?_ | refine AW.scope ?_ | refine AW.cond_tt rfl ?_ | refine AW.cond_ff rfl ?_ | refine AW.label ?_ | refine AW.skip ?_ | refine AW.ret ?_ | refine AW.exit ?_ | refine AW.region ?_ | refine AW.draw (by kernel_rfl) (by decide +kernel) ?_ | refine AW.drawN (by kernel_rfl) (by decide +kernel) ?_ | ((with_reducible refine And.intro ?_ ?_); (focus ((repeat' (with_reducible apply And.intro)) <;> first | (with_reducible exact OrdAt.of (by kernel_rfl)) | (with_reducible exact OrdT.of (by kernel_rfl)) | exact True.intro | (with_reducible assumption) | omega | rfl | exact Nat.le_of_ble_eq_true rfl | exact Or.inl trivial | (unfold inI; omega)))))
        rw [Qof_lp]
        refine ⟨st9 b n size (j + 1), ?_, ⟨j + 1, by omega, rfl⟩, ?_⟩
        · simp only [st9]
          refine Sub.of (fun l => if l = 1 then 3 else l) (fun l h => absurd h (Nat.not_lt_zero l)) (by intro l l' h h' e; dsimp only at *; split at e <;> split at e <;> omega) (Nat.zero_le _) rfl rfl (by simp) ?_ ?_
          · simp [lab, labL, ren, renL, look_cons, renL_bys, labL_bys, bigE_succ, Nat.add_assoc]
          · simp [labO, renO, look_cons]
        · simp [slotN, st9, look_cons]; omega
      · repeat (first | simp only [go_sem, Nat.reduceLT, Nat.reduceEqDiff, reduceIte, Int.reduceEq, Int.reduceLE, Int.reduceLT, Nat.reduceMul, Nat.reduceAdd, Nat.reduceSub, Int.reduceNeg, Int.reduceAdd, Int.reduceMul, Int.reduceSub, Int.reduceToNat, Nat.reduceLeDiff, Nat.reduceDiv, Int.reduceDiv, reduceCtorEq, Option.some.injEq, exists_eq_left'] | refine AW.seq ?_ | refine AW.block ?_ | refine AW.scope ?_ | refine AW.cond_tt rfl ?_ | refine AW.cond_ff rfl ?_ | refine AW.label ?_ | refine AW.skip ?_ | refine AW.ret ?_ | refine AW.exit ?_ | refine AW.region ?_ | refine AW.draw (by kernel_rfl) (by decide +kernel) ?_ | refine AW.drawN (by kernel_rfl) (by decide +kernel) ?_ | ((with_reducible refine And.intro ?_ ?_); (focus ((repeat' (with_reducible apply And.intro)) <;> first | (with_reducible exact OrdAt.of (by kernel_rfl)) | (with_reducible exact OrdT.of (by kernel_rfl)) | exact True.intro | (with_reducible assumption) | omega | rfl | exact Nat.le_of_ble_eq_true rfl | exact Or.inl trivial | (unfold inI; omega)))))
        have hj' : j = size.toNat := by omega
        have e1 : putS b n size = b ++ bigE n size j := by rw [putS, if_neg hbad, hj']
        have e2 : putE n size = 0 := by rw [putE, if_neg hbad]
        rw [e1, e2, List.length_append, bigE_length]
        exact Wk.refl _
  · repeat (first | simp only [go_sem, Nat.reduceLT, Nat.reduceEqDiff, reduceIte, Int.reduceEq, Int.reduceLE, Int.reduceLT, Nat.reduceMul, Nat.reduceAdd, Nat.reduceSub, Int.reduceNeg, Int.reduceAdd, Int.reduceMul, Int.reduceSub, Int.reduceToNat, Nat.reduceLeDiff, Nat.reduceDiv, Int.reduceDiv, reduceCtorEq, Option.some.injEq, exists_eq_left'] | refine AW.seq ?_ | refine AW.block ?_ | refine AW.scope ?_ | refine AW.cond_tt rfl ?_ | refine AW.cond_ff rfl ?_ | refine AW.label ?_ | refine AW.skip ?_ | refine AW.ret ?_ | refine AW.exit ?_ | refine AW.region ?_ | refine AW.draw (by kernel_rfl) (by decide +kernel) ?_ | refine AW.drawN (by kernel_rfl) (by decide +kernel) ?_ | ((with_reducible refine And.intro ?_ ?_); (focus ((repeat' (with_reducible apply And.intro)) <;> first | (with_reducible exact OrdAt.of (by kernel_rfl)) | (with_reducible exact OrdT.of (by kernel_rfl)) | exact True.intro | (with_reducible assumption) | omega | rfl | exact Nat.le_of_ble_eq_true rfl | exact Or.inl trivial | (unfold inI; omega)))))
    have hbad : putBad n size := .inl (by omega)
    simp only [putS, putE, if_pos hbad]
    exact Wk.tup ⟨Wk.nil rfl rfl, Wk.refl _, trivial⟩
end Go.Proofs.YtpknjecfloglgaaDoor

namespace Go.Proofs.YtpknjecfloglgaaDoor
open Go Go.Eng Go.Proofs
set_option maxRecDepth 100000
set_option maxHeartbeats 4000000
set_option linter.unusedSimpArgs false
set_option linter.unusedVariables false
def rotr (x : UInt32) (j : Nat) : UInt32 := shr32 x j ||| shl32 x (32 - j)
theorem and31 : ∀ j : Nat, j < 32 → 0 < j → bits .and .u64 ((-(j : Int)) % 18446744073709551616) 31 = ((32 - j : Nat) : Int) := by decide +kernel
theorem f71 (x : UInt32) (j : Nat) (h1 : j < 32) (h0 : 0 < j) : AFun Tryd.prog 71 [u32 x, int (-(j : Int))] (u32 (rotr x j)) := by
  have e1 : binO Tryd.prog 71 .and (.v (.int .u64 ((-(j : Int)) % 18446744073709551616))) (.v (.int .u64 31)) = (True, .v (.int .u64 ((32 - j : Nat) : Int))) := by
    simp only [binO, and31 j h1 h0]
  have e2 : binO Tryd.prog 71 .sub (.v (.int .u64 32)) (.v (.int .u64 ((32 - j : Nat) : Int))) = (True, .v (.int .u64 (j : Int))) := by
    have : (32 - ((32 - j : Nat) : Int)) % 18446744073709551616 = j := by omega
    simp only [binO, wrap_u64c, this]
  refine AFun.enter Tryd.func71 rfl Tryd.call71 (by simp [Tryd.ntmps71]) fun γ1 => ?_
  simp only [frameOf, Tryd.ntmps71]
  repeat (first | simp only [go_sem, Nat.reduceLT, Nat.reduceEqDiff, reduceIte, Int.reduceEq, Int.reduceLE, Int.reduceLT, Nat.reduceMul, Nat.reduceAdd, Nat.reduceSub, Int.reduceNeg, Int.reduceAdd, Int.reduceMul, Int.reduceSub, Int.reduceToNat, Nat.reduceLeDiff, Nat.reduceDiv, Int.reduceDiv, reduceCtorEq, Option.some.injEq, exists_eq_left', e1, e2, Int.toNat_natCast] | refine AW.seq ?_ | refine AW.block ?_ | refine AW.scope ?_ | refine AW.cond_tt rfl ?_ | refine AW.cond_ff rfl ?_ | refine AW.label ?_ | refine AW.skip ?_ | refine AW.ret ?_ | refine AW.exit ?_ | refine AW.region ?_ | refine AW.draw (by kernel_rfl) (by decide +kernel) ?_ | refine AW.drawN (by kernel_rfl) (by decide +kernel) ?_ | ((with_reducible refine And.intro ?_ ?_); (focus ((repeat' (with_reducible apply And.intro)) <;> first | (with_reducible exact OrdAt.of (by kernel_rfl)) | (with_reducible exact OrdT.of (by kernel_rfl)) | exact True.intro | (with_reducible assumption) | omega | rfl | exact Nat.le_of_ble_eq_true rfl | exact Or.inl trivial | (unfold inI; omega)))))
  simp only [rotr, UInt32.or_comm]
theorem f65 (x : UInt32) (j : Nat) (h1 : j < 32) (h0 : 0 < j) : AFun Tryd.prog 65 [u32 x, int j] (u32 (rotr x j)) := by
  have e : (0 : Int) - (j : Int) = -(j : Int) := by omega
  refine AFun.enter Tryd.func65 rfl Tryd.call65 (by simp [Tryd.ntmps65]) fun γ1 => ?_
  simp only [frameOf, Tryd.ntmps65]
  repeat (first | simp only [go_sem, Nat.reduceLT, Nat.reduceEqDiff, reduceIte, Int.reduceEq, Int.reduceLE, Int.reduceLT, Nat.reduceMul, Nat.reduceAdd, Nat.reduceSub, Int.reduceNeg, Int.reduceAdd, Int.reduceMul, Int.reduceSub, Int.reduceToNat, Nat.reduceLeDiff, Nat.reduceDiv, Int.reduceDiv, reduceCtorEq, Option.some.injEq, exists_eq_left', e] | refine AW.seq ?_ | refine AW.block ?_ | refine AW.scope ?_ | refine AW.cond_tt rfl ?_ | refine AW.cond_ff rfl ?_ | refine AW.label ?_ | refine AW.skip ?_ | refine AW.ret ?_ | refine AW.exit ?_ | refine AW.region ?_ | refine AW.draw (by kernel_rfl) (by decide +kernel) ?_ | refine AW.drawN (by kernel_rfl) (by decide +kernel) ?_ | ((with_reducible refine And.intro ?_ ?_); (focus ((repeat' (with_reducible apply And.intro)) <;> first | (with_reducible exact OrdAt.of (by kernel_rfl)) | (with_reducible exact OrdT.of (by kernel_rfl)) | exact True.intro | (with_reducible assumption) | omega | rfl | exact Nat.le_of_ble_eq_true rfl | exact Or.inl trivial | (unfold inI; omega)))))
  refine CallE.flat (f71 x j h1 h0) rfl rfl (by rfl) ?_
  repeat (first | simp only [go_sem, Nat.reduceLT, Nat.reduceEqDiff, reduceIte, Int.reduceEq, Int.reduceLE, Int.reduceLT, Nat.reduceMul, Nat.reduceAdd, Nat.reduceSub, Int.reduceNeg, Int.reduceAdd, Int.reduceMul, Int.reduceSub, Int.reduceToNat, Nat.reduceLeDiff, Nat.reduceDiv, Int.reduceDiv, reduceCtorEq, Option.some.injEq, exists_eq_left'] | refine AW.seq ?_ | refine AW.block ?_ | refine AW.scope ?_ | refine AW.cond_tt rfl ?_ | refine AW.cond_ff rfl ?_ | refine AW.label ?_ | refine AW.skip ?_ | refine AW.ret ?_ | refine AW.exit ?_ | refine AW.region ?_ | refine AW.draw (by kernel_rfl) (by decide +kernel) ?_ | refine AW.drawN (by kernel_rfl) (by decide +kernel) ?_ | ((with_reducible refine And.intro ?_ ?_); (focus ((repeat' (with_reducible apply And.intro)) <;> first | (with_reducible exact OrdAt.of (by kernel_rfl)) | (with_reducible exact OrdT.of (by kernel_rfl)) | exact True.intro | (with_reducible assumption) | omega | rfl | exact Nat.le_of_ble_eq_true rfl | exact Or.inl trivial | (unfold inI; omega)))))
end Go.Proofs.YtpknjecfloglgaaDoor

namespace Go.Proofs.YtpknjecfloglgaaDoor
open Go Go.Eng Go.Proofs
set_option maxRecDepth 100000
set_option maxHeartbeats 4000000
set_option linter.unusedSimpArgs false
set_option linter.unusedVariables false
abbrev hv (s : List UInt32) (r : List UInt8) (m : UInt64) : List AV := s.map u32 ++ [.sl 1 (bys r) r.length none, u64 m]
section
variable {s s' : List UInt32} {x y z : AV} (hs : s.length = 8)
include hs
theorem hs_take : (s.map u32 ++ [x, y]).take 8 = s.map u32 := by rw [List.take_append, List.take_of_length_le (by simp [hs])]; simp [hs]
theorem hs_d8 : ((s.map u32 ++ [x, y]).drop 8) = [x, y] := by rw [List.drop_append, List.drop_of_length_le (by simp [hs])]; simp [hs]
theorem hs_d9 : ((s.map u32 ++ [x, y]).drop 9) = [y] := by rw [List.drop_append, List.drop_of_length_le (by simp [hs])]; simp [hs]
theorem hs_len : (s.map u32 ++ [x, y]).length = 10 := by simp [hs]
theorem hs_s8 : splice (s.map u32 ++ [x, y]) 8 [z] = s.map u32 ++ [z, y] := by
  unfold splice; rw [hs_take hs]; simp only [List.length_cons, List.length_nil]; rw [hs_d9 hs]; simp
theorem hs_s9 : splice (s.map u32 ++ [x, y]) 9 [z] = s.map u32 ++ [x, z] := by
  unfold splice
  have : (s.map u32 ++ [x, y]).take 9 = s.map u32 ++ [x] := by rw [List.take_append, List.take_of_length_le (by simp [hs])]; simp [hs]
  rw [this]; simp [hs]
theorem hs_s0 (hs' : s'.length = 8) : splice (s.map u32 ++ [x, y]) 0 (s'.map u32) = s'.map u32 ++ [x, y] := by
  unfold splice
  simp only [List.take_zero, List.nil_append, List.length_map, hs', Nat.zero_add, hs_d8 hs]
end
theorem frz_hv (hp : List (Nat × Ob)) (s : List UInt32) (c : List AV) (n : Nat) (k : Option Nat) (w : Value) : frz hp (.agg (s.map u32 ++ [.sl 1 c n k, .v w])) = .agg (s.map u32 ++ [.sl 1 c n none, .v w]) := by
  simp [frz, dt]
def fitsS (r : List UInt8) (m : UInt64) : Prop := r.length < 64 ∧ r.length = m.toNat % 64
instance (r : List UInt8) (m : UInt64) : Decidable (fitsS r m) := by unfold fitsS; infer_instance
theorem f55 (s : List UInt32) (hs : s.length = 8) (r : List UInt8) (m : UInt64) : AFun Tryd.prog 55 [.agg (hv s r m)] (boo (decide (fitsS r m))) := by
  have hm := m.toNat_lt
  have e1 : ((m.toNat : Int).tmod 64) = ((m.toNat % 64 : Nat) : Int) := by rw [Int.tmod_eq_emod_of_nonneg (by omega)]; omega
  refine AFun.enter Tryd.func55 rfl Tryd.call55 (by simp [Tryd.ntmps55]) fun γ1 => ?_
  simp only [frameOf, Tryd.ntmps55]
  repeat (first | simp only [go_sem, Nat.reduceLT, Nat.reduceEqDiff, reduceIte, Int.reduceEq, Int.reduceLE, Int.reduceLT, Nat.reduceMul, Nat.reduceAdd, Nat.reduceSub, Int.reduceNeg, Int.reduceAdd, Int.reduceMul, Int.reduceSub, Int.reduceToNat, Nat.reduceLeDiff, Nat.reduceDiv, Int.reduceDiv, reduceCtorEq, Option.some.injEq, exists_eq_left', hs_take hs, hs_d8 hs, hs_d9 hs, hs_len hs] | refine AW.seq ?_ | refine AW.block ?_ | refine AW.scope ?_ | refine AW.cond_tt rfl ?_ | refine AW.cond_ff rfl ?_ | refine AW.label ?_ | refine AW.skip ?_ | refine AW.ret ?_ | refine AW.exit ?_ | refine AW.region ?_ | refine AW.draw (by kernel_rfl) (by decide +kernel) ?_ | refine AW.drawN (by kernel_rfl) (by decide +kernel) ?_ | ((with_reducible refine And.intro ?_ ?_); (focus ((repeat' (with_reducible apply And.intro)) <;> first | (with_reducible exact OrdAt.of (by kernel_rfl)) | (with_reducible exact OrdT.of (by kernel_rfl)) | exact True.intro | (with_reducible assumption) | omega | rfl | exact Nat.le_of_ble_eq_true rfl | exact Or.inl trivial | (unfold inI; omega)))))
  refine exG_dec (fun h1 => ?_) (fun h1 => ?_)
  · have e2 : (r.length : Int) % 18446744073709551616 = (r.length : Int) := by omega
    have e3 : ((r.length : Int) = ((m.toNat % 64 : Nat) : Int)) = fitsS r m := by unfold fitsS; apply propext; omega
    repeat (first | simp only [go_sem, Nat.reduceLT, Nat.reduceEqDiff, reduceIte, Int.reduceEq, Int.reduceLE, Int.reduceLT, Nat.reduceMul, Nat.reduceAdd, Nat.reduceSub, Int.reduceNeg, Int.reduceAdd, Int.reduceMul, Int.reduceSub, Int.reduceToNat, Nat.reduceLeDiff, Nat.reduceDiv, Int.reduceDiv, reduceCtorEq, Option.some.injEq, exists_eq_left', hs_take hs, hs_d8 hs, hs_d9 hs, hs_len hs, e1, e2, e3, binO] | refine AW.seq ?_ | refine AW.block ?_ | refine AW.scope ?_ | refine AW.cond_tt rfl ?_ | refine AW.cond_ff rfl ?_ | refine AW.label ?_ | refine AW.skip ?_ | refine AW.ret ?_ | refine AW.exit ?_ | refine AW.region ?_ | refine AW.draw (by kernel_rfl) (by decide +kernel) ?_ | refine AW.drawN (by kernel_rfl) (by decide +kernel) ?_ | ((with_reducible refine And.intro ?_ ?_); (focus ((repeat' (with_reducible apply And.intro)) <;> first | (with_reducible exact OrdAt.of (by kernel_rfl)) | (with_reducible exact OrdT.of (by kernel_rfl)) | exact True.intro | (with_reducible assumption) | omega | rfl | exact Nat.le_of_ble_eq_true rfl | exact Or.inl trivial | (unfold inI; omega)))))
  · have e3 : fitsS r m = False := by unfold fitsS; apply eq_false; omega
    repeat (first | simp only [go_sem, Nat.reduceLT, Nat.reduceEqDiff, reduceIte, Int.reduceEq, Int.reduceLE, Int.reduceLT, Nat.reduceMul, Nat.reduceAdd, Nat.reduceSub, Int.reduceNeg, Int.reduceAdd, Int.reduceMul, Int.reduceSub, Int.reduceToNat, Nat.reduceLeDiff, Nat.reduceDiv, Int.reduceDiv, reduceCtorEq, Option.some.injEq, exists_eq_left', e3] | refine AW.seq ?_ | refine AW.block ?_ | refine AW.scope ?_ | refine AW.cond_tt rfl ?_ | refine AW.cond_ff rfl ?_ | refine AW.label ?_ | refine AW.skip ?_ | refine AW.ret ?_ | refine AW.exit ?_ | refine AW.region ?_ | refine AW.draw (by kernel_rfl) (by decide +kernel) ?_ | refine AW.drawN (by kernel_rfl) (by decide +kernel) ?_ | ((with_reducible refine And.intro ?_ ?_); (focus ((repeat' (with_reducible apply And.intro)) <;> first | (with_reducible exact OrdAt.of (by kernel_rfl)) | (with_reducible exact OrdT.of (by kernel_rfl)) | exact True.intro | (with_reducible assumption) | omega | rfl | exact Nat.le_of_ble_eq_true rfl | exact Or.inl trivial | (unfold inI; omega)))))
end Go.Proofs.YtpknjecfloglgaaDoor

namespace Go.Proofs.YtpknjecfloglgaaDoor
open Go Go.Eng Go.Proofs
set_option maxRecDepth 100000
set_option maxHeartbeats 4000000
set_option linter.unusedSimpArgs false
set_option linter.unusedVariables false
theorem gl0 : gl (.v (.pointer (some ⟨0, 0, none⟩))) = .ptr (shaFirst.map u32) := gl_glob rfl
theorem gl1 : gl (.v (.pointer (some ⟨1, 0, none⟩))) = .ptr (shaK.map u32) := gl_glob rfl
theorem first_len : shaFirst.length = 8 := rfl
theorem f44 : AFun Tryd.prog 44 [] (.agg (hv shaFirst [] 0)) := by
  refine AFun.enterW Tryd.func44 rfl Tryd.call44 (by simp [Tryd.ntmps44]) fun γ1 => ?_
  simp only [frameOf, Tryd.ntmps44]
  repeat (first | simp only [go_sem, Nat.reduceLT, Nat.reduceEqDiff, reduceIte, Int.reduceEq, Int.reduceLE, Int.reduceLT, Nat.reduceMul, Nat.reduceAdd, Nat.reduceSub, Int.reduceNeg, Int.reduceAdd, Int.reduceMul, Int.reduceSub, Int.reduceToNat, Nat.reduceLeDiff, Nat.reduceDiv, Int.reduceDiv, reduceCtorEq, Option.some.injEq, exists_eq_left', gl0, first_len] | refine AW.seq ?_ | refine AW.block ?_ | refine AW.scope ?_ | refine AW.cond_tt rfl ?_ | refine AW.cond_ff rfl ?_ | refine AW.label ?_ | refine AW.skip ?_ | refine AW.ret ?_ | refine AW.exit ?_ | refine AW.region ?_ | refine AW.draw (by kernel_rfl) (by decide +kernel) ?_ | refine AW.drawN (by kernel_rfl) (by decide +kernel) ?_ | ((with_reducible refine And.intro ?_ ?_); (focus ((repeat' (with_reducible apply And.intro)) <;> first | (with_reducible exact OrdAt.of (by kernel_rfl)) | (with_reducible exact OrdT.of (by kernel_rfl)) | exact True.intro | (with_reducible assumption) | omega | rfl | exact Nat.le_of_ble_eq_true rfl | exact Or.inl trivial | (unfold inI; omega)))))
  exact Wk.agg (WkL.app (shaFirst.map u32) ⟨Wk.nil rfl rfl, Wk.refl _, trivial⟩)
end Go.Proofs.YtpknjecfloglgaaDoor

namespace Go.Proofs.YtpknjecfloglgaaDoor
open Go Go.Eng Go.Proofs
set_option maxRecDepth 100000
set_option maxHeartbeats 4000000
set_option linter.unusedSimpArgs false
set_option linter.unusedVariables false
def sg0 (x : UInt32) : UInt32 := rotr x 7 ^^^ rotr x 18 ^^^ shr32 x 3
def sg1 (y : UInt32) : UInt32 := rotr y 17 ^^^ rotr y 19 ^^^ shr32 y 10
def mixW (w : List UInt32) (n : Nat) : List UInt32 := if n < 16 then w else w.set (n % 16) (w.getD (n % 16) 0 + (sg1 (w.getD ((n - 2) % 16) 0) + w.getD ((n - 7) % 16) 0 + sg0 (w.getD ((n - 15) % 16) 0)))
theorem mixW_len (w : List UInt32) (n : Nat) : (mixW w n).length = w.length := by unfold mixW; split <;> simp
theorem f64 (w : List UInt32) (hw : w.length = 16) (n : Nat) (hn : n < 64) (L : Nat) : CallB Tryd.prog 64 [.v (.int .u64 n), .loc L 0] L (w.map u32) ((mixW w n).map u32) (u32 ((mixW w n).getD (n % 16) 0)) := by
  refine CallB.enter Tryd.func64 rfl Tryd.call64 (by simp [Tryd.ntmps64]) fun γ1 rest nx hL => ?_
  simp only [frameOf, Tryd.ntmps64]
  have m0 : ((n : Int).tmod 16) = ((n % 16 : Nat) : Int) := by rw [Int.tmod_eq_emod_of_nonneg (by omega)]; omega
  have hlen := hw
  have qge : binO Tryd.prog 71 .geq (.v (.int .u64 (n : Int))) (.v (.int .u64 16)) = (True, boo (decide ((16 : Int) ≤ n))) := by simp only [binO]
  have r0 : binO Tryd.prog 71 .rem (.v (.int .u64 (n : Int))) (.v (.int .u64 16)) = (True, .v (.int .u64 ((n % 16 : Nat) : Int))) := by simp [binO, m0]
  repeat (first | simp only [go_sem, Nat.reduceLT, Nat.reduceEqDiff, reduceIte, Int.reduceEq, Int.reduceLE, Int.reduceLT, Nat.reduceMul, Nat.reduceAdd, Nat.reduceSub, Int.reduceNeg, Int.reduceAdd, Int.reduceMul, Int.reduceSub, Int.reduceToNat, Nat.reduceLeDiff, Nat.reduceDiv, Int.reduceDiv, reduceCtorEq, Option.some.injEq, exists_eq_left', eq_self, Nat.beq_refl, qge] | refine AW.seq ?_ | refine AW.block ?_ | refine AW.scope ?_ | refine AW.cond_tt rfl ?_ | refine AW.cond_ff rfl ?_ | refine AW.label ?_ | refine AW.skip ?_ | refine AW.ret ?_ | refine AW.exit ?_ | refine AW.region ?_ | refine AW.draw (by kernel_rfl) (by decide +kernel) ?_ | refine AW.drawN (by kernel_rfl) (by decide +kernel) ?_ | ((with_reducible refine And.intro ?_ ?_); (focus ((repeat' (with_reducible apply And.intro)) <;> first | (with_reducible exact OrdAt.of (by kernel_rfl)) | (with_reducible exact OrdT.of (by kernel_rfl)) | exact True.intro | (with_reducible assumption) | omega | rfl | exact Nat.le_of_ble_eq_true rfl | exact Or.inl trivial | (unfold inI; omega)))))
  refine AW.cond_dec rfl (fun h1 => ?_) (fun h1 => ?_)
  · have a15 : ((n : Int) - 15) % 18446744073709551616 = ((n - 15 : Nat) : Int) := by omega
    have a2 : ((n : Int) - 2) % 18446744073709551616 = ((n - 2 : Nat) : Int) := by omega
    have a7 : ((n : Int) - 7) % 18446744073709551616 = ((n - 7 : Nat) : Int) := by omega
    have m15 : (((n - 15 : Nat) : Int).tmod 16) = (((n - 15) % 16 : Nat) : Int) := by rw [Int.tmod_eq_emod_of_nonneg (by omega)]; omega
    have m2 : (((n - 2 : Nat) : Int).tmod 16) = (((n - 2) % 16 : Nat) : Int) := by rw [Int.tmod_eq_emod_of_nonneg (by omega)]; omega
    have m7 : (((n - 7 : Nat) : Int).tmod 16) = (((n - 7) % 16 : Nat) : Int) := by rw [Int.tmod_eq_emod_of_nonneg (by omega)]; omega
    have q15 : binO Tryd.prog 71 .sub (.v (.int .u64 (n : Int))) (.v (.int .u64 15)) = (True, .v (.int .u64 ((n - 15 : Nat) : Int))) := by simp only [binO, wrap_u64c, a15]
    have q2 : binO Tryd.prog 71 .sub (.v (.int .u64 (n : Int))) (.v (.int .u64 2)) = (True, .v (.int .u64 ((n - 2 : Nat) : Int))) := by simp only [binO, wrap_u64c, a2]
    have q7 : binO Tryd.prog 71 .sub (.v (.int .u64 (n : Int))) (.v (.int .u64 7)) = (True, .v (.int .u64 ((n - 7 : Nat) : Int))) := by simp only [binO, wrap_u64c, a7]
    have r15 : binO Tryd.prog 71 .rem (.v (.int .u64 ((n - 15 : Nat) : Int))) (.v (.int .u64 16)) = (True, .v (.int .u64 (((n - 15) % 16 : Nat) : Int))) := by simp [binO, m15]
    have r2 : binO Tryd.prog 71 .rem (.v (.int .u64 ((n - 2 : Nat) : Int))) (.v (.int .u64 16)) = (True, .v (.int .u64 (((n - 2) % 16 : Nat) : Int))) := by simp [binO, m2]
    have r7 : binO Tryd.prog 71 .rem (.v (.int .u64 ((n - 7 : Nat) : Int))) (.v (.int .u64 16)) = (True, .v (.int .u64 (((n - 7) % 16 : Nat) : Int))) := by simp [binO, m7]
    have b0 : n % 16 < w.length := by omega
    have b15 : (n - 15) % 16 < w.length := by omega
    have b2 : (n - 2) % 16 < w.length := by omega
    have b7 : (n - 7) % 16 < w.length := by omega
    repeat (first | simp only [go_sem, Nat.reduceLT, Nat.reduceEqDiff, reduceIte, Int.reduceEq, Int.reduceLE, Int.reduceLT, Nat.reduceMul, Nat.reduceAdd, Nat.reduceSub, Int.reduceNeg, Int.reduceAdd, Int.reduceMul, Int.reduceSub, Int.reduceToNat, Nat.reduceLeDiff, Nat.reduceDiv, Int.reduceDiv, reduceCtorEq, Option.some.injEq, exists_eq_left', eq_self, Nat.beq_refl, q15, q2, q7, r15, r2, r7, r0, a15, a2, a7, m15, m2, m7, m0, row_u32, b0, b15, b2, b7, List.length_drop, List.length_map] | refine AW.seq ?_ | refine AW.block ?_ | refine AW.scope ?_ | refine AW.cond_tt rfl ?_ | refine AW.cond_ff rfl ?_ | refine AW.label ?_ | refine AW.skip ?_ | refine AW.ret ?_ | refine AW.exit ?_ | refine AW.region ?_ | refine AW.draw (by kernel_rfl) (by decide +kernel) ?_ | refine AW.drawN (by kernel_rfl) (by decide +kernel) ?_ | ((with_reducible refine And.intro ?_ ?_); (focus ((repeat' (with_reducible apply And.intro)) <;> first | (with_reducible exact OrdAt.of (by kernel_rfl)) | (with_reducible exact OrdT.of (by kernel_rfl)) | exact True.intro | (with_reducible assumption) | omega | rfl | exact Nat.le_of_ble_eq_true rfl | exact Or.inl trivial | (unfold inI; omega)))))
    have hx := w.getD ((n - 15) % 16) 0
    refine CallE.flat (f65 _ 7 (by decide) (by decide)) rfl rfl (by rfl) ?_
    repeat (first | simp only [go_sem, Nat.reduceLT, Nat.reduceEqDiff, reduceIte, Int.reduceEq, Int.reduceLE, Int.reduceLT, Nat.reduceMul, Nat.reduceAdd, Nat.reduceSub, Int.reduceNeg, Int.reduceAdd, Int.reduceMul, Int.reduceSub, Int.reduceToNat, Nat.reduceLeDiff, Nat.reduceDiv, Int.reduceDiv, reduceCtorEq, Option.some.injEq, exists_eq_left'] | refine AW.seq ?_ | refine AW.block ?_ | refine AW.scope ?_ | refine AW.cond_tt rfl ?_ | refine AW.cond_ff rfl ?_ | refine AW.label ?_ | refine AW.skip ?_ | refine AW.ret ?_ | refine AW.exit ?_ | refine AW.region ?_ | refine AW.draw (by kernel_rfl) (by decide +kernel) ?_ | refine AW.drawN (by kernel_rfl) (by decide +kernel) ?_ | ((with_reducible refine And.intro ?_ ?_); (focus ((repeat' (with_reducible apply And.intro)) <;> first | (with_reducible exact OrdAt.of (by kernel_rfl)) | (with_reducible exact OrdT.of (by kernel_rfl)) | exact True.intro | (with_reducible assumption) | omega | rfl | exact Nat.le_of_ble_eq_true rfl | exact Or.inl trivial | (unfold inI; omega)))))
    refine CallE.flat (f65 _ 18 (by decide) (by decide)) rfl rfl (by rfl) ?_
    repeat (first | simp only [go_sem, Nat.reduceLT, Nat.reduceEqDiff, reduceIte, Int.reduceEq, Int.reduceLE, Int.reduceLT, Nat.reduceMul, Nat.reduceAdd, Nat.reduceSub, Int.reduceNeg, Int.reduceAdd, Int.reduceMul, Int.reduceSub, Int.reduceToNat, Nat.reduceLeDiff, Nat.reduceDiv, Int.reduceDiv, reduceCtorEq, Option.some.injEq, exists_eq_left'] | refine AW.seq ?_ | refine AW.block ?_ | refine AW.scope ?_ | refine AW.cond_tt rfl ?_ | refine AW.cond_ff rfl ?_ | refine AW.label ?_ | refine AW.skip ?_ | refine AW.ret ?_ | refine AW.exit ?_ | refine AW.region ?_ | refine AW.draw (by kernel_rfl) (by decide +kernel) ?_ | refine AW.drawN (by kernel_rfl) (by decide +kernel) ?_ | ((with_reducible refine And.intro ?_ ?_); (focus ((repeat' (with_reducible apply And.intro)) <;> first | (with_reducible exact OrdAt.of (by kernel_rfl)) | (with_reducible exact OrdT.of (by kernel_rfl)) | exact True.intro | (with_reducible assumption) | omega | rfl | exact Nat.le_of_ble_eq_true rfl | exact Or.inl trivial | (unfold inI; omega)))))
    refine CallE.flat (f65 _ 17 (by decide) (by decide)) rfl rfl (by rfl) ?_
    repeat (first | simp only [go_sem, Nat.reduceLT, Nat.reduceEqDiff, reduceIte, Int.reduceEq, Int.reduceLE, Int.reduceLT, Nat.reduceMul, Nat.reduceAdd, Nat.reduceSub, Int.reduceNeg, Int.reduceAdd, Int.reduceMul, Int.reduceSub, Int.reduceToNat, Nat.reduceLeDiff, Nat.reduceDiv, Int.reduceDiv, reduceCtorEq, Option.some.injEq, exists_eq_left'] | refine AW.seq ?_ | refine AW.block ?_ | refine AW.scope ?_ | refine AW.cond_tt rfl ?_ | refine AW.cond_ff rfl ?_ | refine AW.label ?_ | refine AW.skip ?_ | refine AW.ret ?_ | refine AW.exit ?_ | refine AW.region ?_ | refine AW.draw (by kernel_rfl) (by decide +kernel) ?_ | refine AW.drawN (by kernel_rfl) (by decide +kernel) ?_ | ((with_reducible refine And.intro ?_ ?_); (focus ((repeat' (with_reducible apply And.intro)) <;> first | (with_reducible exact OrdAt.of (by kernel_rfl)) | (with_reducible exact OrdT.of (by kernel_rfl)) | exact True.intro | (with_reducible assumption) | omega | rfl | exact Nat.le_of_ble_eq_true rfl | exact Or.inl trivial | (unfold inI; omega)))))
    refine CallE.flat (f65 _ 19 (by decide) (by decide)) rfl rfl (by rfl) ?_
    have hm : mixW w n = w.set (n % 16) (w.getD (n % 16) 0 + (sg1 (w.getD ((n - 2) % 16) 0) + w.getD ((n - 7) % 16) 0 + sg0 (w.getD ((n - 15) % 16) 0))) := if_neg (by omega)
    have b0' : n % 16 < (w.set (n % 16) (w.getD (n % 16) 0 + (sg1 (w.getD ((n - 2) % 16) 0) + w.getD ((n - 7) % 16) 0 + sg0 (w.getD ((n - 15) % 16) 0)))).length := by rw [List.length_set]; exact b0
    repeat (first | simp only [go_sem, Nat.reduceLT, Nat.reduceEqDiff, reduceIte, Int.reduceEq, Int.reduceLE, Int.reduceLT, Nat.reduceMul, Nat.reduceAdd, Nat.reduceSub, Int.reduceNeg, Int.reduceAdd, Int.reduceMul, Int.reduceSub, Int.reduceToNat, Nat.reduceLeDiff, Nat.reduceDiv, Int.reduceDiv, reduceCtorEq, Option.some.injEq, exists_eq_left', eq_self, Nat.beq_refl, q15, q2, q7, r15, r2, r7, r0, a15, a2, a7, m15, m2, m7, m0, row_u32, b0, b15, b2, b7, splice_u32, List.length_drop, List.length_map, List.length_set] | refine AW.seq ?_ | refine AW.block ?_ | refine AW.scope ?_ | refine AW.cond_tt rfl ?_ | refine AW.cond_ff rfl ?_ | refine AW.label ?_ | refine AW.skip ?_ | refine AW.ret ?_ | refine AW.exit ?_ | refine AW.region ?_ | refine AW.draw (by kernel_rfl) (by decide +kernel) ?_ | refine AW.drawN (by kernel_rfl) (by decide +kernel) ?_ | ((with_reducible refine And.intro ?_ ?_); (focus ((repeat' (with_reducible apply And.intro)) <;> first | (with_reducible exact OrdAt.of (by kernel_rfl)) | (with_reducible exact OrdT.of (by kernel_rfl)) | exact True.intro | (with_reducible assumption) | omega | rfl | exact Nat.le_of_ble_eq_true rfl | exact Or.inl trivial | (unfold inI; omega)))))
    rw [hm]
    exact ⟨rfl, rfl⟩
  · have b0 : n % 16 < w.length := by omega
    have hm : mixW w n = w := if_pos (by omega)
    repeat (first | simp only [go_sem, Nat.reduceLT, Nat.reduceEqDiff, reduceIte, Int.reduceEq, Int.reduceLE, Int.reduceLT, Nat.reduceMul, Nat.reduceAdd, Nat.reduceSub, Int.reduceNeg, Int.reduceAdd, Int.reduceMul, Int.reduceSub, Int.reduceToNat, Nat.reduceLeDiff, Nat.reduceDiv, Int.reduceDiv, reduceCtorEq, Option.some.injEq, exists_eq_left', eq_self, Nat.beq_refl, r0, m0, hm, row_u32, b0, List.length_drop, List.length_map] | refine AW.seq ?_ | refine AW.block ?_ | refine AW.scope ?_ | refine AW.cond_tt rfl ?_ | refine AW.cond_ff rfl ?_ | refine AW.label ?_ | refine AW.skip ?_ | refine AW.ret ?_ | refine AW.exit ?_ | refine AW.region ?_ | refine AW.draw (by kernel_rfl) (by decide +kernel) ?_ | refine AW.drawN (by kernel_rfl) (by decide +kernel) ?_ | ((with_reducible refine And.intro ?_ ?_); (focus ((repeat' (with_reducible apply And.intro)) <;> first | (with_reducible exact OrdAt.of (by kernel_rfl)) | (with_reducible exact OrdT.of (by kernel_rfl)) | exact True.intro | (with_reducible assumption) | omega | rfl | exact Nat.le_of_ble_eq_true rfl | exact Or.inl trivial | (unfold inI; omega)))))
end Go.Proofs.YtpknjecfloglgaaDoor

namespace Go.Proofs.YtpknjecfloglgaaDoor
open Go Go.Eng Go.Proofs
set_option maxRecDepth 100000
set_option maxHeartbeats 4000000
set_option linter.unusedSimpArgs false
set_option linter.unusedVariables false
structure Rg where
  a : UInt32
  b : UInt32
  c : UInt32
  d : UInt32
  e : UInt32
  f : UInt32
  g : UInt32
  h : UInt32
def t1R (r : Rg) (k v : UInt32) : UInt32 := r.h + (rotr r.e 6 ^^^ rotr r.e 11 ^^^ rotr r.e 25) + (r.e &&& r.f ||| ~~~r.e &&& r.g) + k + v
def t2R (r : Rg) : UInt32 := (rotr r.a 2 ^^^ rotr r.a 13 ^^^ rotr r.a 22) + (r.a &&& r.b ||| r.a &&& r.c ||| r.b &&& r.c)
def stepR (r : Rg) (k v : UInt32) : Rg := ⟨t1R r k v + t2R r, r.a, r.b, r.c, r.d + t1R r k v, r.e, r.f, r.g⟩
def rnd (r : Rg) (w : List UInt32) : Nat → Rg × List UInt32
  | 0 => (r, w)
  | n + 1 => (stepR (rnd r w n).1 (shaK.getD n 0) ((mixW (rnd r w n).2 n).getD (n % 16) 0), mixW (rnd r w n).2 n)
def wordB (t : List UInt8) (j : Nat) : UInt32 := shl32 (t.getD (4 * j) 0).toUInt32 24 ||| shl32 (t.getD (4 * j + 1) 0).toUInt32 16 ||| shl32 (t.getD (4 * j + 2) 0).toUInt32 8 ||| (t.getD (4 * j + 3) 0).toUInt32
def wIni (t : List UInt8) : Nat → List UInt32
  | 0 => List.replicate 16 0
  | j + 1 => (wIni t j).set j (wordB t j)
theorem wIni_len (t : List UInt8) : ∀ j, (wIni t j).length = 16
  | 0 => by simp [wIni]
  | j + 1 => by simp [wIni, wIni_len t j]
def rgOf (s : List UInt32) : Rg := ⟨s.getD 0 0, s.getD 1 0, s.getD 2 0, s.getD 3 0, s.getD 4 0, s.getD 5 0, s.getD 6 0, s.getD 7 0⟩
def rgL (r : Rg) : List UInt32 := [r.a, r.b, r.c, r.d, r.e, r.f, r.g, r.h]
def addL (s x : List UInt32) : Nat → List UInt32
  | 0 => s
  | j + 1 => (addL s x j).set j ((addL s x j).getD j 0 + x.getD j 0)
def blk (s : List UInt32) (t : List UInt8) : List UInt32 := addL s (rgL (rnd (rgOf s) (wIni t 16) 64).1) 8
@[go_sem] theorem wrap_u8_u32 (x : UInt8) : IntKind.u32.wrap (x.toNat : Int) = (x.toUInt32.toNat : Int) := by
  rw [wrap_u _ rfl, UInt8.toNat_toUInt32]
  have := x.toNat_lt
  rw [Nat.mod_eq_of_lt (by simp only [IntKind.bits]; omega)]
def ss19a (s : List UInt32) (t : List UInt8) (j : Nat) : S := ⟨[(22, int j), (1, .sl 1 (bys t) t.length none), (2, .loc 0 0), (4, .loc 1 0), (5, .loc 2 0)], 158, [(2, .box ((wIni t j).map u32)), (1, .box ((List.replicate 8 (0 : UInt32)).map u32)), (0, .box (s.map u32))], 3, []⟩
def slotU (s : S) (t : Nat) : Nat := match Eng.look s.fr t with | some (.v (.int _ n)) => n.toNat | _ => 0
theorem rnd_len (r : Rg) (w : List UInt32) : ∀ n, (rnd r w n).2.length = w.length
  | 0 => rfl
  | n + 1 => by simp only [rnd, mixW_len, rnd_len r w n]
def ss19b (s : List UInt32) (t : List UInt8) (n : Nat) : S := ⟨[(74, .v (.int .u64 n)), (16, u32 (rnd (rgOf s) (wIni t 16) n).1.h), (15, u32 (rnd (rgOf s) (wIni t 16) n).1.g), (14, u32 (rnd (rgOf s) (wIni t 16) n).1.f),
  (13, u32 (rnd (rgOf s) (wIni t 16) n).1.e), (12, u32 (rnd (rgOf s) (wIni t 16) n).1.d), (11, u32 (rnd (rgOf s) (wIni t 16) n).1.c), (10, u32 (rnd (rgOf s) (wIni t 16) n).1.b), (9, u32 (rnd (rgOf s) (wIni t 16) n).1.a),
  (8, .fn (.func 64) [] [.loc 2 0]), (2, .loc 0 0), (4, .loc 1 0)], 158, [(2, .box ((rnd (rgOf s) (wIni t 16) n).2.map u32)), (1, .box ((List.replicate 8 (0 : UInt32)).map u32)), (0, .box (s.map u32))], 3, []⟩
theorem not32' (x : UInt32) : bits .xor .u32 IntKind.u32.max (x.toNat : Int) = ((~~~x).toNat : Int) := by
  have h : ((UInt32.ofNat 4294967295).toNat : Int) = IntKind.u32.max := by decide
  rw [← h, bits32]
  congr 2
theorem not32 (x : UInt32) : bits .xor .u32 (if IntKind.u32.signed = true then -1 else IntKind.u32.max) (x.toNat : Int) = ((~~~x).toNat : Int) := not32' x
theorem addL_len (s x : List UInt32) : ∀ j, (addL s x j).length = s.length
  | 0 => rfl
  | j + 1 => by simp [addL, addL_len s x j]
def ss19c (s : List UInt32) (R : Rg) (j : Nat) : S := ⟨[(146, int j), (145, .agg ((rgL R).map u32)), (2, .loc 0 0), (4, .loc 1 0)], 158, [(1, .box ((List.replicate 8 (0 : UInt32)).map u32)), (0, .box ((addL s (rgL R) j).map u32))], 3, []⟩
theorem map_dt_u32 (l : List UInt32) : (l.map u32).map dt = l.map u32 := by simp [dt]
theorem f57 (s : List UInt32) (hs : s.length = 8) (t : List UInt8) (ht : 64 ≤ t.length) (ht2 : t.length ≤ 1000000) : AFun Tryd.prog 57 [.agg (s.map u32), .sl 1 (bys t) t.length none] (.agg ((blk s t).map u32)) := by
  refine AFun.enterW Tryd.func57 rfl Tryd.call57 (by simp [Tryd.ntmps57]) fun γ1 => ?_
  simp only [frameOf, Tryd.ntmps57]
  repeat (first | simp only [go_sem, Nat.reduceLT, Nat.reduceEqDiff, reduceIte, Int.reduceEq, Int.reduceLE, Int.reduceLT, Nat.reduceMul, Nat.reduceAdd, Nat.reduceSub, Int.reduceNeg, Int.reduceAdd, Int.reduceMul, Int.reduceSub, Int.reduceToNat, Nat.reduceLeDiff, Nat.reduceDiv, Int.reduceDiv, reduceCtorEq, Option.some.injEq, exists_eq_left', zrow_u32, hs, List.length_map] | refine AW.seq ?_ | refine AW.block ?_ | refine AW.scope ?_ | refine AW.cond_tt rfl ?_ | refine AW.cond_ff rfl ?_ | refine AW.label ?_ | refine AW.skip ?_ | refine AW.ret ?_ | refine AW.exit ?_ | refine AW.region ?_ | refine AW.draw (by kernel_rfl) (by decide +kernel) ?_ | refine AW.drawN (by kernel_rfl) (by decide +kernel) ?_ | ((with_reducible refine And.intro ?_ ?_); (focus ((repeat' (with_reducible apply And.intro)) <;> first | (with_reducible exact OrdAt.of (by kernel_rfl)) | (with_reducible exact OrdT.of (by kernel_rfl)) | exact True.intro | (with_reducible assumption) | omega | rfl | exact Nat.le_of_ble_eq_true rfl | exact Or.inl trivial | (unfold inI; omega)))))
  refine AW.loop (fun s' => ∃ j : Nat, j ≤ 16 ∧ s' = ss19a s t j) (fun s' => (16 - slotN s' 22).toNat) (s0 := ss19a s t 0) ?_ ⟨0, by omega, rfl⟩ ?_
  · simp only [ss19a, wIni]
    exact (Sub.same (by first | exact Nat.zero_le _ | exact Nat.le_refl _ | decide | omega) rfl rfl (by simp) (by simp [lab, labL, ren, renL, look_cons, renL_bys, labL_bys, renL_mapu8, labL_mapu8, renL_mapu32, labL_mapu32]) (by simp [labO, renO, lab, labL, ren, renL, look_cons, renL_bys, labL_bys, renL_mapu8, labL_mapu8, renL_mapu32, labL_mapu32]))
  rintro s' ⟨j, hj, rfl⟩
  simp only [ss19a]
  repeat (first | simp only [go_sem, Nat.reduceLT, Nat.reduceEqDiff, reduceIte, Int.reduceEq, Int.reduceLE, Int.reduceLT, Nat.reduceMul, Nat.reduceAdd, Nat.reduceSub, Int.reduceNeg, Int.reduceAdd, Int.reduceMul, Int.reduceSub, Int.reduceToNat, Nat.reduceLeDiff, Nat.reduceDiv, Int.reduceDiv, reduceCtorEq, Option.some.injEq, exists_eq_left'] | refine AW.seq ?_ | refine AW.block ?_ | refine AW.scope ?_ | refine AW.cond_tt rfl ?_ | refine AW.cond_ff rfl ?_ | refine AW.label ?_ | refine AW.skip ?_ | refine AW.ret ?_ | refine AW.exit ?_ | refine AW.region ?_ | refine AW.draw (by kernel_rfl) (by decide +kernel) ?_ | refine AW.drawN (by kernel_rfl) (by decide +kernel) ?_ | ((with_reducible refine And.intro ?_ ?_); (focus ((repeat' (with_reducible apply And.intro)) <;> first | (with_reducible exact OrdAt.of (by kernel_rfl)) | (with_reducible exact OrdT.of (by kernel_rfl)) | exact True.intro | (with_reducible assumption) | omega | rfl | exact Nat.le_of_ble_eq_true rfl | exact Or.inl trivial | (unfold inI; omega)))))
  refine AW.cond_dec rfl (fun h1 => ?_) (fun h1 => ?_)
  · have hjj : 4 * j + 4 ≤ t.length := by omega
    have hlw := wIni_len t j
    have hb : j < (wIni t j).length := by omega
    have e1 : (4 * (j : Int) + 4 - 4 * j).toNat = 4 := by omega
    have e2 : (4 * (j : Int)).toNat = 4 * j := by omega
    have g0 : ((t.drop (4 * j)).take 4).getD 0 0 = t.getD (4 * j) 0 := by simp [List.getD_eq_getElem?_getD]
    have g1 : (((t.drop (4 * j)).take 4).drop 1).getD 0 0 = t.getD (4 * j + 1) 0 := by simp [List.getD_eq_getElem?_getD, List.getElem?_take]
    have g2 : (((t.drop (4 * j)).take 4).drop 2).getD 0 0 = t.getD (4 * j + 2) 0 := by simp [List.getD_eq_getElem?_getD, List.getElem?_take]
    have g3 : (((t.drop (4 * j)).take 4).drop 3).getD 0 0 = t.getD (4 * j + 3) 0 := by simp [List.getD_eq_getElem?_getD, List.getElem?_take]
    have l0 : 0 < ((t.drop (4 * j)).take 4).length := by rw [List.length_take, List.length_drop]; omega
    have l1 : 0 < (((t.drop (4 * j)).take 4).drop 1).length := by rw [List.length_drop, List.length_take, List.length_drop]; omega
    have l2 : 0 < (((t.drop (4 * j)).take 4).drop 2).length := by rw [List.length_drop, List.length_take, List.length_drop]; omega
    have l3 : 0 < (((t.drop (4 * j)).take 4).drop 3).length := by rw [List.length_drop, List.length_take, List.length_drop]; omega
    have m0 : 1 ≤ ((t.drop (4 * j)).take 4).length := l0
    have m1 : 1 ≤ (((t.drop (4 * j)).take 4).drop 1).length := l1
    have m2 : 1 ≤ (((t.drop (4 * j)).take 4).drop 2).length := l2
    have m3 : 1 ≤ (((t.drop (4 * j)).take 4).drop 3).length := l3
    have h16 : j < 16 := by omega
    have hW : (wIni t j).set j (shl32 (t.getD (4 * j) 0).toUInt32 24 ||| shl32 (t.getD (4 * j + 1) 0).toUInt32 16 ||| shl32 (t.getD (4 * j + 2) 0).toUInt32 8 ||| (t.getD (4 * j + 3) 0).toUInt32) = wIni t (j + 1) := rfl
    repeat (first | simp only [go_sem, Nat.reduceLT, Nat.reduceEqDiff, reduceIte, Int.reduceEq, Int.reduceLE, Int.reduceLT, Nat.reduceMul, Nat.reduceAdd, Nat.reduceSub, Int.reduceNeg, Int.reduceAdd, Int.reduceMul, Int.reduceSub, Int.reduceToNat, Nat.reduceLeDiff, Nat.reduceDiv, Int.reduceDiv, reduceCtorEq, Option.some.injEq, exists_eq_left', e1, e2, h16, hW, g0, g1, g2, g3, l0, l1, l2, l3, m0, m1, m2, m3, row_u32, splice_u32, hb, hlw, List.length_map, bys_get] | refine AW.seq ?_ | refine AW.block ?_ | refine AW.scope ?_ | refine AW.cond_tt rfl ?_ | refine AW.cond_ff rfl ?_ | refine AW.label ?_ | refine AW.skip ?_ | refine AW.ret ?_ | refine AW.exit ?_ | refine AW.region ?_ | refine AW.draw (by kernel_rfl) (by decide +kernel) ?_ | refine AW.drawN (by kernel_rfl) (by decide +kernel) ?_ | ((with_reducible refine And.intro ?_ ?_); (focus ((repeat' (with_reducible apply And.intro)) <;> first | (with_reducible exact OrdAt.of (by kernel_rfl)) | (with_reducible exact OrdT.of (by kernel_rfl)) | exact True.intro | (with_reducible assumption) | omega | rfl | exact Nat.le_of_ble_eq_true rfl | exact Or.inl trivial | (unfold inI; omega)))))
    rw [Qof_lp]
    refine ⟨ss19a s t (j + 1), ?_, ⟨j + 1, by omega, rfl⟩, ?_⟩
    · simp only [ss19a]
      exact (Sub.same (by first | exact Nat.zero_le _ | exact Nat.le_refl _ | decide | omega) rfl rfl (by simp) (by simp [lab, labL, ren, renL, look_cons, renL_bys, labL_bys, renL_mapu8, labL_mapu8, renL_mapu32, labL_mapu32]) (by simp [labO, renO, lab, labL, ren, renL, look_cons, renL_bys, labL_bys, renL_mapu8, labL_mapu8, renL_mapu32, labL_mapu32]))
    · simp [slotN, ss19a, look_cons]; omega
  · have hj16 : j = 16 := by omega
    subst hj16
    have hlw := wIni_len t 16
    have hg0 : (List.map u32 s).getD 0 .bad = u32 (s.getD 0 0) := row_u32 (n := 0) (by omega)
    repeat (first | simp only [go_sem, Nat.reduceLT, Nat.reduceEqDiff, reduceIte, Int.reduceEq, Int.reduceLE, Int.reduceLT, Nat.reduceMul, Nat.reduceAdd, Nat.reduceSub, Int.reduceNeg, Int.reduceAdd, Int.reduceMul, Int.reduceSub, Int.reduceToNat, Nat.reduceLeDiff, Nat.reduceDiv, Int.reduceDiv, reduceCtorEq, Option.some.injEq, exists_eq_left', row_u32, hs, hg0, List.length_map, List.length_drop] | refine AW.seq ?_ | refine AW.block ?_ | refine AW.scope ?_ | refine AW.cond_tt rfl ?_ | refine AW.cond_ff rfl ?_ | refine AW.label ?_ | refine AW.skip ?_ | refine AW.ret ?_ | refine AW.exit ?_ | refine AW.region ?_ | refine AW.draw (by kernel_rfl) (by decide +kernel) ?_ | refine AW.drawN (by kernel_rfl) (by decide +kernel) ?_ | ((with_reducible refine And.intro ?_ ?_); (focus ((repeat' (with_reducible apply And.intro)) <;> first | (with_reducible exact OrdAt.of (by kernel_rfl)) | (with_reducible exact OrdT.of (by kernel_rfl)) | exact True.intro | (with_reducible assumption) | omega | rfl | exact Nat.le_of_ble_eq_true rfl | exact Or.inl trivial | (unfold inI; omega)))))
    refine AW.loop (fun s' => ∃ n : Nat, n ≤ 64 ∧ s' = ss19b s t n) (fun s' => 64 - slotU s' 74) (s0 := ss19b s t 0) ?_ ⟨0, by omega, rfl⟩ ?_
    · simp only [ss19b, rnd, rgOf]
      exact (Sub.same (by first | exact Nat.zero_le _ | exact Nat.le_refl _ | decide | omega) rfl rfl (by simp) (by simp [lab, labL, ren, renL, look_cons, renL_bys, labL_bys, renL_mapu8, labL_mapu8, renL_mapu32, labL_mapu32]) (by simp [labO, renO, lab, labL, ren, renL, look_cons, renL_bys, labL_bys, renL_mapu8, labL_mapu8, renL_mapu32, labL_mapu32]))
    rintro s' ⟨n, hn, rfl⟩
    simp only [ss19b]
    have qlt : binO Tryd.prog 71 .lss (.v (.int .u64 (n : Int))) (.v (.int .u64 64)) = (True, boo (decide ((n : Int) < 64))) := by simp only [binO]
    repeat (first | simp only [go_sem, Nat.reduceLT, Nat.reduceEqDiff, reduceIte, Int.reduceEq, Int.reduceLE, Int.reduceLT, Nat.reduceMul, Nat.reduceAdd, Nat.reduceSub, Int.reduceNeg, Int.reduceAdd, Int.reduceMul, Int.reduceSub, Int.reduceToNat, Nat.reduceLeDiff, Nat.reduceDiv, Int.reduceDiv, reduceCtorEq, Option.some.injEq, exists_eq_left', qlt] | refine AW.seq ?_ | refine AW.block ?_ | refine AW.scope ?_ | refine AW.cond_tt rfl ?_ | refine AW.cond_ff rfl ?_ | refine AW.label ?_ | refine AW.skip ?_ | refine AW.ret ?_ | refine AW.exit ?_ | refine AW.region ?_ | refine AW.draw (by kernel_rfl) (by decide +kernel) ?_ | refine AW.drawN (by kernel_rfl) (by decide +kernel) ?_ | ((with_reducible refine And.intro ?_ ?_); (focus ((repeat' (with_reducible apply And.intro)) <;> first | (with_reducible exact OrdAt.of (by kernel_rfl)) | (with_reducible exact OrdT.of (by kernel_rfl)) | exact True.intro | (with_reducible assumption) | omega | rfl | exact Nat.le_of_ble_eq_true rfl | exact Or.inl trivial | (unfold inI; omega)))))
    refine AW.cond_dec rfl (fun h2 => ?_) (fun h2 => ?_)
    · repeat (first | simp only [go_sem, Nat.reduceLT, Nat.reduceEqDiff, reduceIte, Int.reduceEq, Int.reduceLE, Int.reduceLT, Nat.reduceMul, Nat.reduceAdd, Nat.reduceSub, Int.reduceNeg, Int.reduceAdd, Int.reduceMul, Int.reduceSub, Int.reduceToNat, Nat.reduceLeDiff, Nat.reduceDiv, Int.reduceDiv, reduceCtorEq, Option.some.injEq, exists_eq_left'] | refine AW.seq ?_ | refine AW.block ?_ | refine AW.scope ?_ | refine AW.cond_tt rfl ?_ | refine AW.cond_ff rfl ?_ | refine AW.label ?_ | refine AW.skip ?_ | refine AW.ret ?_ | refine AW.exit ?_ | refine AW.region ?_ | ((with_reducible refine And.intro ?_ ?_); (focus ((repeat' (with_reducible apply And.intro)) <;> first | (with_reducible exact OrdAt.of (by kernel_rfl)) | (with_reducible exact OrdT.of (by kernel_rfl)) | exact exOk_no rfl | exact exOk_ld rfl | exact True.intro | assumption | omega | rfl | exact Nat.le_of_ble_eq_true rfl | exact Or.inl trivial | (unfold inI; omega)))))
      refine AW.drawB (Cl.one 102 [79, 81, 84, 98]) (by kernel_rfl) (by kernel_rfl) rfl ?_
      have hK : n < shaK.length := by show n < 64; omega
      have hwl : (rnd (rgOf s) (wIni t 16) n).2.length = 16 := by rw [rnd_len, hlw]
      repeat (first | simp only [go_sem, Nat.reduceLT, Nat.reduceEqDiff, reduceIte, Int.reduceEq, Int.reduceLE, Int.reduceLT, Nat.reduceMul, Nat.reduceAdd, Nat.reduceSub, Int.reduceNeg, Int.reduceAdd, Int.reduceMul, Int.reduceSub, Int.reduceToNat, Nat.reduceLeDiff, Nat.reduceDiv, Int.reduceDiv, reduceCtorEq, Option.some.injEq, exists_eq_left'] | refine AW.seq ?_ | refine AW.block ?_ | refine AW.scope ?_ | refine AW.cond_tt rfl ?_ | refine AW.cond_ff rfl ?_ | refine AW.label ?_ | refine AW.skip ?_ | refine AW.ret ?_ | refine AW.exit ?_ | refine AW.region ?_ | ((with_reducible refine And.intro ?_ ?_); (focus ((repeat' (with_reducible apply And.intro)) <;> first | (with_reducible exact OrdAt.of (by kernel_rfl)) | (with_reducible exact OrdT.of (by kernel_rfl)) | exact exOk_no rfl | exact exOk_ld rfl | exact True.intro | assumption | omega | rfl | exact Nat.le_of_ble_eq_true rfl | exact Or.inl trivial | (unfold inI; omega)))))
      refine CallBE.flat (f65 _ 6 (by decide) (by decide)) rfl (by rfl) (by simp [topL]) (by rfl) ?_
      repeat (first | simp only [go_sem, Nat.reduceLT, Nat.reduceEqDiff, reduceIte, Int.reduceEq, Int.reduceLE, Int.reduceLT, Nat.reduceMul, Nat.reduceAdd, Nat.reduceSub, Int.reduceNeg, Int.reduceAdd, Int.reduceMul, Int.reduceSub, Int.reduceToNat, Nat.reduceLeDiff, Nat.reduceDiv, Int.reduceDiv, reduceCtorEq, Option.some.injEq, exists_eq_left'] | refine AW.seq ?_ | refine AW.block ?_ | refine AW.scope ?_ | refine AW.cond_tt rfl ?_ | refine AW.cond_ff rfl ?_ | refine AW.label ?_ | refine AW.skip ?_ | refine AW.ret ?_ | refine AW.exit ?_ | refine AW.region ?_ | ((with_reducible refine And.intro ?_ ?_); (focus ((repeat' (with_reducible apply And.intro)) <;> first | (with_reducible exact OrdAt.of (by kernel_rfl)) | (with_reducible exact OrdT.of (by kernel_rfl)) | exact exOk_no rfl | exact exOk_ld rfl | exact True.intro | assumption | omega | rfl | exact Nat.le_of_ble_eq_true rfl | exact Or.inl trivial | (unfold inI; omega)))))
      refine CallBE.flat (f65 _ 11 (by decide) (by decide)) rfl (by rfl) (by simp [topL]) (by rfl) ?_
      repeat (first | simp only [go_sem, Nat.reduceLT, Nat.reduceEqDiff, reduceIte, Int.reduceEq, Int.reduceLE, Int.reduceLT, Nat.reduceMul, Nat.reduceAdd, Nat.reduceSub, Int.reduceNeg, Int.reduceAdd, Int.reduceMul, Int.reduceSub, Int.reduceToNat, Nat.reduceLeDiff, Nat.reduceDiv, Int.reduceDiv, reduceCtorEq, Option.some.injEq, exists_eq_left'] | refine AW.seq ?_ | refine AW.block ?_ | refine AW.scope ?_ | refine AW.cond_tt rfl ?_ | refine AW.cond_ff rfl ?_ | refine AW.label ?_ | refine AW.skip ?_ | refine AW.ret ?_ | refine AW.exit ?_ | refine AW.region ?_ | ((with_reducible refine And.intro ?_ ?_); (focus ((repeat' (with_reducible apply And.intro)) <;> first | (with_reducible exact OrdAt.of (by kernel_rfl)) | (with_reducible exact OrdT.of (by kernel_rfl)) | exact exOk_no rfl | exact exOk_ld rfl | exact True.intro | assumption | omega | rfl | exact Nat.le_of_ble_eq_true rfl | exact Or.inl trivial | (unfold inI; omega)))))
      refine CallBE.flat (f65 _ 25 (by decide) (by decide)) rfl (by rfl) (by simp [topL]) (by rfl) ?_
      repeat (first | simp only [go_sem, Nat.reduceLT, Nat.reduceEqDiff, reduceIte, Int.reduceEq, Int.reduceLE, Int.reduceLT, Nat.reduceMul, Nat.reduceAdd, Nat.reduceSub, Int.reduceNeg, Int.reduceAdd, Int.reduceMul, Int.reduceSub, Int.reduceToNat, Nat.reduceLeDiff, Nat.reduceDiv, Int.reduceDiv, reduceCtorEq, Option.some.injEq, exists_eq_left', gl1, not32, not32', row_u32, hK, List.length_map, List.length_drop] | refine AW.seq ?_ | refine AW.block ?_ | refine AW.scope ?_ | refine AW.cond_tt rfl ?_ | refine AW.cond_ff rfl ?_ | refine AW.label ?_ | refine AW.skip ?_ | refine AW.ret ?_ | refine AW.exit ?_ | refine AW.region ?_ | ((with_reducible refine And.intro ?_ ?_); (focus ((repeat' (with_reducible apply And.intro)) <;> first | (with_reducible exact OrdAt.of (by kernel_rfl)) | (with_reducible exact OrdT.of (by kernel_rfl)) | exact exOk_no rfl | exact exOk_ld rfl | exact True.intro | assumption | omega | rfl | exact Nat.le_of_ble_eq_true rfl | exact Or.inl trivial | (unfold inI; omega)))))
      refine CallBE.box (.loc 2 0) (f64 _ hwl n (by omega) 2) rfl (by simp) (by simp [topL]) rfl (by rfl) ?_
      repeat (first | simp only [go_sem, Nat.reduceLT, Nat.reduceEqDiff, reduceIte, Int.reduceEq, Int.reduceLE, Int.reduceLT, Nat.reduceMul, Nat.reduceAdd, Nat.reduceSub, Int.reduceNeg, Int.reduceAdd, Int.reduceMul, Int.reduceSub, Int.reduceToNat, Nat.reduceLeDiff, Nat.reduceDiv, Int.reduceDiv, reduceCtorEq, Option.some.injEq, exists_eq_left'] | refine AW.seq ?_ | refine AW.block ?_ | refine AW.scope ?_ | refine AW.cond_tt rfl ?_ | refine AW.cond_ff rfl ?_ | refine AW.label ?_ | refine AW.skip ?_ | refine AW.ret ?_ | refine AW.exit ?_ | refine AW.region ?_ | ((with_reducible refine And.intro ?_ ?_); (focus ((repeat' (with_reducible apply And.intro)) <;> first | (with_reducible exact OrdAt.of (by kernel_rfl)) | (with_reducible exact OrdT.of (by kernel_rfl)) | exact exOk_no rfl | exact exOk_ld rfl | exact True.intro | assumption | omega | rfl | exact Nat.le_of_ble_eq_true rfl | exact Or.inl trivial | (unfold inI; omega)))))
      refine CallE.flat (f65 _ 2 (by decide) (by decide)) rfl rfl (by rfl) ?_
      repeat (first | simp only [go_sem, Nat.reduceLT, Nat.reduceEqDiff, reduceIte, Int.reduceEq, Int.reduceLE, Int.reduceLT, Nat.reduceMul, Nat.reduceAdd, Nat.reduceSub, Int.reduceNeg, Int.reduceAdd, Int.reduceMul, Int.reduceSub, Int.reduceToNat, Nat.reduceLeDiff, Nat.reduceDiv, Int.reduceDiv, reduceCtorEq, Option.some.injEq, exists_eq_left'] | refine AW.seq ?_ | refine AW.block ?_ | refine AW.scope ?_ | refine AW.cond_tt rfl ?_ | refine AW.cond_ff rfl ?_ | refine AW.label ?_ | refine AW.skip ?_ | refine AW.ret ?_ | refine AW.exit ?_ | refine AW.region ?_ | ((with_reducible refine And.intro ?_ ?_); (focus ((repeat' (with_reducible apply And.intro)) <;> first | (with_reducible exact OrdAt.of (by kernel_rfl)) | (with_reducible exact OrdT.of (by kernel_rfl)) | exact exOk_no rfl | exact exOk_ld rfl | exact True.intro | assumption | omega | rfl | exact Nat.le_of_ble_eq_true rfl | exact Or.inl trivial | (unfold inI; omega)))))
      refine CallE.flat (f65 _ 13 (by decide) (by decide)) rfl rfl (by rfl) ?_
      repeat (first | simp only [go_sem, Nat.reduceLT, Nat.reduceEqDiff, reduceIte, Int.reduceEq, Int.reduceLE, Int.reduceLT, Nat.reduceMul, Nat.reduceAdd, Nat.reduceSub, Int.reduceNeg, Int.reduceAdd, Int.reduceMul, Int.reduceSub, Int.reduceToNat, Nat.reduceLeDiff, Nat.reduceDiv, Int.reduceDiv, reduceCtorEq, Option.some.injEq, exists_eq_left'] | refine AW.seq ?_ | refine AW.block ?_ | refine AW.scope ?_ | refine AW.cond_tt rfl ?_ | refine AW.cond_ff rfl ?_ | refine AW.label ?_ | refine AW.skip ?_ | refine AW.ret ?_ | refine AW.exit ?_ | refine AW.region ?_ | ((with_reducible refine And.intro ?_ ?_); (focus ((repeat' (with_reducible apply And.intro)) <;> first | (with_reducible exact OrdAt.of (by kernel_rfl)) | (with_reducible exact OrdT.of (by kernel_rfl)) | exact exOk_no rfl | exact exOk_ld rfl | exact True.intro | assumption | omega | rfl | exact Nat.le_of_ble_eq_true rfl | exact Or.inl trivial | (unfold inI; omega)))))
      refine CallE.flat (f65 _ 22 (by decide) (by decide)) rfl rfl (by rfl) ?_
      have qadd : binO Tryd.prog 71 .add (.v (.int .u64 (n : Int))) (.v (.int .u64 1)) = (True, .v (.int .u64 ((n + 1 : Nat) : Int))) := by
        have : ((n : Int) + 1) % 18446744073709551616 = ((n + 1 : Nat) : Int) := by omega
        simp only [binO, wrap_u64c, this]
      repeat (first | simp only [go_sem, Nat.reduceLT, Nat.reduceEqDiff, reduceIte, Int.reduceEq, Int.reduceLE, Int.reduceLT, Nat.reduceMul, Nat.reduceAdd, Nat.reduceSub, Int.reduceNeg, Int.reduceAdd, Int.reduceMul, Int.reduceSub, Int.reduceToNat, Nat.reduceLeDiff, Nat.reduceDiv, Int.reduceDiv, reduceCtorEq, Option.some.injEq, exists_eq_left', qadd] | refine AW.seq ?_ | refine AW.block ?_ | refine AW.scope ?_ | refine AW.cond_tt rfl ?_ | refine AW.cond_ff rfl ?_ | refine AW.label ?_ | refine AW.skip ?_ | refine AW.ret ?_ | refine AW.exit ?_ | refine AW.region ?_ | ((with_reducible refine And.intro ?_ ?_); (focus ((repeat' (with_reducible apply And.intro)) <;> first | (with_reducible exact OrdAt.of (by kernel_rfl)) | (with_reducible exact OrdT.of (by kernel_rfl)) | exact exOk_no rfl | exact exOk_ld rfl | exact True.intro | assumption | omega | rfl | exact Nat.le_of_ble_eq_true rfl | exact Or.inl trivial | (unfold inI; omega)))))
      rw [Qof_lp]
      refine ⟨ss19b s t (n + 1), ?_, ⟨n + 1, by omega, rfl⟩, ?_⟩
      · simp only [ss19b, rnd, stepR, t1R, t2R]
        exact (Sub.same (by first | exact Nat.zero_le _ | exact Nat.le_refl _ | decide | omega) rfl rfl (by simp) (by simp [lab, labL, ren, renL, look_cons, renL_bys, labL_bys, renL_mapu8, labL_mapu8, renL_mapu32, labL_mapu32]) (by simp [labO, renO, lab, labL, ren, renL, look_cons, renL_bys, labL_bys, renL_mapu8, labL_mapu8, renL_mapu32, labL_mapu32]))
      · simp [slotU, ss19b, look_cons]; omega
    · have hn64 : n = 64 := by omega
      subst hn64
      generalize hR : (rnd (rgOf s) (wIni t 16) 64).1 = R
      repeat (first | simp only [go_sem, Nat.reduceLT, Nat.reduceEqDiff, reduceIte, Int.reduceEq, Int.reduceLE, Int.reduceLT, Nat.reduceMul, Nat.reduceAdd, Nat.reduceSub, Int.reduceNeg, Int.reduceAdd, Int.reduceMul, Int.reduceSub, Int.reduceToNat, Nat.reduceLeDiff, Nat.reduceDiv, Int.reduceDiv, reduceCtorEq, Option.some.injEq, exists_eq_left', row_u32, hs, List.length_map, List.length_drop, Option.some.injEq, exists_eq_left', List.length_replicate] | refine AW.seq ?_ | refine AW.block ?_ | refine AW.scope ?_ | refine AW.cond_tt rfl ?_ | refine AW.cond_ff rfl ?_ | refine AW.label ?_ | refine AW.skip ?_ | refine AW.ret ?_ | refine AW.exit ?_ | refine AW.region ?_ | refine AW.draw (by kernel_rfl) (by decide +kernel) ?_ | refine AW.drawN (by kernel_rfl) (by decide +kernel) ?_ | ((with_reducible refine And.intro ?_ ?_); (focus ((repeat' (with_reducible apply And.intro)) <;> first | (with_reducible exact OrdAt.of (by kernel_rfl)) | (with_reducible exact OrdT.of (by kernel_rfl)) | exact True.intro | (with_reducible assumption) | omega | rfl | exact Nat.le_of_ble_eq_true rfl | exact Or.inl trivial | (unfold inI; omega)))))
      have hsp : splice (splice (splice (splice (splice (splice (splice (splice (List.replicate 8 (u32 0)) 0 [u32 R.a]) 1 [u32 R.b]) 2 [u32 R.c]) 3 [u32 R.d]) 4 [u32 R.e]) 5 [u32 R.f]) 6 [u32 R.g]) 7 [u32 R.h] = (rgL R).map u32 := rfl
      rw [hsp]
      refine AW.loop (fun s' => ∃ j : Nat, j ≤ 8 ∧ s' = ss19c s R j) (fun s' => (8 - slotN s' 146).toNat) (s0 := ss19c s R 0) ?_ ⟨0, by omega, rfl⟩ ?_
      · simp only [ss19c, addL]
        exact (Sub.same (by first | exact Nat.zero_le _ | exact Nat.le_refl _ | decide | omega) rfl rfl (by simp) (by simp [lab, labL, ren, renL, look_cons, renL_bys, labL_bys, renL_mapu8, labL_mapu8, renL_mapu32, labL_mapu32]) (by simp [labO, renO, lab, labL, ren, renL, look_cons, renL_bys, labL_bys, renL_mapu8, labL_mapu8, renL_mapu32, labL_mapu32]))
      rintro s' ⟨j, hj, rfl⟩
      simp only [ss19c]
      have hal := addL_len s (rgL R) j
      repeat (first | simp only [go_sem, Nat.reduceLT, Nat.reduceEqDiff, reduceIte, Int.reduceEq, Int.reduceLE, Int.reduceLT, Nat.reduceMul, Nat.reduceAdd, Nat.reduceSub, Int.reduceNeg, Int.reduceAdd, Int.reduceMul, Int.reduceSub, Int.reduceToNat, Nat.reduceLeDiff, Nat.reduceDiv, Int.reduceDiv, reduceCtorEq, Option.some.injEq, exists_eq_left'] | refine AW.seq ?_ | refine AW.block ?_ | refine AW.scope ?_ | refine AW.cond_tt rfl ?_ | refine AW.cond_ff rfl ?_ | refine AW.label ?_ | refine AW.skip ?_ | refine AW.ret ?_ | refine AW.exit ?_ | refine AW.region ?_ | refine AW.draw (by kernel_rfl) (by decide +kernel) ?_ | refine AW.drawN (by kernel_rfl) (by decide +kernel) ?_ | ((with_reducible refine And.intro ?_ ?_); (focus ((repeat' (with_reducible apply And.intro)) <;> first | (with_reducible exact OrdAt.of (by kernel_rfl)) | (with_reducible exact OrdT.of (by kernel_rfl)) | exact True.intro | (with_reducible assumption) | omega | rfl | exact Nat.le_of_ble_eq_true rfl | exact Or.inl trivial | (unfold inI; omega)))))
      refine AW.cond_dec rfl (fun h3 => ?_) (fun h3 => ?_)
      · have hj8 : j < 8 := by omega
        have hjr : j < (rgL R).length := hj8
        have hA : (addL s (rgL R) j).set j ((addL s (rgL R) j).getD j 0 + (rgL R).getD j 0) = addL s (rgL R) (j + 1) := rfl
        repeat (first | simp only [go_sem, Nat.reduceLT, Nat.reduceEqDiff, reduceIte, Int.reduceEq, Int.reduceLE, Int.reduceLT, Nat.reduceMul, Nat.reduceAdd, Nat.reduceSub, Int.reduceNeg, Int.reduceAdd, Int.reduceMul, Int.reduceSub, Int.reduceToNat, Nat.reduceLeDiff, Nat.reduceDiv, Int.reduceDiv, reduceCtorEq, Option.some.injEq, exists_eq_left', row_u32, splice_u32, hs, hal, hj8, hjr, hA, List.length_map, List.length_drop] | refine AW.seq ?_ | refine AW.block ?_ | refine AW.scope ?_ | refine AW.cond_tt rfl ?_ | refine AW.cond_ff rfl ?_ | refine AW.label ?_ | refine AW.skip ?_ | refine AW.ret ?_ | refine AW.exit ?_ | refine AW.region ?_ | refine AW.draw (by kernel_rfl) (by decide +kernel) ?_ | refine AW.drawN (by kernel_rfl) (by decide +kernel) ?_ | ((with_reducible refine And.intro ?_ ?_); (focus ((repeat' (with_reducible apply And.intro)) <;> first | (with_reducible exact OrdAt.of (by kernel_rfl)) | (with_reducible exact OrdT.of (by kernel_rfl)) | exact True.intro | (with_reducible assumption) | omega | rfl | exact Nat.le_of_ble_eq_true rfl | exact Or.inl trivial | (unfold inI; omega)))))
        rw [Qof_lp]
        refine ⟨ss19c s R (j + 1), ?_, ⟨j + 1, by omega, rfl⟩, ?_⟩
        · simp only [ss19c]
          exact (Sub.same (by first | exact Nat.zero_le _ | exact Nat.le_refl _ | decide | omega) rfl rfl (by simp) (by simp [lab, labL, ren, renL, look_cons, renL_bys, labL_bys, renL_mapu8, labL_mapu8, renL_mapu32, labL_mapu32]) (by simp [labO, renO, lab, labL, ren, renL, look_cons, renL_bys, labL_bys, renL_mapu8, labL_mapu8, renL_mapu32, labL_mapu32]))
        · simp [slotN, ss19c, look_cons]; omega
      · have hj8 : j = 8 := by omega
        subst hj8
        have hsa : splice ((List.replicate 8 (0 : UInt32)).map u32) 0 ((addL s (rgL R) 8).map u32) = (addL s (rgL R) 8).map u32 := splice_all (by rw [List.length_map, List.length_map, hal, hs, List.length_replicate])
        repeat (first | simp only [go_sem, Nat.reduceLT, Nat.reduceEqDiff, reduceIte, Int.reduceEq, Int.reduceLE, Int.reduceLT, Nat.reduceMul, Nat.reduceAdd, Nat.reduceSub, Int.reduceNeg, Int.reduceAdd, Int.reduceMul, Int.reduceSub, Int.reduceToNat, Nat.reduceLeDiff, Nat.reduceDiv, Int.reduceDiv, reduceCtorEq, Option.some.injEq, exists_eq_left', List.length_map, List.length_set, List.length_replicate, List.length_drop, List.length_take, List.length_append, List.drop_zero, List.take_of_length_le, Nat.le_refl, Nat.sub_zero, splice_all, row_u8, splice_u8, wrap_u64c, hs, hal, hsa] | refine AW.seq ?_ | refine AW.block ?_ | refine AW.scope ?_ | refine AW.cond_tt rfl ?_ | refine AW.cond_ff rfl ?_ | refine AW.label ?_ | refine AW.skip ?_ | refine AW.ret ?_ | refine AW.exit ?_ | refine AW.region ?_ | refine AW.draw (by kernel_rfl) (by decide +kernel) ?_ | refine AW.drawN (by kernel_rfl) (by decide +kernel) ?_ | ((with_reducible refine And.intro ?_ ?_); (focus ((repeat' (with_reducible apply And.intro)) <;> first | (with_reducible exact OrdAt.of (by kernel_rfl)) | (with_reducible exact OrdT.of (by kernel_rfl)) | exact True.intro | (with_reducible assumption) | omega | rfl | exact Nat.le_of_ble_eq_true rfl | exact Or.inl trivial | (unfold inI; omega)))))
        have hB : blk s t = addL s (rgL R) 8 := by rw [blk, hR]
        rw [hB, map_dt_u32]
        exact Wk.refl _
end Go.Proofs.YtpknjecfloglgaaDoor

namespace Go.Proofs.YtpknjecfloglgaaDoor
open Go Go.Eng Go.Proofs
set_option maxRecDepth 100000
set_option maxHeartbeats 4000000
set_option linter.unusedSimpArgs false
set_option linter.unusedVariables false
def win (b : List UInt8) (n : Nat) (w : List UInt32) : Nat → List UInt32
  | 0 => w
  | k + 1 => (win b n w k).set n ((win b n w k).getD n 0 * 256 + (b.getD (4 * n + k) 0).toUInt32)
theorem win_len (b : List UInt8) (n : Nat) (w : List UInt32) : ∀ k, (win b n w k).length = w.length
  | 0 => rfl
  | k + 1 => by simp [win, win_len b n w k]
def wr (b : List UInt8) : Nat → List UInt32
  | 0 => List.replicate 64 0
  | n + 1 => if n < 16 then win b n (wr b n) 4 else (wr b n).set n (sg1 ((wr b n).getD (n - 2) 0) + (wr b n).getD (n - 7) 0 + sg0 ((wr b n).getD (n - 15) 0) + (wr b n).getD (n - 16) 0)
theorem wr_len (b : List UInt8) : ∀ n, (wr b n).length = 64
  | 0 => by simp [wr]
  | n + 1 => by unfold wr; split <;> simp [win_len, wr_len b n]
end Go.Proofs.YtpknjecfloglgaaDoor

namespace Go.Proofs.YtpknjecfloglgaaDoor
open Go Go.Eng Go.Proofs
set_option maxRecDepth 100000
set_option maxHeartbeats 1000000
set_option linter.unusedSimpArgs false
set_option linter.unusedVariables false
end Go.Proofs.YtpknjecfloglgaaDoor

namespace Go.Proofs.YtpknjecfloglgaaDoor
open Go Go.Eng Go.Proofs
set_option maxRecDepth 100000
set_option maxHeartbeats 1000000
set_option linter.unusedSimpArgs false
set_option linter.unusedVariables false
/-- the n-th word -/
def wd (b : List UInt8) (n : Nat) : UInt32 := (wr b (n + 1)).getD n 0
theorem getD_set {l : List UInt32} {i j : Nat} {x : UInt32} : (l.set i x).getD j 0 = if i = j ∧ j < l.length then x else l.getD j 0 := by
  simp only [List.getD_eq_getElem?_getD, List.getElem?_set]
  by_cases h : i = j
  · subst h
    by_cases h2 : i < l.length
    · simp [h2]
    · simp [h2]
  · simp [h]
theorem win_other (b : List UInt8) (n : Nat) (w : List UInt32) {m : Nat} (h : m ≠ n) : ∀ k, (win b n w k).getD m 0 = w.getD m 0
  | 0 => rfl
  | k + 1 => by rw [win, getD_set, if_neg (by omega), win_other b n w h k]
theorem wr_other (b : List UInt8) {n m : Nat} (h : m ≠ n) : (wr b (n + 1)).getD m 0 = (wr b n).getD m 0 := by
  rw [wr]
  split
  · exact win_other b n _ h 4
  · rw [getD_set, if_neg (by omega)]
theorem wr_wd (b : List UInt8) {m : Nat} : ∀ n, m < n → (wr b n).getD m 0 = wd b m
  | 0, h => absurd h (Nat.not_lt_zero _)
  | n + 1, h => by
    by_cases e : m = n
    · subst e; rfl
    · rw [wr_other b e, wr_wd b n (by omega)]
theorem wd_hi (b : List UInt8) (n : Nat) (h : 16 ≤ n) (h2 : n < 64) : wd b n = sg1 (wd b (n - 2)) + wd b (n - 7) + sg0 (wd b (n - 15)) + wd b (n - 16) := by
  rw [wd, wr, if_neg (by omega), getD_set, if_pos ⟨rfl, by rw [wr_len]; omega⟩, wr_wd b n (by omega), wr_wd b n (by omega), wr_wd b n (by omega), wr_wd b n (by omega)]
/-- the window -/
def Win (b : List UInt8) (w : List UInt32) (n : Nat) : Prop := w.length = 16 ∧ ∀ j, (if n < 16 then 0 else n - 16) ≤ j → j < (if n < 16 then 16 else n) → w.getD (j % 16) 0 = wd b j
theorem Win.step {b : List UInt8} {w : List UInt32} {n : Nat} (hW : Win b w n) (hn : n < 64) : Win b (mixW w n) (n + 1) ∧ (mixW w n).getD (n % 16) 0 = wd b n := by
  obtain ⟨hl, hw⟩ := hW
  by_cases h : n < 16
  · have hm : mixW w n = w := if_pos h
    rw [hm]
    refine ⟨⟨hl, fun j h1 h2 => hw j (by rw [if_pos h]; omega) ?_⟩, hw n (by rw [if_pos h]; omega) (by rw [if_pos h]; omega)⟩
    rw [if_pos h]
    split at h2
    · exact h2
    · omega
  · have g16 := hw (n - 16) (by rw [if_neg h]; omega) (by rw [if_neg h]; omega)
    have g2 := hw (n - 2) (by rw [if_neg h]; omega) (by rw [if_neg h]; omega)
    have g7 := hw (n - 7) (by rw [if_neg h]; omega) (by rw [if_neg h]; omega)
    have g15 := hw (n - 15) (by rw [if_neg h]; omega) (by rw [if_neg h]; omega)
    rw [show (n - 16) % 16 = n % 16 by omega] at g16
    have hm : mixW w n = w.set (n % 16) (wd b n) := by
      rw [mixW, if_neg h, g16, g2, g7, g15, wd_hi b n (by omega) hn, UInt32.add_comm (wd b (n - 16))]
    rw [hm]
    refine ⟨⟨by rw [List.length_set, hl], fun j h1 h2 => ?_⟩, by rw [getD_set, if_pos ⟨rfl, by omega⟩]⟩
    rw [if_neg (by omega)] at h1 h2
    rw [getD_set]
    by_cases e : n % 16 = j % 16
    · rw [if_pos ⟨e, by omega⟩]
      have : j = n := by omega
      rw [this]
    · rw [if_neg (by omega)]
      exact hw j (by rw [if_neg h]; omega) (by rw [if_neg h]; omega)
end Go.Proofs.YtpknjecfloglgaaDoor

