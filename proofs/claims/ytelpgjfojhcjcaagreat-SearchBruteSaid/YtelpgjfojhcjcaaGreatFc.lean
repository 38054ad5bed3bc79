/- Facts about the seat's types and functions. (Printed by gen.py.) -/
import Derived.Test.YtelpgjfojhcjcaaGreatProg
import Derived.Test.YtelpgjfojhcjcaaGreatAC
namespace Go.Proofs.YtelpgjfojhcjcaaGreat
open Go Go.Abs
theorem kIntFlat : ∀ x, ∀ A ∈ kInt.c x, Flat A := fun x A hA => by rcases List.mem_singleton.1 hA with rfl; exact Flat.eq _
theorem mx : Tryz.prog.follows .mixedOrders = true := by kernel_rfl
theorem ar120_0 : arOff Tryz.prog 120 0 = some 0 := by kernel_rfl
theorem ar120_1 : arOff Tryz.prog 120 1 = some 1 := by kernel_rfl
theorem ar121_0 : arOff Tryz.prog 121 0 = some 0 := by kernel_rfl
theorem ar121_1 : arOff Tryz.prog 121 1 = some 1 := by kernel_rfl
theorem ar121_2 : arOff Tryz.prog 121 2 = some 2 := by kernel_rfl
theorem ca103 : callable Tryz.prog 103 = true := by kernel_rfl
theorem ca104 : callable Tryz.prog 104 = true := by kernel_rfl
theorem ca105 : callable Tryz.prog 105 = true := by kernel_rfl
theorem ca106 : callable Tryz.prog 106 = true := by kernel_rfl
theorem ca107 : callable Tryz.prog 107 = true := by kernel_rfl
theorem ca108 : callable Tryz.prog 108 = true := by kernel_rfl
theorem ca109 : callable Tryz.prog 109 = true := by kernel_rfl
theorem ca11 : callable Tryz.prog 11 = true := by kernel_rfl
theorem ca110 : callable Tryz.prog 110 = true := by kernel_rfl
theorem ca111 : callable Tryz.prog 111 = true := by kernel_rfl
theorem ca112 : callable Tryz.prog 112 = true := by kernel_rfl
theorem ca113 : callable Tryz.prog 113 = true := by kernel_rfl
theorem ca114 : callable Tryz.prog 114 = true := by kernel_rfl
theorem ca115 : callable Tryz.prog 115 = true := by kernel_rfl
theorem ca121 : callable Tryz.prog 121 = true := by kernel_rfl
theorem ca122 : callable Tryz.prog 122 = true := by kernel_rfl
theorem ca123 : callable Tryz.prog 123 = true := by kernel_rfl
theorem ca124 : callable Tryz.prog 124 = true := by kernel_rfl
theorem ca125 : callable Tryz.prog 125 = true := by kernel_rfl
theorem ca126 : callable Tryz.prog 126 = true := by kernel_rfl
theorem ca127 : callable Tryz.prog 127 = true := by kernel_rfl
theorem ca128 : callable Tryz.prog 128 = true := by kernel_rfl
theorem ca142 : callable Tryz.prog 142 = true := by kernel_rfl
theorem ca143 : callable Tryz.prog 143 = true := by kernel_rfl
theorem ca144 : callable Tryz.prog 144 = true := by kernel_rfl
theorem ca145 : callable Tryz.prog 145 = true := by kernel_rfl
theorem ca156 : callable Tryz.prog 156 = true := by kernel_rfl
theorem ca157 : callable Tryz.prog 157 = true := by kernel_rfl
theorem ca158 : callable Tryz.prog 158 = true := by kernel_rfl
theorem ca159 : callable Tryz.prog 159 = true := by kernel_rfl
theorem ca160 : callable Tryz.prog 160 = true := by kernel_rfl
theorem ca161 : callable Tryz.prog 161 = true := by kernel_rfl
theorem ca162 : callable Tryz.prog 162 = true := by kernel_rfl
theorem ca163 : callable Tryz.prog 163 = true := by kernel_rfl
theorem ca165 : callable Tryz.prog 165 = true := by kernel_rfl
theorem ca166 : callable Tryz.prog 166 = true := by kernel_rfl
theorem ca17 : callable Tryz.prog 17 = true := by kernel_rfl
theorem ca20 : callable Tryz.prog 20 = true := by kernel_rfl
theorem ca21 : callable Tryz.prog 21 = true := by kernel_rfl
theorem ca23 : callable Tryz.prog 23 = true := by kernel_rfl
theorem ca24 : callable Tryz.prog 24 = true := by kernel_rfl
theorem ca25 : callable Tryz.prog 25 = true := by kernel_rfl
theorem ca26 : callable Tryz.prog 26 = true := by kernel_rfl
theorem ca28 : callable Tryz.prog 28 = true := by kernel_rfl
theorem ca30 : callable Tryz.prog 30 = true := by kernel_rfl
theorem ca31 : callable Tryz.prog 31 = true := by kernel_rfl
theorem ca32 : callable Tryz.prog 32 = true := by kernel_rfl
theorem ca36 : callable Tryz.prog 36 = true := by kernel_rfl
theorem ca37 : callable Tryz.prog 37 = true := by kernel_rfl
theorem ca38 : callable Tryz.prog 38 = true := by kernel_rfl
theorem ca40 : callable Tryz.prog 40 = true := by kernel_rfl
theorem ca42 : callable Tryz.prog 42 = true := by kernel_rfl
theorem ca45 : callable Tryz.prog 45 = true := by kernel_rfl
theorem ca47 : callable Tryz.prog 47 = true := by kernel_rfl
theorem ca49 : callable Tryz.prog 49 = true := by kernel_rfl
theorem ca51 : callable Tryz.prog 51 = true := by kernel_rfl
theorem ca52 : callable Tryz.prog 52 = true := by kernel_rfl
theorem ca53 : callable Tryz.prog 53 = true := by kernel_rfl
theorem ca57 : callable Tryz.prog 57 = true := by kernel_rfl
theorem ca58 : callable Tryz.prog 58 = true := by kernel_rfl
theorem ca59 : callable Tryz.prog 59 = true := by kernel_rfl
theorem ca60 : callable Tryz.prog 60 = true := by kernel_rfl
theorem ca63 : callable Tryz.prog 63 = true := by kernel_rfl
theorem ca65 : callable Tryz.prog 65 = true := by kernel_rfl
theorem ca70 : callable Tryz.prog 70 = true := by kernel_rfl
theorem ca72 : callable Tryz.prog 72 = true := by kernel_rfl
theorem ca76 : callable Tryz.prog 76 = true := by kernel_rfl
theorem ca77 : callable Tryz.prog 77 = true := by kernel_rfl
theorem ca78 : callable Tryz.prog 78 = true := by kernel_rfl
theorem ca79 : callable Tryz.prog 79 = true := by kernel_rfl
theorem ca80 : callable Tryz.prog 80 = true := by kernel_rfl
theorem ca81 : callable Tryz.prog 81 = true := by kernel_rfl
theorem ca82 : callable Tryz.prog 82 = true := by kernel_rfl
theorem ca83 : callable Tryz.prog 83 = true := by kernel_rfl
theorem ca84 : callable Tryz.prog 84 = true := by kernel_rfl
theorem ca85 : callable Tryz.prog 85 = true := by kernel_rfl
theorem ca86 : callable Tryz.prog 86 = true := by kernel_rfl
theorem ca87 : callable Tryz.prog 87 = true := by kernel_rfl
theorem ca88 : callable Tryz.prog 88 = true := by kernel_rfl
theorem ca89 : callable Tryz.prog 89 = true := by kernel_rfl
theorem ca9 : callable Tryz.prog 9 = true := by kernel_rfl
theorem ca90 : callable Tryz.prog 90 = true := by kernel_rfl
theorem ca94 : callable Tryz.prog 94 = true := by kernel_rfl
theorem cv3 : convTo Tryz.prog 3 = some .i64 := by kernel_rfl
theorem cv5 : convTo Tryz.prog 5 = some .u8 := by kernel_rfl
theorem el100 : elOf Tryz.prog 100 = some (29, 2) := by kernel_rfl
theorem el101 : elOf Tryz.prog 101 = some (103, 1) := by kernel_rfl
theorem el103 : elOf Tryz.prog 103 = some (4, 1) := by kernel_rfl
theorem el22 : elOf Tryz.prog 22 = some (94, 4) := by kernel_rfl
theorem el23 : elOf Tryz.prog 23 = some (96, 7) := by kernel_rfl
theorem el26 : elOf Tryz.prog 26 = some (3, 1) := by kernel_rfl
theorem el27 : elOf Tryz.prog 27 = some (77, 3) := by kernel_rfl
theorem el46 : elOf Tryz.prog 46 = some (33, 2) := by kernel_rfl
theorem el52 : elOf Tryz.prog 52 = some (120, 2) := by kernel_rfl
theorem el53 : elOf Tryz.prog 53 = some (5, 1) := by kernel_rfl
theorem el54 : elOf Tryz.prog 54 = some (121, 3) := by kernel_rfl
theorem el89 : elOf Tryz.prog 89 = some (9, 1) := by kernel_rfl
theorem el92 : elOf Tryz.prog 92 = some (91, 4) := by kernel_rfl
theorem fo108_0 : fieldOff Tryz.prog 108 0 = some 0 := by kernel_rfl
theorem fo108_1 : fieldOff Tryz.prog 108 1 = some 2 := by kernel_rfl
theorem fo108_2 : fieldOff Tryz.prog 108 2 = some 4 := by kernel_rfl
theorem fo108_3 : fieldOff Tryz.prog 108 3 = some 5 := by kernel_rfl
theorem fo108_4 : fieldOff Tryz.prog 108 4 = some 7 := by kernel_rfl
theorem fo108_5 : fieldOff Tryz.prog 108 5 = some 8 := by kernel_rfl
theorem fo108_6 : fieldOff Tryz.prog 108 6 = some 9 := by kernel_rfl
theorem fo108_7 : fieldOff Tryz.prog 108 7 = some 10 := by kernel_rfl
theorem fo108_8 : fieldOff Tryz.prog 108 8 = some 11 := by kernel_rfl
theorem fo150_0 : fieldOff Tryz.prog 150 0 = some 0 := by kernel_rfl
theorem fo150_1 : fieldOff Tryz.prog 150 1 = some 1 := by kernel_rfl
theorem fo25_0 : fieldOff Tryz.prog 25 0 = some 0 := by kernel_rfl
theorem fo25_1 : fieldOff Tryz.prog 25 1 = some 1 := by kernel_rfl
theorem fo29_0 : fieldOff Tryz.prog 29 0 = some 0 := by kernel_rfl
theorem fo29_1 : fieldOff Tryz.prog 29 1 = some 1 := by kernel_rfl
theorem fo33_0 : fieldOff Tryz.prog 33 0 = some 0 := by kernel_rfl
theorem fo33_1 : fieldOff Tryz.prog 33 1 = some 1 := by kernel_rfl
theorem fo56_0 : fieldOff Tryz.prog 56 0 = some 0 := by kernel_rfl
theorem fo56_1 : fieldOff Tryz.prog 56 1 = some 1 := by kernel_rfl
theorem fo58_0 : fieldOff Tryz.prog 58 0 = some 0 := by kernel_rfl
theorem fo58_1 : fieldOff Tryz.prog 58 1 = some 1 := by kernel_rfl
theorem fo58_2 : fieldOff Tryz.prog 58 2 = some 2 := by kernel_rfl
theorem fo58_3 : fieldOff Tryz.prog 58 3 = some 4 := by kernel_rfl
theorem fo77_0 : fieldOff Tryz.prog 77 0 = some 0 := by kernel_rfl
theorem fo77_1 : fieldOff Tryz.prog 77 1 = some 1 := by kernel_rfl
theorem fo77_2 : fieldOff Tryz.prog 77 2 = some 2 := by kernel_rfl
theorem fo91_0 : fieldOff Tryz.prog 91 0 = some 0 := by kernel_rfl
theorem fo91_1 : fieldOff Tryz.prog 91 1 = some 1 := by kernel_rfl
theorem fo91_2 : fieldOff Tryz.prog 91 2 = some 2 := by kernel_rfl
theorem fo91_3 : fieldOff Tryz.prog 91 3 = some 3 := by kernel_rfl
theorem fo94_0 : fieldOff Tryz.prog 94 0 = some 0 := by kernel_rfl
theorem fo94_1 : fieldOff Tryz.prog 94 1 = some 1 := by kernel_rfl
theorem fo94_2 : fieldOff Tryz.prog 94 2 = some 2 := by kernel_rfl
theorem fo94_3 : fieldOff Tryz.prog 94 3 = some 3 := by kernel_rfl
theorem fo96_0 : fieldOff Tryz.prog 96 0 = some 0 := by kernel_rfl
theorem fo96_1 : fieldOff Tryz.prog 96 1 = some 1 := by kernel_rfl
theorem fo96_2 : fieldOff Tryz.prog 96 2 = some 2 := by kernel_rfl
theorem fo96_3 : fieldOff Tryz.prog 96 3 = some 3 := by kernel_rfl
theorem fo96_4 : fieldOff Tryz.prog 96 4 = some 4 := by kernel_rfl
theorem fo96_5 : fieldOff Tryz.prog 96 5 = some 5 := by kernel_rfl
theorem fo96_6 : fieldOff Tryz.prog 96 6 = some 6 := by kernel_rfl
theorem gr103 : growOk Tryz.prog 103 1 = true := by kernel_rfl
theorem gr29 : growOk Tryz.prog 29 2 = true := by kernel_rfl
theorem gr3 : growOk Tryz.prog 3 1 = true := by kernel_rfl
theorem gr33 : growOk Tryz.prog 33 2 = true := by kernel_rfl
theorem gr4 : growOk Tryz.prog 4 1 = true := by kernel_rfl
theorem gr77 : growOk Tryz.prog 77 3 = true := by kernel_rfl
theorem gr9 : growOk Tryz.prog 9 1 = true := by kernel_rfl
theorem gr91 : growOk Tryz.prog 91 4 = true := by kernel_rfl
theorem gr94 : growOk Tryz.prog 94 4 = true := by kernel_rfl
theorem gr96 : growOk Tryz.prog 96 7 = true := by kernel_rfl
theorem isb4 : isB Tryz.prog 4 = true := by kernel_rfl
theorem iss9 : isStr Tryz.prog 9 = true := by kernel_rfl
theorem issI_77 : intStruct Tryz.prog 77 = some 3 := by kernel_rfl
theorem pl108 : placesOf Tryz.prog 108 = some [(0, 2), (2, 2), (4, 1), (5, 2), (7, 1), (8, 1), (9, 1), (10, 1), (11, 1)] := by kernel_rfl
theorem pl120 : placesOf Tryz.prog 120 = some [(0, 1), (1, 1)] := by kernel_rfl
theorem pl150 : placesOf Tryz.prog 150 = some [(0, 1), (1, 1), (2, 1)] := by kernel_rfl
theorem pl25 : placesOf Tryz.prog 25 = some [(0, 1), (1, 1)] := by kernel_rfl
theorem pl29 : placesOf Tryz.prog 29 = some [(0, 1), (1, 1)] := by kernel_rfl
theorem pl33 : placesOf Tryz.prog 33 = some [(0, 1), (1, 1)] := by kernel_rfl
theorem pl77 : placesOf Tryz.prog 77 = some [(0, 1), (1, 1), (2, 1)] := by kernel_rfl
theorem pl91 : placesOf Tryz.prog 91 = some [(0, 1), (1, 1), (2, 1), (3, 1)] := by kernel_rfl
theorem pl94 : placesOf Tryz.prog 94 = some [(0, 1), (1, 1), (2, 1), (3, 1)] := by kernel_rfl
theorem pl96 : placesOf Tryz.prog 96 = some [(0, 1), (1, 1), (2, 1), (3, 1), (4, 1), (5, 1), (6, 1)] := by kernel_rfl
theorem sh101 : shapeOf Tryz.prog 101 = some (false, 1) := by kernel_rfl
theorem sh103 : shapeOf Tryz.prog 103 = some (false, 1) := by kernel_rfl
theorem sh120 : shapeOf Tryz.prog 120 = some (true, 2) := by kernel_rfl
theorem sh22 : shapeOf Tryz.prog 22 = some (false, 1) := by kernel_rfl
theorem sh23 : shapeOf Tryz.prog 23 = some (false, 1) := by kernel_rfl
theorem sh25 : shapeOf Tryz.prog 25 = some (true, 2) := by kernel_rfl
theorem sh26 : shapeOf Tryz.prog 26 = some (false, 1) := by kernel_rfl
theorem sh27 : shapeOf Tryz.prog 27 = some (false, 1) := by kernel_rfl
theorem sh29 : shapeOf Tryz.prog 29 = some (true, 2) := by kernel_rfl
theorem sh3 : shapeOf Tryz.prog 3 = some (false, 1) := by kernel_rfl
theorem sh33 : shapeOf Tryz.prog 33 = some (true, 2) := by kernel_rfl
theorem sh4 : shapeOf Tryz.prog 4 = some (false, 1) := by kernel_rfl
theorem sh46 : shapeOf Tryz.prog 46 = some (false, 1) := by kernel_rfl
theorem sh5 : shapeOf Tryz.prog 5 = some (false, 1) := by kernel_rfl
theorem sh52 : shapeOf Tryz.prog 52 = some (false, 1) := by kernel_rfl
theorem sh53 : shapeOf Tryz.prog 53 = some (false, 1) := by kernel_rfl
theorem sh54 : shapeOf Tryz.prog 54 = some (false, 1) := by kernel_rfl
theorem sh56 : shapeOf Tryz.prog 56 = some (true, 2) := by kernel_rfl
theorem sh58 : shapeOf Tryz.prog 58 = some (true, 6) := by kernel_rfl
theorem sh77 : shapeOf Tryz.prog 77 = some (true, 3) := by kernel_rfl
theorem sh89 : shapeOf Tryz.prog 89 = some (false, 1) := by kernel_rfl
theorem sh9 : shapeOf Tryz.prog 9 = some (false, 1) := by kernel_rfl
theorem sh91 : shapeOf Tryz.prog 91 = some (true, 4) := by kernel_rfl
theorem sh92 : shapeOf Tryz.prog 92 = some (false, 1) := by kernel_rfl
theorem sh94 : shapeOf Tryz.prog 94 = some (true, 4) := by kernel_rfl
theorem sh96 : shapeOf Tryz.prog 96 = some (true, 7) := by kernel_rfl
theorem z108 : zeroOf Tryz.prog 108 = some [.slice none 0 0, .slice none 0 0, .slice none 0 0, .slice none 0 0, .slice none 0 0, .slice none 0 0, .slice none 0 0, .bool false, .int .i64 0, .slice none 0 0, .slice none 0 0, .slice none 0 0] := by kernel_rfl
theorem z120 : zeroOf Tryz.prog 120 = some [.int .u8 0, .int .u8 0] := by kernel_rfl
theorem z150 : zeroOf Tryz.prog 150 = some [.int .i64 0, .string ⟨#[]⟩, .int .i64 0] := by kernel_rfl
theorem z25 : zeroOf Tryz.prog 25 = some [.slice none 0 0, .slice none 0 0] := by kernel_rfl
theorem z29 : zeroOf Tryz.prog 29 = some [.slice none 0 0, .slice none 0 0] := by kernel_rfl
theorem z3 : zeroOf Tryz.prog 3 = some [.int .i64 0] := by kernel_rfl
theorem z33 : zeroOf Tryz.prog 33 = some [.slice none 0 0, .slice none 0 0] := by kernel_rfl
theorem z4 : zeroOf Tryz.prog 4 = some [.bool false] := by kernel_rfl
theorem z77 : zeroOf Tryz.prog 77 = some [.int .i64 0, .int .i64 0, .int .i64 0] := by kernel_rfl
theorem z91 : zeroOf Tryz.prog 91 = some [.string ⟨#[]⟩, .int .i64 0, .int .i64 0, .slice none 0 0] := by kernel_rfl
theorem z94 : zeroOf Tryz.prog 94 = some [.string ⟨#[]⟩, .int .i64 0, .bool false, .slice none 0 0] := by kernel_rfl
theorem z96 : zeroOf Tryz.prog 96 = some [.string ⟨#[]⟩, .int .i64 0, .int .i64 0, .int .i64 0, .int .i64 0, .int .i64 0, .int .i64 0] := by kernel_rfl
theorem cvS5 : (convTo Tryz.prog 5).isSome = true := by rw [cv5]; rfl
theorem elS100 : (elOf Tryz.prog 100).isSome = true := by rw [el100]; rfl
theorem elS22 : (elOf Tryz.prog 22).isSome = true := by rw [el22]; rfl
theorem elS23 : (elOf Tryz.prog 23).isSome = true := by rw [el23]; rfl
theorem elS26 : (elOf Tryz.prog 26).isSome = true := by rw [el26]; rfl
theorem elS27 : (elOf Tryz.prog 27).isSome = true := by rw [el27]; rfl
theorem elS46 : (elOf Tryz.prog 46).isSome = true := by rw [el46]; rfl
theorem elS52 : (elOf Tryz.prog 52).isSome = true := by rw [el52]; rfl
theorem elS53 : (elOf Tryz.prog 53).isSome = true := by rw [el53]; rfl
theorem elS54 : (elOf Tryz.prog 54).isSome = true := by rw [el54]; rfl
theorem elS89 : (elOf Tryz.prog 89).isSome = true := by rw [el89]; rfl
theorem elS92 : (elOf Tryz.prog 92).isSome = true := by rw [el92]; rfl
end Go.Proofs.YtelpgjfojhcjcaaGreat
