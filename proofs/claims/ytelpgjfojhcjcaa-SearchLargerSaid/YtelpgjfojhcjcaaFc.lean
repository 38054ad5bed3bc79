/- Facts about the seat's types and functions. (Printed by gen.py.) -/
import Derived.Test.YtelpgjfojhcjcaaProg
import Derived.Test.YtelpgjfojhcjcaaAC
namespace Go.Proofs.Ytelpgjfojhcjcaa
open Go Go.Abs
theorem kIntFlat : ∀ x, ∀ A ∈ kInt.c x, Flat A := fun x A hA => by rcases List.mem_singleton.1 hA with rfl; exact Flat.eq _
theorem mx : Try.prog.follows .mixedOrders = true := by kernel_rfl
theorem ar70_0 : arOff Try.prog 70 0 = some 0 := by kernel_rfl
theorem ar70_1 : arOff Try.prog 70 1 = some 1 := by kernel_rfl
theorem ar70_2 : arOff Try.prog 70 2 = some 2 := by kernel_rfl
theorem ar77_0 : arOff Try.prog 77 0 = some 0 := by kernel_rfl
theorem ar77_1 : arOff Try.prog 77 1 = some 1 := by kernel_rfl
theorem ca10 : callable Try.prog 10 = true := by kernel_rfl
theorem ca11 : callable Try.prog 11 = true := by kernel_rfl
theorem ca12 : callable Try.prog 12 = true := by kernel_rfl
theorem ca13 : callable Try.prog 13 = true := by kernel_rfl
theorem ca14 : callable Try.prog 14 = true := by kernel_rfl
theorem ca15 : callable Try.prog 15 = true := by kernel_rfl
theorem ca16 : callable Try.prog 16 = true := by kernel_rfl
theorem ca17 : callable Try.prog 17 = true := by kernel_rfl
theorem ca18 : callable Try.prog 18 = true := by kernel_rfl
theorem ca19 : callable Try.prog 19 = true := by kernel_rfl
theorem ca20 : callable Try.prog 20 = true := by kernel_rfl
theorem ca21 : callable Try.prog 21 = true := by kernel_rfl
theorem ca22 : callable Try.prog 22 = true := by kernel_rfl
theorem ca23 : callable Try.prog 23 = true := by kernel_rfl
theorem ca24 : callable Try.prog 24 = true := by kernel_rfl
theorem ca25 : callable Try.prog 25 = true := by kernel_rfl
theorem ca26 : callable Try.prog 26 = true := by kernel_rfl
theorem ca27 : callable Try.prog 27 = true := by kernel_rfl
theorem ca28 : callable Try.prog 28 = true := by kernel_rfl
theorem ca29 : callable Try.prog 29 = true := by kernel_rfl
theorem ca30 : callable Try.prog 30 = true := by kernel_rfl
theorem ca31 : callable Try.prog 31 = true := by kernel_rfl
theorem ca32 : callable Try.prog 32 = true := by kernel_rfl
theorem ca33 : callable Try.prog 33 = true := by kernel_rfl
theorem ca34 : callable Try.prog 34 = true := by kernel_rfl
theorem ca35 : callable Try.prog 35 = true := by kernel_rfl
theorem ca36 : callable Try.prog 36 = true := by kernel_rfl
theorem ca37 : callable Try.prog 37 = true := by kernel_rfl
theorem ca38 : callable Try.prog 38 = true := by kernel_rfl
theorem ca39 : callable Try.prog 39 = true := by kernel_rfl
theorem ca4 : callable Try.prog 4 = true := by kernel_rfl
theorem ca40 : callable Try.prog 40 = true := by kernel_rfl
theorem ca41 : callable Try.prog 41 = true := by kernel_rfl
theorem ca42 : callable Try.prog 42 = true := by kernel_rfl
theorem ca43 : callable Try.prog 43 = true := by kernel_rfl
theorem ca44 : callable Try.prog 44 = true := by kernel_rfl
theorem ca45 : callable Try.prog 45 = true := by kernel_rfl
theorem ca46 : callable Try.prog 46 = true := by kernel_rfl
theorem ca47 : callable Try.prog 47 = true := by kernel_rfl
theorem ca48 : callable Try.prog 48 = true := by kernel_rfl
theorem ca49 : callable Try.prog 49 = true := by kernel_rfl
theorem ca5 : callable Try.prog 5 = true := by kernel_rfl
theorem ca50 : callable Try.prog 50 = true := by kernel_rfl
theorem ca51 : callable Try.prog 51 = true := by kernel_rfl
theorem ca52 : callable Try.prog 52 = true := by kernel_rfl
theorem ca53 : callable Try.prog 53 = true := by kernel_rfl
theorem ca54 : callable Try.prog 54 = true := by kernel_rfl
theorem ca55 : callable Try.prog 55 = true := by kernel_rfl
theorem ca56 : callable Try.prog 56 = true := by kernel_rfl
theorem ca57 : callable Try.prog 57 = true := by kernel_rfl
theorem ca58 : callable Try.prog 58 = true := by kernel_rfl
theorem ca59 : callable Try.prog 59 = true := by kernel_rfl
theorem ca6 : callable Try.prog 6 = true := by kernel_rfl
theorem ca60 : callable Try.prog 60 = true := by kernel_rfl
theorem ca61 : callable Try.prog 61 = true := by kernel_rfl
theorem ca62 : callable Try.prog 62 = true := by kernel_rfl
theorem ca63 : callable Try.prog 63 = true := by kernel_rfl
theorem ca64 : callable Try.prog 64 = true := by kernel_rfl
theorem ca65 : callable Try.prog 65 = true := by kernel_rfl
theorem ca66 : callable Try.prog 66 = true := by kernel_rfl
theorem ca67 : callable Try.prog 67 = true := by kernel_rfl
theorem ca68 : callable Try.prog 68 = true := by kernel_rfl
theorem ca69 : callable Try.prog 69 = true := by kernel_rfl
theorem ca7 : callable Try.prog 7 = true := by kernel_rfl
theorem ca70 : callable Try.prog 70 = true := by kernel_rfl
theorem ca71 : callable Try.prog 71 = true := by kernel_rfl
theorem ca72 : callable Try.prog 72 = true := by kernel_rfl
theorem ca73 : callable Try.prog 73 = true := by kernel_rfl
theorem ca74 : callable Try.prog 74 = true := by kernel_rfl
theorem ca75 : callable Try.prog 75 = true := by kernel_rfl
theorem ca76 : callable Try.prog 76 = true := by kernel_rfl
theorem ca77 : callable Try.prog 77 = true := by kernel_rfl
theorem ca78 : callable Try.prog 78 = true := by kernel_rfl
theorem ca79 : callable Try.prog 79 = true := by kernel_rfl
theorem ca8 : callable Try.prog 8 = true := by kernel_rfl
theorem ca80 : callable Try.prog 80 = true := by kernel_rfl
theorem ca81 : callable Try.prog 81 = true := by kernel_rfl
theorem ca82 : callable Try.prog 82 = true := by kernel_rfl
theorem ca83 : callable Try.prog 83 = true := by kernel_rfl
theorem ca84 : callable Try.prog 84 = true := by kernel_rfl
theorem ca85 : callable Try.prog 85 = true := by kernel_rfl
theorem ca86 : callable Try.prog 86 = true := by kernel_rfl
theorem ca87 : callable Try.prog 87 = true := by kernel_rfl
theorem ca88 : callable Try.prog 88 = true := by kernel_rfl
theorem ca89 : callable Try.prog 89 = true := by kernel_rfl
theorem ca9 : callable Try.prog 9 = true := by kernel_rfl
theorem ca90 : callable Try.prog 90 = true := by kernel_rfl
theorem cv3 : convTo Try.prog 3 = some .i64 := by kernel_rfl
theorem cv5 : convTo Try.prog 5 = some .u8 := by kernel_rfl
theorem el22 : elOf Try.prog 22 = some (77, 2) := by kernel_rfl
theorem el23 : elOf Try.prog 23 = some (5, 1) := by kernel_rfl
theorem el24 : elOf Try.prog 24 = some (70, 3) := by kernel_rfl
theorem el29 : elOf Try.prog 29 = some (69, 4) := by kernel_rfl
theorem el30 : elOf Try.prog 30 = some (73, 7) := by kernel_rfl
theorem el33 : elOf Try.prog 33 = some (3, 1) := by kernel_rfl
theorem el34 : elOf Try.prog 34 = some (65, 3) := by kernel_rfl
theorem el46 : elOf Try.prog 46 = some (41, 2) := by kernel_rfl
theorem el67 : elOf Try.prog 67 = some (80, 4) := by kernel_rfl
theorem el78 : elOf Try.prog 78 = some (9, 1) := by kernel_rfl
theorem el88 : elOf Try.prog 88 = some (36, 2) := by kernel_rfl
theorem el91 : elOf Try.prog 91 = some (93, 1) := by kernel_rfl
theorem el93 : elOf Try.prog 93 = some (4, 1) := by kernel_rfl
theorem fo101_0 : fieldOff Try.prog 101 0 = some 0 := by kernel_rfl
theorem fo101_1 : fieldOff Try.prog 101 1 = some 2 := by kernel_rfl
theorem fo101_2 : fieldOff Try.prog 101 2 = some 4 := by kernel_rfl
theorem fo101_3 : fieldOff Try.prog 101 3 = some 5 := by kernel_rfl
theorem fo101_4 : fieldOff Try.prog 101 4 = some 7 := by kernel_rfl
theorem fo101_5 : fieldOff Try.prog 101 5 = some 8 := by kernel_rfl
theorem fo101_6 : fieldOff Try.prog 101 6 = some 9 := by kernel_rfl
theorem fo101_7 : fieldOff Try.prog 101 7 = some 10 := by kernel_rfl
theorem fo101_8 : fieldOff Try.prog 101 8 = some 11 := by kernel_rfl
theorem fo120_0 : fieldOff Try.prog 120 0 = some 0 := by kernel_rfl
theorem fo120_1 : fieldOff Try.prog 120 1 = some 1 := by kernel_rfl
theorem fo26_0 : fieldOff Try.prog 26 0 = some 0 := by kernel_rfl
theorem fo26_1 : fieldOff Try.prog 26 1 = some 1 := by kernel_rfl
theorem fo28_0 : fieldOff Try.prog 28 0 = some 0 := by kernel_rfl
theorem fo28_1 : fieldOff Try.prog 28 1 = some 1 := by kernel_rfl
theorem fo28_2 : fieldOff Try.prog 28 2 = some 2 := by kernel_rfl
theorem fo28_3 : fieldOff Try.prog 28 3 = some 4 := by kernel_rfl
theorem fo32_0 : fieldOff Try.prog 32 0 = some 0 := by kernel_rfl
theorem fo32_1 : fieldOff Try.prog 32 1 = some 1 := by kernel_rfl
theorem fo36_0 : fieldOff Try.prog 36 0 = some 0 := by kernel_rfl
theorem fo36_1 : fieldOff Try.prog 36 1 = some 1 := by kernel_rfl
theorem fo41_0 : fieldOff Try.prog 41 0 = some 0 := by kernel_rfl
theorem fo41_1 : fieldOff Try.prog 41 1 = some 1 := by kernel_rfl
theorem fo65_0 : fieldOff Try.prog 65 0 = some 0 := by kernel_rfl
theorem fo65_1 : fieldOff Try.prog 65 1 = some 1 := by kernel_rfl
theorem fo65_2 : fieldOff Try.prog 65 2 = some 2 := by kernel_rfl
theorem fo69_0 : fieldOff Try.prog 69 0 = some 0 := by kernel_rfl
theorem fo69_1 : fieldOff Try.prog 69 1 = some 1 := by kernel_rfl
theorem fo69_2 : fieldOff Try.prog 69 2 = some 2 := by kernel_rfl
theorem fo69_3 : fieldOff Try.prog 69 3 = some 3 := by kernel_rfl
theorem fo73_0 : fieldOff Try.prog 73 0 = some 0 := by kernel_rfl
theorem fo73_1 : fieldOff Try.prog 73 1 = some 1 := by kernel_rfl
theorem fo73_2 : fieldOff Try.prog 73 2 = some 2 := by kernel_rfl
theorem fo73_3 : fieldOff Try.prog 73 3 = some 3 := by kernel_rfl
theorem fo73_4 : fieldOff Try.prog 73 4 = some 4 := by kernel_rfl
theorem fo73_5 : fieldOff Try.prog 73 5 = some 5 := by kernel_rfl
theorem fo73_6 : fieldOff Try.prog 73 6 = some 6 := by kernel_rfl
theorem fo80_0 : fieldOff Try.prog 80 0 = some 0 := by kernel_rfl
theorem fo80_1 : fieldOff Try.prog 80 1 = some 1 := by kernel_rfl
theorem fo80_2 : fieldOff Try.prog 80 2 = some 2 := by kernel_rfl
theorem fo80_3 : fieldOff Try.prog 80 3 = some 3 := by kernel_rfl
theorem gr3 : growOk Try.prog 3 1 = true := by kernel_rfl
theorem gr36 : growOk Try.prog 36 2 = true := by kernel_rfl
theorem gr4 : growOk Try.prog 4 1 = true := by kernel_rfl
theorem gr41 : growOk Try.prog 41 2 = true := by kernel_rfl
theorem gr65 : growOk Try.prog 65 3 = true := by kernel_rfl
theorem gr69 : growOk Try.prog 69 4 = true := by kernel_rfl
theorem gr73 : growOk Try.prog 73 7 = true := by kernel_rfl
theorem gr80 : growOk Try.prog 80 4 = true := by kernel_rfl
theorem gr9 : growOk Try.prog 9 1 = true := by kernel_rfl
theorem gr93 : growOk Try.prog 93 1 = true := by kernel_rfl
theorem iss9 : isStr Try.prog 9 = true := by kernel_rfl
theorem issI_65 : intStruct Try.prog 65 = some 3 := by kernel_rfl
theorem pl101 : placesOf Try.prog 101 = some [(0, 2), (2, 2), (4, 1), (5, 2), (7, 1), (8, 1), (9, 1), (10, 1), (11, 1)] := by kernel_rfl
theorem pl120 : placesOf Try.prog 120 = some [(0, 1), (1, 1), (2, 1)] := by kernel_rfl
theorem pl32 : placesOf Try.prog 32 = some [(0, 1), (1, 1)] := by kernel_rfl
theorem pl36 : placesOf Try.prog 36 = some [(0, 1), (1, 1)] := by kernel_rfl
theorem pl41 : placesOf Try.prog 41 = some [(0, 1), (1, 1)] := by kernel_rfl
theorem pl65 : placesOf Try.prog 65 = some [(0, 1), (1, 1), (2, 1)] := by kernel_rfl
theorem pl69 : placesOf Try.prog 69 = some [(0, 1), (1, 1), (2, 1), (3, 1)] := by kernel_rfl
theorem pl73 : placesOf Try.prog 73 = some [(0, 1), (1, 1), (2, 1), (3, 1), (4, 1), (5, 1), (6, 1)] := by kernel_rfl
theorem pl77 : placesOf Try.prog 77 = some [(0, 1), (1, 1)] := by kernel_rfl
theorem pl80 : placesOf Try.prog 80 = some [(0, 1), (1, 1), (2, 1), (3, 1)] := by kernel_rfl
theorem sh22 : shapeOf Try.prog 22 = some (false, 1) := by kernel_rfl
theorem sh23 : shapeOf Try.prog 23 = some (false, 1) := by kernel_rfl
theorem sh24 : shapeOf Try.prog 24 = some (false, 1) := by kernel_rfl
theorem sh26 : shapeOf Try.prog 26 = some (true, 2) := by kernel_rfl
theorem sh28 : shapeOf Try.prog 28 = some (true, 6) := by kernel_rfl
theorem sh29 : shapeOf Try.prog 29 = some (false, 1) := by kernel_rfl
theorem sh3 : shapeOf Try.prog 3 = some (false, 1) := by kernel_rfl
theorem sh30 : shapeOf Try.prog 30 = some (false, 1) := by kernel_rfl
theorem sh32 : shapeOf Try.prog 32 = some (true, 2) := by kernel_rfl
theorem sh33 : shapeOf Try.prog 33 = some (false, 1) := by kernel_rfl
theorem sh34 : shapeOf Try.prog 34 = some (false, 1) := by kernel_rfl
theorem sh36 : shapeOf Try.prog 36 = some (true, 2) := by kernel_rfl
theorem sh4 : shapeOf Try.prog 4 = some (false, 1) := by kernel_rfl
theorem sh41 : shapeOf Try.prog 41 = some (true, 2) := by kernel_rfl
theorem sh46 : shapeOf Try.prog 46 = some (false, 1) := by kernel_rfl
theorem sh5 : shapeOf Try.prog 5 = some (false, 1) := by kernel_rfl
theorem sh65 : shapeOf Try.prog 65 = some (true, 3) := by kernel_rfl
theorem sh67 : shapeOf Try.prog 67 = some (false, 1) := by kernel_rfl
theorem sh69 : shapeOf Try.prog 69 = some (true, 4) := by kernel_rfl
theorem sh73 : shapeOf Try.prog 73 = some (true, 7) := by kernel_rfl
theorem sh77 : shapeOf Try.prog 77 = some (true, 2) := by kernel_rfl
theorem sh78 : shapeOf Try.prog 78 = some (false, 1) := by kernel_rfl
theorem sh80 : shapeOf Try.prog 80 = some (true, 4) := by kernel_rfl
theorem sh9 : shapeOf Try.prog 9 = some (false, 1) := by kernel_rfl
theorem sh91 : shapeOf Try.prog 91 = some (false, 1) := by kernel_rfl
theorem sh93 : shapeOf Try.prog 93 = some (false, 1) := by kernel_rfl
theorem z101 : zeroOf Try.prog 101 = some [.slice none 0 0, .slice none 0 0, .slice none 0 0, .slice none 0 0, .slice none 0 0, .slice none 0 0, .slice none 0 0, .bool false, .int .i64 0, .slice none 0 0, .slice none 0 0, .slice none 0 0] := by kernel_rfl
theorem z120 : zeroOf Try.prog 120 = some [.int .i64 0, .string ⟨#[]⟩, .int .i64 0] := by kernel_rfl
theorem z32 : zeroOf Try.prog 32 = some [.slice none 0 0, .slice none 0 0] := by kernel_rfl
theorem z36 : zeroOf Try.prog 36 = some [.slice none 0 0, .slice none 0 0] := by kernel_rfl
theorem z4 : zeroOf Try.prog 4 = some [.bool false] := by kernel_rfl
theorem z41 : zeroOf Try.prog 41 = some [.slice none 0 0, .slice none 0 0] := by kernel_rfl
theorem z65 : zeroOf Try.prog 65 = some [.int .i64 0, .int .i64 0, .int .i64 0] := by kernel_rfl
theorem z69 : zeroOf Try.prog 69 = some [.string ⟨#[]⟩, .int .i64 0, .bool false, .slice none 0 0] := by kernel_rfl
theorem z73 : zeroOf Try.prog 73 = some [.string ⟨#[]⟩, .int .i64 0, .int .i64 0, .int .i64 0, .int .i64 0, .int .i64 0, .int .i64 0] := by kernel_rfl
theorem z77 : zeroOf Try.prog 77 = some [.int .u8 0, .int .u8 0] := by kernel_rfl
theorem z80 : zeroOf Try.prog 80 = some [.string ⟨#[]⟩, .int .i64 0, .int .i64 0, .slice none 0 0] := by kernel_rfl
theorem cvS5 : (convTo Try.prog 5).isSome = true := by rw [cv5]; rfl
theorem elS22 : (elOf Try.prog 22).isSome = true := by rw [el22]; rfl
theorem elS23 : (elOf Try.prog 23).isSome = true := by rw [el23]; rfl
theorem elS24 : (elOf Try.prog 24).isSome = true := by rw [el24]; rfl
theorem elS29 : (elOf Try.prog 29).isSome = true := by rw [el29]; rfl
theorem elS30 : (elOf Try.prog 30).isSome = true := by rw [el30]; rfl
theorem elS33 : (elOf Try.prog 33).isSome = true := by rw [el33]; rfl
theorem elS34 : (elOf Try.prog 34).isSome = true := by rw [el34]; rfl
theorem elS46 : (elOf Try.prog 46).isSome = true := by rw [el46]; rfl
theorem elS67 : (elOf Try.prog 67).isSome = true := by rw [el67]; rfl
theorem elS78 : (elOf Try.prog 78).isSome = true := by rw [el78]; rfl
theorem elS88 : (elOf Try.prog 88).isSome = true := by rw [el88]; rfl
end Go.Proofs.Ytelpgjfojhcjcaa
