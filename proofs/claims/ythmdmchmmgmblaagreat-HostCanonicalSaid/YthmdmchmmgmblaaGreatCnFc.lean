/- Facts about the seat's types and functions. (Printed by gen.py.) -/
import Derived.Test.YthmdmchmmgmblaaGreatProg
import Derived.Test.YthmdmchmmgmblaaGreatAH
namespace Go.Proofs.YthmdmchmmgmblaaGreat
open Go Go.Abs
theorem kIntFlat : ∀ x, ∀ A ∈ kInt.c x, Flat A := fun x A hA => by rcases List.mem_singleton.1 hA with rfl; exact Flat.eq _
theorem mx : Tryz.prog.follows .mixedOrders = true := by kernel_rfl
theorem ca100 : callable Tryz.prog 100 = true := by kernel_rfl
theorem ca101 : callable Tryz.prog 101 = true := by kernel_rfl
theorem ca102 : callable Tryz.prog 102 = true := by kernel_rfl
theorem ca103 : callable Tryz.prog 103 = true := by kernel_rfl
theorem ca104 : callable Tryz.prog 104 = true := by kernel_rfl
theorem ca105 : callable Tryz.prog 105 = true := by kernel_rfl
theorem ca106 : callable Tryz.prog 106 = true := by kernel_rfl
theorem ca107 : callable Tryz.prog 107 = true := by kernel_rfl
theorem ca108 : callable Tryz.prog 108 = true := by kernel_rfl
theorem ca109 : callable Tryz.prog 109 = true := by kernel_rfl
theorem ca11 : callable Tryz.prog 11 = true := by kernel_rfl
theorem ca110 : callable Tryz.prog 110 = true := by kernel_rfl
theorem ca111 : callable Tryz.prog 111 = true := by kernel_rfl
theorem ca112 : callable Tryz.prog 112 = true := by kernel_rfl
theorem ca113 : callable Tryz.prog 113 = true := by kernel_rfl
theorem ca114 : callable Tryz.prog 114 = true := by kernel_rfl
theorem ca115 : callable Tryz.prog 115 = true := by kernel_rfl
theorem ca118 : callable Tryz.prog 118 = true := by kernel_rfl
theorem ca119 : callable Tryz.prog 119 = true := by kernel_rfl
theorem ca12 : callable Tryz.prog 12 = true := by kernel_rfl
theorem ca125 : callable Tryz.prog 125 = true := by kernel_rfl
theorem ca126 : callable Tryz.prog 126 = true := by kernel_rfl
theorem ca127 : callable Tryz.prog 127 = true := by kernel_rfl
theorem ca128 : callable Tryz.prog 128 = true := by kernel_rfl
theorem ca129 : callable Tryz.prog 129 = true := by kernel_rfl
theorem ca13 : callable Tryz.prog 13 = true := by kernel_rfl
theorem ca130 : callable Tryz.prog 130 = true := by kernel_rfl
theorem ca131 : callable Tryz.prog 131 = true := by kernel_rfl
theorem ca132 : callable Tryz.prog 132 = true := by kernel_rfl
theorem ca133 : callable Tryz.prog 133 = true := by kernel_rfl
theorem ca134 : callable Tryz.prog 134 = true := by kernel_rfl
theorem ca135 : callable Tryz.prog 135 = true := by kernel_rfl
theorem ca136 : callable Tryz.prog 136 = true := by kernel_rfl
theorem ca137 : callable Tryz.prog 137 = true := by kernel_rfl
theorem ca138 : callable Tryz.prog 138 = true := by kernel_rfl
theorem ca139 : callable Tryz.prog 139 = true := by kernel_rfl
theorem ca14 : callable Tryz.prog 14 = true := by kernel_rfl
theorem ca140 : callable Tryz.prog 140 = true := by kernel_rfl
theorem ca141 : callable Tryz.prog 141 = true := by kernel_rfl
theorem ca142 : callable Tryz.prog 142 = true := by kernel_rfl
theorem ca143 : callable Tryz.prog 143 = true := by kernel_rfl
theorem ca144 : callable Tryz.prog 144 = true := by kernel_rfl
theorem ca149 : callable Tryz.prog 149 = true := by kernel_rfl
theorem ca15 : callable Tryz.prog 15 = true := by kernel_rfl
theorem ca150 : callable Tryz.prog 150 = true := by kernel_rfl
theorem ca151 : callable Tryz.prog 151 = true := by kernel_rfl
theorem ca152 : callable Tryz.prog 152 = true := by kernel_rfl
theorem ca153 : callable Tryz.prog 153 = true := by kernel_rfl
theorem ca154 : callable Tryz.prog 154 = true := by kernel_rfl
theorem ca155 : callable Tryz.prog 155 = true := by kernel_rfl
theorem ca156 : callable Tryz.prog 156 = true := by kernel_rfl
theorem ca157 : callable Tryz.prog 157 = true := by kernel_rfl
theorem ca158 : callable Tryz.prog 158 = true := by kernel_rfl
theorem ca159 : callable Tryz.prog 159 = true := by kernel_rfl
theorem ca16 : callable Tryz.prog 16 = true := by kernel_rfl
theorem ca161 : callable Tryz.prog 161 = true := by kernel_rfl
theorem ca166 : callable Tryz.prog 166 = true := by kernel_rfl
theorem ca167 : callable Tryz.prog 167 = true := by kernel_rfl
theorem ca168 : callable Tryz.prog 168 = true := by kernel_rfl
theorem ca169 : callable Tryz.prog 169 = true := by kernel_rfl
theorem ca170 : callable Tryz.prog 170 = true := by kernel_rfl
theorem ca174 : callable Tryz.prog 174 = true := by kernel_rfl
theorem ca175 : callable Tryz.prog 175 = true := by kernel_rfl
theorem ca176 : callable Tryz.prog 176 = true := by kernel_rfl
theorem ca177 : callable Tryz.prog 177 = true := by kernel_rfl
theorem ca178 : callable Tryz.prog 178 = true := by kernel_rfl
theorem ca179 : callable Tryz.prog 179 = true := by kernel_rfl
theorem ca18 : callable Tryz.prog 18 = true := by kernel_rfl
theorem ca180 : callable Tryz.prog 180 = true := by kernel_rfl
theorem ca181 : callable Tryz.prog 181 = true := by kernel_rfl
theorem ca182 : callable Tryz.prog 182 = true := by kernel_rfl
theorem ca183 : callable Tryz.prog 183 = true := by kernel_rfl
theorem ca184 : callable Tryz.prog 184 = true := by kernel_rfl
theorem ca185 : callable Tryz.prog 185 = true := by kernel_rfl
theorem ca186 : callable Tryz.prog 186 = true := by kernel_rfl
theorem ca19 : callable Tryz.prog 19 = true := by kernel_rfl
theorem ca198 : callable Tryz.prog 198 = true := by kernel_rfl
theorem ca199 : callable Tryz.prog 199 = true := by kernel_rfl
theorem ca20 : callable Tryz.prog 20 = true := by kernel_rfl
theorem ca21 : callable Tryz.prog 21 = true := by kernel_rfl
theorem ca22 : callable Tryz.prog 22 = true := by kernel_rfl
theorem ca23 : callable Tryz.prog 23 = true := by kernel_rfl
theorem ca24 : callable Tryz.prog 24 = true := by kernel_rfl
theorem ca28 : callable Tryz.prog 28 = true := by kernel_rfl
theorem ca37 : callable Tryz.prog 37 = true := by kernel_rfl
theorem ca41 : callable Tryz.prog 41 = true := by kernel_rfl
theorem ca42 : callable Tryz.prog 42 = true := by kernel_rfl
theorem ca43 : callable Tryz.prog 43 = true := by kernel_rfl
theorem ca44 : callable Tryz.prog 44 = true := by kernel_rfl
theorem ca45 : callable Tryz.prog 45 = true := by kernel_rfl
theorem ca46 : callable Tryz.prog 46 = true := by kernel_rfl
theorem ca47 : callable Tryz.prog 47 = true := by kernel_rfl
theorem ca48 : callable Tryz.prog 48 = true := by kernel_rfl
theorem ca49 : callable Tryz.prog 49 = true := by kernel_rfl
theorem ca50 : callable Tryz.prog 50 = true := by kernel_rfl
theorem ca51 : callable Tryz.prog 51 = true := by kernel_rfl
theorem ca52 : callable Tryz.prog 52 = true := by kernel_rfl
theorem ca53 : callable Tryz.prog 53 = true := by kernel_rfl
theorem ca54 : callable Tryz.prog 54 = true := by kernel_rfl
theorem ca55 : callable Tryz.prog 55 = true := by kernel_rfl
theorem ca56 : callable Tryz.prog 56 = true := by kernel_rfl
theorem ca58 : callable Tryz.prog 58 = true := by kernel_rfl
theorem ca59 : callable Tryz.prog 59 = true := by kernel_rfl
theorem ca60 : callable Tryz.prog 60 = true := by kernel_rfl
theorem ca61 : callable Tryz.prog 61 = true := by kernel_rfl
theorem ca62 : callable Tryz.prog 62 = true := by kernel_rfl
theorem ca63 : callable Tryz.prog 63 = true := by kernel_rfl
theorem ca64 : callable Tryz.prog 64 = true := by kernel_rfl
theorem ca65 : callable Tryz.prog 65 = true := by kernel_rfl
theorem ca66 : callable Tryz.prog 66 = true := by kernel_rfl
theorem ca68 : callable Tryz.prog 68 = true := by kernel_rfl
theorem ca71 : callable Tryz.prog 71 = true := by kernel_rfl
theorem ca74 : callable Tryz.prog 74 = true := by kernel_rfl
theorem ca77 : callable Tryz.prog 77 = true := by kernel_rfl
theorem ca79 : callable Tryz.prog 79 = true := by kernel_rfl
theorem ca85 : callable Tryz.prog 85 = true := by kernel_rfl
theorem ca86 : callable Tryz.prog 86 = true := by kernel_rfl
theorem ca87 : callable Tryz.prog 87 = true := by kernel_rfl
theorem ca88 : callable Tryz.prog 88 = true := by kernel_rfl
theorem ca89 : callable Tryz.prog 89 = true := by kernel_rfl
theorem ca90 : callable Tryz.prog 90 = true := by kernel_rfl
theorem ca91 : callable Tryz.prog 91 = true := by kernel_rfl
theorem ca92 : callable Tryz.prog 92 = true := by kernel_rfl
theorem ca93 : callable Tryz.prog 93 = true := by kernel_rfl
theorem ca94 : callable Tryz.prog 94 = true := by kernel_rfl
theorem ca95 : callable Tryz.prog 95 = true := by kernel_rfl
theorem ca96 : callable Tryz.prog 96 = true := by kernel_rfl
theorem ca97 : callable Tryz.prog 97 = true := by kernel_rfl
theorem ca98 : callable Tryz.prog 98 = true := by kernel_rfl
theorem ca99 : callable Tryz.prog 99 = true := by kernel_rfl
theorem el115 : elOf Tryz.prog 115 = some (9, 1) := by kernel_rfl
theorem el118 : elOf Tryz.prog 118 = some (117, 4) := by kernel_rfl
theorem el22 : elOf Tryz.prog 22 = some (120, 4) := by kernel_rfl
theorem el23 : elOf Tryz.prog 23 = some (60, 7) := by kernel_rfl
theorem el26 : elOf Tryz.prog 26 = some (3, 1) := by kernel_rfl
theorem el27 : elOf Tryz.prog 27 = some (63, 3) := by kernel_rfl
theorem el30 : elOf Tryz.prog 30 = some (26, 1) := by kernel_rfl
theorem el39 : elOf Tryz.prog 39 = some (44, 4) := by kernel_rfl
theorem el92 : elOf Tryz.prog 92 = some (32, 3) := by kernel_rfl
theorem fo107_0 : fieldOff Tryz.prog 107 0 = some 0 := by kernel_rfl
theorem fo107_1 : fieldOff Tryz.prog 107 1 = some 3 := by kernel_rfl
theorem fo107_2 : fieldOff Tryz.prog 107 2 = some 4 := by kernel_rfl
theorem fo107_3 : fieldOff Tryz.prog 107 3 = some 5 := by kernel_rfl
theorem fo107_4 : fieldOff Tryz.prog 107 4 = some 6 := by kernel_rfl
theorem fo107_5 : fieldOff Tryz.prog 107 5 = some 7 := by kernel_rfl
theorem fo117_0 : fieldOff Tryz.prog 117 0 = some 0 := by kernel_rfl
theorem fo117_1 : fieldOff Tryz.prog 117 1 = some 1 := by kernel_rfl
theorem fo117_2 : fieldOff Tryz.prog 117 2 = some 2 := by kernel_rfl
theorem fo117_3 : fieldOff Tryz.prog 117 3 = some 3 := by kernel_rfl
theorem fo120_0 : fieldOff Tryz.prog 120 0 = some 0 := by kernel_rfl
theorem fo120_1 : fieldOff Tryz.prog 120 1 = some 1 := by kernel_rfl
theorem fo120_2 : fieldOff Tryz.prog 120 2 = some 2 := by kernel_rfl
theorem fo120_3 : fieldOff Tryz.prog 120 3 = some 3 := by kernel_rfl
theorem fo185_0 : fieldOff Tryz.prog 185 0 = some 0 := by kernel_rfl
theorem fo185_1 : fieldOff Tryz.prog 185 1 = some 1 := by kernel_rfl
theorem fo25_0 : fieldOff Tryz.prog 25 0 = some 0 := by kernel_rfl
theorem fo25_1 : fieldOff Tryz.prog 25 1 = some 1 := by kernel_rfl
theorem fo29_0 : fieldOff Tryz.prog 29 0 = some 0 := by kernel_rfl
theorem fo29_1 : fieldOff Tryz.prog 29 1 = some 1 := by kernel_rfl
theorem fo32_0 : fieldOff Tryz.prog 32 0 = some 0 := by kernel_rfl
theorem fo32_1 : fieldOff Tryz.prog 32 1 = some 2 := by kernel_rfl
theorem fo47_0 : fieldOff Tryz.prog 47 0 = some 0 := by kernel_rfl
theorem fo47_1 : fieldOff Tryz.prog 47 1 = some 1 := by kernel_rfl
theorem fo60_0 : fieldOff Tryz.prog 60 0 = some 0 := by kernel_rfl
theorem fo60_1 : fieldOff Tryz.prog 60 1 = some 1 := by kernel_rfl
theorem fo60_2 : fieldOff Tryz.prog 60 2 = some 2 := by kernel_rfl
theorem fo60_3 : fieldOff Tryz.prog 60 3 = some 3 := by kernel_rfl
theorem fo60_4 : fieldOff Tryz.prog 60 4 = some 4 := by kernel_rfl
theorem fo60_5 : fieldOff Tryz.prog 60 5 = some 5 := by kernel_rfl
theorem fo60_6 : fieldOff Tryz.prog 60 6 = some 6 := by kernel_rfl
theorem fo63_0 : fieldOff Tryz.prog 63 0 = some 0 := by kernel_rfl
theorem fo63_1 : fieldOff Tryz.prog 63 1 = some 1 := by kernel_rfl
theorem fo63_2 : fieldOff Tryz.prog 63 2 = some 2 := by kernel_rfl
theorem fst44 : flatSt Tryz.prog 44 = some [true, true, true, false] := by kernel_rfl
theorem gr117 : growOk Tryz.prog 117 4 = true := by kernel_rfl
theorem gr120 : growOk Tryz.prog 120 4 = true := by kernel_rfl
theorem gr26 : growOk Tryz.prog 26 1 = true := by kernel_rfl
theorem gr3 : growOk Tryz.prog 3 1 = true := by kernel_rfl
theorem gr32 : growOk Tryz.prog 32 3 = true := by kernel_rfl
theorem gr44 : growOk Tryz.prog 44 4 = true := by kernel_rfl
theorem gr60 : growOk Tryz.prog 60 7 = true := by kernel_rfl
theorem gr63 : growOk Tryz.prog 63 3 = true := by kernel_rfl
theorem gr9 : growOk Tryz.prog 9 1 = true := by kernel_rfl
theorem iss9 : isStr Tryz.prog 9 = true := by kernel_rfl
theorem issI_63 : intStruct Tryz.prog 63 = some 3 := by kernel_rfl
theorem pl107 : placesOf Tryz.prog 107 = some [(0, 3), (3, 1), (4, 1), (5, 1), (6, 1), (7, 1)] := by kernel_rfl
theorem pl117 : placesOf Tryz.prog 117 = some [(0, 1), (1, 1), (2, 1), (3, 1)] := by kernel_rfl
theorem pl120 : placesOf Tryz.prog 120 = some [(0, 1), (1, 1), (2, 1), (3, 1)] := by kernel_rfl
theorem pl185 : placesOf Tryz.prog 185 = some [(0, 1), (1, 1), (2, 1)] := by kernel_rfl
theorem pl25 : placesOf Tryz.prog 25 = some [(0, 1), (1, 1)] := by kernel_rfl
theorem pl29 : placesOf Tryz.prog 29 = some [(0, 1), (1, 1)] := by kernel_rfl
theorem pl32 : placesOf Tryz.prog 32 = some [(0, 2), (2, 1)] := by kernel_rfl
theorem pl44 : placesOf Tryz.prog 44 = some [(0, 1), (1, 1), (2, 1), (3, 1)] := by kernel_rfl
theorem pl47 : placesOf Tryz.prog 47 = some [(0, 1), (1, 1)] := by kernel_rfl
theorem pl60 : placesOf Tryz.prog 60 = some [(0, 1), (1, 1), (2, 1), (3, 1), (4, 1), (5, 1), (6, 1)] := by kernel_rfl
theorem pl63 : placesOf Tryz.prog 63 = some [(0, 1), (1, 1), (2, 1)] := by kernel_rfl
theorem sh115 : shapeOf Tryz.prog 115 = some (false, 1) := by kernel_rfl
theorem sh117 : shapeOf Tryz.prog 117 = some (true, 4) := by kernel_rfl
theorem sh118 : shapeOf Tryz.prog 118 = some (false, 1) := by kernel_rfl
theorem sh120 : shapeOf Tryz.prog 120 = some (true, 4) := by kernel_rfl
theorem sh156 : shapeOf Tryz.prog 156 = some (false, 1) := by kernel_rfl
theorem sh185 : shapeOf Tryz.prog 185 = some (true, 3) := by kernel_rfl
theorem sh22 : shapeOf Tryz.prog 22 = some (false, 1) := by kernel_rfl
theorem sh23 : shapeOf Tryz.prog 23 = some (false, 1) := by kernel_rfl
theorem sh25 : shapeOf Tryz.prog 25 = some (true, 2) := by kernel_rfl
theorem sh26 : shapeOf Tryz.prog 26 = some (false, 1) := by kernel_rfl
theorem sh27 : shapeOf Tryz.prog 27 = some (false, 1) := by kernel_rfl
theorem sh29 : shapeOf Tryz.prog 29 = some (true, 2) := by kernel_rfl
theorem sh3 : shapeOf Tryz.prog 3 = some (false, 1) := by kernel_rfl
theorem sh30 : shapeOf Tryz.prog 30 = some (false, 1) := by kernel_rfl
theorem sh32 : shapeOf Tryz.prog 32 = some (true, 3) := by kernel_rfl
theorem sh4 : shapeOf Tryz.prog 4 = some (false, 1) := by kernel_rfl
theorem sh44 : shapeOf Tryz.prog 44 = some (true, 4) := by kernel_rfl
theorem sh47 : shapeOf Tryz.prog 47 = some (true, 2) := by kernel_rfl
theorem sh60 : shapeOf Tryz.prog 60 = some (true, 7) := by kernel_rfl
theorem sh63 : shapeOf Tryz.prog 63 = some (true, 3) := by kernel_rfl
theorem sh9 : shapeOf Tryz.prog 9 = some (false, 1) := by kernel_rfl
theorem z107 : zeroOf Tryz.prog 107 = some [.slice none 0 0, .slice none 0 0, .slice none 0 0, .slice none 0 0, .slice none 0 0, .slice none 0 0, .slice none 0 0, .bool false] := by kernel_rfl
theorem z117 : zeroOf Tryz.prog 117 = some [.string ⟨#[]⟩, .int .i64 0, .int .i64 0, .slice none 0 0] := by kernel_rfl
theorem z120 : zeroOf Tryz.prog 120 = some [.string ⟨#[]⟩, .int .i64 0, .bool false, .slice none 0 0] := by kernel_rfl
theorem z156 : zeroOf Tryz.prog 156 = some [.nilFunc] := by kernel_rfl
theorem z185 : zeroOf Tryz.prog 185 = some [.int .i64 0, .string ⟨#[]⟩, .int .i64 0] := by kernel_rfl
theorem z25 : zeroOf Tryz.prog 25 = some [.slice none 0 0, .slice none 0 0] := by kernel_rfl
theorem z29 : zeroOf Tryz.prog 29 = some [.slice none 0 0, .slice none 0 0] := by kernel_rfl
theorem z3 : zeroOf Tryz.prog 3 = some [.int .i64 0] := by kernel_rfl
theorem z32 : zeroOf Tryz.prog 32 = some [.slice none 0 0, .slice none 0 0, .slice none 0 0] := by kernel_rfl
theorem z44 : zeroOf Tryz.prog 44 = some [.int .i64 0, .int .i64 0, .int .i64 0, .bool false] := by kernel_rfl
theorem z47 : zeroOf Tryz.prog 47 = some [.slice none 0 0, .slice none 0 0] := by kernel_rfl
theorem z60 : zeroOf Tryz.prog 60 = some [.string ⟨#[]⟩, .int .i64 0, .int .i64 0, .int .i64 0, .int .i64 0, .int .i64 0, .int .i64 0] := by kernel_rfl
theorem z63 : zeroOf Tryz.prog 63 = some [.int .i64 0, .int .i64 0, .int .i64 0] := by kernel_rfl
theorem elS115 : (elOf Tryz.prog 115).isSome = true := by rw [el115]; rfl
theorem elS118 : (elOf Tryz.prog 118).isSome = true := by rw [el118]; rfl
theorem elS22 : (elOf Tryz.prog 22).isSome = true := by rw [el22]; rfl
theorem elS23 : (elOf Tryz.prog 23).isSome = true := by rw [el23]; rfl
theorem elS26 : (elOf Tryz.prog 26).isSome = true := by rw [el26]; rfl
theorem elS27 : (elOf Tryz.prog 27).isSome = true := by rw [el27]; rfl
theorem elS30 : (elOf Tryz.prog 30).isSome = true := by rw [el30]; rfl
theorem elS39 : (elOf Tryz.prog 39).isSome = true := by rw [el39]; rfl
theorem elS92 : (elOf Tryz.prog 92).isSome = true := by rw [el92]; rfl
end Go.Proofs.YthmdmchmmgmblaaGreat
