import Derived.Test.YtcgdfjpeboiioaaGreatProg
import Derived.Test.YtcgdfjpeboiioaaGreatVaAH
namespace Go.Proofs.YtcgdfjpeboiioaaGreat
open Go Go.Abs
theorem R {α : Sort _} {a : α} : a = a := rfl
abbrev qq := @QN.then_
abbrev qw := @QN.weaken
abbrev qx := @WL.nil
abbrev qz := @DK.cons
abbrev qj := @Wanted.plain
abbrev qy := @CellsOf.agg
abbrev qQ := @QR.then_
abbrev qW := @CellsOf.one
abbrev qX := @W.seq
abbrev qZ := @W.condP
abbrev qJ := @W.region
abbrev qK := @ite_n
abbrev qV := @QX.then_
abbrev qB := @W.skip
abbrev qN := @q_int
abbrev vq := @W.ret
abbrev vw := @bind_s
abbrev vx := @W.block
abbrev vz := @QR.block
abbrev vj := @q_pickF
abbrev vy := @q_call
abbrev vQ := @q_pickT
abbrev vW := @QR.f1
abbrev vX := @q_index
abbrev vZ := @QN.block
abbrev vJ := @Con.of
abbrev vK := @q_addR
abbrev vV := @q_extract
abbrev vB := @QX.here
abbrev vN := @q_len
theorem kIntFlat : ∀ x, ∀ A ∈ kInt.c x, Flat A := fun x A hA => by rcases List.mem_singleton.1 hA with rfl; exact Flat.eq _
theorem mx : Tryz.prog.follows .mixedOrders = true := by kernel_rfl
theorem ad188 : Extern.find Tryz.f188 = some add64Entry := by kernel_rfl
theorem ca100 : callable Tryz.prog 100 = true := by kernel_rfl
theorem ca101 : callable Tryz.prog 101 = true := by kernel_rfl
theorem ca102 : callable Tryz.prog 102 = true := by kernel_rfl
theorem ca103 : callable Tryz.prog 103 = true := by kernel_rfl
theorem ca104 : callable Tryz.prog 104 = true := by kernel_rfl
theorem ca105 : callable Tryz.prog 105 = true := by kernel_rfl
theorem ca106 : callable Tryz.prog 106 = true := by kernel_rfl
theorem ca107 : callable Tryz.prog 107 = true := by kernel_rfl
theorem ca108 : callable Tryz.prog 108 = true := by kernel_rfl
theorem ca109 : callable Tryz.prog 109 = true := by kernel_rfl
theorem ca11 : callable Tryz.prog 11 = true := by kernel_rfl
theorem ca110 : callable Tryz.prog 110 = true := by kernel_rfl
theorem ca111 : callable Tryz.prog 111 = true := by kernel_rfl
theorem ca112 : callable Tryz.prog 112 = true := by kernel_rfl
theorem ca113 : callable Tryz.prog 113 = true := by kernel_rfl
theorem ca114 : callable Tryz.prog 114 = true := by kernel_rfl
theorem ca115 : callable Tryz.prog 115 = true := by kernel_rfl
theorem ca116 : callable Tryz.prog 116 = true := by kernel_rfl
theorem ca118 : callable Tryz.prog 118 = true := by kernel_rfl
theorem ca119 : callable Tryz.prog 119 = true := by kernel_rfl
theorem ca122 : callable Tryz.prog 122 = true := by kernel_rfl
theorem ca125 : callable Tryz.prog 125 = true := by kernel_rfl
theorem ca128 : callable Tryz.prog 128 = true := by kernel_rfl
theorem ca13 : callable Tryz.prog 13 = true := by kernel_rfl
theorem ca133 : callable Tryz.prog 133 = true := by kernel_rfl
theorem ca134 : callable Tryz.prog 134 = true := by kernel_rfl
theorem ca135 : callable Tryz.prog 135 = true := by kernel_rfl
theorem ca138 : callable Tryz.prog 138 = true := by kernel_rfl
theorem ca139 : callable Tryz.prog 139 = true := by kernel_rfl
theorem ca14 : callable Tryz.prog 14 = true := by kernel_rfl
theorem ca140 : callable Tryz.prog 140 = true := by kernel_rfl
theorem ca142 : callable Tryz.prog 142 = true := by kernel_rfl
theorem ca143 : callable Tryz.prog 143 = true := by kernel_rfl
theorem ca144 : callable Tryz.prog 144 = true := by kernel_rfl
theorem ca145 : callable Tryz.prog 145 = true := by kernel_rfl
theorem ca146 : callable Tryz.prog 146 = true := by kernel_rfl
theorem ca147 : callable Tryz.prog 147 = true := by kernel_rfl
theorem ca148 : callable Tryz.prog 148 = true := by kernel_rfl
theorem ca149 : callable Tryz.prog 149 = true := by kernel_rfl
theorem ca15 : callable Tryz.prog 15 = true := by kernel_rfl
theorem ca150 : callable Tryz.prog 150 = true := by kernel_rfl
theorem ca151 : callable Tryz.prog 151 = true := by kernel_rfl
theorem ca152 : callable Tryz.prog 152 = true := by kernel_rfl
theorem ca153 : callable Tryz.prog 153 = true := by kernel_rfl
theorem ca154 : callable Tryz.prog 154 = true := by kernel_rfl
theorem ca155 : callable Tryz.prog 155 = true := by kernel_rfl
theorem ca156 : callable Tryz.prog 156 = true := by kernel_rfl
theorem ca157 : callable Tryz.prog 157 = true := by kernel_rfl
theorem ca158 : callable Tryz.prog 158 = true := by kernel_rfl
theorem ca159 : callable Tryz.prog 159 = true := by kernel_rfl
theorem ca16 : callable Tryz.prog 16 = true := by kernel_rfl
theorem ca163 : callable Tryz.prog 163 = true := by kernel_rfl
theorem ca164 : callable Tryz.prog 164 = true := by kernel_rfl
theorem ca165 : callable Tryz.prog 165 = true := by kernel_rfl
theorem ca166 : callable Tryz.prog 166 = true := by kernel_rfl
theorem ca167 : callable Tryz.prog 167 = true := by kernel_rfl
theorem ca17 : callable Tryz.prog 17 = true := by kernel_rfl
theorem ca170 : callable Tryz.prog 170 = true := by kernel_rfl
theorem ca172 : callable Tryz.prog 172 = true := by kernel_rfl
theorem ca173 : callable Tryz.prog 173 = true := by kernel_rfl
theorem ca174 : callable Tryz.prog 174 = true := by kernel_rfl
theorem ca175 : callable Tryz.prog 175 = true := by kernel_rfl
theorem ca176 : callable Tryz.prog 176 = true := by kernel_rfl
theorem ca177 : callable Tryz.prog 177 = true := by kernel_rfl
theorem ca178 : callable Tryz.prog 178 = true := by kernel_rfl
theorem ca179 : callable Tryz.prog 179 = true := by kernel_rfl
theorem ca18 : callable Tryz.prog 18 = true := by kernel_rfl
theorem ca180 : callable Tryz.prog 180 = true := by kernel_rfl
theorem ca181 : callable Tryz.prog 181 = true := by kernel_rfl
theorem ca182 : callable Tryz.prog 182 = true := by kernel_rfl
theorem ca183 : callable Tryz.prog 183 = true := by kernel_rfl
theorem ca184 : callable Tryz.prog 184 = true := by kernel_rfl
theorem ca189 : callable Tryz.prog 189 = true := by kernel_rfl
theorem ca19 : callable Tryz.prog 19 = true := by kernel_rfl
theorem ca190 : callable Tryz.prog 190 = true := by kernel_rfl
theorem ca191 : callable Tryz.prog 191 = true := by kernel_rfl
theorem ca195 : callable Tryz.prog 195 = true := by kernel_rfl
theorem ca196 : callable Tryz.prog 196 = true := by kernel_rfl
theorem ca198 : callable Tryz.prog 198 = true := by kernel_rfl
theorem ca199 : callable Tryz.prog 199 = true := by kernel_rfl
theorem ca20 : callable Tryz.prog 20 = true := by kernel_rfl
theorem ca200 : callable Tryz.prog 200 = true := by kernel_rfl
theorem ca201 : callable Tryz.prog 201 = true := by kernel_rfl
theorem ca202 : callable Tryz.prog 202 = true := by kernel_rfl
theorem ca203 : callable Tryz.prog 203 = true := by kernel_rfl
theorem ca207 : callable Tryz.prog 207 = true := by kernel_rfl
theorem ca208 : callable Tryz.prog 208 = true := by kernel_rfl
theorem ca209 : callable Tryz.prog 209 = true := by kernel_rfl
theorem ca210 : callable Tryz.prog 210 = true := by kernel_rfl
theorem ca211 : callable Tryz.prog 211 = true := by kernel_rfl
theorem ca212 : callable Tryz.prog 212 = true := by kernel_rfl
theorem ca213 : callable Tryz.prog 213 = true := by kernel_rfl
theorem ca214 : callable Tryz.prog 214 = true := by kernel_rfl
theorem ca215 : callable Tryz.prog 215 = true := by kernel_rfl
theorem ca216 : callable Tryz.prog 216 = true := by kernel_rfl
theorem ca217 : callable Tryz.prog 217 = true := by kernel_rfl
theorem ca218 : callable Tryz.prog 218 = true := by kernel_rfl
theorem ca219 : callable Tryz.prog 219 = true := by kernel_rfl
theorem ca220 : callable Tryz.prog 220 = true := by kernel_rfl
theorem ca221 : callable Tryz.prog 221 = true := by kernel_rfl
theorem ca222 : callable Tryz.prog 222 = true := by kernel_rfl
theorem ca223 : callable Tryz.prog 223 = true := by kernel_rfl
theorem ca224 : callable Tryz.prog 224 = true := by kernel_rfl
theorem ca236 : callable Tryz.prog 236 = true := by kernel_rfl
theorem ca237 : callable Tryz.prog 237 = true := by kernel_rfl
theorem ca29 : callable Tryz.prog 29 = true := by kernel_rfl
theorem ca31 : callable Tryz.prog 31 = true := by kernel_rfl
theorem ca37 : callable Tryz.prog 37 = true := by kernel_rfl
theorem ca38 : callable Tryz.prog 38 = true := by kernel_rfl
theorem ca39 : callable Tryz.prog 39 = true := by kernel_rfl
theorem ca40 : callable Tryz.prog 40 = true := by kernel_rfl
theorem ca41 : callable Tryz.prog 41 = true := by kernel_rfl
theorem ca43 : callable Tryz.prog 43 = true := by kernel_rfl
theorem ca44 : callable Tryz.prog 44 = true := by kernel_rfl
theorem ca45 : callable Tryz.prog 45 = true := by kernel_rfl
theorem ca46 : callable Tryz.prog 46 = true := by kernel_rfl
theorem ca47 : callable Tryz.prog 47 = true := by kernel_rfl
theorem ca48 : callable Tryz.prog 48 = true := by kernel_rfl
theorem ca49 : callable Tryz.prog 49 = true := by kernel_rfl
theorem ca50 : callable Tryz.prog 50 = true := by kernel_rfl
theorem ca51 : callable Tryz.prog 51 = true := by kernel_rfl
theorem ca52 : callable Tryz.prog 52 = true := by kernel_rfl
theorem ca53 : callable Tryz.prog 53 = true := by kernel_rfl
theorem ca54 : callable Tryz.prog 54 = true := by kernel_rfl
theorem ca55 : callable Tryz.prog 55 = true := by kernel_rfl
theorem ca56 : callable Tryz.prog 56 = true := by kernel_rfl
theorem ca57 : callable Tryz.prog 57 = true := by kernel_rfl
theorem ca58 : callable Tryz.prog 58 = true := by kernel_rfl
theorem ca59 : callable Tryz.prog 59 = true := by kernel_rfl
theorem ca60 : callable Tryz.prog 60 = true := by kernel_rfl
theorem ca61 : callable Tryz.prog 61 = true := by kernel_rfl
theorem ca62 : callable Tryz.prog 62 = true := by kernel_rfl
theorem ca63 : callable Tryz.prog 63 = true := by kernel_rfl
theorem ca64 : callable Tryz.prog 64 = true := by kernel_rfl
theorem ca72 : callable Tryz.prog 72 = true := by kernel_rfl
theorem ca74 : callable Tryz.prog 74 = true := by kernel_rfl
theorem ca78 : callable Tryz.prog 78 = true := by kernel_rfl
theorem ca80 : callable Tryz.prog 80 = true := by kernel_rfl
theorem ca82 : callable Tryz.prog 82 = true := by kernel_rfl
theorem ca86 : callable Tryz.prog 86 = true := by kernel_rfl
theorem ca9 : callable Tryz.prog 9 = true := by kernel_rfl
theorem ca90 : callable Tryz.prog 90 = true := by kernel_rfl
theorem ca91 : callable Tryz.prog 91 = true := by kernel_rfl
theorem ca92 : callable Tryz.prog 92 = true := by kernel_rfl
theorem ca93 : callable Tryz.prog 93 = true := by kernel_rfl
theorem ca94 : callable Tryz.prog 94 = true := by kernel_rfl
theorem ca95 : callable Tryz.prog 95 = true := by kernel_rfl
theorem ca96 : callable Tryz.prog 96 = true := by kernel_rfl
theorem ca97 : callable Tryz.prog 97 = true := by kernel_rfl
theorem ca98 : callable Tryz.prog 98 = true := by kernel_rfl
theorem ca99 : callable Tryz.prog 99 = true := by kernel_rfl
theorem cv206 : convTo Tryz.prog 206 = some .u64 := by kernel_rfl
theorem cv220 : convTo Tryz.prog 220 = some .u64 := by kernel_rfl
theorem cv242 : convTo Tryz.prog 242 = some .u32 := by kernel_rfl
theorem cv3 : convTo Tryz.prog 3 = some .i64 := by kernel_rfl
theorem el111 : elOf Tryz.prog 111 = some (4, 1) := by kernel_rfl
theorem el133 : elOf Tryz.prog 133 = some (64, 2) := by kernel_rfl
theorem el146 : elOf Tryz.prog 146 = some (155, 5) := by kernel_rfl
theorem el149 : elOf Tryz.prog 149 = some (26, 1) := by kernel_rfl
theorem el151 : elOf Tryz.prog 151 = some (149, 1) := by kernel_rfl
theorem el160 : elOf Tryz.prog 160 = some (166, 5) := by kernel_rfl
theorem el163 : elOf Tryz.prog 163 = some (58, 1) := by kernel_rfl
theorem el199 : elOf Tryz.prog 199 = some (38, 2) := by kernel_rfl
theorem el200 : elOf Tryz.prog 200 = some (111, 1) := by kernel_rfl
theorem el26 : elOf Tryz.prog 26 = some (3, 1) := by kernel_rfl
theorem el32 : elOf Tryz.prog 32 = some (92, 4) := by kernel_rfl
theorem el33 : elOf Tryz.prog 33 = some (97, 7) := by kernel_rfl
theorem el36 : elOf Tryz.prog 36 = some (109, 3) := by kernel_rfl
theorem el39 : elOf Tryz.prog 39 = some (113, 4) := by kernel_rfl
theorem el40 : elOf Tryz.prog 40 = some (86, 5) := by kernel_rfl
theorem el45 : elOf Tryz.prog 45 = some (52, 2) := by kernel_rfl
theorem el58 : elOf Tryz.prog 58 = some (26, 1) := by kernel_rfl
theorem el71 : elOf Tryz.prog 71 = some (76, 3) := by kernel_rfl
theorem el90 : elOf Tryz.prog 90 = some (95, 4) := by kernel_rfl
theorem el93 : elOf Tryz.prog 93 = some (9, 1) := by kernel_rfl
theorem fo109_0 : fieldOff Tryz.prog 109 0 = some 0 := by kernel_rfl
theorem fo109_1 : fieldOff Tryz.prog 109 1 = some 1 := by kernel_rfl
theorem fo109_2 : fieldOff Tryz.prog 109 2 = some 2 := by kernel_rfl
theorem fo113_0 : fieldOff Tryz.prog 113 0 = some 0 := by kernel_rfl
theorem fo113_1 : fieldOff Tryz.prog 113 1 = some 1 := by kernel_rfl
theorem fo113_2 : fieldOff Tryz.prog 113 2 = some 2 := by kernel_rfl
theorem fo155_0 : fieldOff Tryz.prog 155 0 = some 0 := by kernel_rfl
theorem fo155_1 : fieldOff Tryz.prog 155 1 = some 2 := by kernel_rfl
theorem fo155_2 : fieldOff Tryz.prog 155 2 = some 3 := by kernel_rfl
theorem fo155_3 : fieldOff Tryz.prog 155 3 = some 4 := by kernel_rfl
theorem fo166_0 : fieldOff Tryz.prog 166 0 = some 0 := by kernel_rfl
theorem fo166_1 : fieldOff Tryz.prog 166 1 = some 2 := by kernel_rfl
theorem fo166_2 : fieldOff Tryz.prog 166 2 = some 3 := by kernel_rfl
theorem fo166_3 : fieldOff Tryz.prog 166 3 = some 4 := by kernel_rfl
theorem fo226_0 : fieldOff Tryz.prog 226 0 = some 0 := by kernel_rfl
theorem fo226_1 : fieldOff Tryz.prog 226 1 = some 1 := by kernel_rfl
theorem fo238_0 : fieldOff Tryz.prog 238 0 = some 0 := by kernel_rfl
theorem fo238_1 : fieldOff Tryz.prog 238 1 = some 2 := by kernel_rfl
theorem fo238_2 : fieldOff Tryz.prog 238 2 = some 4 := by kernel_rfl
theorem fo238_3 : fieldOff Tryz.prog 238 3 = some 5 := by kernel_rfl
theorem fo238_4 : fieldOff Tryz.prog 238 4 = some 7 := by kernel_rfl
theorem fo238_5 : fieldOff Tryz.prog 238 5 = some 8 := by kernel_rfl
theorem fo238_6 : fieldOff Tryz.prog 238 6 = some 9 := by kernel_rfl
theorem fo238_7 : fieldOff Tryz.prog 238 7 = some 10 := by kernel_rfl
theorem fo238_8 : fieldOff Tryz.prog 238 8 = some 11 := by kernel_rfl
theorem fo23_0 : fieldOff Tryz.prog 23 0 = some 0 := by kernel_rfl
theorem fo23_1 : fieldOff Tryz.prog 23 1 = some 1 := by kernel_rfl
theorem fo35_0 : fieldOff Tryz.prog 35 0 = some 0 := by kernel_rfl
theorem fo35_1 : fieldOff Tryz.prog 35 1 = some 1 := by kernel_rfl
theorem fo38_0 : fieldOff Tryz.prog 38 0 = some 0 := by kernel_rfl
theorem fo38_1 : fieldOff Tryz.prog 38 1 = some 1 := by kernel_rfl
theorem fo42_0 : fieldOff Tryz.prog 42 0 = some 0 := by kernel_rfl
theorem fo42_1 : fieldOff Tryz.prog 42 1 = some 2 := by kernel_rfl
theorem fo42_2 : fieldOff Tryz.prog 42 2 = some 3 := by kernel_rfl
theorem fo42_3 : fieldOff Tryz.prog 42 3 = some 4 := by kernel_rfl
theorem fo60_0 : fieldOff Tryz.prog 60 0 = some 0 := by kernel_rfl
theorem fo60_1 : fieldOff Tryz.prog 60 1 = some 2 := by kernel_rfl
theorem fo64_0 : fieldOff Tryz.prog 64 0 = some 0 := by kernel_rfl
theorem fo64_1 : fieldOff Tryz.prog 64 1 = some 1 := by kernel_rfl
theorem fo76_0 : fieldOff Tryz.prog 76 0 = some 0 := by kernel_rfl
theorem fo76_1 : fieldOff Tryz.prog 76 1 = some 2 := by kernel_rfl
theorem fo86_0 : fieldOff Tryz.prog 86 0 = some 0 := by kernel_rfl
theorem fo86_1 : fieldOff Tryz.prog 86 1 = some 1 := by kernel_rfl
theorem fo86_2 : fieldOff Tryz.prog 86 2 = some 3 := by kernel_rfl
theorem fo92_0 : fieldOff Tryz.prog 92 0 = some 0 := by kernel_rfl
theorem fo92_1 : fieldOff Tryz.prog 92 1 = some 1 := by kernel_rfl
theorem fo92_2 : fieldOff Tryz.prog 92 2 = some 2 := by kernel_rfl
theorem fo92_3 : fieldOff Tryz.prog 92 3 = some 3 := by kernel_rfl
theorem fo95_0 : fieldOff Tryz.prog 95 0 = some 0 := by kernel_rfl
theorem fo95_1 : fieldOff Tryz.prog 95 1 = some 1 := by kernel_rfl
theorem fo95_2 : fieldOff Tryz.prog 95 2 = some 2 := by kernel_rfl
theorem fo95_3 : fieldOff Tryz.prog 95 3 = some 3 := by kernel_rfl
theorem fo97_0 : fieldOff Tryz.prog 97 0 = some 0 := by kernel_rfl
theorem fo97_1 : fieldOff Tryz.prog 97 1 = some 1 := by kernel_rfl
theorem fo97_2 : fieldOff Tryz.prog 97 2 = some 2 := by kernel_rfl
theorem fo97_3 : fieldOff Tryz.prog 97 3 = some 3 := by kernel_rfl
theorem fo97_4 : fieldOff Tryz.prog 97 4 = some 4 := by kernel_rfl
theorem fo97_5 : fieldOff Tryz.prog 97 5 = some 5 := by kernel_rfl
theorem fo97_6 : fieldOff Tryz.prog 97 6 = some 6 := by kernel_rfl
theorem gr109 : growOk Tryz.prog 109 3 = true := by kernel_rfl
theorem gr111 : growOk Tryz.prog 111 1 = true := by kernel_rfl
theorem gr113 : growOk Tryz.prog 113 4 = true := by kernel_rfl
theorem gr149 : growOk Tryz.prog 149 1 = true := by kernel_rfl
theorem gr155 : growOk Tryz.prog 155 5 = true := by kernel_rfl
theorem gr166 : growOk Tryz.prog 166 5 = true := by kernel_rfl
theorem gr26 : growOk Tryz.prog 26 1 = true := by kernel_rfl
theorem gr3 : growOk Tryz.prog 3 1 = true := by kernel_rfl
theorem gr38 : growOk Tryz.prog 38 2 = true := by kernel_rfl
theorem gr4 : growOk Tryz.prog 4 1 = true := by kernel_rfl
theorem gr52 : growOk Tryz.prog 52 2 = true := by kernel_rfl
theorem gr58 : growOk Tryz.prog 58 1 = true := by kernel_rfl
theorem gr64 : growOk Tryz.prog 64 2 = true := by kernel_rfl
theorem gr76 : growOk Tryz.prog 76 3 = true := by kernel_rfl
theorem gr86 : growOk Tryz.prog 86 5 = true := by kernel_rfl
theorem gr9 : growOk Tryz.prog 9 1 = true := by kernel_rfl
theorem gr92 : growOk Tryz.prog 92 4 = true := by kernel_rfl
theorem gr95 : growOk Tryz.prog 95 4 = true := by kernel_rfl
theorem gr97 : growOk Tryz.prog 97 7 = true := by kernel_rfl
theorem isb4 : isB Tryz.prog 4 = true := by kernel_rfl
theorem iss9 : isStr Tryz.prog 9 = true := by kernel_rfl
theorem issI_109 : intStruct Tryz.prog 109 = some 3 := by kernel_rfl
theorem issI_52 : intStruct Tryz.prog 52 = some 2 := by kernel_rfl
theorem pl109 : placesOf Tryz.prog 109 = some [(0, 1), (1, 1), (2, 1)] := by kernel_rfl
theorem pl113 : placesOf Tryz.prog 113 = some [(0, 1), (1, 1), (2, 2)] := by kernel_rfl
theorem pl155 : placesOf Tryz.prog 155 = some [(0, 2), (2, 1), (3, 1), (4, 1)] := by kernel_rfl
theorem pl166 : placesOf Tryz.prog 166 = some [(0, 2), (2, 1), (3, 1), (4, 1)] := by kernel_rfl
theorem pl226 : placesOf Tryz.prog 226 = some [(0, 1), (1, 1), (2, 1)] := by kernel_rfl
theorem pl23 : placesOf Tryz.prog 23 = some [(0, 1), (1, 1)] := by kernel_rfl
theorem pl238 : placesOf Tryz.prog 238 = some [(0, 2), (2, 2), (4, 1), (5, 2), (7, 1), (8, 1), (9, 1), (10, 1), (11, 1)] := by kernel_rfl
theorem pl35 : placesOf Tryz.prog 35 = some [(0, 1), (1, 1)] := by kernel_rfl
theorem pl38 : placesOf Tryz.prog 38 = some [(0, 1), (1, 1)] := by kernel_rfl
theorem pl42 : placesOf Tryz.prog 42 = some [(0, 2), (2, 1), (3, 1), (4, 1)] := by kernel_rfl
theorem pl52 : placesOf Tryz.prog 52 = some [(0, 1), (1, 1)] := by kernel_rfl
theorem pl60 : placesOf Tryz.prog 60 = some [(0, 2), (2, 1)] := by kernel_rfl
theorem pl64 : placesOf Tryz.prog 64 = some [(0, 1), (1, 1)] := by kernel_rfl
theorem pl76 : placesOf Tryz.prog 76 = some [(0, 2), (2, 1)] := by kernel_rfl
theorem pl86 : placesOf Tryz.prog 86 = some [(0, 1), (1, 2), (3, 2)] := by kernel_rfl
theorem pl92 : placesOf Tryz.prog 92 = some [(0, 1), (1, 1), (2, 1), (3, 1)] := by kernel_rfl
theorem pl95 : placesOf Tryz.prog 95 = some [(0, 1), (1, 1), (2, 1), (3, 1)] := by kernel_rfl
theorem pl97 : placesOf Tryz.prog 97 = some [(0, 1), (1, 1), (2, 1), (3, 1), (4, 1), (5, 1), (6, 1)] := by kernel_rfl
theorem sh109 : shapeOf Tryz.prog 109 = some (true, 3) := by kernel_rfl
theorem sh111 : shapeOf Tryz.prog 111 = some (false, 1) := by kernel_rfl
theorem sh113 : shapeOf Tryz.prog 113 = some (true, 4) := by kernel_rfl
theorem sh133 : shapeOf Tryz.prog 133 = some (false, 1) := by kernel_rfl
theorem sh149 : shapeOf Tryz.prog 149 = some (false, 1) := by kernel_rfl
theorem sh155 : shapeOf Tryz.prog 155 = some (true, 5) := by kernel_rfl
theorem sh166 : shapeOf Tryz.prog 166 = some (true, 5) := by kernel_rfl
theorem sh200 : shapeOf Tryz.prog 200 = some (false, 1) := by kernel_rfl
theorem sh226 : shapeOf Tryz.prog 226 = some (true, 3) := by kernel_rfl
theorem sh23 : shapeOf Tryz.prog 23 = some (true, 2) := by kernel_rfl
theorem sh26 : shapeOf Tryz.prog 26 = some (false, 1) := by kernel_rfl
theorem sh3 : shapeOf Tryz.prog 3 = some (false, 1) := by kernel_rfl
theorem sh32 : shapeOf Tryz.prog 32 = some (false, 1) := by kernel_rfl
theorem sh33 : shapeOf Tryz.prog 33 = some (false, 1) := by kernel_rfl
theorem sh35 : shapeOf Tryz.prog 35 = some (true, 2) := by kernel_rfl
theorem sh36 : shapeOf Tryz.prog 36 = some (false, 1) := by kernel_rfl
theorem sh38 : shapeOf Tryz.prog 38 = some (true, 2) := by kernel_rfl
theorem sh39 : shapeOf Tryz.prog 39 = some (false, 1) := by kernel_rfl
theorem sh4 : shapeOf Tryz.prog 4 = some (false, 1) := by kernel_rfl
theorem sh40 : shapeOf Tryz.prog 40 = some (false, 1) := by kernel_rfl
theorem sh42 : shapeOf Tryz.prog 42 = some (true, 5) := by kernel_rfl
theorem sh52 : shapeOf Tryz.prog 52 = some (true, 2) := by kernel_rfl
theorem sh58 : shapeOf Tryz.prog 58 = some (false, 1) := by kernel_rfl
theorem sh60 : shapeOf Tryz.prog 60 = some (true, 3) := by kernel_rfl
theorem sh64 : shapeOf Tryz.prog 64 = some (true, 2) := by kernel_rfl
theorem sh76 : shapeOf Tryz.prog 76 = some (true, 3) := by kernel_rfl
theorem sh86 : shapeOf Tryz.prog 86 = some (true, 5) := by kernel_rfl
theorem sh9 : shapeOf Tryz.prog 9 = some (false, 1) := by kernel_rfl
theorem sh90 : shapeOf Tryz.prog 90 = some (false, 1) := by kernel_rfl
theorem sh92 : shapeOf Tryz.prog 92 = some (true, 4) := by kernel_rfl
theorem sh93 : shapeOf Tryz.prog 93 = some (false, 1) := by kernel_rfl
theorem sh95 : shapeOf Tryz.prog 95 = some (true, 4) := by kernel_rfl
theorem sh97 : shapeOf Tryz.prog 97 = some (true, 7) := by kernel_rfl
theorem z109 : zeroOf Tryz.prog 109 = some [.int .i64 0, .int .i64 0, .int .i64 0] := by kernel_rfl
theorem z113 : zeroOf Tryz.prog 113 = some [.int .i64 0, .int .i64 0, .int .i64 0, .int .i64 0] := by kernel_rfl
theorem z155 : zeroOf Tryz.prog 155 = some [.int .i64 0, .int .i64 0, .int .i64 0, .int .i64 0, .int .i64 0] := by kernel_rfl
theorem z166 : zeroOf Tryz.prog 166 = some [.int .i64 0, .int .i64 0, .int .i64 0, .int .i64 0, .int .i64 0] := by kernel_rfl
theorem z226 : zeroOf Tryz.prog 226 = some [.int .i64 0, .string ⟨#[]⟩, .int .i64 0] := by kernel_rfl
theorem z23 : zeroOf Tryz.prog 23 = some [.int .i64 0, .int .i64 0] := by kernel_rfl
theorem z238 : zeroOf Tryz.prog 238 = some [.slice none 0 0, .slice none 0 0, .slice none 0 0, .slice none 0 0, .slice none 0 0, .slice none 0 0, .slice none 0 0, .bool false, .int .i64 0, .slice none 0 0, .slice none 0 0, .slice none 0 0] := by kernel_rfl
theorem z3 : zeroOf Tryz.prog 3 = some [.int .i64 0] := by kernel_rfl
theorem z35 : zeroOf Tryz.prog 35 = some [.slice none 0 0, .slice none 0 0] := by kernel_rfl
theorem z38 : zeroOf Tryz.prog 38 = some [.slice none 0 0, .slice none 0 0] := by kernel_rfl
theorem z4 : zeroOf Tryz.prog 4 = some [.bool false] := by kernel_rfl
theorem z42 : zeroOf Tryz.prog 42 = some [.slice none 0 0, .slice none 0 0, .slice none 0 0, .int .i64 0, .slice none 0 0] := by kernel_rfl
theorem z52 : zeroOf Tryz.prog 52 = some [.int .i64 0, .int .i64 0] := by kernel_rfl
theorem z60 : zeroOf Tryz.prog 60 = some [.slice none 0 0, .slice none 0 0, .slice none 0 0] := by kernel_rfl
theorem z64 : zeroOf Tryz.prog 64 = some [.slice none 0 0, .slice none 0 0] := by kernel_rfl
theorem z76 : zeroOf Tryz.prog 76 = some [.slice none 0 0, .slice none 0 0, .slice none 0 0] := by kernel_rfl
theorem z86 : zeroOf Tryz.prog 86 = some [.int .i64 0, .int .i64 0, .int .i64 0, .int .i64 0, .int .i64 0] := by kernel_rfl
theorem z92 : zeroOf Tryz.prog 92 = some [.string ⟨#[]⟩, .int .i64 0, .bool false, .slice none 0 0] := by kernel_rfl
theorem z95 : zeroOf Tryz.prog 95 = some [.string ⟨#[]⟩, .int .i64 0, .int .i64 0, .slice none 0 0] := by kernel_rfl
theorem z97 : zeroOf Tryz.prog 97 = some [.string ⟨#[]⟩, .int .i64 0, .int .i64 0, .int .i64 0, .int .i64 0, .int .i64 0, .int .i64 0] := by kernel_rfl
theorem cvS206 : (convTo Tryz.prog 206).isSome = true := by rw [cv206]; rfl
theorem cvS220 : (convTo Tryz.prog 220).isSome = true := by rw [cv220]; rfl
theorem cvS242 : (convTo Tryz.prog 242).isSome = true := by rw [cv242]; rfl
theorem cvS3 : (convTo Tryz.prog 3).isSome = true := by rw [cv3]; rfl
theorem elS111 : (elOf Tryz.prog 111).isSome = true := by rw [el111]; rfl
theorem elS133 : (elOf Tryz.prog 133).isSome = true := by rw [el133]; rfl
theorem elS146 : (elOf Tryz.prog 146).isSome = true := by rw [el146]; rfl
theorem elS149 : (elOf Tryz.prog 149).isSome = true := by rw [el149]; rfl
theorem elS151 : (elOf Tryz.prog 151).isSome = true := by rw [el151]; rfl
theorem elS160 : (elOf Tryz.prog 160).isSome = true := by rw [el160]; rfl
theorem elS163 : (elOf Tryz.prog 163).isSome = true := by rw [el163]; rfl
theorem elS199 : (elOf Tryz.prog 199).isSome = true := by rw [el199]; rfl
theorem elS26 : (elOf Tryz.prog 26).isSome = true := by rw [el26]; rfl
theorem elS32 : (elOf Tryz.prog 32).isSome = true := by rw [el32]; rfl
theorem elS33 : (elOf Tryz.prog 33).isSome = true := by rw [el33]; rfl
theorem elS36 : (elOf Tryz.prog 36).isSome = true := by rw [el36]; rfl
theorem elS39 : (elOf Tryz.prog 39).isSome = true := by rw [el39]; rfl
theorem elS40 : (elOf Tryz.prog 40).isSome = true := by rw [el40]; rfl
theorem elS45 : (elOf Tryz.prog 45).isSome = true := by rw [el45]; rfl
theorem elS58 : (elOf Tryz.prog 58).isSome = true := by rw [el58]; rfl
theorem elS71 : (elOf Tryz.prog 71).isSome = true := by rw [el71]; rfl
theorem elS90 : (elOf Tryz.prog 90).isSome = true := by rw [el90]; rfl
theorem elS93 : (elOf Tryz.prog 93).isSome = true := by rw [el93]; rfl
end Go.Proofs.YtcgdfjpeboiioaaGreat
