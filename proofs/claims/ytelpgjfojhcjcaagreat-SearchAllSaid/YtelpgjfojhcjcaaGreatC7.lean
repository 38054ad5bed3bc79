/- The Go functions compute the pure ones. (Printed by gen.py.) -/
import Derived.Test.YtelpgjfojhcjcaaGreatC6
namespace Go.Proofs.YtelpgjfojhcjcaaGreat
open Go Go.Abs
attribute [local irreducible] Tryz.prog
theorem ref01_signs.con (k : Nat) (r : (List Str)) (h : ref01_signs k = some r) : Con Tryz.prog 155 [] [] (RA (SlcA kStr r)) := by
 unfold ref01_signs at h
 refine Con.of (N := 2) Tryz.func155 rfl rfl rfl fun w0_ fg_ => W.seq <| W.region <| WL.p rfl rfl rfl (.k .nil) (q_assign rfl) <| WL.nil <| QN.then_ <| W.seq <| W.region <| WL.p rfl rfl rfl (.k (.k (.k (.k (.k (.k (.k (.k (.k (.k (.k (.k (.k (.k (.k (.k (.k (.k (.k (.k (.k (.k (.k (.k (.k .nil))))))))))))))))))))))))) (q_lit (kd := kStr) (ps := [(0, .const (.string ⟨#[45, 62]⟩)), (1, .const (.string ⟨#[60, 61]⟩)), (2, .const (.string ⟨#[62, 61]⟩)), (3, .const (.string ⟨#[61, 61]⟩)), (4, .const (.string ⟨#[33, 61]⟩)), (5, .const (.string ⟨#[123]⟩)), (6, .const (.string ⟨#[125]⟩)), (7, .const (.string ⟨#[40]⟩)), (8, .const (.string ⟨#[41]⟩)), (9, .const (.string ⟨#[91]⟩)), (10, .const (.string ⟨#[93]⟩)), (11, .const (.string ⟨#[44]⟩)), (12, .const (.string ⟨#[59]⟩)), (13, .const (.string ⟨#[58]⟩)), (14, .const (.string ⟨#[61]⟩)), (15, .const (.string ⟨#[43]⟩)), (16, .const (.string ⟨#[45]⟩)), (17, .const (.string ⟨#[42]⟩)), (18, .const (.string ⟨#[60]⟩)), (19, .const (.string ⟨#[62]⟩)), (20, .const (.string ⟨#[33]⟩)), (21, .const (.string ⟨#[38]⟩)), (22, .const (.string ⟨#[124]⟩)), (23, .const (.string ⟨#[46]⟩)), (24, .const (.string ⟨#[63]⟩))]) (xs := [.const (.string ⟨#[45, 62]⟩), .const (.string ⟨#[60, 61]⟩), .const (.string ⟨#[62, 61]⟩), .const (.string ⟨#[61, 61]⟩), .const (.string ⟨#[33, 61]⟩), .const (.string ⟨#[123]⟩), .const (.string ⟨#[125]⟩), .const (.string ⟨#[40]⟩), .const (.string ⟨#[41]⟩), .const (.string ⟨#[91]⟩), .const (.string ⟨#[93]⟩), .const (.string ⟨#[44]⟩), .const (.string ⟨#[59]⟩), .const (.string ⟨#[58]⟩), .const (.string ⟨#[61]⟩), .const (.string ⟨#[43]⟩), .const (.string ⟨#[45]⟩), .const (.string ⟨#[42]⟩), .const (.string ⟨#[60]⟩), .const (.string ⟨#[62]⟩), .const (.string ⟨#[33]⟩), .const (.string ⟨#[38]⟩), .const (.string ⟨#[124]⟩), .const (.string ⟨#[46]⟩), .const (.string ⟨#[63]⟩)]) («as» := [EqA (strV ([45, 62] : Str)), EqA (strV ([60, 61] : Str)), EqA (strV ([62, 61] : Str)), EqA (strV ([61, 61] : Str)), EqA (strV ([33, 61] : Str)), EqA (strV ([123] : Str)), EqA (strV ([125] : Str)), EqA (strV ([40] : Str)), EqA (strV ([41] : Str)), EqA (strV ([91] : Str)), EqA (strV ([93] : Str)), EqA (strV ([44] : Str)), EqA (strV ([59] : Str)), EqA (strV ([58] : Str)), EqA (strV ([61] : Str)), EqA (strV ([43] : Str)), EqA (strV ([45] : Str)), EqA (strV ([42] : Str)), EqA (strV ([60] : Str)), EqA (strV ([62] : Str)), EqA (strV ([33] : Str)), EqA (strV ([38] : Str)), EqA (strV ([124] : Str)), EqA (strV ([46] : Str)), EqA (strV ([63] : Str))]) (ys := [([45, 62] : Str), ([60, 61] : Str), ([62, 61] : Str), ([61, 61] : Str), ([33, 61] : Str), ([123] : Str), ([125] : Str), ([40] : Str), ([41] : Str), ([91] : Str), ([93] : Str), ([44] : Str), ([59] : Str), ([58] : Str), ([61] : Str), ([43] : Str), ([45] : Str), ([42] : Str), ([60] : Str), ([62] : Str), ([33] : Str), ([38] : Str), ([124] : Str), ([46] : Str), ([63] : Str)]) rfl rfl el89 rfl gr9 rfl rfl rfl (.cons (CellsOf.one rfl) (.cons (CellsOf.one rfl) (.cons (CellsOf.one rfl) (.cons (CellsOf.one rfl) (.cons (CellsOf.one rfl) (.cons (CellsOf.one rfl) (.cons (CellsOf.one rfl) (.cons (CellsOf.one rfl) (.cons (CellsOf.one rfl) (.cons (CellsOf.one rfl) (.cons (CellsOf.one rfl) (.cons (CellsOf.one rfl) (.cons (CellsOf.one rfl) (.cons (CellsOf.one rfl) (.cons (CellsOf.one rfl) (.cons (CellsOf.one rfl) (.cons (CellsOf.one rfl) (.cons (CellsOf.one rfl) (.cons (CellsOf.one rfl) (.cons (CellsOf.one rfl) (.cons (CellsOf.one rfl) (.cons (CellsOf.one rfl) (.cons (CellsOf.one rfl) (.cons (CellsOf.one rfl) (.cons (CellsOf.one rfl) .nil)))))))))))))))))))))))))) <| WL.p rfl rfl rfl (.s 1 rfl .nil) (q_assign rfl) <| WL.nil <| QN.then_ <| W.ret ?_
 cases h
 exact QR.f1 rfl rfl (.t rfl) (.id _)
theorem ref01_one.con (k : Nat) (a0 : Str) (a1 : Int) (r : (Token × Int × Int)) (h : ref01_one k a0 a1 = some r) : Con Tryz.prog 141 [] [EqA (strV a0), EqA (.int .i64 a1)] (RA (TupA [AggA [EqA (.int .i64 r.1.fKind), EqA (strV r.1.fText), EqA (.int .i64 r.1.fLine)], EqA (.int .i64 r.2.1), EqA (.int .i64 r.2.2)])) := by
 unfold ref01_one at h
 refine Con.of (N := 110) Tryz.func141 rfl rfl rfl fun w0_ fg_ => W.seq <| W.region <| WL.w [] rfl (Wanted.plain rfl) rfl rfl .nil (w_alloc rfl z150 (l := [EqA (.int .i64 0), EqA (strV ([] : Str)), EqA (.int .i64 0)]) rfl) ?_
 rintro _ _ ⟨b5004, rfl, rfl⟩
 refine WL.p rfl rfl rfl (.k .nil) (q_assign rfl) <| WL.p rfl rfl rfl (.k .nil) (q_assign rfl) <| WL.nil <| QN.then_ <| W.seq <| W.region <| WL.p rfl rfl rfl (.s 0 rfl .nil) (q_move rfl) <| WL.p rfl rfl rfl (.s 1 rfl .nil) (q_move rfl) ?_
 obtain ⟨c5005, h⟩ := ite_n h
 refine WL.p rfl rfl rfl (.s 14 rfl (.s 15 rfl .nil)) (q_sindex rfl iss9 c5005.1 c5005.2) <| WL.p rfl rfl rfl (.s 16 rfl .nil) (q_assign rfl) <| WL.nil <| QN.then_ <| W.seq <| W.seq ?_
 refine W.jn1 (Γ := Unit) (fun (_ : Unit) (x22 : Bool) => [(0, EqA (strV a0)), (1, EqA (.int .i64 a1)), (4, EqA (.pointer (some ⟨b5004, 0, none⟩))), (7, EqA (.int .u8 (bt a0 a1))), (22, EqA (.bool x22))]) (fun (_ : Unit) (_ : Bool) => [BoxE b5004 [EqA (.int .i64 0), EqA (strV ([] : Str)), EqA (.int .i64 0)]]) h (fun _ x22 h => ?_) (fun j5010 Kj5010 h => ?_)
 ·refine QN.then_ ?_
  refine W.condP h rfl (fun hb5011 h => ?_) (fun hb5011 h => ?_)
  ·refine W.seq <| W.region <| WL.p rfl rfl rfl (.s 0 rfl .nil) (q_move rfl) <| WL.p rfl rfl rfl (.s 1 rfl .nil) (q_move rfl) <| WL.p rfl rfl rfl (.s 7 rfl .nil) (q_move rfl) ?_
   obtain ⟨t5012, ht5012, h⟩ := bind_s h
   refine WL.p rfl rfl rfl (.s 25 rfl .nil) (q_call (f := 152) (A := EqA (.bool t5012)) (xs := [.tmp 25]) («as» := [EqA (.int .u8 (bt a0 a1))]) rfl ca152 (ref01_digit.con k (bt a0 a1) t5012 ht5012) rfl) ?_
   obtain ⟨t5013, ht5013, h⟩ := bind_s h
   refine WL.p rfl rfl rfl (.s 23 rfl (.s 24 rfl (.s 26 rfl .nil))) (q_call (f := 153) (A := EqA (.int .i64 t5013)) (xs := [.tmp 23, .tmp 24, .tmp 26]) («as» := [EqA (strV a0), EqA (.int .i64 a1), EqA (.bool t5012)]) rfl ca153 (ref01_run.con k a0 a1 t5012 t5013 ht5013) rfl) <| WL.p rfl rfl rfl (.s 27 rfl .nil) (q_assign rfl) <| WL.nil <| QN.then_ <| W.seq <| W.region <| WL.p rfl rfl rfl (.k .nil) (q_assign rfl) <| WL.p rfl rfl rfl (.k .nil) (q_assign rfl) <| WL.nil <| QN.then_ <| W.seq <| W.seq <| W.region ?_
   refine WL.p rfl rfl rfl (.s 7 rfl .nil) (q_move rfl) ?_
   obtain ⟨t5014, ht5014, h⟩ := bind_s h
   refine WL.p rfl rfl rfl (.s 28 rfl .nil) (q_call (f := 152) (A := EqA (.bool t5014)) (xs := [.tmp 28]) («as» := [EqA (.int .u8 (bt a0 a1))]) rfl ca152 (ref01_digit.con k (bt a0 a1) t5014 ht5014) rfl) <| WL.nil <| QN.weaken (env' := [(29, _), (10, _), (9, _), (8, _), (4, _), (1, _), (0, _)]) (.one rfl (.one rfl (.one rfl (.one rfl (.one rfl (.one rfl (.one rfl (.nil _)))))))) <| QN.then_ ?_
   refine W.jn2 (Γ := Unit) (fun (_ : Unit) (x9 : Int) (x10 : Int) => [(0, EqA (strV a0)), (1, EqA (.int .i64 a1)), (4, EqA (.pointer (some ⟨b5004, 0, none⟩))), (8, EqA (.int .i64 t5013)), (9, EqA (.int .i64 x9)), (10, EqA (.int .i64 x10))]) (fun (_ : Unit) (_ : Int) (_ : Int) => [BoxE b5004 [EqA (.int .i64 0), EqA (strV ([] : Str)), EqA (.int .i64 0)]]) h (fun _ x9 x10 h => ?_) (fun j5017 Kj5017 h => ?_)
   ·refine QN.then_ <| W.seq <| W.seq <| W.region <| WL.p rfl rfl rfl (.s 8 rfl .nil) (q_move rfl) <| WL.p rfl rfl rfl (.s 10 rfl .nil) (q_move rfl) <| WL.p rfl rfl rfl (.s 30 rfl (.s 31 rfl .nil)) (q_int rfl rfl) <| WL.nil <| QN.then_ ?_
    refine W.condP h rfl (fun hb5018 h => ?_) (fun hb5018 h => ?_)
    ·refine W.seq <| W.region <| WL.p rfl rfl rfl .nil (q_build (is := []) (xs := []) (L := [EqA (.int .i64 0), EqA (strV ([] : Str)), EqA (.int .i64 0)]) rfl rfl z150 pl150 rfl rfl .nil rfl) <| WL.w0 [0] rfl (Wanted.plain rfl) rfl (.s 4 rfl (.s 33 rfl .nil)) (w_store (L := [EqA (.int .i64 0), EqA (strV ([] : Str)), EqA (.int .i64 0)]) rfl sh150 (CellsOf.agg _) rfl rfl (leB rfl) rfl) ?_
     rintro _ _ ⟨rfl, rfl⟩
     refine WL.p rfl rfl rfl (.k .nil) (q_assign rfl) <| WL.p rfl rfl rfl (.k .nil) (q_assign rfl) <| WL.nil <| QN.weaken (env' := [(6, _), (5, _), (4, _)]) (.one rfl (.one rfl (.one rfl (.nil _)))) <| QN.then_ <| W.ret <| QR.then_ <| QR.then_ ?_
     cases h
     exact QR.f3 rfl rfl (.cs (i := 0) rfl sh150 rfl rfl) (.t rfl) (.t rfl) (.id _)
    ·refine W.skip <| QN.then_ <| W.seq <| W.region <| WL.p rfl rfl rfl (.s 9 rfl .nil) (q_move rfl) <| WL.p rfl rfl rfl (.s 0 rfl .nil) (q_move rfl) <| WL.p rfl rfl rfl (.s 1 rfl .nil) (q_move rfl) <| WL.p rfl rfl rfl (.s 1 rfl .nil) (q_move rfl) <| WL.p rfl rfl rfl (.s 8 rfl .nil) (q_move rfl) ?_
     obtain ⟨c5019, h⟩ := ite_n h
     refine WL.p rfl rfl rfl (.s 37 rfl (.s 38 rfl .nil)) (q_addR rfl c5019) ?_
     obtain ⟨c5020, h⟩ := ite_n h
     refine WL.p rfl rfl rfl (.s 35 rfl (.s 36 rfl (.s 39 rfl .nil))) (q_ssubLH rfl iss9 c5020.1 c5020.2.1 c5020.2.2) <| WL.p rfl rfl rfl (.s 34 rfl (.s 40 rfl .nil)) (q_build (is := [0, 1]) (xs := [.tmp 34, .tmp 40]) (L := [EqA (.int .i64 x9), EqA (strV ((a0.take ((a1 + t5013) : Int).toNat).drop (a1 : Int).toNat)), EqA (.int .i64 0)]) rfl rfl z150 pl150 rfl rfl (.cons (CellsOf.one rfl) (.cons (CellsOf.one rfl) .nil)) rfl) <| WL.p rfl rfl rfl (.s 8 rfl .nil) (q_move rfl) <| WL.w0 [0] rfl (Wanted.plain rfl) rfl (.s 4 rfl (.s 41 rfl .nil)) (w_store (L := [EqA (.int .i64 x9), EqA (strV ((a0.take ((a1 + t5013) : Int).toNat).drop (a1 : Int).toNat)), EqA (.int .i64 0)]) rfl sh150 (CellsOf.agg _) rfl rfl (leB rfl) rfl) ?_
     rintro _ _ ⟨rfl, rfl⟩
     refine WL.p rfl rfl rfl (.s 42 rfl .nil) (q_assign rfl) <| WL.p rfl rfl rfl (.k .nil) (q_assign rfl) <| WL.nil <| QN.weaken (env' := [(6, _), (5, _), (4, _)]) (.one rfl (.one rfl (.one rfl (.nil _)))) <| QN.then_ <| W.ret <| QR.then_ ?_
     cases h
     exact QR.f3 rfl rfl (.cs (i := 0) rfl sh150 rfl rfl) (.t rfl) (.t rfl) (.id _)
   ·refine W.condP h rfl (fun hb5021 h => ?_) (fun hb5021 h => ?_)
    ·refine W.region <| WL.p rfl rfl rfl (.k .nil) (q_assign rfl) <| WL.p rfl rfl rfl (.k .nil) (q_assign rfl) <| WL.nil ?_
     exact QN.weaken (.one rfl (.one rfl (.one rfl (.one rfl (.one rfl (.one rfl (.nil _))))))) (Kj5017 () 2 9 h)
    ·refine W.skip ?_
     exact QN.weaken (.one rfl (.one rfl (.one rfl (.one rfl (.one rfl (.one rfl (.nil _))))))) (Kj5017 () 1 20 h)
  ·refine W.skip <| QN.then_ <| W.seq <| W.seq <| W.region <| WL.p rfl rfl rfl (.s 7 rfl .nil) (q_move rfl) <| WL.p rfl rfl rfl (.s 43 rfl (.k .nil)) (q_int rfl rfl) <| WL.nil <| QN.then_ ?_
   refine W.condP h rfl (fun hb5022 h => ?_) (fun hb5022 h => ?_)
   ·refine W.seq <| W.region <| WL.p rfl rfl rfl (.s 0 rfl .nil) (q_move rfl) <| WL.p rfl rfl rfl (.s 1 rfl .nil) (q_move rfl) ?_
    obtain ⟨t5023, ht5023, h⟩ := bind_s h
    refine WL.p rfl rfl rfl (.s 45 rfl (.s 46 rfl .nil)) (q_call (f := 154) (A := EqA (.int .i64 t5023)) (xs := [.tmp 45, .tmp 46]) («as» := [EqA (strV a0), EqA (.int .i64 a1)]) rfl ca154 (ref01_quoted.con k a0 a1 t5023 ht5023) rfl) <| WL.p rfl rfl rfl (.s 47 rfl .nil) (q_assign rfl) <| WL.nil <| QN.weaken (env' := [(11, _), (4, _), (1, _), (0, _)]) (.one rfl (.one rfl (.one rfl (.one rfl (.nil _))))) <| QN.then_ <| W.seq <| W.seq <| W.region <| WL.p rfl rfl rfl (.s 11 rfl .nil) (q_move rfl) <| WL.p rfl rfl rfl (.s 48 rfl (.k .nil)) (q_int rfl rfl) <| WL.nil <| QN.then_ ?_
    refine W.condP h rfl (fun hb5024 h => ?_) (fun hb5024 h => ?_)
    ·refine W.seq <| W.region <| WL.p rfl rfl rfl .nil (q_build (is := []) (xs := []) (L := [EqA (.int .i64 0), EqA (strV ([] : Str)), EqA (.int .i64 0)]) rfl rfl z150 pl150 rfl rfl .nil rfl) <| WL.w0 [0] rfl (Wanted.plain rfl) rfl (.s 4 rfl (.s 50 rfl .nil)) (w_store (L := [EqA (.int .i64 0), EqA (strV ([] : Str)), EqA (.int .i64 0)]) rfl sh150 (CellsOf.agg _) rfl rfl (leB rfl) rfl) ?_
     rintro _ _ ⟨rfl, rfl⟩
     refine WL.p rfl rfl rfl (.k .nil) (q_assign rfl) <| WL.p rfl rfl rfl (.k .nil) (q_assign rfl) <| WL.nil <| QN.then_ <| W.ret <| QR.then_ <| QR.then_ ?_
     cases h
     exact QR.f3 rfl rfl (.cs (i := 0) rfl sh150 rfl rfl) (.t rfl) (.t rfl) (.id _)
    ·refine W.skip <| QN.then_ <| W.seq <| W.seq <| W.region <| WL.p rfl rfl rfl (.s 11 rfl .nil) (q_move rfl) ?_
     obtain ⟨c5025, h⟩ := ite_n h
     refine WL.p rfl rfl rfl (.s 51 rfl (.k .nil)) (q_subR rfl c5025) <| WL.p rfl rfl rfl (.s 52 rfl (.k .nil)) (q_int rfl rfl) <| WL.nil <| QN.then_ ?_
     refine W.condP h rfl (fun hb5026 h => ?_) (fun hb5026 h => ?_)
     ·refine W.seq <| W.region <| WL.p rfl rfl rfl .nil (q_build (is := []) (xs := []) (L := [EqA (.int .i64 0), EqA (strV ([] : Str)), EqA (.int .i64 0)]) rfl rfl z150 pl150 rfl rfl .nil rfl) <| WL.w0 [0] rfl (Wanted.plain rfl) rfl (.s 4 rfl (.s 54 rfl .nil)) (w_store (L := [EqA (.int .i64 0), EqA (strV ([] : Str)), EqA (.int .i64 0)]) rfl sh150 (CellsOf.agg _) rfl rfl (leB rfl) rfl) ?_
      rintro _ _ ⟨rfl, rfl⟩
      refine WL.p rfl rfl rfl (.k .nil) (q_assign rfl) <| WL.p rfl rfl rfl (.k .nil) (q_assign rfl) <| WL.nil <| QN.weaken (env' := [(6, _), (5, _), (4, _)]) (.one rfl (.one rfl (.one rfl (.nil _)))) <| QN.then_ <| W.ret <| QR.then_ <| QR.then_ ?_
      cases h
      exact QR.f3 rfl rfl (.cs (i := 0) rfl sh150 rfl rfl) (.t rfl) (.t rfl) (.id _)
     ·refine W.skip <| QN.then_ <| W.seq <| W.region <| WL.p rfl rfl rfl (.s 0 rfl .nil) (q_move rfl) <| WL.p rfl rfl rfl (.s 1 rfl .nil) (q_move rfl) ?_
      obtain ⟨c5027, h⟩ := ite_n h
      refine WL.p rfl rfl rfl (.s 56 rfl (.k .nil)) (q_addR rfl c5027) <| WL.p rfl rfl rfl (.s 1 rfl .nil) (q_move rfl) <| WL.p rfl rfl rfl (.s 11 rfl .nil) (q_move rfl) ?_
      obtain ⟨c5028, h⟩ := ite_n h
      refine WL.p rfl rfl rfl (.s 58 rfl (.s 59 rfl .nil)) (q_addR rfl c5028) ?_
      obtain ⟨c5029, h⟩ := ite_n h
      refine WL.p rfl rfl rfl (.s 60 rfl (.k .nil)) (q_subR rfl c5029) ?_
      obtain ⟨c5030, h⟩ := ite_n h
      refine WL.p rfl rfl rfl (.s 55 rfl (.s 57 rfl (.s 61 rfl .nil))) (q_ssubLH rfl iss9 c5030.1 c5030.2.1 c5030.2.2) <| WL.p rfl rfl rfl (.k (.s 62 rfl .nil)) (q_build (is := [0, 1]) (xs := [.const (.int .i64 3), .tmp 62]) (L := [EqA (.int .i64 3), EqA (strV ((a0.take (((a1 + t5023) - 1) : Int).toNat).drop ((a1 + 1) : Int).toNat)), EqA (.int .i64 0)]) rfl rfl z150 pl150 rfl rfl (.cons (CellsOf.one rfl) (.cons (CellsOf.one rfl) .nil)) rfl) <| WL.p rfl rfl rfl (.s 11 rfl .nil) (q_move rfl) <| WL.w0 [0] rfl (Wanted.plain rfl) rfl (.s 4 rfl (.s 63 rfl .nil)) (w_store (L := [EqA (.int .i64 3), EqA (strV ((a0.take (((a1 + t5023) - 1) : Int).toNat).drop ((a1 + 1) : Int).toNat)), EqA (.int .i64 0)]) rfl sh150 (CellsOf.agg _) rfl rfl (leB rfl) rfl) ?_
      rintro _ _ ⟨rfl, rfl⟩
      refine WL.p rfl rfl rfl (.s 64 rfl .nil) (q_assign rfl) <| WL.p rfl rfl rfl (.k .nil) (q_assign rfl) <| WL.nil <| QN.weaken (env' := [(6, _), (5, _), (4, _)]) (.one rfl (.one rfl (.one rfl (.nil _)))) <| QN.then_ <| W.ret <| QR.then_ ?_
      cases h
      exact QR.f3 rfl rfl (.cs (i := 0) rfl sh150 rfl rfl) (.t rfl) (.t rfl) (.id _)
   ·refine W.skip <| QN.then_ <| W.seq <| W.region ?_
    obtain ⟨t5031, ht5031, h⟩ := bind_s h
    refine WL.p rfl rfl rfl .nil (q_call (f := 155) (A := SlcA kStr t5031) (xs := []) («as» := []) rfl ca155 (ref01_signs.con k  t5031 ht5031) rfl) <| WL.p rfl rfl rfl (.s 65 rfl .nil) (q_assign rfl) <| WL.nil <| QN.then_ <| W.seq <| W.seq <| W.region <| WL.p rfl rfl rfl (.k .nil) (q_assign rfl) <| WL.nil <| QN.then_ <| W.block ?_
    refine W.loop1 (Γ := Unit) (fun (_ : Unit) (x13 : Int) => [(0, EqA (strV a0)), (1, EqA (.int .i64 a1)), (4, EqA (.pointer (some ⟨b5004, 0, none⟩))), (12, SlcA kStr t5031), (13, EqA (.int .i64 x13))]) (fun (_ : Unit) (_ : Int) => [BoxE b5004 [EqA (.int .i64 0), EqA (strV ([] : Str)), EqA (.int .i64 0)]]) h () (.one rfl (.one rfl (.one rfl (.one rfl (.one rfl (.nil _)))))) rfl (fun rec0 K0 next0 _ x13 h => ?_)
    unfold ref01_one.b0 at h
    refine W.seq <| W.seq <| W.region <| WL.p rfl rfl rfl (.s 13 rfl .nil) (q_move rfl) <| WL.p rfl rfl rfl (.s 12 rfl .nil) (q_move rfl) <| WL.p rfl rfl rfl (.s 67 rfl .nil) (q_len rfl elS89) <| WL.p rfl rfl rfl (.s 66 rfl (.s 68 rfl .nil)) (q_int rfl rfl) <| WL.nil <| QN.then_ ?_
    refine W.condP h rfl (fun hb5096 h => ?_) (fun hb5096 h => ?_)
    ·refine W.skip <| QN.then_ <| W.seq <| W.block <| W.seq ?_
     refine W.jn1 (Γ := Unit) (fun (_ : Unit) (x98 : Bool) => [(0, EqA (strV a0)), (1, EqA (.int .i64 a1)), (4, EqA (.pointer (some ⟨b5004, 0, none⟩))), (12, SlcA kStr t5031), (13, EqA (.int .i64 x13)), (98, EqA (.bool x98))]) (fun (_ : Unit) (_ : Bool) => [BoxE b5004 [EqA (.int .i64 0), EqA (strV ([] : Str)), EqA (.int .i64 0)]]) h (fun _ x98 h => ?_) (fun j5112 Kj5112 h => ?_)
     ·refine QN.then_ ?_
      refine W.condP h rfl (fun hb5113 h => ?_) (fun hb5113 h => ?_)
      ·refine W.seq <| W.drawK [(0, false), (1, false), (2, false), (3, false), (4, false), (5, false), (6, false), (7, false), (8, false), (9, false)] [10, 11, 12] [[], [], [0, 1], [0, 1, 2], [0, 1, 2, 3], [], [], [5, 6], [5, 6, 7], [5, 6, 7, 8], [0, 1, 2, 3, 4], [0, 1, 2, 3, 4, 5, 6, 7, 8, 9, 10], [0, 1, 2, 3, 4, 5, 6, 7, 8, 9, 10, 11]] mx (by kernel_rfl) <| DK.cons rfl rfl (.p rfl (.s 12 rfl .nil) rfl (q_move rfl)) <| DK.cons rfl rfl (.p rfl (.s 13 rfl .nil) rfl (q_move rfl)) ?_
       obtain ⟨c5118, h⟩ := ite_n h
       refine DK.cons rfl rfl (.p rfl (.s 99 rfl (.s 100 rfl .nil)) rfl (q_index rfl el89 rfl c5118.1 c5118.2)) <| DK.cons rfl rfl (.p rfl (.s 101 rfl .nil) rfl (q_load rfl sh9)) <| DK.cons rfl rfl (.p rfl (.k (.s 102 rfl .nil)) rfl (q_build (is := [0, 1]) (xs := [.const (.int .i64 4), .tmp 102]) (L := [EqA (.int .i64 4), EqA (strV (rd t5031 x13)), EqA (.int .i64 0)]) rfl rfl z150 pl150 rfl rfl (.cons (CellsOf.one rfl) (.cons (CellsOf.one rfl) .nil)) rfl)) <| DK.cons rfl rfl (.p rfl (.s 12 rfl .nil) rfl (q_move rfl)) <| DK.cons rfl rfl (.p rfl (.s 13 rfl .nil) rfl (q_move rfl)) ?_
       obtain ⟨c5119, h⟩ := ite_n h
       refine DK.cons rfl rfl (.p rfl (.s 104 rfl (.s 105 rfl .nil)) rfl (q_index rfl el89 rfl c5119.1 c5119.2)) <| DK.cons rfl rfl (.p rfl (.s 106 rfl .nil) rfl (q_load rfl sh9)) <| DK.cons rfl rfl (.p rfl (.s 107 rfl .nil) rfl (q_slen (s := (rd t5031 x13)) rfl iss9)) <| DK.nil <| CSteps.w0 [0] rfl rfl rfl (.s 4 rfl (.s 103 rfl .nil)) rfl (w_store (L := [EqA (.int .i64 4), EqA (strV (rd t5031 x13)), EqA (.int .i64 0)]) rfl sh150 (CellsOf.agg _) rfl rfl (leB rfl) rfl) ?_
       rintro _ _ ⟨rfl, rfl⟩
       refine CSteps.p rfl rfl rfl (.s 108 rfl .nil) rfl (q_assign rfl) <| CSteps.p rfl rfl rfl (.k .nil) rfl (q_assign rfl) <| CSteps.nil <| QN.weaken (env' := [(6, _), (5, _), (4, _)]) (.one rfl (.one rfl (.one rfl (.nil _)))) <| QN.then_ <| W.ret <| QR.block <| QR.then_ <| QR.then_ <| QR.block <| QR.then_ ?_
       cases h
       exact QR.f3 rfl rfl (.cs (i := 0) rfl sh150 rfl rfl) (.t rfl) (.t rfl) (.id _)
      ·refine W.skip <| QN.block <| QN.then_ <| W.region <| WL.p rfl rfl rfl (.s 13 rfl .nil) (q_move rfl) ?_
       obtain ⟨c5120, h⟩ := ite_n h
       refine WL.p rfl rfl rfl (.s 70 rfl (.k .nil)) (q_addR rfl c5120) <| WL.p rfl rfl rfl (.s 71 rfl .nil) (q_assign rfl) <| WL.nil ?_
       exact next0 () (x13 + 1) _ h (.one rfl (.one rfl (.one rfl (.one rfl (.one rfl (.nil _))))))
     ·refine W.drawK [(0, false), (1, false), (2, false), (3, false), (4, false), (5, false), (6, false), (7, false), (8, false), (9, false), (10, false), (11, false), (12, false), (13, false), (14, false), (15, false), (16, false), (17, false), (18, false), (19, false), (20, false), (21, false), (22, false), (23, false), (24, false), (25, false), (26, false)] [] [[], [], [], [1, 2], [1, 2, 3], [1, 2, 3, 4], [0, 1, 2, 3, 4, 5], [], [7], [0, 1, 2, 3, 4, 5, 6, 7, 8], [0, 1, 2, 3, 4, 5, 6, 7, 8, 9], [0, 1, 2, 3, 4, 5, 6, 7, 8, 9, 10], [0, 1, 2, 3, 4, 5, 6, 7, 8, 9, 10], [0, 1, 2, 3, 4, 5, 6, 7, 8, 9, 10], [0, 1, 2, 3, 4, 5, 6, 7, 8, 9, 10], [0, 1, 2, 3, 4, 5, 6, 7, 8, 9, 10], [0, 1, 2, 3, 4, 5, 6, 7, 8, 9, 10, 14, 15], [0, 1, 2, 3, 4, 5, 6, 7, 8, 9, 10, 14, 15, 16], [0, 1, 2, 3, 4, 5, 6, 7, 8, 9, 10, 14, 15, 16, 17], [0, 1, 2, 3, 4, 5, 6, 7, 8, 9, 10, 13, 14, 15, 16, 17, 18], [0, 1, 2, 3, 4, 5, 6, 7, 8, 9, 10, 11, 12, 13, 14, 15, 16, 17, 18, 19], [0, 1, 2, 3, 4, 5, 6, 7, 8, 9, 10], [0, 1, 2, 3, 4, 5, 6, 7, 8, 9, 10], [0, 1, 2, 3, 4, 5, 6, 7, 8, 9, 10, 21, 22], [0, 1, 2, 3, 4, 5, 6, 7, 8, 9, 10, 21, 22, 23], [0, 1, 2, 3, 4, 5, 6, 7, 8, 9, 10, 11, 12, 13, 14, 15, 16, 17, 18, 19, 20, 21, 22, 23, 24], [0, 1, 2, 3, 4, 5, 6, 7, 8, 9, 10, 11, 12, 13, 14, 15, 16, 17, 18, 19, 20, 21, 22, 23, 24, 25]] mx (by kernel_rfl) <| DK.cons rfl rfl (.p rfl (.s 1 rfl .nil) rfl (q_move rfl)) <| DK.cons rfl rfl (.p rfl (.s 12 rfl .nil) rfl (q_move rfl)) <| DK.cons rfl rfl (.p rfl (.s 13 rfl .nil) rfl (q_move rfl)) ?_
      obtain ⟨c5121, h⟩ := ite_n h
      refine DK.cons rfl rfl (.p rfl (.s 73 rfl (.s 74 rfl .nil)) rfl (q_index rfl el89 rfl c5121.1 c5121.2)) <| DK.cons rfl rfl (.p rfl (.s 75 rfl .nil) rfl (q_load rfl sh9)) <| DK.cons rfl rfl (.p rfl (.s 76 rfl .nil) rfl (q_slen (s := (rd t5031 x13)) rfl iss9)) ?_
      obtain ⟨c5122, h⟩ := ite_n h
      refine DK.cons rfl rfl (.p rfl (.s 72 rfl (.s 77 rfl .nil)) rfl (q_addR rfl c5122)) <| DK.cons rfl rfl (.p rfl (.s 0 rfl .nil) rfl (q_move rfl)) <| DK.cons rfl rfl (.p rfl (.s 79 rfl .nil) rfl (q_slen (s := a0) rfl iss9)) <| DK.cons rfl rfl (.p rfl (.s 78 rfl (.s 80 rfl .nil)) rfl (q_int rfl rfl)) <| DK.cons rfl rfl (.p rfl (.s 81 rfl .nil) rfl (q_move rfl)) ?_
      rcases bif_s h with ⟨hb5123, h⟩ | ⟨hb5123, h⟩
      ·refine DK.cons rfl rfl (.gp rfl rfl rfl hb5123 (.s 0 rfl .nil) rfl (q_move rfl)) <| DK.cons rfl rfl (.gp rfl rfl rfl hb5123 (.s 1 rfl .nil) rfl (q_move rfl)) <| DK.cons rfl rfl (.gp rfl rfl rfl hb5123 (.s 1 rfl .nil) rfl (q_move rfl)) <| DK.cons rfl rfl (.gp rfl rfl rfl hb5123 (.s 12 rfl .nil) rfl (q_move rfl)) <| DK.cons rfl rfl (.gp rfl rfl rfl hb5123 (.s 13 rfl .nil) rfl (q_move rfl)) ?_
       obtain ⟨c5124, h⟩ := ite_n h
       refine DK.cons rfl rfl (.gp rfl rfl rfl hb5123 (.s 86 rfl (.s 87 rfl .nil)) rfl (q_index rfl el89 rfl c5124.1 c5124.2)) <| DK.cons rfl rfl (.gp rfl rfl rfl hb5123 (.s 88 rfl .nil) rfl (q_load rfl sh9)) <| DK.cons rfl rfl (.gp rfl rfl rfl hb5123 (.s 89 rfl .nil) rfl (q_slen (s := (rd t5031 x13)) rfl iss9)) ?_
       obtain ⟨c5125, h⟩ := ite_n h
       refine DK.cons rfl rfl (.gp rfl rfl rfl hb5123 (.s 85 rfl (.s 90 rfl .nil)) rfl (q_addR rfl c5125)) ?_
       obtain ⟨c5126, h⟩ := ite_n h
       refine DK.cons rfl rfl (.gp rfl rfl rfl hb5123 (.s 83 rfl (.s 84 rfl (.s 91 rfl .nil))) rfl (q_ssubLH rfl iss9 c5126.1 c5126.2.1 c5126.2.2)) <| DK.cons rfl rfl (.gp rfl rfl rfl hb5123 (.s 12 rfl .nil) rfl (q_move rfl)) <| DK.cons rfl rfl (.gp rfl rfl rfl hb5123 (.s 13 rfl .nil) rfl (q_move rfl)) ?_
       obtain ⟨c5127, h⟩ := ite_n h
       refine DK.cons rfl rfl (.gp rfl rfl rfl hb5123 (.s 93 rfl (.s 94 rfl .nil)) rfl (q_index rfl el89 rfl c5127.1 c5127.2)) <| DK.cons rfl rfl (.gp rfl rfl rfl hb5123 (.s 95 rfl .nil) rfl (q_load rfl sh9)) <| DK.cons rfl rfl (.gp rfl rfl rfl hb5123 (.s 92 rfl (.s 96 rfl .nil)) rfl (q_str (s := ((a0.take ((a1 + ((rd t5031 x13).length : Int)) : Int).toNat).drop (a1 : Int).toNat)) (t := (rd t5031 x13)) rfl)) <| DK.cons rfl rfl (.p rfl (.s 82 rfl (.s 97 rfl .nil)) rfl (q_pickT rfl hb5123)) <| DK.nil <| CSteps.nil ?_
       exact QN.weaken (.one rfl (.one rfl (.one rfl (.one rfl (.one rfl (.one rfl (.nil _))))))) (Kj5112 () (((a0.take ((a1 + ((rd t5031 x13).length : Int)) : Int).toNat).drop (a1 : Int).toNat) == (rd t5031 x13)) h)
      ·refine DK.cons rfl rfl (.off rfl rfl rfl hb5123) <| DK.cons rfl rfl (.off rfl rfl rfl hb5123) <| DK.cons rfl rfl (.off rfl rfl rfl hb5123) <| DK.cons rfl rfl (.off rfl rfl rfl hb5123) <| DK.cons rfl rfl (.off rfl rfl rfl hb5123) <| DK.cons rfl rfl (.off rfl rfl rfl hb5123) <| DK.cons rfl rfl (.off rfl rfl rfl hb5123) <| DK.cons rfl rfl (.off rfl rfl rfl hb5123) <| DK.cons rfl rfl (.off rfl rfl rfl hb5123) <| DK.cons rfl rfl (.off rfl rfl rfl hb5123) <| DK.cons rfl rfl (.off rfl rfl rfl hb5123) <| DK.cons rfl rfl (.off rfl rfl rfl hb5123) <| DK.cons rfl rfl (.off rfl rfl rfl hb5123) ?_
       refine DK.cons rfl rfl (.off rfl rfl rfl hb5123) <| DK.cons rfl rfl (.off rfl rfl rfl hb5123) <| DK.cons rfl rfl (.p rfl (.s 82 rfl (.k .nil)) rfl (q_pickF rfl hb5123)) <| DK.nil <| CSteps.nil ?_
       exact QN.weaken (.one rfl (.one rfl (.one rfl (.one rfl (.one rfl (.one rfl (.nil _))))))) (Kj5112 () false h)
    ·refine W.exit <| QX.then_ <| QX.then_ <| QX.here <| QN.weaken (env' := [(4, _)]) (.one rfl (.nil _)) <| QN.then_ <| W.seq <| W.region <| WL.p rfl rfl rfl .nil (q_build (is := []) (xs := []) (L := [EqA (.int .i64 0), EqA (strV ([] : Str)), EqA (.int .i64 0)]) rfl rfl z150 pl150 rfl rfl .nil rfl) <| WL.w0 [0] rfl (Wanted.plain rfl) rfl (.s 4 rfl (.s 109 rfl .nil)) (w_store (L := [EqA (.int .i64 0), EqA (strV ([] : Str)), EqA (.int .i64 0)]) rfl sh150 (CellsOf.agg _) rfl rfl (leB rfl) rfl) ?_
     rintro _ _ ⟨rfl, rfl⟩
     refine WL.p rfl rfl rfl (.k .nil) (q_assign rfl) <| WL.p rfl rfl rfl (.k .nil) (q_assign rfl) <| WL.nil <| QN.then_ <| W.ret ?_
     cases h
     exact QR.f3 rfl rfl (.cs (i := 0) rfl sh150 rfl rfl) (.t rfl) (.t rfl) (.id _)
 ·refine W.region <| WL.p rfl rfl rfl (.s 7 rfl .nil) (q_move rfl) ?_
  obtain ⟨t5128, ht5128, h⟩ := bind_s h
  refine WL.p rfl rfl rfl (.s 17 rfl .nil) (q_call (f := 151) (A := EqA (.bool t5128)) (xs := [.tmp 17]) («as» := [EqA (.int .u8 (bt a0 a1))]) rfl ca151 (ref01_letter.con k (bt a0 a1) t5128 ht5128) rfl) <| WL.p rfl rfl rfl (.s 18 rfl .nil) (q_move rfl) ?_
  rcases bif_s h with ⟨hb5129, h⟩ | ⟨hb5129, h⟩
  ·refine WL.skip (Unwanted.on rfl rfl rfl hb5129) rfl rfl <| WL.skip (Unwanted.on rfl rfl rfl hb5129) rfl rfl <| WL.p rfl rfl rfl (.s 19 rfl (.k .nil)) (q_pickT rfl hb5129) <| WL.nil ?_
   exact QN.weaken (.one rfl (.one rfl (.one rfl (.one rfl (.one rfl (.nil _)))))) (Kj5010 () true h)
  ·refine WL.q (Wanted.on rfl rfl rfl hb5129) rfl rfl (.s 7 rfl .nil) (q_move rfl).o ?_
   obtain ⟨t5130, ht5130, h⟩ := bind_s h
   refine WL.q (Wanted.on rfl rfl rfl hb5129) rfl rfl (.s 20 rfl .nil) (q_call (f := 152) (A := EqA (.bool t5130)) (xs := [.tmp 20]) («as» := [EqA (.int .u8 (bt a0 a1))]) rfl ca152 (ref01_digit.con k (bt a0 a1) t5130 ht5130) rfl).o <| WL.p rfl rfl rfl (.s 19 rfl (.s 21 rfl .nil)) (q_pickF rfl hb5129) <| WL.nil ?_
   exact QN.weaken (.one rfl (.one rfl (.one rfl (.one rfl (.one rfl (.nil _)))))) (Kj5010 () t5130 h)
theorem ref01_Right.con (k : Nat) (a0 : Token) (r : Bool) (h : ref01_Right k a0 = some r) : Con Tryz.prog 119 [] [AggA [EqA (.int .i64 a0.fKind), EqA (strV a0.fText), EqA (.int .i64 a0.fLine)]] (RA (EqA (.bool r))) := by
 unfold ref01_Right at h
 refine Con.of (N := 32) Tryz.func119 rfl rfl rfl fun w0_ fg_ => W.seq <| W.region <| WL.p rfl rfl rfl (.s 0 rfl .nil) (q_box rfl (CellsOf.agg _)) <| WL.p rfl rfl rfl (.k .nil) (q_assign rfl) <| WL.nil <| QN.then_ <| W.seq <| W.region <| WL.p rfl rfl rfl (.s 1 rfl .nil) (q_loadS rfl sh150 (leB rfl) rfl) ?_
 obtain ⟨t5131, ht5131, h⟩ := bind_s h
 refine WL.p rfl rfl rfl (.s 7 rfl .nil) (q_call (f := 140) (A := EqA (strV t5131)) (xs := [.tmp 7]) («as» := [AggA [EqA (.int .i64 a0.fKind), EqA (strV a0.fText), EqA (.int .i64 a0.fLine)]]) rfl ca140 (ref01_text.con k a0 t5131 ht5131) rfl) <| WL.p rfl rfl rfl (.s 8 rfl .nil) (q_assign rfl) <| WL.nil <| QN.then_ <| W.seq <| W.seq <| W.region <| WL.p rfl rfl rfl (.s 3 rfl .nil) (q_move rfl) <| WL.p rfl rfl rfl (.s 9 rfl (.k .nil)) (q_str (s := t5131) (t := ([] : Str)) rfl) <| WL.nil <| QN.then_ ?_
 refine W.condP h rfl (fun hb5132 h => ?_) (fun hb5132 h => ?_)
 ·refine W.seq <| W.region <| WL.p rfl rfl rfl (.k .nil) (q_assign rfl) <| WL.nil <| QN.weaken (env' := [(2, _)]) (.one rfl (.nil _)) <| QN.then_ <| W.ret <| QR.then_ ?_
  cases h
  exact QR.f1 rfl rfl (.t rfl) (.id _)
 ·refine W.skip <| QN.then_ <| W.seq <| W.region <| WL.p rfl rfl rfl (.s 3 rfl .nil) (q_move rfl) ?_
  obtain ⟨t5133, ht5133, h⟩ := bind_s h
  refine WL.p rfl rfl rfl (.s 12 rfl (.k .nil)) (q_call (f := 141) (A := TupA [AggA [EqA (.int .i64 t5133.1.fKind), EqA (strV t5133.1.fText), EqA (.int .i64 t5133.1.fLine)], EqA (.int .i64 t5133.2.1), EqA (.int .i64 t5133.2.2)]) (xs := [.tmp 12, .const (.int .i64 0)]) («as» := [EqA (strV t5131), EqA (.int .i64 0)]) rfl ca141 (ref01_one.con k t5131 0 t5133 ht5133) rfl) <| WL.p rfl rfl rfl (.s 13 rfl .nil) (q_move rfl) <| WL.p rfl rfl rfl (.s 11 rfl .nil) (q_extract rfl rfl) <| WL.p rfl rfl rfl (.s 11 rfl .nil) (q_extract rfl rfl) <| WL.p rfl rfl rfl (.s 11 rfl .nil) (q_extract rfl rfl) <| WL.w [] rfl (Wanted.plain rfl) rfl rfl .nil (w_alloc rfl z150 (l := [EqA (.int .i64 0), EqA (strV ([] : Str)), EqA (.int .i64 0)]) rfl) ?_
  rintro _ _ ⟨b5134, rfl, rfl⟩
  refine WL.w0 [0] rfl (Wanted.plain rfl) rfl (.s 4 rfl (.s 14 rfl .nil)) (w_store (L := [EqA (.int .i64 t5133.1.fKind), EqA (strV t5133.1.fText), EqA (.int .i64 t5133.1.fLine)]) rfl sh150 (CellsOf.agg _) rfl rfl (leB rfl) rfl) ?_
  rintro _ _ ⟨rfl, rfl⟩
  refine WL.p rfl rfl rfl (.s 15 rfl .nil) (q_assign rfl) <| WL.p rfl rfl rfl (.s 16 rfl .nil) (q_assign rfl) <| WL.nil <| QN.to (StTo.still [0] 4 rfl rfl) <| QN.weaken (env' := [(6, _), (5, _), (4, _), (3, _), (1, _)]) (.one rfl (.one rfl (.one rfl (.one rfl (.one rfl (.nil _)))))) <| QN.then_ <| W.seq ?_
  refine W.jn1 (Γ := Unit) (fun (_ : Unit) (x2 : Bool) => [(2, EqA (.bool x2))]) (fun (_ : Unit) (_ : Bool) => []) h (fun _ x2 h => ?_) (fun j5138 Kj5138 h => ?_)
  ·refine QN.then_ <| W.ret ?_
   cases h
   exact QR.f1 rfl rfl (.t rfl) (.id _)
  ·refine W.region <| WL.p rfl rfl rfl (.s 6 rfl .nil) (q_move rfl) <| WL.p rfl rfl rfl (.s 17 rfl (.k .nil)) (q_int rfl rfl) <| WL.p rfl rfl rfl (.s 18 rfl .nil) (q_move rfl) ?_
   rcases bif_s h with ⟨hb5139, h⟩ | ⟨hb5139, h⟩
   ·refine WL.q (Wanted.on rfl rfl rfl hb5139) rfl rfl (.s 5 rfl .nil) (q_move rfl).o <| WL.q (Wanted.on rfl rfl rfl hb5139) rfl rfl (.s 3 rfl .nil) (q_move rfl).o <| WL.q (Wanted.on rfl rfl rfl hb5139) rfl rfl (.s 21 rfl .nil) (q_slen (s := t5131) rfl iss9).o <| WL.q (Wanted.on rfl rfl rfl hb5139) rfl rfl (.s 20 rfl (.s 22 rfl .nil)) (q_int rfl rfl).o <| WL.p rfl rfl rfl (.s 19 rfl (.s 23 rfl .nil)) (q_pickT rfl hb5139) <| WL.p rfl rfl rfl (.s 24 rfl .nil) (q_move rfl) ?_
    rcases bif_s h with ⟨hb5140, h⟩ | ⟨hb5140, h⟩
    ·refine WL.q (Wanted.on rfl rfl rfl hb5140) rfl rfl (.s 4 rfl .nil) (q_field rfl fo150_0 rfl).o <| WL.q (Wanted.on rfl rfl rfl hb5140) rfl rfl (.s 26 rfl .nil) (q_load rfl sh3).o <| WL.q (Wanted.on rfl rfl rfl hb5140) rfl rfl (.s 1 rfl .nil) (q_field rfl fo150_0 rfl).o <| WL.q (Wanted.on rfl rfl rfl hb5140) rfl rfl (.s 28 rfl .nil) (q_load rfl sh3).o <| WL.q (Wanted.on rfl rfl rfl hb5140) rfl rfl (.s 27 rfl (.s 29 rfl .nil)) (q_int rfl rfl).o <| WL.p rfl rfl rfl (.s 25 rfl (.s 30 rfl .nil)) (q_pickT rfl hb5140) <| WL.p rfl rfl rfl (.s 31 rfl .nil) (q_assign rfl) <| WL.nil ?_
     exact QN.weaken (.one rfl (.nil _)) (Kj5138 () (t5133.1.fKind == a0.fKind) h)
    ·refine WL.skip (Unwanted.on rfl rfl rfl hb5140) rfl rfl <| WL.skip (Unwanted.on rfl rfl rfl hb5140) rfl rfl <| WL.skip (Unwanted.on rfl rfl rfl hb5140) rfl rfl <| WL.skip (Unwanted.on rfl rfl rfl hb5140) rfl rfl <| WL.skip (Unwanted.on rfl rfl rfl hb5140) rfl rfl <| WL.p rfl rfl rfl (.s 25 rfl (.k .nil)) (q_pickF rfl hb5140) <| WL.p rfl rfl rfl (.s 31 rfl .nil) (q_assign rfl) <| WL.nil ?_
     exact QN.weaken (.one rfl (.nil _)) (Kj5138 () false h)
   ·refine WL.skip (Unwanted.on rfl rfl rfl hb5139) rfl rfl <| WL.skip (Unwanted.on rfl rfl rfl hb5139) rfl rfl <| WL.skip (Unwanted.on rfl rfl rfl hb5139) rfl rfl <| WL.skip (Unwanted.on rfl rfl rfl hb5139) rfl rfl <| WL.p rfl rfl rfl (.s 19 rfl (.k .nil)) (q_pickF rfl hb5139) <| WL.p rfl rfl rfl (.s 24 rfl .nil) (q_move rfl) <| WL.skip (Unwanted.on rfl rfl rfl rfl) rfl rfl <| WL.skip (Unwanted.on rfl rfl rfl rfl) rfl rfl <| WL.skip (Unwanted.on rfl rfl rfl rfl) rfl rfl <| WL.skip (Unwanted.on rfl rfl rfl rfl) rfl rfl <| WL.skip (Unwanted.on rfl rfl rfl rfl) rfl rfl <| WL.p rfl rfl rfl (.s 25 rfl (.k .nil)) (q_pickF rfl rfl) <| WL.p rfl rfl rfl (.s 31 rfl .nil) (q_assign rfl) ?_
    refine WL.nil ?_
    exact QN.weaken (.one rfl (.nil _)) (Kj5138 () false h)
theorem ref01_IsName.con (k : Nat) (a0 : Str) (r : Bool) (h : ref01_IsName k a0 = some r) : Con Tryz.prog 98 [] [EqA (strV a0)] (RA (EqA (.bool r))) := by
 unfold ref01_IsName at h
 refine Con.of (N := 6) Tryz.func98 rfl rfl rfl fun w0_ fg_ => W.seq <| W.region <| WL.p rfl rfl rfl (.k .nil) (q_assign rfl) <| WL.nil <| QN.then_ <| W.seq <| W.region <| WL.p rfl rfl rfl (.s 0 rfl .nil) (q_move rfl) <| WL.p rfl rfl rfl (.k (.s 3 rfl .nil)) (q_build (is := [0, 1]) (xs := [.const (.int .i64 1), .tmp 3]) (L := [EqA (.int .i64 1), EqA (strV a0), EqA (.int .i64 0)]) rfl rfl z150 pl150 rfl rfl (.cons (CellsOf.one rfl) (.cons (CellsOf.one rfl) .nil)) rfl) ?_
 obtain ⟨t5141, ht5141, h⟩ := bind_s h
 refine WL.p rfl rfl rfl (.s 4 rfl .nil) (q_call (f := 119) (A := EqA (.bool t5141)) (xs := [.tmp 4]) («as» := [AggA [EqA (.int .i64 1), EqA (strV a0), EqA (.int .i64 0)]]) rfl ca119 (ref01_Right.con k (Token.mk 1 a0 0) t5141 ht5141) rfl) <| WL.p rfl rfl rfl (.s 5 rfl .nil) (q_assign rfl) <| WL.nil <| QN.then_ <| W.ret ?_
 cases h
 exact QR.f1 rfl rfl (.t rfl) (.id _)
theorem ref04_in.con (k : Nat) (a0 : Int) (a1 : Int) (a2 : Int) (r : Bool) (h : ref04_in k a0 a1 a2 = some r) : Con Tryz.prog 99 [] [EqA (.int .i64 a0), EqA (.int .i64 a1), EqA (.int .i64 a2)] (RA (EqA (.bool r))) := by
 unfold ref04_in at h
 refine Con.of (N := 15) Tryz.func99 rfl rfl rfl fun w0_ fg_ => W.seq <| W.region <| WL.p rfl rfl rfl (.k .nil) (q_assign rfl) <| WL.nil <| QN.then_ <| W.seq ?_
 refine W.jn1 (Γ := Unit) (fun (_ : Unit) (x6 : Bool) => [(6, EqA (.bool x6))]) (fun (_ : Unit) (_ : Bool) => []) h (fun _ x6 h => ?_) (fun j5144 Kj5144 h => ?_)
 ·refine QN.then_ <| W.ret ?_
  cases h
  exact QR.f1 rfl rfl (.t rfl) (.id _)
 ·refine W.region <| WL.p rfl rfl rfl (.s 0 rfl .nil) (q_move rfl) <| WL.p rfl rfl rfl (.s 1 rfl .nil) (q_move rfl) <| WL.p rfl rfl rfl (.s 7 rfl (.s 8 rfl .nil)) (q_int rfl rfl) <| WL.p rfl rfl rfl (.s 9 rfl .nil) (q_move rfl) ?_
  rcases bif_s h with ⟨hb5145, h⟩ | ⟨hb5145, h⟩
  ·refine WL.q (Wanted.on rfl rfl rfl hb5145) rfl rfl (.s 0 rfl .nil) (q_move rfl).o <| WL.q (Wanted.on rfl rfl rfl hb5145) rfl rfl (.s 2 rfl .nil) (q_move rfl).o <| WL.q (Wanted.on rfl rfl rfl hb5145) rfl rfl (.s 11 rfl (.s 12 rfl .nil)) (q_int rfl rfl).o <| WL.p rfl rfl rfl (.s 10 rfl (.s 13 rfl .nil)) (q_pickT rfl hb5145) <| WL.p rfl rfl rfl (.s 14 rfl .nil) (q_assign rfl) <| WL.nil ?_
   exact QN.weaken (.one rfl (.nil _)) (Kj5144 () (decide (a0 ≤ a2)) h)
  ·refine WL.skip (Unwanted.on rfl rfl rfl hb5145) rfl rfl <| WL.skip (Unwanted.on rfl rfl rfl hb5145) rfl rfl <| WL.skip (Unwanted.on rfl rfl rfl hb5145) rfl rfl <| WL.p rfl rfl rfl (.s 10 rfl (.k .nil)) (q_pickF rfl hb5145) <| WL.p rfl rfl rfl (.s 14 rfl .nil) (q_assign rfl) <| WL.nil ?_
   exact QN.weaken (.one rfl (.nil _)) (Kj5144 () false h)
theorem ref04_attrs.con : ∀ (k : Nat) (a0 : Types) (a1 : Int) (r : (List Attr)) (_ : ref04_attrs k a0 a1 = some r), Con Tryz.prog 100 [] [AggA [SlcA kNodeType a0.fNodes, SlcA kEdgeType a0.fEdges], EqA (.int .i64 a1)] (RA (SlcA kAttr r)) := by
 intro k
 induction k with
 | zero => intro a0 a1 r h; cases h
 | succ k ih =>
  intro a0 a1 r h
  change ref04_attrs.main (ref04_attrs k) k a0 a1 = some r at h
  unfold ref04_attrs.main at h
  refine Con.of (N := 24) Tryz.func100 rfl rfl rfl fun w0_ fg_ => W.seq <| W.region <| WL.p rfl rfl rfl (.s 0 rfl .nil) (q_box rfl (CellsOf.agg _)) <| WL.p rfl rfl rfl (.k .nil) (q_assign rfl) <| WL.nil <| QN.then_ <| W.seq <| W.seq <| W.region <| WL.p rfl rfl rfl (.s 1 rfl .nil) (q_move rfl) <| WL.p rfl rfl rfl (.s 5 rfl (.k .nil)) (q_int rfl rfl) <| WL.nil ?_
  refine QN.then_ ?_
  refine W.condP h rfl (fun hb5152 h => ?_) (fun hb5152 h => ?_)
  ·refine W.seq <| W.region <| WL.p rfl rfl rfl (.k .nil) (q_assign rfl) <| WL.nil <| QN.then_ <| W.ret <| QR.then_ ?_
   cases h
   exact QR.f1 rfl rfl (.t rfl) (.imp (Imp.nil kAttr))
  ·refine W.skip <| QN.then_ <| W.seq <| W.drawK [(0, false), (1, false), (2, false), (3, false), (4, false), (5, false), (6, false), (7, false), (8, false), (10, false), (11, false), (12, false), (13, false), (14, false), (15, false)] [9, 16, 17] [[], [], [], [2], [], [2, 3, 4], [2, 3, 4, 5], [2, 3, 4, 5, 6], [1, 2, 3, 4, 5, 6, 7], [0, 1, 2, 3, 4, 5, 6, 7, 8], [], [10], [], [10, 11, 12], [10, 11, 12, 13], [10, 11, 12, 13, 14], [0, 1, 2, 3, 4, 5, 6, 7, 8, 9, 10, 11, 12, 13, 14, 15], [0, 1, 2, 3, 4, 5, 6, 7, 8, 9, 10, 11, 12, 13, 14, 15, 16]] mx (by kernel_rfl) <| DK.cons rfl rfl (.p rfl .nil rfl (q_lit0 rfl el92 gr91)) <| DK.cons rfl rfl (.p rfl (.s 2 rfl .nil) rfl (q_loadS rfl sh25 (leB rfl) rfl)) <| DK.cons rfl rfl (.p rfl (.s 2 rfl .nil) rfl (q_field rfl fo25_0 rfl)) <| DK.cons rfl rfl (.p rfl (.s 9 rfl .nil) rfl (q_load rfl sh22)) <| DK.cons rfl rfl (.p rfl (.s 1 rfl .nil) rfl (q_move rfl)) ?_
   obtain ⟨c5167, h⟩ := ite_n h
   refine DK.cons rfl rfl (.p rfl (.s 10 rfl (.s 11 rfl .nil)) rfl (q_index rfl el22 rfl c5167.1 c5167.2)) <| DK.cons rfl rfl (.p rfl (.s 12 rfl .nil) rfl (q_field rfl fo94_1 rfl)) <| DK.cons rfl rfl (.p rfl (.s 13 rfl .nil) rfl (q_load rfl sh3)) ?_
   obtain ⟨t5168, ht5168, h⟩ := bind_s h
   refine DK.cons rfl rfl (.p rfl (.s 8 rfl (.s 14 rfl .nil)) rfl (q_call (f := 100) (A := SlcA kAttr t5168) (xs := [.tmp 8, .tmp 14]) («as» := [AggA [SlcA kNodeType a0.fNodes, SlcA kEdgeType a0.fEdges], EqA (.int .i64 ((rd a0.fNodes a1).fParent))]) rfl ca100 (ih a0 ((rd a0.fNodes a1).fParent) t5168 ht5168) rfl)) ?_
   obtain ⟨c5169, h⟩ := ite_n h
   refine DK.cons rfl rfl (.p rfl (.s 2 rfl .nil) rfl (q_field rfl fo25_0 rfl)) <| DK.cons rfl rfl (.p rfl (.s 17 rfl .nil) rfl (q_load rfl sh22)) <| DK.cons rfl rfl (.p rfl (.s 1 rfl .nil) rfl (q_move rfl)) ?_
   obtain ⟨c5171, h⟩ := ite_n h
   refine DK.cons rfl rfl (.p rfl (.s 18 rfl (.s 19 rfl .nil)) rfl (q_index rfl el22 rfl c5171.1 c5171.2)) <| DK.cons rfl rfl (.p rfl (.s 20 rfl .nil) rfl (q_field rfl fo94_3 rfl)) <| DK.cons rfl rfl (.p rfl (.s 21 rfl .nil) rfl (q_load rfl sh92)) ?_
   obtain ⟨c5172, h⟩ := ite_n h
   refine DK.nil <| CSteps.w [] rfl rfl rfl rfl (.s 7 rfl (.s 15 rfl .nil)) rfl (w_appendZ (kd := kAttr) rfl el92 rfl gr91 c5169) ?_
   rintro _ _ ⟨v5170, rfl, rfl⟩
   refine CSteps.w [0] rfl rfl rfl rfl (.s 16 rfl (.s 22 rfl .nil)) rfl (w_append (kd := kAttr) rfl el92 rfl gr91 c5172) ?_
   rintro _ _ ⟨v5173, rfl, rfl⟩
   refine CSteps.p rfl rfl rfl (.s 23 rfl .nil) rfl (q_assign rfl) <| CSteps.nil <| QN.weaken (env' := [(4, _)]) (.one rfl (.nil _)) <| QN.then_ <| W.ret ?_
   cases h
   exact QR.f1 rfl rfl (.t rfl) (.slc 0 rfl)
theorem ref04_names.con (k : Nat) (a0 : (List Str)) (r : Int) (h : ref04_names k a0 = some r) : Con Tryz.prog 120 [] [SlcA kStr a0] (RA (EqA (.int .i64 r))) := by
 unfold ref04_names at h
 refine Con.of (N := 34) Tryz.func120 rfl rfl rfl fun w0_ fg_ => W.seq <| W.region <| WL.p rfl rfl rfl (.k .nil) (q_assign rfl) <| WL.nil <| QN.then_ <| W.seq <| W.seq <| W.region <| WL.p rfl rfl rfl (.s 0 rfl .nil) (q_move rfl) <| WL.p rfl rfl rfl (.s 5 rfl .nil) (q_len rfl elS89) <| WL.p rfl rfl rfl (.s 6 rfl (.k .nil)) (q_int rfl rfl) <| WL.nil ?_
 refine QN.then_ ?_
 refine W.condP h rfl (fun hb5174 h => ?_) (fun hb5174 h => ?_)
 ·refine W.seq <| W.region <| WL.p rfl rfl rfl (.k .nil) (q_assign rfl) <| WL.nil <| QN.then_ <| W.ret <| QR.then_ ?_
  cases h
  exact QR.f1 rfl rfl (.t rfl) (.id _)
 ·refine W.skip <| QN.then_ <| W.seq <| W.seq <| W.region <| WL.p rfl rfl rfl (.k .nil) (q_assign rfl) <| WL.nil <| QN.then_ <| W.block ?_
  refine W.loop1 (Γ := Unit) (fun (_ : Unit) (x3 : Int) => [(0, SlcA kStr a0), (3, EqA (.int .i64 x3))]) (fun (_ : Unit) (_ : Int) => []) h () (.one rfl (.one rfl (.nil _))) rfl (fun rec0 K0 next0 _ x3 h => ?_)
  unfold ref04_names.b0 at h
  refine W.seq <| W.seq <| W.region <| WL.p rfl rfl rfl (.s 3 rfl .nil) (q_move rfl) <| WL.p rfl rfl rfl (.s 0 rfl .nil) (q_move rfl) <| WL.p rfl rfl rfl (.s 9 rfl .nil) (q_len rfl elS89) <| WL.p rfl rfl rfl (.s 8 rfl (.s 10 rfl .nil)) (q_int rfl rfl) <| WL.nil <| QN.then_ ?_
  refine W.condP h rfl (fun hb5243 h => ?_) (fun hb5243 h => ?_)
  ·refine W.skip <| QN.then_ <| W.seq <| W.block <| W.seq <| W.seq <| W.region <| WL.p rfl rfl rfl (.s 0 rfl .nil) (q_move rfl) <| WL.p rfl rfl rfl (.s 3 rfl .nil) (q_move rfl) ?_
   obtain ⟨c5244, h⟩ := ite_n h
   refine WL.p rfl rfl rfl (.s 14 rfl (.s 15 rfl .nil)) (q_index rfl el89 rfl c5244.1 c5244.2) <| WL.p rfl rfl rfl (.s 16 rfl .nil) (q_load rfl sh9) ?_
   obtain ⟨t5245, ht5245, h⟩ := bind_s h
   refine WL.p rfl rfl rfl (.s 17 rfl .nil) (q_call (f := 98) (A := EqA (.bool t5245)) (xs := [.tmp 17]) («as» := [EqA (strV (rd a0 x3))]) rfl ca98 (ref01_IsName.con k (rd a0 x3) t5245 ht5245) rfl) <| WL.p rfl rfl rfl (.s 18 rfl .nil) (q_not rfl) <| WL.nil <| QN.weaken (env' := [(19, _), (3, _), (0, _)]) (.one rfl (.one rfl (.one rfl (.nil _)))) <| QN.then_ ?_
   refine W.condP h rfl (fun hb5246 h => ?_) (fun hb5246 h => ?_)
   ·refine W.seq <| W.region <| WL.p rfl rfl rfl (.k .nil) (q_assign rfl) <| WL.nil <| QN.then_ <| W.ret <| QR.then_ <| QR.block <| QR.then_ <| QR.then_ <| QR.block <| QR.then_ ?_
    cases h
    exact QR.f1 rfl rfl (.t rfl) (.id _)
   ·refine W.skip <| QN.then_ <| W.seq <| W.region <| WL.p rfl rfl rfl (.k .nil) (q_assign rfl) <| WL.nil <| QN.then_ <| W.block ?_
    refine W.loop1 (Γ := Unit) (fun (_ : Unit) (x4 : Int) => [(0, SlcA kStr a0), (3, EqA (.int .i64 x3)), (4, EqA (.int .i64 x4))]) (fun (_ : Unit) (_ : Int) => []) h () (.one rfl (.one rfl (.one rfl (.nil _)))) rfl (fun rec1 K1 next1 _ x4 h => ?_)
    unfold ref04_names.b1 at h
    refine W.seq <| W.seq <| W.region <| WL.p rfl rfl rfl (.s 4 rfl .nil) (q_move rfl) <| WL.p rfl rfl rfl (.s 3 rfl .nil) (q_move rfl) <| WL.p rfl rfl rfl (.s 20 rfl (.s 21 rfl .nil)) (q_int rfl rfl) <| WL.nil <| QN.then_ ?_
    refine W.condP h rfl (fun hb5267 h => ?_) (fun hb5267 h => ?_)
    ·refine W.skip <| QN.then_ <| W.seq <| W.block <| W.seq <| W.drawK [(0, false), (1, false), (2, false), (3, false), (4, false), (5, false), (6, false), (7, false), (8, false)] [] [[], [], [0, 1], [0, 1, 2], [], [], [4, 5], [4, 5, 6], [0, 1, 2, 3, 4, 5, 6, 7]] mx (by kernel_rfl) <| DK.cons rfl rfl (.p rfl (.s 0 rfl .nil) rfl (q_move rfl)) <| DK.cons rfl rfl (.p rfl (.s 4 rfl .nil) rfl (q_move rfl)) ?_
     obtain ⟨c5272, h⟩ := ite_n h
     refine DK.cons rfl rfl (.p rfl (.s 25 rfl (.s 26 rfl .nil)) rfl (q_index rfl el89 rfl c5272.1 c5272.2)) <| DK.cons rfl rfl (.p rfl (.s 27 rfl .nil) rfl (q_load rfl sh9)) <| DK.cons rfl rfl (.p rfl (.s 0 rfl .nil) rfl (q_move rfl)) <| DK.cons rfl rfl (.p rfl (.s 3 rfl .nil) rfl (q_move rfl)) ?_
     obtain ⟨c5273, h⟩ := ite_n h
     refine DK.cons rfl rfl (.p rfl (.s 29 rfl (.s 30 rfl .nil)) rfl (q_index rfl el89 rfl c5273.1 c5273.2)) <| DK.cons rfl rfl (.p rfl (.s 31 rfl .nil) rfl (q_load rfl sh9)) <| DK.cons rfl rfl (.p rfl (.s 28 rfl (.s 32 rfl .nil)) rfl (q_str (s := (rd a0 x4)) (t := (rd a0 x3)) rfl)) <| DK.nil <| CSteps.nil <| QN.weaken (env' := [(33, _), (4, _), (3, _), (0, _)]) (.one rfl (.one rfl (.one rfl (.one rfl (.nil _))))) <| QN.then_ ?_
     refine W.condP h rfl (fun hb5274 h => ?_) (fun hb5274 h => ?_)
     ·refine W.seq <| W.region <| WL.p rfl rfl rfl (.k .nil) (q_assign rfl) <| WL.nil <| QN.then_ <| W.ret <| QR.block <| QR.then_ <| QR.then_ <| QR.block <| QR.block <| QR.then_ <| QR.then_ ?_
      refine QR.block <| QR.then_ ?_
      cases h
      exact QR.f1 rfl rfl (.t rfl) (.id _)
     ·refine W.skip <| QN.block <| QN.then_ <| W.region <| WL.p rfl rfl rfl (.s 4 rfl .nil) (q_move rfl) ?_
      obtain ⟨c5275, h⟩ := ite_n h
      refine WL.p rfl rfl rfl (.s 23 rfl (.k .nil)) (q_addR rfl c5275) <| WL.p rfl rfl rfl (.s 24 rfl .nil) (q_assign rfl) <| WL.nil ?_
      exact next1 () (x4 + 1) _ h (.one rfl (.one rfl (.one rfl (.nil _))))
    ·refine W.exit <| QX.then_ <| QX.then_ <| QX.here <| QN.block <| QN.then_ <| W.region <| WL.p rfl rfl rfl (.s 3 rfl .nil) (q_move rfl) ?_
     obtain ⟨c5276, h⟩ := ite_n h
     refine WL.p rfl rfl rfl (.s 12 rfl (.k .nil)) (q_addR rfl c5276) <| WL.p rfl rfl rfl (.s 13 rfl .nil) (q_assign rfl) <| WL.nil ?_
     exact next0 () (x3 + 1) _ h (.one rfl (.one rfl (.nil _)))
  ·refine W.exit <| QX.then_ <| QX.then_ <| QX.here <| QN.then_ <| W.seq <| W.region <| WL.p rfl rfl rfl (.k .nil) (q_assign rfl) <| WL.nil <| QN.then_ <| W.ret ?_
   cases h
   exact QR.f1 rfl rfl (.t rfl) (.id _)
theorem ref04_attribute.con (k : Nat) (a0 : Attr) (r : Int) (h : ref04_attribute k a0 = some r) : Con Tryz.prog 101 [] [AggA [EqA (strV a0.fName), EqA (.int .i64 a0.fLow), EqA (.int .i64 a0.fHigh), SlcA kStr a0.fNames]] (RA (EqA (.int .i64 r))) := by
 unfold ref04_attribute at h
 refine Con.of (N := 38) Tryz.func101 rfl rfl rfl fun w0_ fg_ => W.seq <| W.region <| WL.p rfl rfl rfl (.s 0 rfl .nil) (q_box rfl (CellsOf.agg _)) <| WL.p rfl rfl rfl (.k .nil) (q_assign rfl) <| WL.nil <| QN.then_ <| W.seq <| W.seq <| W.region <| WL.p rfl rfl rfl (.s 1 rfl .nil) (q_field rfl fo91_3 rfl) <| WL.p rfl rfl rfl (.s 4 rfl .nil) (q_load rfl sh89) <| WL.p rfl rfl rfl (.s 5 rfl .nil) (q_len rfl elS89) ?_
 refine WL.p rfl rfl rfl (.s 6 rfl (.k .nil)) (q_int rfl rfl) <| WL.nil <| QN.then_ ?_
 refine W.condP h rfl (fun hb5277 h => ?_) (fun hb5277 h => ?_)
 ·refine W.seq <| W.seq ?_
  refine W.jn1 (Γ := Unit) (fun (_ : Unit) (x19 : Bool) => [(19, EqA (.bool x19))]) (fun (_ : Unit) (_ : Bool) => []) h (fun _ x19 h => ?_) (fun j5282 Kj5282 h => ?_)
  ·refine QN.then_ ?_
   refine W.condP h rfl (fun hb5283 h => ?_) (fun hb5283 h => ?_)
   ·refine W.seq <| W.region <| WL.p rfl rfl rfl (.k .nil) (q_assign rfl) <| WL.nil <| QN.then_ <| W.ret <| QR.then_ <| QR.then_ ?_
    cases h
    exact QR.f1 rfl rfl (.t rfl) (.id _)
   ·refine W.skip <| QN.then_ <| W.seq <| W.region <| WL.p rfl rfl rfl (.k .nil) (q_assign rfl) <| WL.nil <| QN.then_ <| W.ret <| QR.then_ ?_
    cases h
    exact QR.f1 rfl rfl (.t rfl) (.id _)
  ·refine W.region <| WL.p rfl rfl rfl (.s 1 rfl .nil) (q_field rfl fo91_1 rfl) <| WL.p rfl rfl rfl (.s 8 rfl .nil) (q_load rfl sh3) ?_
   obtain ⟨t5284, ht5284, h⟩ := bind_s h
   refine WL.p rfl rfl rfl (.s 9 rfl (.k (.k .nil))) (q_call (f := 99) (A := EqA (.bool t5284)) (xs := [.tmp 9, .const (.int .i64 (-1000000)), .const (.int .i64 1000000)]) («as» := [EqA (.int .i64 a0.fLow), EqA (.int .i64 (-1000000)), EqA (.int .i64 1000000)]) rfl ca99 (ref04_in.con k a0.fLow (-1000000) 1000000 t5284 ht5284) rfl) <| WL.p rfl rfl rfl (.s 10 rfl .nil) (q_not rfl) <| WL.p rfl rfl rfl (.s 11 rfl .nil) (q_move rfl) ?_
   rcases bif_s h with ⟨hb5285, h⟩ | ⟨hb5285, h⟩
   ·refine WL.skip (Unwanted.on rfl rfl rfl hb5285) rfl rfl <| WL.skip (Unwanted.on rfl rfl rfl hb5285) rfl rfl <| WL.skip (Unwanted.on rfl rfl rfl hb5285) rfl rfl <| WL.skip (Unwanted.on rfl rfl rfl hb5285) rfl rfl <| WL.skip (Unwanted.on rfl rfl rfl hb5285) rfl rfl <| WL.skip (Unwanted.on rfl rfl rfl hb5285) rfl rfl <| WL.p rfl rfl rfl (.s 12 rfl (.k .nil)) (q_pickT rfl hb5285) <| WL.nil ?_
    exact QN.weaken (.one rfl (.nil _)) (Kj5282 () true h)
   ·refine WL.q (Wanted.on rfl rfl rfl hb5285) rfl rfl (.s 1 rfl .nil) (q_field rfl fo91_2 rfl).o <| WL.q (Wanted.on rfl rfl rfl hb5285) rfl rfl (.s 13 rfl .nil) (q_load rfl sh3).o <| WL.q (Wanted.on rfl rfl rfl hb5285) rfl rfl (.s 1 rfl .nil) (q_field rfl fo91_1 rfl).o <| WL.q (Wanted.on rfl rfl rfl hb5285) rfl rfl (.s 15 rfl .nil) (q_load rfl sh3).o ?_
    obtain ⟨t5286, ht5286, h⟩ := bind_s h
    refine WL.q (Wanted.on rfl rfl rfl hb5285) rfl rfl (.s 14 rfl (.s 16 rfl (.k .nil))) (q_call (f := 99) (A := EqA (.bool t5286)) (xs := [.tmp 14, .tmp 16, .const (.int .i64 1000000)]) («as» := [EqA (.int .i64 a0.fHigh), EqA (.int .i64 a0.fLow), EqA (.int .i64 1000000)]) rfl ca99 (ref04_in.con k a0.fHigh a0.fLow 1000000 t5286 ht5286) rfl).o <| WL.q (Wanted.on rfl rfl rfl hb5285) rfl rfl (.s 17 rfl .nil) (q_not rfl).o <| WL.p rfl rfl rfl (.s 12 rfl (.s 18 rfl .nil)) (q_pickF rfl hb5285) <| WL.nil ?_
    exact QN.weaken (.one rfl (.nil _)) (Kj5282 () (!t5286) h)
 ·refine W.skip <| QN.then_ <| W.seq <| W.seq <| W.region <| WL.p rfl rfl rfl (.s 1 rfl .nil) (q_field rfl fo91_3 rfl) <| WL.p rfl rfl rfl (.s 20 rfl .nil) (q_load rfl sh89) ?_
  obtain ⟨t5287, ht5287, h⟩ := bind_s h
  refine WL.p rfl rfl rfl (.s 21 rfl .nil) (q_call (f := 120) (A := EqA (.int .i64 t5287)) (xs := [.tmp 21]) («as» := [SlcA kStr a0.fNames]) rfl ca120 (ref04_names.con k a0.fNames t5287 ht5287) rfl) <| WL.p rfl rfl rfl (.s 22 rfl .nil) (q_assign rfl) <| WL.nil <| QN.weaken (env' := [(3, _), (1, _)]) (.one rfl (.one rfl (.nil _))) <| QN.then_ <| W.seq <| W.region <| WL.p rfl rfl rfl (.s 3 rfl .nil) (q_move rfl) <| WL.p rfl rfl rfl (.s 23 rfl (.k .nil)) (q_int rfl rfl) <| WL.nil <| QN.then_ ?_
  refine W.condP h rfl (fun hb5288 h => ?_) (fun hb5288 h => ?_)
  ·refine W.seq <| W.region <| WL.p rfl rfl rfl (.s 3 rfl .nil) (q_move rfl) <| WL.p rfl rfl rfl (.s 25 rfl .nil) (q_assign rfl) <| WL.nil <| QN.then_ <| W.ret <| QR.then_ ?_
   cases h
   exact QR.f1 rfl rfl (.t rfl) (.id _)
  ·refine W.skip <| QN.then_ <| W.seq <| W.seq ?_
   refine W.jn1 (Γ := Unit) (fun (_ : Unit) (x37 : Bool) => [(37, EqA (.bool x37))]) (fun (_ : Unit) (_ : Bool) => []) h (fun _ x37 h => ?_) (fun j5292 Kj5292 h => ?_)
   ·refine QN.then_ ?_
    refine W.condP h rfl (fun hb5293 h => ?_) (fun hb5293 h => ?_)
    ·refine W.seq <| W.region <| WL.p rfl rfl rfl (.k .nil) (q_assign rfl) <| WL.nil <| QN.then_ <| W.ret <| QR.then_ ?_
     cases h
     exact QR.f1 rfl rfl (.t rfl) (.id _)
    ·refine W.skip <| QN.then_ <| W.seq <| W.region <| WL.p rfl rfl rfl (.k .nil) (q_assign rfl) <| WL.nil <| QN.then_ <| W.ret ?_
     cases h
     exact QR.f1 rfl rfl (.t rfl) (.id _)
   ·refine W.region <| WL.p rfl rfl rfl (.s 1 rfl .nil) (q_field rfl fo91_1 rfl) <| WL.p rfl rfl rfl (.s 26 rfl .nil) (q_load rfl sh3) <| WL.p rfl rfl rfl (.s 27 rfl (.k .nil)) (q_int rfl rfl) <| WL.p rfl rfl rfl (.s 28 rfl .nil) (q_move rfl) ?_
    rcases bif_s h with ⟨hb5294, h⟩ | ⟨hb5294, h⟩
    ·refine WL.skip (Unwanted.on rfl rfl rfl hb5294) rfl rfl <| WL.skip (Unwanted.on rfl rfl rfl hb5294) rfl rfl <| WL.skip (Unwanted.on rfl rfl rfl hb5294) rfl rfl <| WL.skip (Unwanted.on rfl rfl rfl hb5294) rfl rfl <| WL.skip (Unwanted.on rfl rfl rfl hb5294) rfl rfl <| WL.skip (Unwanted.on rfl rfl rfl hb5294) rfl rfl <| WL.skip (Unwanted.on rfl rfl rfl hb5294) rfl rfl <| WL.p rfl rfl rfl (.s 29 rfl (.k .nil)) (q_pickT rfl hb5294) <| WL.nil ?_
     exact QN.weaken (.one rfl (.nil _)) (Kj5292 () true h)
    ·refine WL.q (Wanted.on rfl rfl rfl hb5294) rfl rfl (.s 1 rfl .nil) (q_field rfl fo91_2 rfl).o <| WL.q (Wanted.on rfl rfl rfl hb5294) rfl rfl (.s 30 rfl .nil) (q_load rfl sh3).o <| WL.q (Wanted.on rfl rfl rfl hb5294) rfl rfl (.s 1 rfl .nil) (q_field rfl fo91_3 rfl).o <| WL.q (Wanted.on rfl rfl rfl hb5294) rfl rfl (.s 32 rfl .nil) (q_load rfl sh89).o <| WL.q (Wanted.on rfl rfl rfl hb5294) rfl rfl (.s 33 rfl .nil) (q_len rfl elS89).o ?_
     obtain ⟨c5295, h⟩ := ite_n h
     refine WL.q (Wanted.on rfl rfl rfl hb5294) rfl rfl (.s 34 rfl (.k .nil)) (q_subR rfl c5295).o <| WL.q (Wanted.on rfl rfl rfl hb5294) rfl rfl (.s 31 rfl (.s 35 rfl .nil)) (q_int rfl rfl).o <| WL.p rfl rfl rfl (.s 29 rfl (.s 36 rfl .nil)) (q_pickF rfl hb5294) <| WL.nil ?_
     exact QN.weaken (.one rfl (.nil _)) (Kj5292 () (a0.fHigh != ((a0.fNames.length : Int) - 1)) h)
theorem ref04_node.con (k : Nat) (a0 : Types) (a1 : Int) (r : Int) (h : ref04_node k a0 a1 = some r) : Con Tryz.prog 74 [] [AggA [SlcA kNodeType a0.fNodes, SlcA kEdgeType a0.fEdges], EqA (.int .i64 a1)] (RA (EqA (.int .i64 r))) := by
 unfold ref04_node at h
 refine Con.of (N := 95) Tryz.func74 rfl rfl rfl fun w0_ fg_ => W.seq <| W.region <| WL.p rfl rfl rfl (.s 0 rfl .nil) (q_box rfl (CellsOf.agg _)) <| WL.p rfl rfl rfl (.k .nil) (q_assign rfl) <| WL.nil <| QN.then_ <| W.seq <| W.region <| WL.p rfl rfl rfl (.s 2 rfl .nil) (q_field rfl fo25_0 rfl) <| WL.p rfl rfl rfl (.s 11 rfl .nil) (q_load rfl sh22) <| WL.p rfl rfl rfl (.s 1 rfl .nil) (q_move rfl) ?_
 obtain ⟨c5296, h⟩ := ite_n h
 refine WL.p rfl rfl rfl (.s 12 rfl (.s 13 rfl .nil)) (q_index rfl el22 rfl c5296.1 c5296.2) <| WL.p rfl rfl rfl (.s 14 rfl .nil) (q_loadS rfl sh94 (leB rfl) rfl) <| WL.w [] rfl (Wanted.plain rfl) rfl rfl .nil (w_alloc rfl z94 (l := [EqA (strV ([] : Str)), EqA (.int .i64 0), EqA (.bool false), EqA (.slice none 0 0)]) rfl) ?_
 rintro _ _ ⟨b5297, rfl, rfl⟩
 refine WL.w0 [0] rfl (Wanted.plain rfl) rfl (.s 5 rfl (.s 15 rfl .nil)) (w_store (L := [EqA (strV ((rd a0.fNodes a1).fName)), EqA (.int .i64 ((rd a0.fNodes a1).fParent)), EqA (.bool ((rd a0.fNodes a1).fAbstract)), SlcA kAttr ((rd a0.fNodes a1).fAttrs)]) rfl sh94 (CellsOf.agg _) rfl rfl (leB rfl) rfl) ?_
 rintro _ _ ⟨rfl, rfl⟩
 refine WL.nil <| QN.to (StTo.still [0] 5 rfl rfl) <| QN.weaken (env' := [(5, _), (2, _), (1, _)]) (.one rfl (.one rfl (.one rfl (.nil _)))) <| QN.then_ <| W.seq <| W.seq <| W.region <| WL.p rfl rfl rfl (.s 5 rfl .nil) (q_field rfl fo94_0 rfl) <| WL.p rfl rfl rfl (.s 16 rfl .nil) (q_load rfl sh9) ?_
 obtain ⟨t5298, ht5298, h⟩ := bind_s h
 refine WL.p rfl rfl rfl (.s 17 rfl .nil) (q_call (f := 98) (A := EqA (.bool t5298)) (xs := [.tmp 17]) («as» := [EqA (strV ((rd a0.fNodes a1).fName))]) rfl ca98 (ref01_IsName.con k ((rd a0.fNodes a1).fName) t5298 ht5298) rfl) <| WL.p rfl rfl rfl (.s 18 rfl .nil) (q_not rfl) <| WL.nil <| QN.then_ ?_
 refine W.condP h rfl (fun hb5299 h => ?_) (fun hb5299 h => ?_)
 ·refine W.seq <| W.region <| WL.p rfl rfl rfl (.k .nil) (q_assign rfl) <| WL.nil <| QN.weaken (env' := [(4, _)]) (.one rfl (.nil _)) <| QN.then_ <| W.ret <| QR.then_ ?_
  cases h
  exact QR.f1 rfl rfl (.t rfl) (.id _)
 ·refine W.skip <| QN.then_ <| W.seq <| W.seq <| W.region <| WL.p rfl rfl rfl (.k .nil) (q_assign rfl) <| WL.nil <| QN.then_ <| W.block ?_
  refine W.loop1 (Γ := Unit) (fun (_ : Unit) (x6 : Int) => [(1, EqA (.int .i64 a1)), (2, PtrA [SlcA kNodeType a0.fNodes, SlcA kEdgeType a0.fEdges]), (5, PtrA [EqA (strV ((rd a0.fNodes a1).fName)), EqA (.int .i64 ((rd a0.fNodes a1).fParent)), EqA (.bool ((rd a0.fNodes a1).fAbstract)), SlcA kAttr ((rd a0.fNodes a1).fAttrs)]), (6, EqA (.int .i64 x6))]) (fun (_ : Unit) (_ : Int) => []) h () (.one rfl (.one rfl (.one rfl (.one rfl (.nil _))))) rfl (fun rec0 K0 next0 _ x6 h => ?_)
  unfold ref04_node.b0 at h
  refine W.seq <| W.seq <| W.region <| WL.p rfl rfl rfl (.s 6 rfl .nil) (q_move rfl) <| WL.p rfl rfl rfl (.s 1 rfl .nil) (q_move rfl) <| WL.p rfl rfl rfl (.s 20 rfl (.s 21 rfl .nil)) (q_int rfl rfl) <| WL.nil <| QN.then_ ?_
  refine W.condP h rfl (fun hb5590 h => ?_) (fun hb5590 h => ?_)
  ·refine W.skip <| QN.then_ <| W.seq <| W.block <| W.seq <| W.drawK [(0, false), (1, false), (2, false), (3, false), (4, false), (5, false), (6, false), (7, false), (8, false)] [] [[], [0], [], [0, 1, 2], [0, 1, 2, 3], [0, 1, 2, 3, 4], [], [6], [0, 1, 2, 3, 4, 5, 6, 7]] mx (by kernel_rfl) <| DK.cons rfl rfl (.p rfl (.s 2 rfl .nil) rfl (q_field rfl fo25_0 rfl)) <| DK.cons rfl rfl (.p rfl (.s 25 rfl .nil) rfl (q_load rfl sh22)) <| DK.cons rfl rfl (.p rfl (.s 6 rfl .nil) rfl (q_move rfl)) ?_
   obtain ⟨c5593, h⟩ := ite_n h
   refine DK.cons rfl rfl (.p rfl (.s 26 rfl (.s 27 rfl .nil)) rfl (q_index rfl el22 rfl c5593.1 c5593.2)) <| DK.cons rfl rfl (.p rfl (.s 28 rfl .nil) rfl (q_field rfl fo94_0 rfl)) <| DK.cons rfl rfl (.p rfl (.s 29 rfl .nil) rfl (q_load rfl sh9)) <| DK.cons rfl rfl (.p rfl (.s 5 rfl .nil) rfl (q_field rfl fo94_0 rfl)) <| DK.cons rfl rfl (.p rfl (.s 31 rfl .nil) rfl (q_load rfl sh9)) <| DK.cons rfl rfl (.p rfl (.s 30 rfl (.s 32 rfl .nil)) rfl (q_str (s := (rd a0.fNodes x6).fName) (t := (rd a0.fNodes a1).fName) rfl)) <| DK.nil <| CSteps.nil <| QN.weaken (env' := [(33, _), (6, _), (5, _), (2, _), (1, _)]) (.one rfl (.one rfl (.one rfl (.one rfl (.one rfl (.nil _)))))) <| QN.then_ ?_
   refine W.condP h rfl (fun hb5594 h => ?_) (fun hb5594 h => ?_)
   ·refine W.seq <| W.region <| WL.p rfl rfl rfl (.k .nil) (q_assign rfl) <| WL.nil <| QN.then_ <| W.ret <| QR.block <| QR.then_ <| QR.then_ <| QR.block <| QR.then_ ?_
    cases h
    exact QR.f1 rfl rfl (.t rfl) (.id _)
   ·refine W.skip <| QN.block <| QN.then_ <| W.region <| WL.p rfl rfl rfl (.s 6 rfl .nil) (q_move rfl) ?_
    obtain ⟨c5595, h⟩ := ite_n h
    refine WL.p rfl rfl rfl (.s 23 rfl (.k .nil)) (q_addR rfl c5595) <| WL.p rfl rfl rfl (.s 24 rfl .nil) (q_assign rfl) <| WL.nil ?_
    exact next0 () (x6 + 1) _ h (.one rfl (.one rfl (.one rfl (.one rfl (.nil _)))))
  ·refine W.exit <| QX.then_ <| QX.then_ <| QX.here <| QN.then_ <| W.seq <| W.seq <| W.region <| WL.p rfl rfl rfl (.s 5 rfl .nil) (q_field rfl fo94_1 rfl) <| WL.p rfl rfl rfl (.s 34 rfl .nil) (q_load rfl sh3) <| WL.p rfl rfl rfl (.s 1 rfl .nil) (q_move rfl) ?_
   obtain ⟨c5596, h⟩ := ite_n h
   refine WL.p rfl rfl rfl (.s 36 rfl (.k .nil)) (q_subR rfl c5596) ?_
   obtain ⟨t5597, ht5597, h⟩ := bind_s h
   refine WL.p rfl rfl rfl (.s 35 rfl (.k (.s 37 rfl .nil))) (q_call (f := 99) (A := EqA (.bool t5597)) (xs := [.tmp 35, .const (.int .i64 (-1)), .tmp 37]) («as» := [EqA (.int .i64 ((rd a0.fNodes a1).fParent)), EqA (.int .i64 (-1)), EqA (.int .i64 (a1 - 1))]) rfl ca99 (ref04_in.con k ((rd a0.fNodes a1).fParent) (-1) (a1 - 1) t5597 ht5597) rfl) <| WL.p rfl rfl rfl (.s 38 rfl .nil) (q_not rfl) <| WL.nil <| QN.weaken (env' := [(39, _), (5, _), (2, _), (1, _)]) (.one rfl (.one rfl (.one rfl (.one rfl (.nil _))))) <| QN.then_ ?_
   refine W.condP h rfl (fun hb5598 h => ?_) (fun hb5598 h => ?_)
   ·refine W.seq <| W.region <| WL.p rfl rfl rfl (.k .nil) (q_assign rfl) <| WL.nil <| QN.then_ <| W.ret <| QR.then_ ?_
    cases h
    exact QR.f1 rfl rfl (.t rfl) (.id _)
   ·refine W.skip <| QN.then_ <| W.seq <| W.region <| WL.p rfl rfl rfl (.s 2 rfl .nil) (q_loadS rfl sh25 (leB rfl) rfl) <| WL.p rfl rfl rfl (.s 1 rfl .nil) (q_move rfl) ?_
    obtain ⟨t5599, ht5599, h⟩ := bind_s h
    refine WL.p rfl rfl rfl (.s 40 rfl (.s 41 rfl .nil)) (q_call (f := 100) (A := SlcA kAttr t5599) (xs := [.tmp 40, .tmp 41]) («as» := [AggA [SlcA kNodeType a0.fNodes, SlcA kEdgeType a0.fEdges], EqA (.int .i64 a1)]) rfl ca100 (ref04_attrs.con k a0 a1 t5599 ht5599) rfl) <| WL.p rfl rfl rfl (.s 42 rfl .nil) (q_assign rfl) <| WL.nil <| QN.then_ <| W.seq <| W.seq ?_
    refine W.jn1 (Γ := Unit) (fun (_ : Unit) (x51 : Bool) => [(5, PtrA [EqA (strV ((rd a0.fNodes a1).fName)), EqA (.int .i64 ((rd a0.fNodes a1).fParent)), EqA (.bool ((rd a0.fNodes a1).fAbstract)), SlcA kAttr ((rd a0.fNodes a1).fAttrs)]), (7, SlcA kAttr t5599), (51, EqA (.bool x51))]) (fun (_ : Unit) (_ : Bool) => []) h (fun _ x51 h => ?_) (fun j5602 Kj5602 h => ?_)
    ·refine QN.then_ ?_
     refine W.condP h rfl (fun hb5603 h => ?_) (fun hb5603 h => ?_)
     ·refine W.seq <| W.region <| WL.p rfl rfl rfl (.k .nil) (q_assign rfl) <| WL.nil <| QN.then_ <| W.ret <| QR.then_ ?_
      cases h
      exact QR.f1 rfl rfl (.t rfl) (.id _)
     ·refine W.skip <| QN.then_ <| W.seq <| W.seq <| W.region <| WL.p rfl rfl rfl (.s 7 rfl .nil) (q_move rfl) <| WL.p rfl rfl rfl (.s 52 rfl .nil) (q_len rfl elS92) <| WL.p rfl rfl rfl (.s 5 rfl .nil) (q_field rfl fo94_3 rfl) <| WL.p rfl rfl rfl (.s 54 rfl .nil) (q_load rfl sh92) <| WL.p rfl rfl rfl (.s 55 rfl .nil) (q_len rfl elS92) ?_
      obtain ⟨c5604, h⟩ := ite_n h
      refine WL.p rfl rfl rfl (.s 53 rfl (.s 56 rfl .nil)) (q_subR rfl c5604) <| WL.p rfl rfl rfl (.s 57 rfl .nil) (q_assign rfl) <| WL.nil <| QN.weaken (env' := [(8, _), (7, _)]) (.one rfl (.one rfl (.nil _))) <| QN.then_ <| W.block ?_
      refine W.loop1 (Γ := Unit) (fun (_ : Unit) (x8 : Int) => [(7, SlcA kAttr t5599), (8, EqA (.int .i64 x8))]) (fun (_ : Unit) (_ : Int) => []) h () (.one rfl (.one rfl (.nil _))) rfl (fun rec1 K1 next1 _ x8 h => ?_)
      unfold ref04_node.b1 at h
      refine W.seq <| W.seq <| W.region <| WL.p rfl rfl rfl (.s 8 rfl .nil) (q_move rfl) <| WL.p rfl rfl rfl (.s 7 rfl .nil) (q_move rfl) <| WL.p rfl rfl rfl (.s 59 rfl .nil) (q_len rfl elS92) <| WL.p rfl rfl rfl (.s 58 rfl (.s 60 rfl .nil)) (q_int rfl rfl) <| WL.nil <| QN.then_ ?_
      refine W.condP h rfl (fun hb5691 h => ?_) (fun hb5691 h => ?_)
      ·refine W.skip <| QN.then_ <| W.seq <| W.block <| W.seq <| W.seq <| W.region <| WL.p rfl rfl rfl (.s 7 rfl .nil) (q_move rfl) <| WL.p rfl rfl rfl (.s 8 rfl .nil) (q_move rfl) ?_
       obtain ⟨c5692, h⟩ := ite_n h
       refine WL.p rfl rfl rfl (.s 64 rfl (.s 65 rfl .nil)) (q_index rfl el92 rfl c5692.1 c5692.2) <| WL.p rfl rfl rfl (.s 66 rfl .nil) (q_field rfl fo91_0 rfl) <| WL.p rfl rfl rfl (.s 67 rfl .nil) (q_load rfl sh9) ?_
       obtain ⟨t5693, ht5693, h⟩ := bind_s h
       refine WL.p rfl rfl rfl (.s 68 rfl .nil) (q_call (f := 98) (A := EqA (.bool t5693)) (xs := [.tmp 68]) («as» := [EqA (strV ((rd t5599 x8).fName))]) rfl ca98 (ref01_IsName.con k ((rd t5599 x8).fName) t5693 ht5693) rfl) <| WL.p rfl rfl rfl (.s 69 rfl .nil) (q_not rfl) <| WL.nil <| QN.weaken (env' := [(70, _), (8, _), (7, _)]) (.one rfl (.one rfl (.one rfl (.nil _)))) <| QN.then_ ?_
       refine W.condP h rfl (fun hb5694 h => ?_) (fun hb5694 h => ?_)
       ·refine W.seq <| W.region <| WL.p rfl rfl rfl (.k .nil) (q_assign rfl) <| WL.nil <| QN.then_ <| W.ret <| QR.then_ <| QR.block <| QR.then_ <| QR.then_ <| QR.block <| QR.then_ ?_
        cases h
        exact QR.f1 rfl rfl (.t rfl) (.id _)
       ·refine W.skip <| QN.then_ <| W.seq <| W.seq <| W.region <| WL.p rfl rfl rfl (.k .nil) (q_assign rfl) <| WL.nil <| QN.then_ <| W.block ?_
        refine W.loop1 (Γ := Unit) (fun (_ : Unit) (x9 : Int) => [(7, SlcA kAttr t5599), (8, EqA (.int .i64 x8)), (9, EqA (.int .i64 x9))]) (fun (_ : Unit) (_ : Int) => []) h () (.one rfl (.one rfl (.one rfl (.nil _)))) rfl (fun rec2 K2 next2 _ x9 h => ?_)
        unfold ref04_node.b2 at h
        refine W.seq <| W.seq <| W.region <| WL.p rfl rfl rfl (.s 9 rfl .nil) (q_move rfl) <| WL.p rfl rfl rfl (.s 8 rfl .nil) (q_move rfl) <| WL.p rfl rfl rfl (.s 71 rfl (.s 72 rfl .nil)) (q_int rfl rfl) <| WL.nil <| QN.then_ ?_
        refine W.condP h rfl (fun hb5721 h => ?_) (fun hb5721 h => ?_)
        ·refine W.skip <| QN.then_ <| W.seq <| W.block <| W.seq <| W.drawK [(0, false), (1, false), (2, false), (3, false), (4, false), (5, false), (6, false), (7, false), (8, false), (9, false), (10, false)] [] [[], [], [0, 1], [0, 1, 2], [0, 1, 2, 3], [], [], [5, 6], [5, 6, 7], [5, 6, 7, 8], [0, 1, 2, 3, 4, 5, 6, 7, 8, 9]] mx (by kernel_rfl) <| DK.cons rfl rfl (.p rfl (.s 7 rfl .nil) rfl (q_move rfl)) <| DK.cons rfl rfl (.p rfl (.s 9 rfl .nil) rfl (q_move rfl)) ?_
         obtain ⟨c5726, h⟩ := ite_n h
         refine DK.cons rfl rfl (.p rfl (.s 76 rfl (.s 77 rfl .nil)) rfl (q_index rfl el92 rfl c5726.1 c5726.2)) <| DK.cons rfl rfl (.p rfl (.s 78 rfl .nil) rfl (q_field rfl fo91_0 rfl)) <| DK.cons rfl rfl (.p rfl (.s 79 rfl .nil) rfl (q_load rfl sh9)) <| DK.cons rfl rfl (.p rfl (.s 7 rfl .nil) rfl (q_move rfl)) <| DK.cons rfl rfl (.p rfl (.s 8 rfl .nil) rfl (q_move rfl)) ?_
         obtain ⟨c5727, h⟩ := ite_n h
         refine DK.cons rfl rfl (.p rfl (.s 81 rfl (.s 82 rfl .nil)) rfl (q_index rfl el92 rfl c5727.1 c5727.2)) <| DK.cons rfl rfl (.p rfl (.s 83 rfl .nil) rfl (q_field rfl fo91_0 rfl)) <| DK.cons rfl rfl (.p rfl (.s 84 rfl .nil) rfl (q_load rfl sh9)) <| DK.cons rfl rfl (.p rfl (.s 80 rfl (.s 85 rfl .nil)) rfl (q_str (s := (rd t5599 x9).fName) (t := (rd t5599 x8).fName) rfl)) <| DK.nil <| CSteps.nil <| QN.weaken (env' := [(86, _), (9, _), (8, _), (7, _)]) (.one rfl (.one rfl (.one rfl (.one rfl (.nil _))))) <| QN.then_ ?_
         refine W.condP h rfl (fun hb5728 h => ?_) (fun hb5728 h => ?_)
         ·refine W.seq <| W.region <| WL.p rfl rfl rfl (.k .nil) (q_assign rfl) <| WL.nil <| QN.then_ <| W.ret <| QR.block <| QR.then_ <| QR.then_ <| QR.block <| QR.then_ <| QR.block <| QR.then_ ?_
          refine QR.then_ <| QR.block <| QR.then_ ?_
          cases h
          exact QR.f1 rfl rfl (.t rfl) (.id _)
         ·refine W.skip <| QN.block <| QN.then_ <| W.region <| WL.p rfl rfl rfl (.s 9 rfl .nil) (q_move rfl) ?_
          obtain ⟨c5729, h⟩ := ite_n h
          refine WL.p rfl rfl rfl (.s 74 rfl (.k .nil)) (q_addR rfl c5729) <| WL.p rfl rfl rfl (.s 75 rfl .nil) (q_assign rfl) <| WL.nil ?_
          exact next2 () (x9 + 1) _ h (.one rfl (.one rfl (.one rfl (.nil _))))
        ·refine W.exit <| QX.then_ <| QX.then_ <| QX.here <| QN.then_ <| W.seq <| W.region <| WL.p rfl rfl rfl (.s 7 rfl .nil) (q_move rfl) <| WL.p rfl rfl rfl (.s 8 rfl .nil) (q_move rfl) ?_
         obtain ⟨c5730, h⟩ := ite_n h
         refine WL.p rfl rfl rfl (.s 87 rfl (.s 88 rfl .nil)) (q_index rfl el92 rfl c5730.1 c5730.2) <| WL.p rfl rfl rfl (.s 89 rfl .nil) (q_loadS rfl sh91 (leB rfl) rfl) ?_
         obtain ⟨t5731, ht5731, h⟩ := bind_s h
         refine WL.p rfl rfl rfl (.s 90 rfl .nil) (q_call (f := 101) (A := EqA (.int .i64 t5731)) (xs := [.tmp 90]) («as» := [AggA [EqA (strV ((rd t5599 x8).fName)), EqA (.int .i64 ((rd t5599 x8).fLow)), EqA (.int .i64 ((rd t5599 x8).fHigh)), SlcA kStr ((rd t5599 x8).fNames)]]) rfl ca101 (ref04_attribute.con k (rd t5599 x8) t5731 ht5731) rfl) <| WL.p rfl rfl rfl (.s 91 rfl .nil) (q_assign rfl) <| WL.nil <| QN.weaken (env' := [(10, _), (8, _), (7, _)]) (.one rfl (.one rfl (.one rfl (.nil _)))) <| QN.then_ <| W.seq <| W.region <| WL.p rfl rfl rfl (.s 10 rfl .nil) (q_move rfl) <| WL.p rfl rfl rfl (.s 92 rfl (.k .nil)) (q_int rfl rfl) <| WL.nil <| QN.then_ ?_
         refine W.condP h rfl (fun hb5732 h => ?_) (fun hb5732 h => ?_)
         ·refine W.seq <| W.region <| WL.p rfl rfl rfl (.s 10 rfl .nil) (q_move rfl) <| WL.p rfl rfl rfl (.s 94 rfl .nil) (q_assign rfl) <| WL.nil <| QN.then_ <| W.ret <| QR.block <| QR.then_ <| QR.then_ <| QR.block <| QR.then_ ?_
          cases h
          exact QR.f1 rfl rfl (.t rfl) (.id _)
         ·refine W.skip <| QN.block <| QN.then_ <| W.region <| WL.p rfl rfl rfl (.s 8 rfl .nil) (q_move rfl) ?_
          obtain ⟨c5733, h⟩ := ite_n h
          refine WL.p rfl rfl rfl (.s 62 rfl (.k .nil)) (q_addR rfl c5733) <| WL.p rfl rfl rfl (.s 63 rfl .nil) (q_assign rfl) <| WL.nil ?_
          exact next1 () (x8 + 1) _ h (.one rfl (.one rfl (.nil _)))
      ·refine W.exit <| QX.then_ <| QX.then_ <| QX.here <| QN.then_ <| W.seq <| W.region <| WL.p rfl rfl rfl (.k .nil) (q_assign rfl) <| WL.nil <| QN.then_ <| W.ret ?_
       cases h
       exact QR.f1 rfl rfl (.t rfl) (.id _)
    ·refine W.region <| WL.p rfl rfl rfl (.s 5 rfl .nil) (q_field rfl fo94_3 rfl) <| WL.p rfl rfl rfl (.s 43 rfl .nil) (q_load rfl sh92) <| WL.p rfl rfl rfl (.s 44 rfl .nil) (q_len rfl elS92) <| WL.p rfl rfl rfl (.s 45 rfl (.k .nil)) (q_int rfl rfl) <| WL.p rfl rfl rfl (.s 46 rfl .nil) (q_move rfl) ?_
     rcases bif_s h with ⟨hb5734, h⟩ | ⟨hb5734, h⟩
     ·refine WL.skip (Unwanted.on rfl rfl rfl hb5734) rfl rfl <| WL.skip (Unwanted.on rfl rfl rfl hb5734) rfl rfl <| WL.skip (Unwanted.on rfl rfl rfl hb5734) rfl rfl <| WL.p rfl rfl rfl (.s 47 rfl (.k .nil)) (q_pickT rfl hb5734) <| WL.nil ?_
      exact QN.weaken (.one rfl (.one rfl (.one rfl (.nil _)))) (Kj5602 () true h)
     ·refine WL.q (Wanted.on rfl rfl rfl hb5734) rfl rfl (.s 7 rfl .nil) (q_move rfl).o <| WL.q (Wanted.on rfl rfl rfl hb5734) rfl rfl (.s 48 rfl .nil) (q_len rfl elS92).o <| WL.q (Wanted.on rfl rfl rfl hb5734) rfl rfl (.s 49 rfl (.k .nil)) (q_int rfl rfl).o <| WL.p rfl rfl rfl (.s 47 rfl (.s 50 rfl .nil)) (q_pickF rfl hb5734) <| WL.nil ?_
      exact QN.weaken (.one rfl (.one rfl (.one rfl (.nil _)))) (Kj5602 () (decide ((t5599.length : Int) > 8)) h)
end Go.Proofs.YtelpgjfojhcjcaaGreat
