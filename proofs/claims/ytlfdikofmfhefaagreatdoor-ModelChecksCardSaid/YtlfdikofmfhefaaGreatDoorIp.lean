/-
Models made of plain data: what they are made of; two handlers.
Conditions: none.
The functions as the evaluator runs them: printed by a program of mine, each equation by kernel_rfl.
Conditions: none.
-/
import Derived.Test.YtlfdikofmfhefaaGreatDoorIa
import Derived.Test.YtlfdikofmfhefaaGreatDoorAz
import Derived.Test.YtlfdikofmfhefaaGreatDoorCf
import Derived.Test.YtlfdikofmfhefaaGreatDoorYd
set_option linter.unusedVariables false
namespace Go.Proofs.YtlfdikofmfhefaaGreatDoor.Ev
open Go
def ge0 (n : Int) : Bool := decide (0 ≤ n)
def cutNB (n : Int) : Bool := decide (0 ≤ n) && decide (n ≤ 1000)
def cutM (c : Con) (n : Int) : Con := (c.1, c.2.1.take n.toNat, c.2.2.1.take n.toNat, c.2.2.2.1.take n.toNat, c.2.2.2.2.1.take n.toNat, c.2.2.2.2.2.1.take n.toNat, c.2.2.2.2.2.2.1, (c.2.2.2.2.2.2.2.take n.toNat).map (List.take n.toNat))
abbrev RawT : Ty := .pair (.sl .str) (.pair (.sl (.sl (.int .i8))) (.pair (.sl SmallT) (.pair (.int .i64) (.pair (.int .i64) (.pair (.int .u8) (.pair ConT (.sl (.int .i64))))))))
abbrev RawP := List ByteArray × List (List Int) × List Small × Int × Int × Int × Con × List Int
def small8B (s : Small) : Bool := decide (0 ≤ s.1) && decide (s.1 ≤ 255)
def rawB (z : RawP) : Bool := z.2.2.1.all small8B
def h_shortC : Hand := fun args κ => match args with
 | [x0, .rp cs] => (match pullA (.sl (.int .i64)) x0, pullC (.int .i64) cs with
  | some l, some n => bif ge0 n then κ (.v (.sl (.int .i64)) (List.take (Int.toNat n) l)) else none
  | _, _ => none)
 | _ => none
def h_cutM : Hand := handN [(.pair (.int .i64) (.pair (.sl (.int .i64)) (.pair (.sl (.int .i64)) (.pair (.sl (.int .i64)) (.pair (.sl (.int .i64)) (.pair (.sl (.int .i64)) (.pair (.int .i64) (.sl (.sl (.int .i64)))))))))), (.int .i64)] fun xs κ => bif cutNB xs.2.1 then κ (.agg [.v (.int .i64) ((cutM xs.1 xs.2.1).1), .v (.sl (.int .i64)) (((cutM xs.1 xs.2.1).2).1), .v (.sl (.int .i64)) ((((cutM xs.1 xs.2.1).2).2).1), .v (.sl (.int .i64)) (((((cutM xs.1 xs.2.1).2).2).2).1), .v (.sl (.int .i64)) ((((((cutM xs.1 xs.2.1).2).2).2).2).1), .v (.sl (.int .i64)) (((((((cutM xs.1 xs.2.1).2).2).2).2).2).1), .v (.int .i64) ((((((((cutM xs.1 xs.2.1).2).2).2).2).2).2).1), .v (.sl (.sl (.int .i64))) ((((((((cutM xs.1 xs.2.1).2).2).2).2).2).2).2)]) else none
end Go.Proofs.YtlfdikofmfhefaaGreatDoor.Ev
set_option linter.unusedVariables false
set_option linter.unusedSimpArgs false
set_option maxRecDepth 100000
namespace Go.Proofs.YtlfdikofmfhefaaGreatDoor.Ev
open Go
noncomputable def F614.fn : Func := Go.Proofs.Tryz.f74
noncomputable def F614.E : Env := ⟨tt, [], [(1, [0, 1])], [], some [3], inv, []⟩
theorem F614.start_eq (k : Nat) (a0 : List Int) (z : Int) : callW F614.E false F614.fn k [.v (.sl (.int .i64)) a0, .rp [.v (.int .i64) z]] =
 bif decide (0 ≤ (if z < (a0.length : Int) then z else (a0.length : Int))) && decide ((if z < (a0.length : Int) then z else (a0.length : Int)) ≤ a0.length) then
 some (.v (.sl (.int .i64)) (a0.take ((if z < (a0.length : Int) then z else (a0.length : Int)).toNat)))
 else
 none := by kernel_rfl
noncomputable def F556.fn : Func := Go.Proofs.Tryz.f35
noncomputable def F556.body : Code := bodyOf F556.fn
noncomputable def F556.E : Env := ⟨tt, [(74, h_shortC)], [(1, [2, 3, 4]), (2, [2, 3, 4, 5]), (3, [2, 3, 4, 5, 6]), (4, [4, 5, 6, 42, 43, 44, 800290006]), (5, [4, 5, 6, 42, 43, 44, 45]), (6, [4, 5, 6, 8, 42, 43, 44]), (7, [4, 5, 6, 42, 43, 44]), (8, [4, 6])], [(0, [4, 6]), (1, [4, 5, 6, 42, 43, 44])], some [4], inv, []⟩
noncomputable def F556.K0 : Conts := { nrm := endW F556.E false F556.fn.results.toList, ret := endW F556.E false F556.fn.results.toList, ex := [] }
noncomputable def F556.kt (k : Nat) (q : List Nat) : Conts := contAt F556.E k F556.body F556.K0 q
noncomputable def F556.l1_1_1_0_1_0 (n : Nat) (K : Conts) (p0 : List (List Int)) (p1 p2 p3 p4 p5 p6 : Int) (p7 p8 p9 p10 p11 : List Int) (p12 : Int) (p13 : List (List Int)) : Option AV := loopF F556.E n (inLoop (subC [1,1,1,0,1,0] F556.body)) K ⟨slots 58 [(4, .pb 0 0), (5, .fn 74 [] [.pb 1 0]), (6, .pb 2 0), (42, .v (.sl (.sl (.int .i64))) p0), (43, .v (.int .i64) p1), (44, .v (.int .i64) p2)], [.box [.v (.int .i64) p3, .nl, .nl, .nl, .nl, .nl, .v (.int .i64) p4, .nl], .fbx [.v (.int .i64) p5], .box [.v (.int .i64) p6, .v (.sl (.int .i64)) p7, .v (.sl (.int .i64)) p8, .v (.sl (.int .i64)) p9, .v (.sl (.int .i64)) p10, .v (.sl (.int .i64)) p11, .v (.int .i64) p12, .own 3], .row 29 (.sl (.int .i64)) p13]⟩
theorem F556.start_eq (k : Nat) (kk : Int) (c : (List Int) × ((List Int) × ((List Int) × ((List Int) × ((List Int) × (Int × (List (List Int)))))))) (a1 : Int) : callW F556.E false F556.fn k [.agg (bC kk c.1 c.2.1 c.2.2.1 c.2.2.2.1 c.2.2.2.2.1 c.2.2.2.2.2.1 c.2.2.2.2.2.2), .v (.int .i64) a1] =
 bif ge0 a1 then
 bif ge0 a1 then
 bif ge0 a1 then
 bif ge0 a1 then
 bif ge0 a1 then
 bif decide (0 ≤ (if a1 < (c.2.2.2.2.2.2.length : Int) then a1 else (c.2.2.2.2.2.2.length : Int))) && decide ((if a1 < (c.2.2.2.2.2.2.length : Int) then a1 else (c.2.2.2.2.2.2.length : Int)) ≤ c.2.2.2.2.2.2.length) then
 F556.l1_1_1_0_1_0 k (F556.kt k [1,1,1,0,1,0]) (c.2.2.2.2.2.2.take ((if a1 < (c.2.2.2.2.2.2.length : Int) then a1 else (c.2.2.2.2.2.2.length : Int)).toNat)) ((c.2.2.2.2.2.2.take ((if a1 < (c.2.2.2.2.2.2.length : Int) then a1 else (c.2.2.2.2.2.2.length : Int)).toNat)).length : Int) 0 (0 : Int) (0 : Int) a1 kk (List.take (Int.toNat a1) c.1) (List.take (Int.toNat a1) c.2.1) (List.take (Int.toNat a1) c.2.2.1) (List.take (Int.toNat a1) c.2.2.2.1) (List.take (Int.toNat a1) c.2.2.2.2.1) c.2.2.2.2.2.1 []
 else
 none
 else
 none
 else
 none
 else
 none
 else
 none
 else
 none := by kernel_rfl
theorem F556.l1_1_1_0_1_0_eq (n : Nat) (K : Conts) (p0 : List (List Int)) (p1 p2 p3 p4 p5 p6 : Int) (p7 p8 p9 p10 p11 : List Int) (p12 : Int) (p13 : List (List Int)) : F556.l1_1_1_0_1_0 (n + 1) K p0 p1 p2 p3 p4 p5 p6 p7 p8 p9 p10 p11 p12 p13 =
 bif decide (p2 < p1) then
 bif decide (0 ≤ p2) && decide (p2 < p0.length) then
 bif ge0 p5 then
 bif decide ((p13.length + [List.take (Int.toNat p5) (p0.getD p2.toNat [])].length) * 24 ≤ LIM) then
 F556.l1_1_1_0_1_0 n K p0 p1 (IntKind.i64.wrap (p2 + 1)) p3 p4 p5 p6 p7 p8 p9 p10 p11 p12 (p13 ++ [List.take (Int.toNat p5) (p0.getD p2.toNat [])])
 else
 none
 else
 none
 else
 none
 else
 exitK K 0 ⟨slots 58 [(4, .pb 0 0), (6, .pb 1 0)], [.box [.v (.int .i64) p3, .nl, .nl, .nl, .nl, .nl, .v (.int .i64) p4, .nl], .box [.v (.int .i64) p6, .v (.sl (.int .i64)) p7, .v (.sl (.int .i64)) p8, .v (.sl (.int .i64)) p9, .v (.sl (.int .i64)) p10, .v (.sl (.int .i64)) p11, .v (.int .i64) p12, .own 2], .row 29 (.sl (.int .i64)) p13]⟩ := by kernel_rfl
theorem F556.c0 (k : Nat) (p0 p1 p2 : Int) (p3 p4 p5 p6 p7 : List Int) (p8 : Int) (p9 : List (List Int)) : exitK (F556.kt k [1,1,1,0,1,0]) 0 ⟨slots 58 [(4, .pb 0 0), (6, .pb 1 0)], [.box [.v (.int .i64) p0, .nl, .nl, .nl, .nl, .nl, .v (.int .i64) p1, .nl], .box [.v (.int .i64) p2, .v (.sl (.int .i64)) p3, .v (.sl (.int .i64)) p4, .v (.sl (.int .i64)) p5, .v (.sl (.int .i64)) p6, .v (.sl (.int .i64)) p7, .v (.int .i64) p8, .own 2], .row 29 (.sl (.int .i64)) p9]⟩ =
 some (.agg (bC p2 p3 p4 p5 p6 p7 p8 p9)) := by kernel_rfl
noncomputable def F515.fn : Func := Go.Proofs.Tryz.f10
noncomputable def F515.body : Code := bodyOf F515.fn
noncomputable def F515.E : Env := ⟨tt, [(34, h_conA), (35, h_cutM)], [(1, [1, 2]), (2, [1, 2, 3]), (3, [1, 2, 3, 22, 23, 24, 100090003, 200290003]), (4, [1, 2, 3, 22, 23, 24, 25]), (5, [1, 2, 3, 4, 5, 22, 23, 24]), (6, [1, 2, 3, 4, 5, 22, 23, 24, 32]), (7, [1, 2, 3, 4, 5, 22, 23, 24]), (8, [1, 2, 3, 4, 22, 23, 24]), (9, [1, 2, 3, 4, 6, 22, 23, 24]), (10, [1, 2, 3, 4, 6, 22, 23, 24, 63]), (11, [1, 2, 3, 4, 6, 22, 23, 24]), (12, [1, 2, 3, 6, 22, 23, 24, 76, 77, 78, 30006]), (13, [1, 2, 3, 6, 22, 23, 24, 76, 77, 78, 79]), (14, [1, 2, 3, 6, 8, 22, 23, 24, 76, 77, 78]), (15, [1, 2, 3, 6, 22, 23, 24, 76, 77, 78]), (16, [1, 2, 3, 6, 22, 23, 24]), (17, [1, 2, 3, 6, 22, 23, 24]), (18, [1, 2, 3, 6, 22, 23, 24]), (19, [1, 2, 3, 22, 23, 24]), (20, [1, 2, 3]), (21, [1, 2, 3, 105, 106, 107, 300310003]), (22, [1, 2, 3, 105, 106, 107, 108]), (23, [1, 2, 3, 10, 105, 106, 107]), (24, [1, 2, 3, 10, 105, 106, 107, 114]), (25, [1, 2, 3, 105, 106, 107]), (26, [1, 2, 3]), (27, [1, 2, 3, 134]), (28, [1, 2, 3]), (29, [1, 2, 3, 145]), (30, [1, 2, 3, 145, 146]), (32, [1, 2, 3, 145, 156]), (34, [1, 2, 3, 145, 170]), (36, [1, 2, 3, 178]), (37, [2, 3])], [(0, [1, 2, 3]), (1, [1, 2, 3, 22, 23, 24]), (2, [1, 2, 3, 6, 22, 23, 24]), (3, [1, 2, 3, 6, 22, 23, 24, 76, 77, 78]), (4, [1, 2, 3]), (5, [1, 2, 3, 105, 106, 107]), (6, [2, 3])], some [2], inv, [(32, h_sort), (33, h_comp)]⟩
noncomputable def F515.K0 : Conts := { nrm := endW F515.E false F515.fn.results.toList, ret := endW F515.E false F515.fn.results.toList, ex := [] }
noncomputable def F515.kt (k : Nat) (q : List Nat) : Conts := contAt F515.E k F515.body F515.K0 q
noncomputable def F515.l1_1_0_1_0 (n : Nat) (K : Conts) (p0 : List ByteArray) (p1 p2 : Int) (p3 : List ByteArray) (p4 : List (List Int)) (p5 : List (Int × ((List Int) × ((List Int) × ((List Int) × (Int × Int)))))) (p6 p7 p8 p9 : Int) (p10 p11 p12 p13 p14 : List Int) (p15 : Int) (p16 : List (List Int)) (p17 : List Int) (p18 p19 p20 p21 : Int) (p22 : List ByteArray) (p23 : List (List Int)) : Option AV := loopF F515.E n (inLoop (subC [1,1,0,1,0] F515.body)) K ⟨slots 198 [(1, .pb 0 0), (2, .pb 1 0), (3, .pb 2 0), (22, .v (.sl .str) p0), (23, .v (.int .i64) p1), (24, .v (.int .i64) p2)], [.box [.v (.sl .str) p3, .v (.sl (.sl (.int .i8))) p4, .v (.sl (.pair (.int .u8) (.pair (.sl (.int .u8)) (.pair (.sl (.int .u8)) (.pair (.sl (.int .i8)) (.pair (.int .i16) (.int .u8))))))) p5, .v (.int .i64) p6, .v (.int .i64) p7, .v (.int .u8) p8, .v (.int .i64) p9, .v (.sl (.int .i64)) p10, .v (.sl (.int .i64)) p11, .v (.sl (.int .i64)) p12, .v (.sl (.int .i64)) p13, .v (.sl (.int .i64)) p14, .v (.int .i64) p15, .v (.sl (.sl (.int .i64))) p16, .v (.sl (.int .i64)) p17], .box [.nl, .nl, .nl, .v (.int .i64) p18, .v (.int .i64) p19], .box [.own 3, .own 4, .nl, .v (.int .i64) p20, .v (.int .i64) p21], .row 9 .str p22, .row 29 (.sl (.int .i64)) p23]⟩
noncomputable def F515.k_l1_1_0_1_0 (n : Nat) (K : Conts) (q : List Nat) : Conts := contAt F515.E n (inLoop (subC [1, 1, 0, 1, 0] F515.body)) (loopK F515.E n (inLoop (subC [1, 1, 0, 1, 0] F515.body)) K) q
noncomputable def F515.l1_1_0_1_0_0_1_1_0_0_1_1_1_1_0_1_0_1_0_1_0 (n : Nat) (K : Conts) (p0 : List ByteArray) (p1 p2 : Int) (p3 : List Int) (p4 p5 : Int) (p6 : List ByteArray) (p7 : List (List Int)) (p8 : List (Int × ((List Int) × ((List Int) × ((List Int) × (Int × Int)))))) (p9 p10 p11 p12 : Int) (p13 p14 p15 p16 p17 : List Int) (p18 : Int) (p19 : List (List Int)) (p20 : List Int) (p21 p22 p23 p24 : Int) (p25 : List Int) (p26 : List ByteArray) (p27 : List (List Int)) : Option AV := loopF F515.E n (inLoop (subC [1,1,0,1,0,0,1,1,0,0,1,1,1,1,0,1,0,1,0,1,0] F515.body)) K ⟨slots 198 [(1, .pb 0 0), (2, .pb 1 0), (3, .pb 2 0), (6, .own 3), (22, .v (.sl .str) p0), (23, .v (.int .i64) p1), (24, .v (.int .i64) p2), (76, .v (.sl (.int .i8)) p3), (77, .v (.int .i64) p4), (78, .v (.int .i64) p5)], [.box [.v (.sl .str) p6, .v (.sl (.sl (.int .i8))) p7, .v (.sl (.pair (.int .u8) (.pair (.sl (.int .u8)) (.pair (.sl (.int .u8)) (.pair (.sl (.int .i8)) (.pair (.int .i16) (.int .u8))))))) p8, .v (.int .i64) p9, .v (.int .i64) p10, .v (.int .u8) p11, .v (.int .i64) p12, .v (.sl (.int .i64)) p13, .v (.sl (.int .i64)) p14, .v (.sl (.int .i64)) p15, .v (.sl (.int .i64)) p16, .v (.sl (.int .i64)) p17, .v (.int .i64) p18, .v (.sl (.sl (.int .i64))) p19, .v (.sl (.int .i64)) p20], .box [.nl, .nl, .nl, .v (.int .i64) p21, .v (.int .i64) p22], .box [.own 4, .own 5, .nl, .v (.int .i64) p23, .v (.int .i64) p24], .row 3 (.int .i64) p25, .row 9 .str p26, .row 29 (.sl (.int .i64)) p27]⟩
noncomputable def F515.l1_1_1_0_1_0 (n : Nat) (K : Conts) (p0 : List (Int × ((List Int) × ((List Int) × ((List Int) × (Int × Int)))))) (p1 p2 : Int) (p3 : List ByteArray) (p4 : List (List Int)) (p5 : List (Int × ((List Int) × ((List Int) × ((List Int) × (Int × Int)))))) (p6 p7 p8 p9 : Int) (p10 p11 p12 p13 p14 : List Int) (p15 : Int) (p16 : List (List Int)) (p17 : List Int) (p18 p19 p20 p21 : Int) (p22 : List ByteArray) (p23 : List (List Int)) (p24 : List Con) : Option AV := loopF F515.E n (inLoop (subC [1,1,1,0,1,0] F515.body)) K ⟨slots 198 [(1, .pb 0 0), (2, .pb 1 0), (3, .pb 2 0), (105, .v (.sl (.pair (.int .u8) (.pair (.sl (.int .u8)) (.pair (.sl (.int .u8)) (.pair (.sl (.int .i8)) (.pair (.int .i16) (.int .u8))))))) p0), (106, .v (.int .i64) p1), (107, .v (.int .i64) p2)], [.box [.v (.sl .str) p3, .v (.sl (.sl (.int .i8))) p4, .v (.sl (.pair (.int .u8) (.pair (.sl (.int .u8)) (.pair (.sl (.int .u8)) (.pair (.sl (.int .i8)) (.pair (.int .i16) (.int .u8))))))) p5, .v (.int .i64) p6, .v (.int .i64) p7, .v (.int .u8) p8, .v (.int .i64) p9, .v (.sl (.int .i64)) p10, .v (.sl (.int .i64)) p11, .v (.sl (.int .i64)) p12, .v (.sl (.int .i64)) p13, .v (.sl (.int .i64)) p14, .v (.int .i64) p15, .v (.sl (.sl (.int .i64))) p16, .v (.sl (.int .i64)) p17], .box [.nl, .nl, .nl, .v (.int .i64) p18, .v (.int .i64) p19], .box [.own 3, .own 4, .own 5, .v (.int .i64) p20, .v (.int .i64) p21], .row 9 .str p22, .row 29 (.sl (.int .i64)) p23, .row 31 (.pair (.int .i64) (.pair (.sl (.int .i64)) (.pair (.sl (.int .i64)) (.pair (.sl (.int .i64)) (.pair (.sl (.int .i64)) (.pair (.sl (.int .i64)) (.pair (.int .i64) (.sl (.sl (.int .i64)))))))))) p24]⟩
theorem F515.start_eq (k : Nat) (a0 : (List ByteArray) × ((List (List Int)) × ((List (Int × ((List Int) × ((List Int) × ((List Int) × (Int × Int)))))) × (Int × (Int × (Int × (Con × (List Int)))))))) : callW F515.E false F515.fn k [.agg [.v (.sl .str) a0.1, .v (.sl (.sl (.int .i8))) a0.2.1, .v (.sl (.pair (.int .u8) (.pair (.sl (.int .u8)) (.pair (.sl (.int .u8)) (.pair (.sl (.int .i8)) (.pair (.int .i16) (.int .u8))))))) a0.2.2.1, .v (.int .i64) a0.2.2.2.1, .v (.int .i64) a0.2.2.2.2.1, .v (.int .u8) a0.2.2.2.2.2.1, .v (.int .i64) a0.2.2.2.2.2.2.1.1, .v (.sl (.int .i64)) a0.2.2.2.2.2.2.1.2.1, .v (.sl (.int .i64)) a0.2.2.2.2.2.2.1.2.2.1, .v (.sl (.int .i64)) a0.2.2.2.2.2.2.1.2.2.2.1, .v (.sl (.int .i64)) a0.2.2.2.2.2.2.1.2.2.2.2.1, .v (.sl (.int .i64)) a0.2.2.2.2.2.2.1.2.2.2.2.2.1, .v (.int .i64) a0.2.2.2.2.2.2.1.2.2.2.2.2.2.1, .v (.sl (.sl (.int .i64))) a0.2.2.2.2.2.2.1.2.2.2.2.2.2.2, .v (.sl (.int .i64)) a0.2.2.2.2.2.2.2]] =
 bif decide (0 ≤ (if 6 < (a0.1.length : Int) then 6 else (a0.1.length : Int))) && decide ((if 6 < (a0.1.length : Int) then 6 else (a0.1.length : Int)) ≤ a0.1.length) then
 F515.l1_1_0_1_0 k (F515.kt k [1,1,0,1,0]) (a0.1.take ((if 6 < (a0.1.length : Int) then 6 else (a0.1.length : Int)).toNat)) ((a0.1.take ((if 6 < (a0.1.length : Int) then 6 else (a0.1.length : Int)).toNat)).length : Int) 0 a0.1 a0.2.1 a0.2.2.1 a0.2.2.2.1 a0.2.2.2.2.1 a0.2.2.2.2.2.1 a0.2.2.2.2.2.2.1.1 a0.2.2.2.2.2.2.1.2.1 a0.2.2.2.2.2.2.1.2.2.1 a0.2.2.2.2.2.2.1.2.2.2.1 a0.2.2.2.2.2.2.1.2.2.2.2.1 a0.2.2.2.2.2.2.1.2.2.2.2.2.1 a0.2.2.2.2.2.2.1.2.2.2.2.2.2.1 a0.2.2.2.2.2.2.1.2.2.2.2.2.2.2 a0.2.2.2.2.2.2.2 (0 : Int) (0 : Int) ((if a0.2.2.2.1 > 0 then a0.2.2.2.1 else 0).tmod 3) (0 : Int) [] []
 else
 none := by kernel_rfl
theorem F515.l1_1_0_1_0_eq (n : Nat) (K : Conts) (p0 : List ByteArray) (p1 p2 : Int) (p3 : List ByteArray) (p4 : List (List Int)) (p5 : List (Int × ((List Int) × ((List Int) × ((List Int) × (Int × Int)))))) (p6 p7 p8 p9 : Int) (p10 p11 p12 p13 p14 : List Int) (p15 : Int) (p16 : List (List Int)) (p17 : List Int) (p18 p19 p20 p21 : Int) (p22 : List ByteArray) (p23 : List (List Int)) : F515.l1_1_0_1_0 (n + 1) K p0 p1 p2 p3 p4 p5 p6 p7 p8 p9 p10 p11 p12 p13 p14 p15 p16 p17 p18 p19 p20 p21 p22 p23 =
 bif decide (p2 < p1) then
 bif decide (0 ≤ p2) && decide (p2 < p0.length) then
 bif !(decide ((p8.tmod 8) = 1)) then
 bif decide (0 ≤ (if 40 < ((strN [IntKind.u8.wrap (97 + (IntKind.u8.wrap p2))]).size : Int) then 40 else ((strN [IntKind.u8.wrap (97 + (IntKind.u8.wrap p2))]).size : Int))) && decide ((if 40 < ((strN [IntKind.u8.wrap (97 + (IntKind.u8.wrap p2))]).size : Int) then 40 else ((strN [IntKind.u8.wrap (97 + (IntKind.u8.wrap p2))]).size : Int)) ≤ (strN [IntKind.u8.wrap (97 + (IntKind.u8.wrap p2))]).size) then
 bif decide ((p22.length + [(strN [IntKind.u8.wrap (97 + (IntKind.u8.wrap p2))]).extract 0 ((if 40 < ((strN [IntKind.u8.wrap (97 + (IntKind.u8.wrap p2))]).size : Int) then 40 else ((strN [IntKind.u8.wrap (97 + (IntKind.u8.wrap p2))]).size : Int)).toNat)].length) * 16 ≤ LIM) then
 bif decide (p2 < (p4.length : Int)) then
 bif decide (0 ≤ p2) && decide (p2 < p4.length) then
 bif decide (((p4.getD p2.toNat []).length : Int) > 0) then
 bif decide (0 ≤ p2) && decide (p2 < p4.length) then
 bif decide (0 ≤ p2) && decide (p2 < p4.length) then
 bif decide (0 ≤ (if 6 < ((p4.getD p2.toNat []).length : Int) then 6 else ((p4.getD p2.toNat []).length : Int))) && decide ((if 6 < ((p4.getD p2.toNat []).length : Int) then 6 else ((p4.getD p2.toNat []).length : Int)) ≤ (p4.getD p2.toNat []).length) then
 F515.l1_1_0_1_0_0_1_1_0_0_1_1_1_1_0_1_0_1_0_1_0 n (F515.k_l1_1_0_1_0 n K [1,1,0,0,1,1,1,1,0,1,0,1,0,1,0]) p0 p1 p2 ((p4.getD p2.toNat []).take ((if 6 < ((p4.getD p2.toNat []).length : Int) then 6 else ((p4.getD p2.toNat []).length : Int)).toNat)) (((p4.getD p2.toNat []).take ((if 6 < ((p4.getD p2.toNat []).length : Int) then 6 else ((p4.getD p2.toNat []).length : Int)).toNat)).length : Int) 0 p3 p4 p5 p6 p7 p8 p9 p10 p11 p12 p13 p14 p15 p16 p17 p18 p19 p20 p21 [] (p22 ++ [(strN [IntKind.u8.wrap (97 + (IntKind.u8.wrap p2))]).extract 0 ((if 40 < ((strN [IntKind.u8.wrap (97 + (IntKind.u8.wrap p2))]).size : Int) then 40 else ((strN [IntKind.u8.wrap (97 + (IntKind.u8.wrap p2))]).size : Int)).toNat)]) p23
 else
 none
 else
 none
 else
 none
 else
 bif decide ((p23.length + [[p2]].length) * 24 ≤ LIM) then
 F515.l1_1_0_1_0 n K p0 p1 (IntKind.i64.wrap (p2 + 1)) p3 p4 p5 p6 p7 p8 p9 p10 p11 p12 p13 p14 p15 p16 p17 p18 p19 p20 p21 (p22 ++ [(strN [IntKind.u8.wrap (97 + (IntKind.u8.wrap p2))]).extract 0 ((if 40 < ((strN [IntKind.u8.wrap (97 + (IntKind.u8.wrap p2))]).size : Int) then 40 else ((strN [IntKind.u8.wrap (97 + (IntKind.u8.wrap p2))]).size : Int)).toNat)]) (p23 ++ [[p2]])
 else
 none
 else
 none
 else
 bif decide ((p23.length + [[p2]].length) * 24 ≤ LIM) then
 F515.l1_1_0_1_0 n K p0 p1 (IntKind.i64.wrap (p2 + 1)) p3 p4 p5 p6 p7 p8 p9 p10 p11 p12 p13 p14 p15 p16 p17 p18 p19 p20 p21 (p22 ++ [(strN [IntKind.u8.wrap (97 + (IntKind.u8.wrap p2))]).extract 0 ((if 40 < ((strN [IntKind.u8.wrap (97 + (IntKind.u8.wrap p2))]).size : Int) then 40 else ((strN [IntKind.u8.wrap (97 + (IntKind.u8.wrap p2))]).size : Int)).toNat)]) (p23 ++ [[p2]])
 else
 none
 else
 none
 else
 none
 else
 bif decide (0 ≤ (if 40 < ((p0.getD p2.toNat ByteArray.empty).size : Int) then 40 else ((p0.getD p2.toNat ByteArray.empty).size : Int))) && decide ((if 40 < ((p0.getD p2.toNat ByteArray.empty).size : Int) then 40 else ((p0.getD p2.toNat ByteArray.empty).size : Int)) ≤ (p0.getD p2.toNat ByteArray.empty).size) then
 bif decide ((p22.length + [(p0.getD p2.toNat ByteArray.empty).extract 0 ((if 40 < ((p0.getD p2.toNat ByteArray.empty).size : Int) then 40 else ((p0.getD p2.toNat ByteArray.empty).size : Int)).toNat)].length) * 16 ≤ LIM) then
 bif decide (p2 < (p4.length : Int)) then
 bif decide (0 ≤ p2) && decide (p2 < p4.length) then
 bif decide (((p4.getD p2.toNat []).length : Int) > 0) then
 bif decide (0 ≤ p2) && decide (p2 < p4.length) then
 bif decide (0 ≤ p2) && decide (p2 < p4.length) then
 bif decide (0 ≤ (if 6 < ((p4.getD p2.toNat []).length : Int) then 6 else ((p4.getD p2.toNat []).length : Int))) && decide ((if 6 < ((p4.getD p2.toNat []).length : Int) then 6 else ((p4.getD p2.toNat []).length : Int)) ≤ (p4.getD p2.toNat []).length) then
 F515.l1_1_0_1_0_0_1_1_0_0_1_1_1_1_0_1_0_1_0_1_0 n (F515.k_l1_1_0_1_0 n K [1,1,0,0,1,1,1,1,0,1,0,1,0,1,0]) p0 p1 p2 ((p4.getD p2.toNat []).take ((if 6 < ((p4.getD p2.toNat []).length : Int) then 6 else ((p4.getD p2.toNat []).length : Int)).toNat)) (((p4.getD p2.toNat []).take ((if 6 < ((p4.getD p2.toNat []).length : Int) then 6 else ((p4.getD p2.toNat []).length : Int)).toNat)).length : Int) 0 p3 p4 p5 p6 p7 p8 p9 p10 p11 p12 p13 p14 p15 p16 p17 p18 p19 p20 p21 [] (p22 ++ [(p0.getD p2.toNat ByteArray.empty).extract 0 ((if 40 < ((p0.getD p2.toNat ByteArray.empty).size : Int) then 40 else ((p0.getD p2.toNat ByteArray.empty).size : Int)).toNat)]) p23
 else
 none
 else
 none
 else
 none
 else
 bif decide ((p23.length + [[p2]].length) * 24 ≤ LIM) then
 F515.l1_1_0_1_0 n K p0 p1 (IntKind.i64.wrap (p2 + 1)) p3 p4 p5 p6 p7 p8 p9 p10 p11 p12 p13 p14 p15 p16 p17 p18 p19 p20 p21 (p22 ++ [(p0.getD p2.toNat ByteArray.empty).extract 0 ((if 40 < ((p0.getD p2.toNat ByteArray.empty).size : Int) then 40 else ((p0.getD p2.toNat ByteArray.empty).size : Int)).toNat)]) (p23 ++ [[p2]])
 else
 none
 else
 none
 else
 bif decide ((p23.length + [[p2]].length) * 24 ≤ LIM) then
 F515.l1_1_0_1_0 n K p0 p1 (IntKind.i64.wrap (p2 + 1)) p3 p4 p5 p6 p7 p8 p9 p10 p11 p12 p13 p14 p15 p16 p17 p18 p19 p20 p21 (p22 ++ [(p0.getD p2.toNat ByteArray.empty).extract 0 ((if 40 < ((p0.getD p2.toNat ByteArray.empty).size : Int) then 40 else ((p0.getD p2.toNat ByteArray.empty).size : Int)).toNat)]) (p23 ++ [[p2]])
 else
 none
 else
 none
 else
 none
 else
 none
 else
 exitK K 0 ⟨slots 198 [(1, .pb 0 0), (2, .pb 1 0), (3, .pb 2 0)], [.box [.v (.sl .str) p3, .v (.sl (.sl (.int .i8))) p4, .v (.sl (.pair (.int .u8) (.pair (.sl (.int .u8)) (.pair (.sl (.int .u8)) (.pair (.sl (.int .i8)) (.pair (.int .i16) (.int .u8))))))) p5, .v (.int .i64) p6, .v (.int .i64) p7, .v (.int .u8) p8, .v (.int .i64) p9, .v (.sl (.int .i64)) p10, .v (.sl (.int .i64)) p11, .v (.sl (.int .i64)) p12, .v (.sl (.int .i64)) p13, .v (.sl (.int .i64)) p14, .v (.int .i64) p15, .v (.sl (.sl (.int .i64))) p16, .v (.sl (.int .i64)) p17], .box [.nl, .nl, .nl, .v (.int .i64) p18, .v (.int .i64) p19], .box [.own 3, .own 4, .nl, .v (.int .i64) p20, .v (.int .i64) p21], .row 9 .str p22, .row 29 (.sl (.int .i64)) p23]⟩ := by kernel_rfl
theorem F515.l1_1_0_1_0_0_1_1_0_0_1_1_1_1_0_1_0_1_0_1_0_eq (n : Nat) (K : Conts) (p0 : List ByteArray) (p1 p2 : Int) (p3 : List Int) (p4 p5 : Int) (p6 : List ByteArray) (p7 : List (List Int)) (p8 : List (Int × ((List Int) × ((List Int) × ((List Int) × (Int × Int)))))) (p9 p10 p11 p12 : Int) (p13 p14 p15 p16 p17 : List Int) (p18 : Int) (p19 : List (List Int)) (p20 : List Int) (p21 p22 p23 p24 : Int) (p25 : List Int) (p26 : List ByteArray) (p27 : List (List Int)) : F515.l1_1_0_1_0_0_1_1_0_0_1_1_1_1_0_1_0_1_0_1_0 (n + 1) K p0 p1 p2 p3 p4 p5 p6 p7 p8 p9 p10 p11 p12 p13 p14 p15 p16 p17 p18 p19 p20 p21 p22 p23 p24 p25 p26 p27 =
 bif decide (p5 < p4) then
 bif decide (0 ≤ p5) && decide (p5 < p3.length) then
 bif decide ((p25.length + [IntKind.i64.wrap (p3.getD p5.toNat (0 : Int))].length) * 8 ≤ LIM) then
 F515.l1_1_0_1_0_0_1_1_0_0_1_1_1_1_0_1_0_1_0_1_0 n K p0 p1 p2 p3 p4 (IntKind.i64.wrap (p5 + 1)) p6 p7 p8 p9 p10 p11 p12 p13 p14 p15 p16 p17 p18 p19 p20 p21 p22 p23 p24 (p25 ++ [IntKind.i64.wrap (p3.getD p5.toNat (0 : Int))]) p26 p27
 else
 none
 else
 none
 else
 exitK K 2 ⟨slots 198 [(1, .pb 0 0), (2, .pb 1 0), (3, .pb 2 0), (6, .own 3), (22, .v (.sl .str) p0), (23, .v (.int .i64) p1), (24, .v (.int .i64) p2)], [.box [.v (.sl .str) p6, .v (.sl (.sl (.int .i8))) p7, .v (.sl (.pair (.int .u8) (.pair (.sl (.int .u8)) (.pair (.sl (.int .u8)) (.pair (.sl (.int .i8)) (.pair (.int .i16) (.int .u8))))))) p8, .v (.int .i64) p9, .v (.int .i64) p10, .v (.int .u8) p11, .v (.int .i64) p12, .v (.sl (.int .i64)) p13, .v (.sl (.int .i64)) p14, .v (.sl (.int .i64)) p15, .v (.sl (.int .i64)) p16, .v (.sl (.int .i64)) p17, .v (.int .i64) p18, .v (.sl (.sl (.int .i64))) p19, .v (.sl (.int .i64)) p20], .box [.nl, .nl, .nl, .v (.int .i64) p21, .v (.int .i64) p22], .box [.own 4, .own 5, .nl, .v (.int .i64) p23, .v (.int .i64) p24], .row 3 (.int .i64) p25, .row 9 .str p26, .row 29 (.sl (.int .i64)) p27]⟩ := by kernel_rfl
theorem F515.c0 (k : Nat) (p0 : List ByteArray) (p1 : List (List Int)) (p2 : List (Int × ((List Int) × ((List Int) × ((List Int) × (Int × Int)))))) (p3 p4 p5 p6 : Int) (p7 p8 p9 p10 p11 : List Int) (p12 : Int) (p13 : List (List Int)) (p14 : List Int) (p15 p16 p17 p18 : Int) (p19 : List ByteArray) (p20 : List (List Int)) : exitK (F515.kt k [1,1,0,1,0]) 0 ⟨slots 198 [(1, .pb 0 0), (2, .pb 1 0), (3, .pb 2 0)], [.box [.v (.sl .str) p0, .v (.sl (.sl (.int .i8))) p1, .v (.sl (.pair (.int .u8) (.pair (.sl (.int .u8)) (.pair (.sl (.int .u8)) (.pair (.sl (.int .i8)) (.pair (.int .i16) (.int .u8))))))) p2, .v (.int .i64) p3, .v (.int .i64) p4, .v (.int .u8) p5, .v (.int .i64) p6, .v (.sl (.int .i64)) p7, .v (.sl (.int .i64)) p8, .v (.sl (.int .i64)) p9, .v (.sl (.int .i64)) p10, .v (.sl (.int .i64)) p11, .v (.int .i64) p12, .v (.sl (.sl (.int .i64))) p13, .v (.sl (.int .i64)) p14], .box [.nl, .nl, .nl, .v (.int .i64) p15, .v (.int .i64) p16], .box [.own 3, .own 4, .nl, .v (.int .i64) p17, .v (.int .i64) p18], .row 9 .str p19, .row 29 (.sl (.int .i64)) p20]⟩ =
 bif decide (0 ≤ (if 5 < (p2.length : Int) then 5 else (p2.length : Int))) && decide ((if 5 < (p2.length : Int) then 5 else (p2.length : Int)) ≤ p2.length) then
 F515.l1_1_1_0_1_0 k (F515.kt k [1,1,1,0,1,0]) (p2.take ((if 5 < (p2.length : Int) then 5 else (p2.length : Int)).toNat)) ((p2.take ((if 5 < (p2.length : Int) then 5 else (p2.length : Int)).toNat)).length : Int) 0 p0 p1 p2 p3 p4 p5 p6 p7 p8 p9 p10 p11 p12 p13 p14 p15 p16 p17 p18 p19 p20 []
 else
 none := by kernel_rfl
theorem F515.c1 (n : Nat) (K : Conts) (p0 : List ByteArray) (p1 p2 : Int) (p3 : List ByteArray) (p4 : List (List Int)) (p5 : List (Int × ((List Int) × ((List Int) × ((List Int) × (Int × Int)))))) (p6 p7 p8 p9 : Int) (p10 p11 p12 p13 p14 : List Int) (p15 : Int) (p16 : List (List Int)) (p17 : List Int) (p18 p19 p20 p21 : Int) (p22 : List Int) (p23 : List ByteArray) (p24 : List (List Int)) : exitK (F515.k_l1_1_0_1_0 n K [1,1,0,0,1,1,1,1,0,1,0,1,0,1,0]) 2 ⟨slots 198 [(1, .pb 0 0), (2, .pb 1 0), (3, .pb 2 0), (6, .own 3), (22, .v (.sl .str) p0), (23, .v (.int .i64) p1), (24, .v (.int .i64) p2)], [.box [.v (.sl .str) p3, .v (.sl (.sl (.int .i8))) p4, .v (.sl (.pair (.int .u8) (.pair (.sl (.int .u8)) (.pair (.sl (.int .u8)) (.pair (.sl (.int .i8)) (.pair (.int .i16) (.int .u8))))))) p5, .v (.int .i64) p6, .v (.int .i64) p7, .v (.int .u8) p8, .v (.int .i64) p9, .v (.sl (.int .i64)) p10, .v (.sl (.int .i64)) p11, .v (.sl (.int .i64)) p12, .v (.sl (.int .i64)) p13, .v (.sl (.int .i64)) p14, .v (.int .i64) p15, .v (.sl (.sl (.int .i64))) p16, .v (.sl (.int .i64)) p17], .box [.nl, .nl, .nl, .v (.int .i64) p18, .v (.int .i64) p19], .box [.own 4, .own 5, .nl, .v (.int .i64) p20, .v (.int .i64) p21], .row 3 (.int .i64) p22, .row 9 .str p23, .row 29 (.sl (.int .i64)) p24]⟩ =
 bif !(List.isEmpty p22) && Nat.ble (List.length p22) 1000 then
 bif !(List.isEmpty (sortL p22)) && Nat.ble (List.length (sortL p22)) 1000 then
 bif decide ((p24.length + [compL (sortL p22)].length) * 24 ≤ LIM) then
 F515.l1_1_0_1_0 n K p0 p1 (IntKind.i64.wrap (p2 + 1)) p3 p4 p5 p6 p7 p8 p9 p10 p11 p12 p13 p14 p15 p16 p17 p18 p19 p20 p21 p23 (p24 ++ [compL (sortL p22)])
 else
 none
 else
 none
 else
 none := by kernel_rfl
theorem F515.l1_1_1_0_1_0_eq (n : Nat) (K : Conts) (p0 : List (Int × ((List Int) × ((List Int) × ((List Int) × (Int × Int)))))) (p1 p2 : Int) (p3 : List ByteArray) (p4 : List (List Int)) (p5 : List (Int × ((List Int) × ((List Int) × ((List Int) × (Int × Int)))))) (p6 p7 p8 p9 : Int) (p10 p11 p12 p13 p14 : List Int) (p15 : Int) (p16 : List (List Int)) (p17 : List Int) (p18 p19 p20 p21 : Int) (p22 : List ByteArray) (p23 : List (List Int)) (p24 : List Con) : F515.l1_1_1_0_1_0 (n + 1) K p0 p1 p2 p3 p4 p5 p6 p7 p8 p9 p10 p11 p12 p13 p14 p15 p16 p17 p18 p19 p20 p21 p22 p23 p24 =
 bif decide (p2 < p1) then
 bif decide (0 ≤ p2) && decide (p2 < p0.length) then
 bif decide ((p22.length : Int) > 0) then
 bif conAB (p0.getD p2.toNat ((0 : Int), ([], ([], ([], ((0 : Int), (0 : Int))))))) (p22.length : Int) then
 bif decide ((p24.length + [conA (p0.getD p2.toNat ((0 : Int), ([], ([], ([], ((0 : Int), (0 : Int))))))) (p22.length : Int)].length) * 160 ≤ LIM) then
 F515.l1_1_1_0_1_0 n K p0 p1 (IntKind.i64.wrap (p2 + 1)) p3 p4 p5 p6 p7 p8 p9 p10 p11 p12 p13 p14 p15 p16 p17 p18 p19 p20 p21 p22 p23 (p24 ++ [conA (p0.getD p2.toNat ((0 : Int), ([], ([], ([], ((0 : Int), (0 : Int))))))) (p22.length : Int)])
 else
 none
 else
 none
 else
 F515.l1_1_1_0_1_0 n K p0 p1 (IntKind.i64.wrap (p2 + 1)) p3 p4 p5 p6 p7 p8 p9 p10 p11 p12 p13 p14 p15 p16 p17 p18 p19 p20 p21 p22 p23 p24
 else
 none
 else
 exitK K 4 ⟨slots 198 [(1, .pb 0 0), (2, .pb 1 0), (3, .pb 2 0)], [.box [.v (.sl .str) p3, .v (.sl (.sl (.int .i8))) p4, .v (.sl (.pair (.int .u8) (.pair (.sl (.int .u8)) (.pair (.sl (.int .u8)) (.pair (.sl (.int .i8)) (.pair (.int .i16) (.int .u8))))))) p5, .v (.int .i64) p6, .v (.int .i64) p7, .v (.int .u8) p8, .v (.int .i64) p9, .v (.sl (.int .i64)) p10, .v (.sl (.int .i64)) p11, .v (.sl (.int .i64)) p12, .v (.sl (.int .i64)) p13, .v (.sl (.int .i64)) p14, .v (.int .i64) p15, .v (.sl (.sl (.int .i64))) p16, .v (.sl (.int .i64)) p17], .box [.nl, .nl, .nl, .v (.int .i64) p18, .v (.int .i64) p19], .box [.own 3, .own 4, .own 5, .v (.int .i64) p20, .v (.int .i64) p21], .row 9 .str p22, .row 29 (.sl (.int .i64)) p23, .row 31 (.pair (.int .i64) (.pair (.sl (.int .i64)) (.pair (.sl (.int .i64)) (.pair (.sl (.int .i64)) (.pair (.sl (.int .i64)) (.pair (.sl (.int .i64)) (.pair (.int .i64) (.sl (.sl (.int .i64)))))))))) p24]⟩ := by kernel_rfl
theorem F515.c2 (k : Nat) (p0 : List ByteArray) (p1 : List (List Int)) (p2 : List (Int × ((List Int) × ((List Int) × ((List Int) × (Int × Int)))))) (p3 p4 p5 p6 : Int) (p7 p8 p9 p10 p11 : List Int) (p12 : Int) (p13 : List (List Int)) (p14 : List Int) (p15 p16 p17 p18 : Int) (p19 : List ByteArray) (p20 : List (List Int)) (p21 : List Con) : exitK (F515.kt k [1,1,1,0,1,0]) 4 ⟨slots 198 [(1, .pb 0 0), (2, .pb 1 0), (3, .pb 2 0)], [.box [.v (.sl .str) p0, .v (.sl (.sl (.int .i8))) p1, .v (.sl (.pair (.int .u8) (.pair (.sl (.int .u8)) (.pair (.sl (.int .u8)) (.pair (.sl (.int .i8)) (.pair (.int .i16) (.int .u8))))))) p2, .v (.int .i64) p3, .v (.int .i64) p4, .v (.int .u8) p5, .v (.int .i64) p6, .v (.sl (.int .i64)) p7, .v (.sl (.int .i64)) p8, .v (.sl (.int .i64)) p9, .v (.sl (.int .i64)) p10, .v (.sl (.int .i64)) p11, .v (.int .i64) p12, .v (.sl (.sl (.int .i64))) p13, .v (.sl (.int .i64)) p14], .box [.nl, .nl, .nl, .v (.int .i64) p15, .v (.int .i64) p16], .box [.own 3, .own 4, .own 5, .v (.int .i64) p17, .v (.int .i64) p18], .row 9 .str p19, .row 29 (.sl (.int .i64)) p20, .row 31 (.pair (.int .i64) (.pair (.sl (.int .i64)) (.pair (.sl (.int .i64)) (.pair (.sl (.int .i64)) (.pair (.sl (.int .i64)) (.pair (.sl (.int .i64)) (.pair (.int .i64) (.sl (.sl (.int .i64)))))))))) p21]⟩ =
 bif decide (p17 > 0) then
 bif decide ((p19.length : Int) > 0) then
 bif !decide ((p19.length : Int) = 0) then
 bif decide ((p5.tmod 8) = 2) then
 bif cutNB 6 then
 bif decide ((p21.length + [cutM (p6, (p7, (p8, (p9, (p10, (p11, (p12, p13))))))) 6].length) * 160 ≤ LIM) then
 some (.agg [.v (.sl .str) p19, .v (.sl (.sl (.int .i64))) p20, .v (.sl (.pair (.int .i64) (.pair (.sl (.int .i64)) (.pair (.sl (.int .i64)) (.pair (.sl (.int .i64)) (.pair (.sl (.int .i64)) (.pair (.sl (.int .i64)) (.pair (.int .i64) (.sl (.sl (.int .i64))))))))))) (p21 ++ [cutM (p6, (p7, (p8, (p9, (p10, (p11, (p12, p13))))))) 6]), .v (.int .i64) p17, .v (.int .i64) ((if p4 > 0 then p4 else 0).tmod (p19.length : Int))])
 else
 none
 else
 none
 else
 bif decide ((p5.tmod 8) = 3) then
 bif decide (0 ≤ (if 6 < (p14.length : Int) then 6 else (p14.length : Int))) && decide ((if 6 < (p14.length : Int) then 6 else (p14.length : Int)) ≤ p14.length) then
 bif decide ((p20.length + [p14.take ((if 6 < (p14.length : Int) then 6 else (p14.length : Int)).toNat)].length) * 24 ≤ LIM) then
 some (.agg [.v (.sl .str) p19, .v (.sl (.sl (.int .i64))) (p20 ++ [p14.take ((if 6 < (p14.length : Int) then 6 else (p14.length : Int)).toNat)] : (List (List Int))), .v (.sl (.pair (.int .i64) (.pair (.sl (.int .i64)) (.pair (.sl (.int .i64)) (.pair (.sl (.int .i64)) (.pair (.sl (.int .i64)) (.pair (.sl (.int .i64)) (.pair (.int .i64) (.sl (.sl (.int .i64))))))))))) p21, .v (.int .i64) p17, .v (.int .i64) ((if p4 > 0 then p4 else 0).tmod (p19.length : Int))])
 else
 none
 else
 none
 else
 bif decide ((p5.tmod 8) = 4) then
 some (.agg [.v (.sl .str) p19, .v (.sl (.sl (.int .i64))) p20, .v (.sl (.pair (.int .i64) (.pair (.sl (.int .i64)) (.pair (.sl (.int .i64)) (.pair (.sl (.int .i64)) (.pair (.sl (.int .i64)) (.pair (.sl (.int .i64)) (.pair (.int .i64) (.sl (.sl (.int .i64))))))))))) p21, .v (.int .i64) p3, .v (.int .i64) p4])
 else
 bif decide ((p5.tmod 8) = 5) then
 bif decide ((p19.length + [(⟨#[122]⟩ : ByteArray)].length) * 16 ≤ LIM) then
 bif decide (0 ≤ (if 6 < (p14.length : Int) then 6 else (p14.length : Int))) && decide ((if 6 < (p14.length : Int) then 6 else (p14.length : Int)) ≤ p14.length) then
 bif decide ((p20.length + [p14.take ((if 6 < (p14.length : Int) then 6 else (p14.length : Int)).toNat)].length) * 24 ≤ LIM) then
 some (.agg [.v (.sl .str) (p19 ++ [(⟨#[122]⟩ : ByteArray)] : (List ByteArray)), .v (.sl (.sl (.int .i64))) (p20 ++ [p14.take ((if 6 < (p14.length : Int) then 6 else (p14.length : Int)).toNat)] : (List (List Int))), .v (.sl (.pair (.int .i64) (.pair (.sl (.int .i64)) (.pair (.sl (.int .i64)) (.pair (.sl (.int .i64)) (.pair (.sl (.int .i64)) (.pair (.sl (.int .i64)) (.pair (.int .i64) (.sl (.sl (.int .i64))))))))))) p21, .v (.int .i64) p17, .v (.int .i64) ((if p4 > 0 then p4 else 0).tmod (p19.length : Int))])
 else
 none
 else
 none
 else
 none
 else
 some (.agg [.v (.sl .str) p19, .v (.sl (.sl (.int .i64))) p20, .v (.sl (.pair (.int .i64) (.pair (.sl (.int .i64)) (.pair (.sl (.int .i64)) (.pair (.sl (.int .i64)) (.pair (.sl (.int .i64)) (.pair (.sl (.int .i64)) (.pair (.int .i64) (.sl (.sl (.int .i64))))))))))) p21, .v (.int .i64) p17, .v (.int .i64) ((if p4 > 0 then p4 else 0).tmod (p19.length : Int))])
 else
 none
 else
 bif decide ((p5.tmod 8) = 2) then
 bif cutNB 6 then
 bif decide ((p21.length + [cutM (p6, (p7, (p8, (p9, (p10, (p11, (p12, p13))))))) 6].length) * 160 ≤ LIM) then
 some (.agg [.v (.sl .str) p19, .v (.sl (.sl (.int .i64))) p20, .v (.sl (.pair (.int .i64) (.pair (.sl (.int .i64)) (.pair (.sl (.int .i64)) (.pair (.sl (.int .i64)) (.pair (.sl (.int .i64)) (.pair (.sl (.int .i64)) (.pair (.int .i64) (.sl (.sl (.int .i64))))))))))) (p21 ++ [cutM (p6, (p7, (p8, (p9, (p10, (p11, (p12, p13))))))) 6]), .v (.int .i64) p17, .v (.int .i64) p18])
 else
 none
 else
 none
 else
 bif decide ((p5.tmod 8) = 3) then
 bif decide (0 ≤ (if 6 < (p14.length : Int) then 6 else (p14.length : Int))) && decide ((if 6 < (p14.length : Int) then 6 else (p14.length : Int)) ≤ p14.length) then
 bif decide ((p20.length + [p14.take ((if 6 < (p14.length : Int) then 6 else (p14.length : Int)).toNat)].length) * 24 ≤ LIM) then
 some (.agg [.v (.sl .str) p19, .v (.sl (.sl (.int .i64))) (p20 ++ [p14.take ((if 6 < (p14.length : Int) then 6 else (p14.length : Int)).toNat)] : (List (List Int))), .v (.sl (.pair (.int .i64) (.pair (.sl (.int .i64)) (.pair (.sl (.int .i64)) (.pair (.sl (.int .i64)) (.pair (.sl (.int .i64)) (.pair (.sl (.int .i64)) (.pair (.int .i64) (.sl (.sl (.int .i64))))))))))) p21, .v (.int .i64) p17, .v (.int .i64) p18])
 else
 none
 else
 none
 else
 bif decide ((p5.tmod 8) = 4) then
 some (.agg [.v (.sl .str) p19, .v (.sl (.sl (.int .i64))) p20, .v (.sl (.pair (.int .i64) (.pair (.sl (.int .i64)) (.pair (.sl (.int .i64)) (.pair (.sl (.int .i64)) (.pair (.sl (.int .i64)) (.pair (.sl (.int .i64)) (.pair (.int .i64) (.sl (.sl (.int .i64))))))))))) p21, .v (.int .i64) p3, .v (.int .i64) p4])
 else
 bif decide ((p5.tmod 8) = 5) then
 bif decide ((p19.length + [(⟨#[122]⟩ : ByteArray)].length) * 16 ≤ LIM) then
 bif decide (0 ≤ (if 6 < (p14.length : Int) then 6 else (p14.length : Int))) && decide ((if 6 < (p14.length : Int) then 6 else (p14.length : Int)) ≤ p14.length) then
 bif decide ((p20.length + [p14.take ((if 6 < (p14.length : Int) then 6 else (p14.length : Int)).toNat)].length) * 24 ≤ LIM) then
 some (.agg [.v (.sl .str) (p19 ++ [(⟨#[122]⟩ : ByteArray)] : (List ByteArray)), .v (.sl (.sl (.int .i64))) (p20 ++ [p14.take ((if 6 < (p14.length : Int) then 6 else (p14.length : Int)).toNat)] : (List (List Int))), .v (.sl (.pair (.int .i64) (.pair (.sl (.int .i64)) (.pair (.sl (.int .i64)) (.pair (.sl (.int .i64)) (.pair (.sl (.int .i64)) (.pair (.sl (.int .i64)) (.pair (.int .i64) (.sl (.sl (.int .i64))))))))))) p21, .v (.int .i64) p17, .v (.int .i64) p18])
 else
 none
 else
 none
 else
 none
 else
 some (.agg [.v (.sl .str) p19, .v (.sl (.sl (.int .i64))) p20, .v (.sl (.pair (.int .i64) (.pair (.sl (.int .i64)) (.pair (.sl (.int .i64)) (.pair (.sl (.int .i64)) (.pair (.sl (.int .i64)) (.pair (.sl (.int .i64)) (.pair (.int .i64) (.sl (.sl (.int .i64))))))))))) p21, .v (.int .i64) p17, .v (.int .i64) p18])
 else
 bif decide ((p5.tmod 8) = 2) then
 bif cutNB 6 then
 bif decide ((p21.length + [cutM (p6, (p7, (p8, (p9, (p10, (p11, (p12, p13))))))) 6].length) * 160 ≤ LIM) then
 some (.agg [.v (.sl .str) p19, .v (.sl (.sl (.int .i64))) p20, .v (.sl (.pair (.int .i64) (.pair (.sl (.int .i64)) (.pair (.sl (.int .i64)) (.pair (.sl (.int .i64)) (.pair (.sl (.int .i64)) (.pair (.sl (.int .i64)) (.pair (.int .i64) (.sl (.sl (.int .i64))))))))))) (p21 ++ [cutM (p6, (p7, (p8, (p9, (p10, (p11, (p12, p13))))))) 6]), .v (.int .i64) p17, .v (.int .i64) p18])
 else
 none
 else
 none
 else
 bif decide ((p5.tmod 8) = 3) then
 bif decide (0 ≤ (if 6 < (p14.length : Int) then 6 else (p14.length : Int))) && decide ((if 6 < (p14.length : Int) then 6 else (p14.length : Int)) ≤ p14.length) then
 bif decide ((p20.length + [p14.take ((if 6 < (p14.length : Int) then 6 else (p14.length : Int)).toNat)].length) * 24 ≤ LIM) then
 some (.agg [.v (.sl .str) p19, .v (.sl (.sl (.int .i64))) (p20 ++ [p14.take ((if 6 < (p14.length : Int) then 6 else (p14.length : Int)).toNat)] : (List (List Int))), .v (.sl (.pair (.int .i64) (.pair (.sl (.int .i64)) (.pair (.sl (.int .i64)) (.pair (.sl (.int .i64)) (.pair (.sl (.int .i64)) (.pair (.sl (.int .i64)) (.pair (.int .i64) (.sl (.sl (.int .i64))))))))))) p21, .v (.int .i64) p17, .v (.int .i64) p18])
 else
 none
 else
 none
 else
 bif decide ((p5.tmod 8) = 4) then
 some (.agg [.v (.sl .str) p19, .v (.sl (.sl (.int .i64))) p20, .v (.sl (.pair (.int .i64) (.pair (.sl (.int .i64)) (.pair (.sl (.int .i64)) (.pair (.sl (.int .i64)) (.pair (.sl (.int .i64)) (.pair (.sl (.int .i64)) (.pair (.int .i64) (.sl (.sl (.int .i64))))))))))) p21, .v (.int .i64) p3, .v (.int .i64) p4])
 else
 bif decide ((p5.tmod 8) = 5) then
 bif decide ((p19.length + [(⟨#[122]⟩ : ByteArray)].length) * 16 ≤ LIM) then
 bif decide (0 ≤ (if 6 < (p14.length : Int) then 6 else (p14.length : Int))) && decide ((if 6 < (p14.length : Int) then 6 else (p14.length : Int)) ≤ p14.length) then
 bif decide ((p20.length + [p14.take ((if 6 < (p14.length : Int) then 6 else (p14.length : Int)).toNat)].length) * 24 ≤ LIM) then
 some (.agg [.v (.sl .str) (p19 ++ [(⟨#[122]⟩ : ByteArray)] : (List ByteArray)), .v (.sl (.sl (.int .i64))) (p20 ++ [p14.take ((if 6 < (p14.length : Int) then 6 else (p14.length : Int)).toNat)] : (List (List Int))), .v (.sl (.pair (.int .i64) (.pair (.sl (.int .i64)) (.pair (.sl (.int .i64)) (.pair (.sl (.int .i64)) (.pair (.sl (.int .i64)) (.pair (.sl (.int .i64)) (.pair (.int .i64) (.sl (.sl (.int .i64))))))))))) p21, .v (.int .i64) p17, .v (.int .i64) p18])
 else
 none
 else
 none
 else
 none
 else
 some (.agg [.v (.sl .str) p19, .v (.sl (.sl (.int .i64))) p20, .v (.sl (.pair (.int .i64) (.pair (.sl (.int .i64)) (.pair (.sl (.int .i64)) (.pair (.sl (.int .i64)) (.pair (.sl (.int .i64)) (.pair (.sl (.int .i64)) (.pair (.int .i64) (.sl (.sl (.int .i64))))))))))) p21, .v (.int .i64) p17, .v (.int .i64) p18]) := by kernel_rfl
end Go.Proofs.YtlfdikofmfhefaaGreatDoor.Ev
