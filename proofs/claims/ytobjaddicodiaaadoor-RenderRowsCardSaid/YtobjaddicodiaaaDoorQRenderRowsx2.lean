/- Functions of the program as Lean functions, each with the proof of its walk. Written by gen.py, a program of these sessions. -/
import Derived.Test.YtobjaddicodiaaaDoorQRenderRowsx1
namespace Go.Proofs.YtobjaddicodiaaaDoor.QRenderRows
open Go Go.RowKit Go.Proofs.YtobjaddicodiaaaDoorE Go.Proofs.YtobjaddicodiaaaDoorX
set_option linter.unusedVariables false
set_option maxRecDepth 100000
set_option maxHeartbeats 8000000
/-- glyphicmake.Icon -/
def c9 : C := (.seq (.reg [oq 2 (.new [(vI 0), (vI 0), (vI 0), (.slice none 0 0), (.slice none 0 0)])]) (.seq (.reg [oq 8 (.mv 0), oq 9 (.call 21 [8, (.const (vI 24))]), oq 10 (.bin .add (.const (vI 1)) 9), oq 11 (.mv 0), oq 12 (.call 21 [11, (.const (vI 24))]), oq 13 (.bin .add (.const (vI 1)) 12), oq 14 (.mv 0), oq 15 (.call 21 [14, (.const (vI 7))]), oq 16 (.bld [(vI 0), (vI 0), (vI 0), (.slice none 0 0), (.slice none 0 0)] [(0, 1, 10), (1, 1, 13), (2, 1, 15)]), oq 3 (.new [(vI 0), (vI 0), (vI 0), (.slice none 0 0), (.slice none 0 0)]), ⟨none, .st 5 3 16, none⟩]) (.seq (.reg [oq 17 (.pad 0 3), oq 18 (.ld none 17), oq 19 (.pad 1 3), oq 20 (.ld none 19), oq 21 (.mm true [18, 20]), oq 22 (.pad 2 3), oq 23 (.ld none 22), oq 24 (.cnv .u64 23), oq 25 (.bin .shl 21 24), oq 4 (.mv 25)]) (.seq (.seq (.reg [oq 26 (.mv 0), oq 27 (.call 21 [26, (.const (vI 4))]), oq 5 (.mv 27)]) (.block 0 (.loop (.seq (.seq (.reg [oq 28 (.mv 5), oq 29 (.bin .geq 28 (.const (vI 0))), oq 30 (.mv 29), ⟨(some 31), .mv 0, (some (30, true))⟩, ⟨(some 32), .call 22 [31], (some (30, true))⟩, oq 33 (.pk 30 32 (.const (vB false)))]) (.cond 33 .skip (.exit 0))) (.seq (.block 1 (.seq (.reg [oq 36 (.mv 0), oq 37 (.call 21 [36, (.const (vI 2))]), oq 38 (.bin .add (.const (vI 1)) 37), oq 39 (.bld [(vI 0), (vI 0), (vI 0), (vI 0), (vI 0), (vI 0), (vI 0), (vI 0), (vI 0), (vI 0), (.slice none 0 0)] [(0, 1, 38)]), oq 6 (.new [(vI 0), (vI 0), (vI 0), (vI 0), (vI 0), (vI 0), (vI 0), (vI 0), (vI 0), (vI 0), (.slice none 0 0)]), ⟨none, .st 11 6 39, none⟩]) (.seq (.seq (.reg [oq 40 (.pad 0 6), oq 41 (.ld none 40), oq 42 (.bin .eql 41 (.const (vI 1)))]) (.cond 42 (.reg [oq 43 (.mv 0), oq 44 (.call 21 [43, (.const (vI 2))]), oq 45 (.pad 1 6), ⟨none, .st 1 45 44, none⟩]) (.reg [oq 46 (.mv 0), oq 47 (.mv 4), oq 48 (.bin .quo 47 (.const (vI 2))), oq 49 (.mm true [48, (.const (vI 1))]), oq 50 (.call 21 [46, 49]), oq 51 (.bin .add (.const (vI 1)) 50), oq 52 (.pad 2 6), ⟨none, .st 1 52 51, none⟩]))) (.seq (.reg [oq 53 (.mv 0), oq 54 (.call 21 [53, (.const (vI 3))]), oq 55 (.pad 3 6), oq 56 (.pad 0 55), ⟨none, .st 1 56 54, none⟩]) (.seq (.reg [oq 57 (.mv 0), oq 58 (.call 24 [57]), oq 59 (.call 23 [3, 58]), oq 60 (.pad 3 6), oq 61 (.pad 1 60), ⟨none, .st 1 61 59, none⟩]) (.seq (.seq (.reg [oq 62 (.pad 3 6), oq 63 (.pad 0 62), oq 64 (.ld none 63), oq 65 (.bin .neq 64 (.const (vI 0)))]) (.cond 65 (.seq (.reg [oq 66 (.mv 0), oq 67 (.call 24 [66]), oq 68 (.call 23 [3, 67]), oq 69 (.pad 3 6), oq 70 (.pad 2 69), ⟨none, .st 1 70 68, none⟩]) (.reg [oq 71 (.mv 0), oq 72 (.mv 4), oq 73 (.call 25 [71, 72]), oq 74 (.pad 3 6), oq 75 (.pad 3 74), ⟨none, .st 2 75 73, none⟩])) .skip)) (.seq (.seq (.reg [oq 76 (.pad 3 6), oq 77 (.pad 0 76), oq 78 (.ld none 77), oq 79 (.bin .eql 78 (.const (vI 1)))]) (.cond 79 (.seq (.reg [oq 80 (.mv 0), oq 81 (.mv 4), oq 82 (.call 25 [80, 81]), oq 83 (.pad 3 6), oq 84 (.pad 5 83), ⟨none, .st 2 84 82, none⟩]) (.seq (.reg [oq 85 (.pad 3 6), oq 86 (.pad 3 85), oq 87 (.ld (some 2) 86), oq 88 (.pad 3 6), oq 89 (.pad 5 88), oq 90 (.ld (some 2) 89), oq 91 (.call 26 [87, 90])]) (.cond 91 (.reg [oq 92 (.pad 3 6), oq 93 (.pad 5 92), oq 94 (.pad 0 93), oq 95 (.ld none 94), oq 96 (.bin .add 95 (.const (vI 1))), oq 97 (.pad 3 6), oq 98 (.pad 5 97), oq 99 (.pad 0 98), ⟨none, .st 1 99 96, none⟩]) .skip))) .skip)) (.seq (.seq (.reg [oq 100 (.pad 3 6), oq 101 (.pad 0 100), oq 102 (.ld none 101), oq 103 (.bin .eql 102 (.const (vI 2)))]) (.cond 103 (.reg [oq 104 (.mv 0), oq 105 (.mv 4), oq 106 (.call 21 [104, 105]), oq 107 (.bin .add (.const (vI 1)) 106), oq 108 (.pad 3 6), oq 109 (.pad 5 108), oq 110 (.pad 0 109), ⟨none, .st 1 110 107, none⟩]) .skip)) (.seq (.seq (.reg [oq 111 (.mv 0), oq 112 (.call 21 [111, (.const (vI 3))]), oq 7 (.mv 112)]) (.block 2 (.loop (.seq (.seq (.reg [oq 113 (.mv 7), oq 114 (.bin .geq 113 (.const (vI 0)))]) (.cond 114 .skip (.exit 2))) (.seq (.block 3 (.drw [oq 117 (.pad 10 6), oq 118 (.ld none 117), oq 119 (.mv 0), oq 120 (.mv 4), oq 121 (.pad 0 6), oq 122 (.ld none 121), oq 123 (.bin .eql 122 (.const (vI 2))), oq 124 (.mv 123), ⟨(some 125), .mv 0, (some (124, true))⟩, ⟨(some 126), .call 21 [125, (.const (vI 2))], (some (124, true))⟩, ⟨(some 127), .bin .eql 126 (.const (vI 0)), (some (124, true))⟩, oq 128 (.pk 124 127 (.const (vB false))), oq 129 (.call 27 [119, 120, 128]), oq 130 (.bsl [(vI 0), (vI 0), (.slice none 0 0), (vB false)] 1 [(0, 4, 129)]), oq 131 (.app 72 4 48 [(vI 0), (vI 0), (.slice none 0 0), (vB false)] 118 130), oq 132 (.pad 10 6), ⟨none, .st 1 132 131, none⟩] [[], [0], [], [], [], [4], [5], [6], [7], [8, 7, 7], [9, 7], [7, 10], [2, 3, 11, 9], [12], [1, 13, 12], [0, 1, 2, 3, 4, 5, 6, 7, 8, 9, 10, 11, 12, 13, 14], [15, 14, 14, 0, 1, 2, 3, 4, 5, 6, 7, 8, 9, 10, 11, 12, 13, 14]])) (.reg [oq 115 (.mv 7), oq 116 (.bin .sub 115 (.const (vI 1))), oq 7 (.mv 116)])))))) (.reg [oq 133 (.pad 4 3), oq 134 (.ld none 133), oq 135 (.ld (some 11) 6), oq 136 (.bsl [(vI 0), (vI 0), (vI 0), (vI 0), (vI 0), (vI 0), (vI 0), (vI 0), (vI 0), (vI 0), (.slice none 0 0)] 1 [(0, 11, 135)]), oq 137 (.app 54 11 104 [(vI 0), (vI 0), (vI 0), (vI 0), (vI 0), (vI 0), (vI 0), (vI 0), (vI 0), (vI 0), (.slice none 0 0)] 134 136), oq 138 (.pad 4 3), ⟨none, .st 1 138 137, none⟩])))))))))) (.reg [oq 34 (.mv 5), oq 35 (.bin .sub 34 (.const (vI 1))), oq 5 (.mv 35)])))))) (.seq (.reg [oq 139 (.ld (some 5) 3), ⟨none, .st 5 2 139, none⟩]) .ret)))))
def glyphicmake_Icon_v1.l1 : Nat → List (Int) → Int → Int → Int → Int → Int → List (Int × Int × List (Int × Int × Int × Int × Int × Int × Int) × Bool) → Int → Option (List (Int × Int × List (Int × Int × Int × Int × Int × Int × Int) × Bool) × Int)
  | 0, _, _, _, _, _, _, _, _ => none
  | k + 1, m0_0, t177, t180, t183, t210, x292, y294, x295 => if x292 ≥ 0 then (if (wr64 (1 + t210)) = 2 then ((glyphicmake_Seq_Next_v1.f 2 m0_0 x295).bind fun (t298, t299) => ((glyphicmake_Path_v1.f k (wr64 ((mx (wr64 (1 + t177)) (wr64 (1 + t180))) * 2 ^ (min (Int.toNat (wru64 t183)) 64))) (t298 == 0) m0_0 t299).bind fun (t301, t302, t303, t304, t305) => ((lapp y294 ([(t301, t302, t304, t303)] : List (Int × Int × List (Int × Int × Int × Int × Int × Int × Int) × Bool))).bind fun y309 => (glyphicmake_Icon_v1.l1 k m0_0 t177 t180 t183 t210 (wr64 (x292 - 1)) y309 t305)))) else ((glyphicmake_Path_v1.f k (wr64 ((mx (wr64 (1 + t177)) (wr64 (1 + t180))) * 2 ^ (min (Int.toNat (wru64 t183)) 64))) false m0_0 x295).bind fun (t313, t314, t315, t316, t317) => ((lapp y294 ([(t313, t314, t316, t315)] : List (Int × Int × List (Int × Int × Int × Int × Int × Int × Int) × Bool))).bind fun y320 => (glyphicmake_Icon_v1.l1 k m0_0 t177 t180 t183 t210 (wr64 (x292 - 1)) y320 t317)))) else (some (y294, x295))
def glyphicmake_Icon_v1.l0 : Nat → List (Int) → Int → Int → Int → Int → List (Int × Int × Int × Int × Int × Int × Int × Int × Int × Int × List (Int × Int × List (Int × Int × Int × Int × Int × Int × Int) × Bool)) → List (Int × Int × Int × Int) → List (Int × Int × Int × Int × Int × Int × Int × Int × Int × Int × List (Int × Int × List (Int × Int × Int × Int × Int × Int × Int) × Bool)) → List (Int × Int × Int × Int) → Int → Option (List (Int × Int × Int × Int) × List (Int × Int × Int × Int × Int × Int × Int × Int × Int × Int × List (Int × Int × List (Int × Int × Int × Int × Int × Int × Int) × Bool)) × Int × List (Int × Int × Int × Int) × List (Int × Int × Int × Int × Int × Int × Int × Int × Int × Int × List (Int × Int × List (Int × Int × Int × Int × Int × Int × Int) × Bool)))
  | 0, _, _, _, _, _, _, _, _, _, _ => none
  | k + 1, m0_0, t177, t180, t183, x194, y196, y198, y200, y202, x203 => if x194 ≥ 0 then ((glyphicmake_Seq_more_v1.f m0_0 x203).bind fun t205 => (if t205 = true then (((glyphicmake_Seq_Next_v1.f 2 m0_0 x203).bind fun (t210, t211) => ((if (wr64 (1 + t210)) = 1 then ((glyphicmake_Seq_Next_v1.f 2 m0_0 t211).bind fun (t218, t219) => (some (t218, 0, t219))) else ((glyphicmake_Seq_Next_v1.f (mx (wr64 (Int.tdiv (wr64 ((mx (wr64 (1 + t177)) (wr64 (1 + t180))) * 2 ^ (min (Int.toNat (wru64 t183)) 64))) 2)) 1) m0_0 t211).bind fun (t221, t222) => (some (0, wr64 (1 + t221), t222))) : Option (Int × Int × Int)).bind fun (x224, x225, x226) => ((glyphicmake_Seq_Next_v1.f 3 m0_0 x226).bind fun (t227, t228) => ((glyphicmake_Color_v1.f m0_0 t228).bind fun (t230, t231, t232, t233, t234) => ((glyphicmake_add_v1.f k t230 t231 t232 t233 (wr64 (1 + t177)) (wr64 (1 + t180)) t183 y198).bind fun (t236, t237) => ((if t227 = 0 then (some (0, 0, 0, t237, t234)) else ((glyphicmake_Color_v1.f m0_0 t234).bind fun (t244, t245, t246, t247, t248) => ((glyphicmake_add_v1.f k t244 t245 t246 t247 (wr64 (1 + t177)) (wr64 (1 + t180)) t183 t237).bind fun (t250, t251) => ((glyphicmake_Point_v1.f (wr64 ((mx (wr64 (1 + t177)) (wr64 (1 + t180))) * 2 ^ (min (Int.toNat (wru64 t183)) 64))) m0_0 t248).bind fun (t254, t255, t256) => (some (t250, t254, t255, t251, t256))))) : Option (Int × Int × Int × List (Int × Int × Int × Int) × Int)).bind fun (x258, x259, x260, y262, x263) => ((if t227 = 1 then ((glyphicmake_Point_v1.f (wr64 ((mx (wr64 (1 + t177)) (wr64 (1 + t180))) * 2 ^ (min (Int.toNat (wru64 t183)) 64))) m0_0 x263).bind fun (t268, t269, t270) => ((glyphicref_SamePoint.f x259 x260 t268 t269).bind fun t272 => (if t272 = true then (some (wr64 (t268 + 1), t269, t270)) else (some (t268, t269, t270))))) else (some (0, 0, x263)) : Option (Int × Int × Int)).bind fun (x274, x275, x276) => ((if t227 = 2 then ((glyphicmake_Seq_Next_v1.f (wr64 ((mx (wr64 (1 + t177)) (wr64 (1 + t180))) * 2 ^ (min (Int.toNat (wru64 t183)) 64))) m0_0 x276).bind fun (t281, t282) => (some (wr64 (1 + t281), t282))) else (some (x274, x276)) : Option (Int × Int)).bind fun (x284, x285) => (((glyphicmake_Seq_Next_v1.f 3 m0_0 x285).bind fun (t289, t290) => (glyphicmake_Icon_v1.l1 k m0_0 t177 t180 t183 t210 t289 ([] : List (Int × Int × List (Int × Int × Int × Int × Int × Int × Int) × Bool)) t290) : Option (List (Int × Int × List (Int × Int × Int × Int × Int × Int × Int) × Bool) × Int)).bind fun (y325, x326) => ((lapp y196 ([(wr64 (1 + t210), x224, x225, t227, t236, x258, x259, x260, x284, x275, y325)] : List (Int × Int × Int × Int × Int × Int × Int × Int × Int × Int × List (Int × Int × List (Int × Int × Int × Int × Int × Int × Int) × Bool)))).bind fun y328 => (some (x326, y262, y328))))))))))) : Option (Int × List (Int × Int × Int × Int) × List (Int × Int × Int × Int × Int × Int × Int × Int × Int × Int × List (Int × Int × List (Int × Int × Int × Int × Int × Int × Int) × Bool)))).bind fun (x331, y333, y335) => (glyphicmake_Icon_v1.l0 k m0_0 t177 t180 t183 (wr64 (x194 - 1)) y335 y333 y200 y202 x331)) else (some (y198, y196, x203, y202, y200)))) else (some (y198, y196, x203, y202, y200))
def glyphicmake_Icon_v1.f (k : Nat) (m0_0 : List (Int)) (m0_1 : Int) : Option (Int × Int × Int × List (Int × Int × Int × Int × Int × Int × Int × Int × Int × Int × List (Int × Int × List (Int × Int × Int × Int × Int × Int × Int) × Bool)) × List (Int × Int × Int × Int) × Int) := (glyphicmake_Seq_Next_v1.f 24 m0_0 m0_1).bind fun (t177, t178) => ((glyphicmake_Seq_Next_v1.f 24 m0_0 t178).bind fun (t180, t181) => ((glyphicmake_Seq_Next_v1.f 7 m0_0 t181).bind fun (t183, t184) => (if (wru64 t183) < 0 then none else (((glyphicmake_Seq_Next_v1.f 4 m0_0 t184).bind fun (t191, t192) => (glyphicmake_Icon_v1.l0 k m0_0 t177 t180 t183 t191 ([] : List (Int × Int × Int × Int × Int × Int × Int × Int × Int × Int × List (Int × Int × List (Int × Int × Int × Int × Int × Int × Int) × Bool))) ([] : List (Int × Int × Int × Int)) ([] : List (Int × Int × Int × Int × Int × Int × Int × Int × Int × Int × List (Int × Int × List (Int × Int × Int × Int × Int × Int × Int) × Bool))) ([] : List (Int × Int × Int × Int)) t192) : Option (List (Int × Int × Int × Int) × List (Int × Int × Int × Int × Int × Int × Int × Int × Int × Int × List (Int × Int × List (Int × Int × Int × Int × Int × Int × Int) × Bool)) × Int × List (Int × Int × Int × Int) × List (Int × Int × Int × Int × Int × Int × Int × Int × Int × Int × List (Int × Int × List (Int × Int × Int × Int × Int × Int × Int) × Bool)))).bind fun (y339, y341, x342, y344, y346) => (some (wr64 (1 + t177), wr64 (1 + t180), t183, y341, y339, x342))))))
theorem glyphicmake_Icon_v1.ok {S : Seal} {B0 k : Nat} {m0_0 : List (Int)} {m0_1 r0_ r1_ r2_ : Int} {r3_ : List (Int × Int × Int × Int × Int × Int × Int × Int × Int × Int × List (Int × Int × List (Int × Int × Int × Int × Int × Int × Int) × Bool))} {r4_ : List (Int × Int × Int × Int)} {r5_ : Int}{A_ : Int → Addr} (hE_ : EO gsE S A_ 157) {a_m0_0 : Option Addr} {c_m0_0 : Nat} (h_m0_0 : SlE S E_i64 m0_0 a_m0_0) (e : glyphicmake_Icon_v1.f k m0_0 m0_1 = some (r0_, r1_, r2_, r3_, r4_, r5_)) :
    Cal Tryd.prog 9 [vP B0 0] ([⟨B0, [.slice a_m0_0 m0_0.length c_m0_0, vI m0_1], 2⟩] : List Own) S fun v H' S' => ∃ (N0_ : Option Nat) (nN0_ : Nat) (a0_ : Option Addr) (c0_ : Nat) (NF_ : List Own), v = .agg #[vI r0_, vI r1_, vI r2_, .slice (ad N0_) r4_.length (nN0_ / 4), .slice a0_ r3_.length c0_] ∧ H' = (([⟨N0_, encL E_u84 r4_, nN0_⟩, ⟨B0, [.slice a_m0_0 m0_0.length c_m0_0, vI r5_], 2⟩] : List Own) ++ (NF_ ++ [])) ∧ S' = S ∧ SlN (rdOf (NF_ ++ []) S) N_1 r3_ a0_ := by
 unfold glyphicmake_Icon_v1.f at e
 refine cal_of (c := c9) (N := 140) Tryd.func9 rfl rfl (by kernel_rfl) (rs := [.cn 5 2]) (by kernel_rfl) (Nat.le_of_ble_eq_true rfl) ?_
 unfold c9
 obtain ⟨⟨t177, t178⟩, h179, e⟩ := bind_of e
 try dsimp only at e
 obtain ⟨⟨t180, t181⟩, h182, e⟩ := bind_of e
 try dsimp only at e
 obtain ⟨⟨t183, t184⟩, h185, e⟩ := bind_of e
 try dsimp only at e
 have c187 : ¬ (wru64 t183) < 0 := by
  intro h_; rw [if_pos h_] at e; cases e
 rw [if_neg c187] at e
 refine wx mixed 3 [0, 2, 3, 5, 5, 5, 5] 2 [(2, spC 21 [8, (.const (vI 24))] [[⟨B0, [.slice a_m0_0 m0_0.length c_m0_0, vI m0_1], 2⟩]] [] [] 1 (fun l_ => vI t177) (fun l_ => [[⟨B0, [.slice a_m0_0 m0_0.length c_m0_0, vI t178], 2⟩]]) (vs := [vP B0 0, vI 24]) rfl (((glyphicmake_Seq_Next_v1.ok hE_ h_m0_0 h179)).mono fun _ _ _ ⟨h1_, h2_, h3_⟩ => ⟨un ⟨[], [], [], [], []⟩, h1_.trans (by kernel_rfl), h2_.trans (by kernel_rfl), h3_⟩)), (5, spC 21 [11, (.const (vI 24))] [[⟨B0, [.slice a_m0_0 m0_0.length c_m0_0, vI t178], 2⟩]] [] [] 1 (fun l_ => vI t180) (fun l_ => [[⟨B0, [.slice a_m0_0 m0_0.length c_m0_0, vI t181], 2⟩]]) (vs := [vP B0 0, vI 24]) rfl (((glyphicmake_Seq_Next_v1.ok hE_ h_m0_0 h182)).mono fun _ _ _ ⟨h1_, h2_, h3_⟩ => ⟨un ⟨[], [], [], [], []⟩, h1_.trans (by kernel_rfl), h2_.trans (by kernel_rfl), h3_⟩)), (8, spC 21 [14, (.const (vI 7))] [[⟨B0, [.slice a_m0_0 m0_0.length c_m0_0, vI t181], 2⟩]] [] [] 1 (fun l_ => vI t183) (fun l_ => [[⟨B0, [.slice a_m0_0 m0_0.length c_m0_0, vI t184], 2⟩]]) (vs := [vP B0 0, vI 7]) rfl (((glyphicmake_Seq_Next_v1.ok hE_ h_m0_0 h185)).mono fun _ _ _ ⟨h1_, h2_, h3_⟩ => ⟨un ⟨[], [], [], [], []⟩, h1_.trans (by kernel_rfl), h2_.trans (by kernel_rfl), h3_⟩)), (20, spQ (.bin .shl 21 24) [vI (mx (wr64 (1 + t177)) (wr64 (1 + t180))), .int .u64 (wru64 t183)] (qv_shl rfl rfl c187))] fun b176 b186 => zWL [] ?_
 refine w_ ?_
 obtain ⟨⟨y339, y341, x342, y344, y346⟩, e189, e⟩ := bind_of e
 try dsimp only at e
 refine w_cut [2, 3] (fun σ_ H_ S_ => ∃ (a338 : Option Nat) (na338 : Nat) (a340 : Option Nat) (na340 : Nat) (csa340 : List Value) (Fa340 : List Own) (a343 : Option Nat) (na343 : Nat) (a345 : Option Nat) (na345 : Nat) (csa345 : List Value) (Fa345 : List Own), [(2, vP b176 0), (3, vP b186 0)] = σ_ ∧ (([⟨b186, [vI (wr64 (1 + t177)), vI (wr64 (1 + t180)), vI t183, .slice (ad a338) y339.length (na338 / 4), .slice (ad a340) y341.length (na340 / 11)], 5⟩, ⟨B0, [.slice a_m0_0 m0_0.length c_m0_0, vI x342], 2⟩, ⟨b176, [vI 0, vI 0, vI 0, .slice (ad a343) y344.length (na343 / 4), .slice (ad a345) y346.length (na345 / 11)], 5⟩, ⟨a338, encL E_u84 y339, na338⟩, ⟨a340, csa340, na340⟩, ⟨a343, encL E_u84 y344, na343⟩, ⟨a345, csa345, na345⟩] : List Own) ++ (Fa340 ++ (Fa345 ++ []))) = H_ ∧ S = S_ ∧ RL (rdOf (Fa340 ++ []) S) N_1 y341 csa340 ∧ RL (rdOf (Fa345 ++ []) S) N_1 y346 csa345) ?_ ?_
 ·refine w_ ?_
  obtain ⟨⟨t191, t192⟩, h193, e189⟩ := bind_of e189
  try dsimp only at e189
  refine wxM mixed 1 [1] 0 [(1, spC 21 [26, (.const (vI 4))] [[⟨B0, [.slice a_m0_0 m0_0.length c_m0_0, vI t184], 2⟩]] [] [] 1 (fun l_ => vI t191) (fun l_ => [[⟨B0, [.slice a_m0_0 m0_0.length c_m0_0, vI t192], 2⟩]]) (vs := [vP B0 0, vI 4]) rfl (((glyphicmake_Seq_Next_v1.ok hE_ h_m0_0 h193)).mono fun _ _ _ ⟨h1_, h2_, h3_⟩ => ⟨un ⟨[], [], [], [], []⟩, h1_.trans (by kernel_rfl), h2_.trans (by kernel_rfl), h3_⟩))] (zWL [] ?_)
  refine w_ (w_block (w_vs VS.vac ?_))
  refine w_vs VS.vac ?_
  refine w_vs VS.vac ?_
  refine w_vs VS.vac ?_
  refine wk [(0, vP B0 0), (2, vP b176 0), (3, vP b186 0), (4, vI (wr64 ((mx (wr64 (1 + t177)) (wr64 (1 + t180))) * 2 ^ (min (Int.toNat (wru64 t183)) 64)))), (5, vI t191)] (w_vs (H' := (([⟨none, [], 0⟩, ⟨none, encL E_u84 ([] : List (Int × Int × Int × Int)), 0⟩, ⟨none, [], 0⟩, ⟨none, encL E_u84 ([] : List (Int × Int × Int × Int)), 0⟩, ⟨B0, [.slice a_m0_0 m0_0.length c_m0_0, vI t192], 2⟩, ⟨b186, [vI (wr64 (1 + t177)), vI (wr64 (1 + t180)), vI t183, .slice (ad none) ([] : List (Int × Int × Int × Int)).length (0 / 4), .slice (ad none) ([] : List (Int × Int × Int × Int × Int × Int × Int × Int × Int × Int × List (Int × Int × List (Int × Int × Int × Int × Int × Int × Int) × Bool))).length (0 / 11)], 5⟩, ⟨b176, [vI 0, vI 0, vI 0, .slice (ad none) ([] : List (Int × Int × Int × Int)).length (0 / 4), .slice (ad none) ([] : List (Int × Int × Int × Int × Int × Int × Int × Int × Int × Int × List (Int × Int × List (Int × Int × Int × Int × Int × Int × Int) × Bool))).length (0 / 11)], 5⟩] : List Own) ++ (([] : List Own) ++ (([] : List Own) ++ [])))) (S' := S) (VS.as ([⟨none, [], 0⟩, ⟨none, encL E_u84 ([] : List (Int × Int × Int × Int)), 0⟩, ⟨none, [], 0⟩, ⟨none, encL E_u84 ([] : List (Int × Int × Int × Int)), 0⟩, ⟨B0, [.slice a_m0_0 m0_0.length c_m0_0, vI t192], 2⟩, ⟨b186, [vI (wr64 (1 + t177)), vI (wr64 (1 + t180)), vI t183, .slice (ad none) ([] : List (Int × Int × Int × Int)).length (0 / 4), .slice (ad none) ([] : List (Int × Int × Int × Int × Int × Int × Int × Int × Int × Int × List (Int × Int × List (Int × Int × Int × Int × Int × Int × Int) × Bool))).length (0 / 11)], 5⟩, ⟨b176, [vI 0, vI 0, vI 0, .slice (ad none) ([] : List (Int × Int × Int × Int)).length (0 / 4), .slice (ad none) ([] : List (Int × Int × Int × Int × Int × Int × Int × Int × Int × Int × List (Int × Int × List (Int × Int × Int × Int × Int × Int × Int) × Bool))).length (0 / 11)], 5⟩] : List Own) (VS.treeA (.l ([⟨none, [], 0⟩, ⟨none, encL E_u84 ([] : List (Int × Int × Int × Int)), 0⟩, ⟨none, [], 0⟩, ⟨none, encL E_u84 ([] : List (Int × Int × Int × Int)), 0⟩, ⟨B0, [.slice a_m0_0 m0_0.length c_m0_0, vI t192], 2⟩, ⟨b186, [vI (wr64 (1 + t177)), vI (wr64 (1 + t180)), vI t183, .slice (ad none) ([] : List (Int × Int × Int × Int)).length (0 / 4), .slice (ad none) ([] : List (Int × Int × Int × Int × Int × Int × Int × Int × Int × Int × List (Int × Int × List (Int × Int × Int × Int × Int × Int × Int) × Bool))).length (0 / 11)], 5⟩, ⟨b176, [vI 0, vI 0, vI 0, .slice (ad none) ([] : List (Int × Int × Int × Int)).length (0 / 4), .slice (ad none) ([] : List (Int × Int × Int × Int × Int × Int × Int × Int × Int × Int × List (Int × Int × List (Int × Int × Int × Int × Int × Int × Int) × Bool))).length (0 / 11)], 5⟩] : List Own)) (.a (.l ([⟨none, [], 0⟩, ⟨none, encL E_u84 ([] : List (Int × Int × Int × Int)), 0⟩, ⟨none, [], 0⟩, ⟨none, encL E_u84 ([] : List (Int × Int × Int × Int)), 0⟩, ⟨B0, [.slice a_m0_0 m0_0.length c_m0_0, vI t192], 2⟩, ⟨b186, [vI (wr64 (1 + t177)), vI (wr64 (1 + t180)), vI t183, .slice (ad none) ([] : List (Int × Int × Int × Int)).length (0 / 4), .slice (ad none) ([] : List (Int × Int × Int × Int × Int × Int × Int × Int × Int × Int × List (Int × Int × List (Int × Int × Int × Int × Int × Int × Int) × Bool))).length (0 / 11)], 5⟩, ⟨b176, [vI 0, vI 0, vI 0, .slice (ad none) ([] : List (Int × Int × Int × Int)).length (0 / 4), .slice (ad none) ([] : List (Int × Int × Int × Int × Int × Int × Int × Int × Int × Int × List (Int × Int × List (Int × Int × Int × Int × Int × Int × Int) × Bool))).length (0 / 11)], 5⟩] : List Own)) (.a (.l ([] : List Own)) (.a (.l ([] : List Own)) (.l [])))) [0, 0, 0, 0, 0, 0, 0] (by kernel_rfl))) ?_)
  refine w_loop (fun n_ σ_ H_ S_ => ∃ (x194 : Int) (y196 : List (Int × Int × Int × Int × Int × Int × Int × Int × Int × Int × List (Int × Int × List (Int × Int × Int × Int × Int × Int × Int) × Bool))) (y198 : List (Int × Int × Int × Int)) (y200 : List (Int × Int × Int × Int × Int × Int × Int × Int × Int × Int × List (Int × Int × List (Int × Int × Int × Int × Int × Int × Int) × Bool))) (y202 : List (Int × Int × Int × Int)) (x203 : Int), ∃ (a195 : Option Nat) (na195 : Nat) (csa195 : List Value) (Fa195 : List Own) (a197 : Option Nat) (na197 : Nat) (a199 : Option Nat) (na199 : Nat) (csa199 : List Value) (Fa199 : List Own) (a201 : Option Nat) (na201 : Nat), [(0, vP B0 0), (2, vP b176 0), (3, vP b186 0), (4, vI (wr64 ((mx (wr64 (1 + t177)) (wr64 (1 + t180))) * 2 ^ (min (Int.toNat (wru64 t183)) 64)))), (5, vI x194)] = σ_ ∧ (([⟨a195, csa195, na195⟩, ⟨a197, encL E_u84 y198, na197⟩, ⟨a199, csa199, na199⟩, ⟨a201, encL E_u84 y202, na201⟩, ⟨B0, [.slice a_m0_0 m0_0.length c_m0_0, vI x203], 2⟩, ⟨b186, [vI (wr64 (1 + t177)), vI (wr64 (1 + t180)), vI t183, .slice (ad a197) y198.length (na197 / 4), .slice (ad a195) y196.length (na195 / 11)], 5⟩, ⟨b176, [vI 0, vI 0, vI 0, .slice (ad a201) y202.length (na201 / 4), .slice (ad a199) y200.length (na199 / 11)], 5⟩] : List Own) ++ (Fa195 ++ (Fa199 ++ []))) = H_ ∧ S = S_ ∧ glyphicmake_Icon_v1.l0 n_ m0_0 t177 t180 t183 x194 y196 y198 y200 y202 x203 = some (y339, y341, x342, y344, y346) ∧ RL (rdOf (Fa195 ++ []) S) N_1 y196 csa195 ∧ RL (rdOf (Fa199 ++ []) S) N_1 y200 csa199) _ ⟨t191, ([] : List (Int × Int × Int × Int × Int × Int × Int × Int × Int × Int × List (Int × Int × List (Int × Int × Int × Int × Int × Int × Int) × Bool))), ([] : List (Int × Int × Int × Int)), ([] : List (Int × Int × Int × Int × Int × Int × Int × Int × Int × Int × List (Int × Int × List (Int × Int × Int × Int × Int × Int × Int) × Bool))), ([] : List (Int × Int × Int × Int)), t192, none, 0, [], ([] : List Own), none, 0, none, 0, [], ([] : List Own), none, 0, rfl, rfl, rfl, e189, RL.mono (RL.nil (R := rdOf [] S) (E := N_1)) (rd_sub seg_hd), RL.mono (RL.nil (R := rdOf [] S) (E := N_1)) (rd_sub seg_hd)⟩ ?_
  rintro n337 σ_ H_ S_ ⟨x194, y196, y198, y200, y202, x203, a195, na195, csa195, Fa195, a197, na197, a199, na199, csa199, Fa199, a201, na201, rfl, rfl, rfl, e189, hra195, hra199⟩
  cases n337 with
  | zero => rw [glyphicmake_Icon_v1.l0.eq_1] at e189; cases e189
  | succ k_ =>
   rw [glyphicmake_Icon_v1.l0.eq_2] at e189
   by_cases c204 : x194 ≥ 0
   ·rw [if_pos c204] at e189
    have c204b : (decide (x194 ≥ 0)) = true := decide_eq_true c204
    obtain ⟨t205, h206, e189⟩ := bind_of e189
    cases t205 with
    | true =>
     rw [if_pos rfl] at e189
     refine wxF mixed [Fa195, Fa199] 1 [4] 0 [(1, spQ (.bin .geq 28 (.const (vI 0))) [vI x194, vI 0] (congrArg (fun t => some (Value.bool t)) c204b)), (4, spR 22 [31] [[⟨B0, [.slice a_m0_0 m0_0.length c_m0_0, vI x203], 2⟩]] (vs := [vP B0 0]) (glyphicmake_Seq_more_v1.ok hE_ h_m0_0 h206) rfl)] (zWL [] ?_)
     refine w_ ?_
     obtain ⟨⟨x331, y333, y335⟩, e208, e189⟩ := bind_of e189
     try dsimp only at e189
     refine w_cut [0, 2, 3, 4, 5] (fun σ_ H_ S_ => ∃ (a332 : Option Nat) (na332 : Nat) (a334 : Option Nat) (na334 : Nat) (csa334 : List Value) (Fa334 : List Own), [(0, vP B0 0), (2, vP b176 0), (3, vP b186 0), (4, vI (wr64 ((mx (wr64 (1 + t177)) (wr64 (1 + t180))) * 2 ^ (min (Int.toNat (wru64 t183)) 64)))), (5, vI x194)] = σ_ ∧ (([⟨B0, [.slice a_m0_0 m0_0.length c_m0_0, vI x331], 2⟩, ⟨b186, [vI (wr64 (1 + t177)), vI (wr64 (1 + t180)), vI t183, .slice (ad a332) y333.length (na332 / 4), .slice (ad a334) y335.length (na334 / 11)], 5⟩, ⟨b176, [vI 0, vI 0, vI 0, .slice (ad a201) y202.length (na201 / 4), .slice (ad a199) y200.length (na199 / 11)], 5⟩, ⟨a332, encL E_u84 y333, na332⟩, ⟨a334, csa334, na334⟩, ⟨a201, encL E_u84 y202, na201⟩, ⟨a199, csa199, na199⟩] : List Own) ++ (Fa199 ++ (Fa334 ++ []))) = H_ ∧ S = S_ ∧ RL (rdOf (Fa334 ++ []) S) N_1 y335 csa334) ?_ ?_
     ·refine w_ (w_block ?_)
      obtain ⟨⟨t210, t211⟩, h212, e208⟩ := bind_of e208
      try dsimp only at e208
      refine wxM mixed 1 [4, 10] 1 [(1, spC 21 [36, (.const (vI 2))] [[⟨B0, [.slice a_m0_0 m0_0.length c_m0_0, vI x203], 2⟩]] [] [] 1 (fun l_ => vI t210) (fun l_ => [[⟨B0, [.slice a_m0_0 m0_0.length c_m0_0, vI t211], 2⟩]]) (vs := [vP B0 0, vI 2]) rfl (((glyphicmake_Seq_Next_v1.ok hE_ h_m0_0 h212)).mono fun _ _ _ ⟨h1_, h2_, h3_⟩ => ⟨un ⟨[], [], [], [], []⟩, h1_.trans (by kernel_rfl), h2_.trans (by kernel_rfl), h3_⟩))] fun b213 => zWL [] ?_
      refine w_ ?_
      obtain ⟨⟨x224, x225, x226⟩, e215, e208⟩ := bind_of e208
      try dsimp only at e208
      refine w_cut [0, 2, 3, 4, 5, 6] (fun σ_ H_ S_ => [(0, vP B0 0), (2, vP b176 0), (3, vP b186 0), (4, vI (wr64 ((mx (wr64 (1 + t177)) (wr64 (1 + t180))) * 2 ^ (min (Int.toNat (wru64 t183)) 64)))), (5, vI x194), (6, vP b213 0)] = σ_ ∧ (([⟨b213, [vI (wr64 (1 + t210)), vI x224, vI x225, vI 0, vI 0, vI 0, vI 0, vI 0, vI 0, vI 0, .slice none 0 0], 11⟩, ⟨B0, [.slice a_m0_0 m0_0.length c_m0_0, vI x226], 2⟩, ⟨b186, [vI (wr64 (1 + t177)), vI (wr64 (1 + t180)), vI t183, .slice (ad a197) y198.length (na197 / 4), .slice (ad a195) y196.length (na195 / 11)], 5⟩, ⟨b176, [vI 0, vI 0, vI 0, .slice (ad a201) y202.length (na201 / 4), .slice (ad a199) y200.length (na199 / 11)], 5⟩, ⟨a197, encL E_u84 y198, na197⟩, ⟨a195, csa195, na195⟩, ⟨a201, encL E_u84 y202, na201⟩, ⟨a199, csa199, na199⟩] : List Own) ++ (Fa195 ++ (Fa199 ++ []))) = H_ ∧ S = S_) ?_ ?_
      ·refine w_ ?_
       by_cases c217 : (wr64 (1 + t210)) = 1
       ·rw [if_pos c217] at e215
        have c217b : ((wr64 (1 + t210)) == 1) = true := beq_iff_eq.mpr c217
        obtain ⟨⟨t218, t219⟩, h220, e215⟩ := bind_of e215
        try dsimp only at e215
        refine wqM mixed [0, 1, 0] 0 .nrm [(2, spQ (.bin .eql 41 (.const (vI 1))) [vI (wr64 (1 + t210)), vI 1] (congrArg (fun t => some (Value.bool t)) c217b)), (4, spC 21 [43, (.const (vI 2))] [[⟨B0, [.slice a_m0_0 m0_0.length c_m0_0, vI t211], 2⟩]] [] [] 1 (fun l_ => vI t218) (fun l_ => [[⟨B0, [.slice a_m0_0 m0_0.length c_m0_0, vI t219], 2⟩]]) (vs := [vP B0 0, vI 2]) rfl (((glyphicmake_Seq_Next_v1.ok hE_ h_m0_0 h220)).mono fun _ _ _ ⟨h1_, h2_, h3_⟩ => ⟨un ⟨[], [], [], [], []⟩, h1_.trans (by kernel_rfl), h2_.trans (by kernel_rfl), h3_⟩))] (zQL [] ?_)
        simp only [Option.some.injEq, Prod.mk.injEq] at e215
        obtain ⟨rfl, rfl, rfl⟩ := e215
        exact ⟨_, S, VS.lb [0, 0, 4, 4, 1, 0, 1, 0, 0, 0] (by kernel_rfl), by kernel_rfl, rfl, rfl⟩
       ·rw [if_neg c217] at e215
        have c217b : ((wr64 (1 + t210)) == 1) = false := beq_eq_false_iff_ne.mpr c217
        obtain ⟨⟨t221, t222⟩, h223, e215⟩ := bind_of e215
        try dsimp only at e215
        refine wqM mixed [0, 1, 0] 0 .nrm [(2, spQ (.bin .eql 41 (.const (vI 1))) [vI (wr64 (1 + t210)), vI 1] (congrArg (fun t => some (Value.bool t)) c217b)), (7, spC 21 [46, 49] [[⟨B0, [.slice a_m0_0 m0_0.length c_m0_0, vI t211], 2⟩]] [] [] 1 (fun l_ => vI t221) (fun l_ => [[⟨B0, [.slice a_m0_0 m0_0.length c_m0_0, vI t222], 2⟩]]) (vs := [vP B0 0, vI (mx (wr64 (Int.tdiv (wr64 ((mx (wr64 (1 + t177)) (wr64 (1 + t180))) * 2 ^ (min (Int.toNat (wru64 t183)) 64))) 2)) 1)]) rfl (((glyphicmake_Seq_Next_v1.ok hE_ h_m0_0 h223)).mono fun _ _ _ ⟨h1_, h2_, h3_⟩ => ⟨un ⟨[], [], [], [], []⟩, h1_.trans (by kernel_rfl), h2_.trans (by kernel_rfl), h3_⟩))] (zQL [] ?_)
        simp only [Option.some.injEq, Prod.mk.injEq] at e215
        obtain ⟨rfl, rfl, rfl⟩ := e215
        exact ⟨_, S, VS.lb [0, 0, 4, 4, 1, 0, 1, 0, 0, 0] (by kernel_rfl), by kernel_rfl, rfl, rfl⟩
      ·rintro σ_ H_ S_ ⟨rfl, rfl, rfl⟩
       obtain ⟨⟨t227, t228⟩, h229, e208⟩ := bind_of e208
       try dsimp only at e208
       obtain ⟨⟨t230, t231, t232, t233, t234⟩, h235, e208⟩ := bind_of e208
       try dsimp only at e208
       obtain ⟨⟨t236, t237⟩, h238, e208⟩ := bind_of e208
       try dsimp only at e208
       refine wxF mixed [Fa195, Fa199] 2 [1, 0, 10, 2, 4, 0] 0 [(1, spC 21 [53, (.const (vI 3))] [[⟨B0, [.slice a_m0_0 m0_0.length c_m0_0, vI x226], 2⟩]] [] [] 1 (fun l_ => vI t227) (fun l_ => [[⟨B0, [.slice a_m0_0 m0_0.length c_m0_0, vI t228], 2⟩]]) (vs := [vP B0 0, vI 3]) rfl (((glyphicmake_Seq_Next_v1.ok hE_ h_m0_0 h229)).mono fun _ _ _ ⟨h1_, h2_, h3_⟩ => ⟨un ⟨[], [], [], [], []⟩, h1_.trans (by kernel_rfl), h2_.trans (by kernel_rfl), h3_⟩)), (6, spC 24 [57] [[⟨B0, [.slice a_m0_0 m0_0.length c_m0_0, vI t228], 2⟩]] [] [] 1 (fun l_ => .agg #[.int .u8 t230, .int .u8 t231, .int .u8 t232, .int .u8 t233]) (fun l_ => [[⟨B0, [.slice a_m0_0 m0_0.length c_m0_0, vI t234], 2⟩]]) (vs := [vP B0 0]) rfl (((glyphicmake_Color_v1.ok hE_ h_m0_0 h235)).mono fun _ _ _ ⟨h1_, h2_, h3_⟩ => ⟨un ⟨[], [], [], [], []⟩, h1_.trans (by kernel_rfl), h2_.trans (by kernel_rfl), h3_⟩)), (7, spC 23 [3, 58] [[⟨b186, [vI (wr64 (1 + t177)), vI (wr64 (1 + t180)), vI t183, .slice (ad a197) y198.length (na197 / 4), .slice (ad a195) y196.length (na195 / 11)], 5⟩], [⟨a197, encL E_u84 y198, na197⟩]] [] [1, 0] 2 (fun l_ => vI t236) (fun l_ => [[⟨(l_.O 0), encL E_u84 t237, (l_.N 0)⟩], [⟨b186, [vI (wr64 (1 + t177)), vI (wr64 (1 + t180)), vI t183, .slice (ad (l_.O 0)) t237.length ((l_.N 0) / 4), .slice (ad a195) y196.length (na195 / 11)], 5⟩]]) (vs := [vP b186 0, .agg #[.int .u8 t230, .int .u8 t231, .int .u8 t232, .int .u8 t233]]) rfl (((glyphicmake_add_v1.ok hE_ h238)).mono fun _ _ _ ⟨N239, nN239, h1_, h2_, h3_⟩ => ⟨un ⟨[nN239], [N239], [], [], []⟩, h1_.trans (by kernel_rfl), h2_.trans (by kernel_rfl), h3_⟩))] fun N239 nN239 => zWL [] ?_
       refine w_ ?_
       obtain ⟨⟨x258, x259, x260, y262, x263⟩, e241, e208⟩ := bind_of e208
       try dsimp only at e208
       refine w_cut [0, 2, 3, 4, 5, 6] (fun σ_ H_ S_ => ∃ (a261 : Option Nat) (na261 : Nat), [(0, vP B0 0), (2, vP b176 0), (3, vP b186 0), (4, vI (wr64 ((mx (wr64 (1 + t177)) (wr64 (1 + t180))) * 2 ^ (min (Int.toNat (wru64 t183)) 64)))), (5, vI x194), (6, vP b213 0)] = σ_ ∧ (([⟨b213, [vI (wr64 (1 + t210)), vI x224, vI x225, vI t227, vI t236, vI x258, vI x259, vI x260, vI 0, vI 0, .slice none 0 0], 11⟩, ⟨b186, [vI (wr64 (1 + t177)), vI (wr64 (1 + t180)), vI t183, .slice (ad a261) y262.length (na261 / 4), .slice (ad a195) y196.length (na195 / 11)], 5⟩, ⟨B0, [.slice a_m0_0 m0_0.length c_m0_0, vI x263], 2⟩, ⟨b176, [vI 0, vI 0, vI 0, .slice (ad a201) y202.length (na201 / 4), .slice (ad a199) y200.length (na199 / 11)], 5⟩, ⟨a261, encL E_u84 y262, na261⟩, ⟨a195, csa195, na195⟩, ⟨a201, encL E_u84 y202, na201⟩, ⟨a199, csa199, na199⟩] : List Own) ++ (Fa195 ++ (Fa199 ++ []))) = H_ ∧ S = S_) ?_ ?_
       ·refine w_ ?_
        by_cases c243 : t227 = 0
        ·rw [if_pos c243] at e241
         have c243b : (t227 == 0) = true := beq_iff_eq.mpr c243
         refine wqM mixed [0] 0 .nrm [(3, spQ (.bin .neq 64 (.const (vI 0))) [vI t227, vI 0] (congrArg (fun t => some (Value.bool (!t))) c243b))] (zQL [] ?_)
         simp only [Option.some.injEq, Prod.mk.injEq] at e241
         obtain ⟨rfl, rfl, rfl, rfl, rfl⟩ := e241
         exact ⟨_, S, VS.lb [0, 1, 1, 1, 0, 0, 0, 0, 0, 0] (by kernel_rfl), N239, nN239, by kernel_rfl, rfl, rfl⟩
        ·rw [if_neg c243] at e241
         have c243b : (t227 == 0) = false := beq_eq_false_iff_ne.mpr c243
         obtain ⟨⟨t244, t245, t246, t247, t248⟩, h249, e241⟩ := bind_of e241
         try dsimp only at e241
         obtain ⟨⟨t250, t251⟩, h252, e241⟩ := bind_of e241
         try dsimp only at e241
         obtain ⟨⟨t254, t255, t256⟩, h257, e241⟩ := bind_of e241
         try dsimp only at e241
         refine wqM mixed [0, 3, 2, 1, 0, 10, 0] 0 .nrm [(3, spQ (.bin .neq 64 (.const (vI 0))) [vI t227, vI 0] (congrArg (fun t => some (Value.bool (!t))) c243b)), (5, spC 24 [66] [[⟨B0, [.slice a_m0_0 m0_0.length c_m0_0, vI t234], 2⟩]] [] [] 1 (fun l_ => .agg #[.int .u8 t244, .int .u8 t245, .int .u8 t246, .int .u8 t247]) (fun l_ => [[⟨B0, [.slice a_m0_0 m0_0.length c_m0_0, vI t248], 2⟩]]) (vs := [vP B0 0]) rfl (((glyphicmake_Color_v1.ok hE_ h_m0_0 h249)).mono fun _ _ _ ⟨h1_, h2_, h3_⟩ => ⟨un ⟨[], [], [], [], []⟩, h1_.trans (by kernel_rfl), h2_.trans (by kernel_rfl), h3_⟩)), (6, spC 23 [3, 67] [[⟨b186, [vI (wr64 (1 + t177)), vI (wr64 (1 + t180)), vI t183, .slice (ad N239) t237.length (nN239 / 4), .slice (ad a195) y196.length (na195 / 11)], 5⟩], [⟨N239, encL E_u84 t237, nN239⟩]] [] [1, 0] 2 (fun l_ => vI t250) (fun l_ => [[⟨(l_.O 0), encL E_u84 t251, (l_.N 0)⟩], [⟨b186, [vI (wr64 (1 + t177)), vI (wr64 (1 + t180)), vI t183, .slice (ad (l_.O 0)) t251.length ((l_.N 0) / 4), .slice (ad a195) y196.length (na195 / 11)], 5⟩]]) (vs := [vP b186 0, .agg #[.int .u8 t244, .int .u8 t245, .int .u8 t246, .int .u8 t247]]) rfl (((glyphicmake_add_v1.ok hE_ h252)).mono fun _ _ _ ⟨N253, nN253, h1_, h2_, h3_⟩ => ⟨un ⟨[nN253], [N253], [], [], []⟩, h1_.trans (by kernel_rfl), h2_.trans (by kernel_rfl), h3_⟩)), (12, spC 25 [71, 72] [[⟨B0, [.slice a_m0_0 m0_0.length c_m0_0, vI t248], 2⟩]] [] [] 1 (fun l_ => .agg #[vI t254, vI t255]) (fun l_ => [[⟨B0, [.slice a_m0_0 m0_0.length c_m0_0, vI t256], 2⟩]]) (vs := [vP B0 0, vI (wr64 ((mx (wr64 (1 + t177)) (wr64 (1 + t180))) * 2 ^ (min (Int.toNat (wru64 t183)) 64)))]) rfl (((glyphicmake_Point_v1.ok hE_ h_m0_0 h257)).mono fun _ _ _ ⟨h1_, h2_, h3_⟩ => ⟨un ⟨[], [], [], [], []⟩, h1_.trans (by kernel_rfl), h2_.trans (by kernel_rfl), h3_⟩))] fun N253 nN253 => zQL [] ?_
         simp only [Option.some.injEq, Prod.mk.injEq] at e241
         obtain ⟨rfl, rfl, rfl, rfl, rfl⟩ := e241
         exact ⟨_, S, VS.lb [0, 2, 0, 1, 0, 0, 0, 0, 0, 0] (by kernel_rfl), N253, nN253, by kernel_rfl, rfl, rfl⟩
       ·rintro σ_ H_ S_ ⟨a261, na261, rfl, rfl, rfl⟩
        obtain ⟨⟨x274, x275, x276⟩, e265, e208⟩ := bind_of e208
        try dsimp only at e208
        refine w_cut [0, 2, 3, 4, 5, 6] (fun σ_ H_ S_ => [(0, vP B0 0), (2, vP b176 0), (3, vP b186 0), (4, vI (wr64 ((mx (wr64 (1 + t177)) (wr64 (1 + t180))) * 2 ^ (min (Int.toNat (wru64 t183)) 64)))), (5, vI x194), (6, vP b213 0)] = σ_ ∧ (([⟨b213, [vI (wr64 (1 + t210)), vI x224, vI x225, vI t227, vI t236, vI x258, vI x259, vI x260, vI x274, vI x275, .slice none 0 0], 11⟩, ⟨b186, [vI (wr64 (1 + t177)), vI (wr64 (1 + t180)), vI t183, .slice (ad a261) y262.length (na261 / 4), .slice (ad a195) y196.length (na195 / 11)], 5⟩, ⟨B0, [.slice a_m0_0 m0_0.length c_m0_0, vI x276], 2⟩, ⟨b176, [vI 0, vI 0, vI 0, .slice (ad a201) y202.length (na201 / 4), .slice (ad a199) y200.length (na199 / 11)], 5⟩, ⟨a261, encL E_u84 y262, na261⟩, ⟨a195, csa195, na195⟩, ⟨a201, encL E_u84 y202, na201⟩, ⟨a199, csa199, na199⟩] : List Own) ++ (Fa195 ++ (Fa199 ++ []))) = H_ ∧ S = S_) ?_ ?_
        ·refine w_ ?_
         by_cases c267 : t227 = 1
         ·rw [if_pos c267] at e265
          have c267b : (t227 == 1) = true := beq_iff_eq.mpr c267
          obtain ⟨⟨t268, t269, t270⟩, h271, e265⟩ := bind_of e265
          try dsimp only at e265
          obtain ⟨t272, h273, e265⟩ := bind_of e265
          cases t272 with
          | true =>
           rw [if_pos rfl] at e265
           refine wqF mixed [Fa195, Fa199] [0, 2, 0, 0, 0, 0, 0] 0 .nrm [(3, spQ (.bin .eql 78 (.const (vI 1))) [vI t227, vI 1] (congrArg (fun t => some (Value.bool t)) c267b)), (6, spC 25 [80, 81] [[⟨B0, [.slice a_m0_0 m0_0.length c_m0_0, vI x263], 2⟩]] [] [] 1 (fun l_ => .agg #[vI t268, vI t269]) (fun l_ => [[⟨B0, [.slice a_m0_0 m0_0.length c_m0_0, vI t270], 2⟩]]) (vs := [vP B0 0, vI (wr64 ((mx (wr64 (1 + t177)) (wr64 (1 + t180))) * 2 ^ (min (Int.toNat (wru64 t183)) 64)))]) rfl (((glyphicmake_Point_v1.ok hE_ h_m0_0 h271)).mono fun _ _ _ ⟨h1_, h2_, h3_⟩ => ⟨un ⟨[], [], [], [], []⟩, h1_.trans (by kernel_rfl), h2_.trans (by kernel_rfl), h3_⟩)), (16, spP 26 [87, 90] (glyphicref_SamePoint.ok hE_ h273))] (zQL [] ?_)
           simp only [Option.some.injEq, Prod.mk.injEq] at e265
           obtain ⟨rfl, rfl, rfl⟩ := e265
           exact ⟨_, S, VS.lb [0, 1, 0, 0, 0, 0, 0, 0, 0, 0] (by kernel_rfl), by kernel_rfl, rfl, rfl⟩
          | false =>
           rw [if_neg (by decide)] at e265
           refine wqF mixed [Fa195, Fa199] [0, 2, 0, 0, 0] 0 .nrm [(3, spQ (.bin .eql 78 (.const (vI 1))) [vI t227, vI 1] (congrArg (fun t => some (Value.bool t)) c267b)), (6, spC 25 [80, 81] [[⟨B0, [.slice a_m0_0 m0_0.length c_m0_0, vI x263], 2⟩]] [] [] 1 (fun l_ => .agg #[vI t268, vI t269]) (fun l_ => [[⟨B0, [.slice a_m0_0 m0_0.length c_m0_0, vI t270], 2⟩]]) (vs := [vP B0 0, vI (wr64 ((mx (wr64 (1 + t177)) (wr64 (1 + t180))) * 2 ^ (min (Int.toNat (wru64 t183)) 64)))]) rfl (((glyphicmake_Point_v1.ok hE_ h_m0_0 h271)).mono fun _ _ _ ⟨h1_, h2_, h3_⟩ => ⟨un ⟨[], [], [], [], []⟩, h1_.trans (by kernel_rfl), h2_.trans (by kernel_rfl), h3_⟩)), (16, spP 26 [87, 90] (glyphicref_SamePoint.ok hE_ h273))] (zQL [] ?_)
           simp only [Option.some.injEq, Prod.mk.injEq] at e265
           obtain ⟨rfl, rfl, rfl⟩ := e265
           exact ⟨_, S, VS.lb [0, 1, 0, 0, 0, 0, 0, 0, 0, 0] (by kernel_rfl), by kernel_rfl, rfl, rfl⟩
         ·rw [if_neg c267] at e265
          have c267b : (t227 == 1) = false := beq_eq_false_iff_ne.mpr c267
          refine wqF mixed [Fa195, Fa199] [0] 0 .nrm [(3, spQ (.bin .eql 78 (.const (vI 1))) [vI t227, vI 1] (congrArg (fun t => some (Value.bool t)) c267b))] (zQL [] ?_)
          simp only [Option.some.injEq, Prod.mk.injEq] at e265
          obtain ⟨rfl, rfl, rfl⟩ := e265
          exact ⟨_, S, VS.lb [0, 0, 0, 0, 0, 0, 0, 0, 0, 0] (by kernel_rfl), by kernel_rfl, rfl, rfl⟩
        ·rintro σ_ H_ S_ ⟨rfl, rfl, rfl⟩
         obtain ⟨⟨x284, x285⟩, e278, e208⟩ := bind_of e208
         try dsimp only at e208
         refine w_cut [0, 2, 3, 4, 5, 6] (fun σ_ H_ S_ => [(0, vP B0 0), (2, vP b176 0), (3, vP b186 0), (4, vI (wr64 ((mx (wr64 (1 + t177)) (wr64 (1 + t180))) * 2 ^ (min (Int.toNat (wru64 t183)) 64)))), (5, vI x194), (6, vP b213 0)] = σ_ ∧ (([⟨b213, [vI (wr64 (1 + t210)), vI x224, vI x225, vI t227, vI t236, vI x258, vI x259, vI x260, vI x284, vI x275, .slice none 0 0], 11⟩, ⟨b186, [vI (wr64 (1 + t177)), vI (wr64 (1 + t180)), vI t183, .slice (ad a261) y262.length (na261 / 4), .slice (ad a195) y196.length (na195 / 11)], 5⟩, ⟨B0, [.slice a_m0_0 m0_0.length c_m0_0, vI x285], 2⟩, ⟨b176, [vI 0, vI 0, vI 0, .slice (ad a201) y202.length (na201 / 4), .slice (ad a199) y200.length (na199 / 11)], 5⟩, ⟨a261, encL E_u84 y262, na261⟩, ⟨a195, csa195, na195⟩, ⟨a201, encL E_u84 y202, na201⟩, ⟨a199, csa199, na199⟩] : List Own) ++ (Fa195 ++ (Fa199 ++ []))) = H_ ∧ S = S_) ?_ ?_
         ·refine w_ ?_
          by_cases c280 : t227 = 2
          ·rw [if_pos c280] at e278
           have c280b : (t227 == 2) = true := beq_iff_eq.mpr c280
           obtain ⟨⟨t281, t282⟩, h283, e278⟩ := bind_of e278
           try dsimp only at e278
           refine wqF mixed [Fa195, Fa199] [0, 2, 0] 0 .nrm [(3, spQ (.bin .eql 102 (.const (vI 2))) [vI t227, vI 2] (congrArg (fun t => some (Value.bool t)) c280b)), (6, spC 21 [104, 105] [[⟨B0, [.slice a_m0_0 m0_0.length c_m0_0, vI x276], 2⟩]] [] [] 1 (fun l_ => vI t281) (fun l_ => [[⟨B0, [.slice a_m0_0 m0_0.length c_m0_0, vI t282], 2⟩]]) (vs := [vP B0 0, vI (wr64 ((mx (wr64 (1 + t177)) (wr64 (1 + t180))) * 2 ^ (min (Int.toNat (wru64 t183)) 64)))]) rfl (((glyphicmake_Seq_Next_v1.ok hE_ h_m0_0 h283)).mono fun _ _ _ ⟨h1_, h2_, h3_⟩ => ⟨un ⟨[], [], [], [], []⟩, h1_.trans (by kernel_rfl), h2_.trans (by kernel_rfl), h3_⟩))] (zQL [] ?_)
           simp only [Option.some.injEq, Prod.mk.injEq] at e278
           obtain ⟨rfl, rfl⟩ := e278
           exact ⟨_, S, VS.lb [0, 1, 0, 0, 0, 0, 0, 0, 0, 0] (by kernel_rfl), by kernel_rfl, rfl, rfl⟩
          ·rw [if_neg c280] at e278
           have c280b : (t227 == 2) = false := beq_eq_false_iff_ne.mpr c280
           refine wqF mixed [Fa195, Fa199] [0] 0 .nrm [(3, spQ (.bin .eql 102 (.const (vI 2))) [vI t227, vI 2] (congrArg (fun t => some (Value.bool t)) c280b))] (zQL [] ?_)
           simp only [Option.some.injEq, Prod.mk.injEq] at e278
           obtain ⟨rfl, rfl⟩ := e278
           exact ⟨_, S, VS.lb [0, 0, 0, 0, 0, 0, 0, 0, 0, 0] (by kernel_rfl), by kernel_rfl, rfl, rfl⟩
         ·rintro σ_ H_ S_ ⟨rfl, rfl, rfl⟩
          obtain ⟨⟨y325, x326⟩, e287, e208⟩ := bind_of e208
          try dsimp only at e208
          refine w_cut [0, 2, 3, 4, 5, 6] (fun σ_ H_ S_ => ∃ (a324 : Option Nat) (na324 : Nat) (csa324 : List Value) (Fa324 : List Own), [(0, vP B0 0), (2, vP b176 0), (3, vP b186 0), (4, vI (wr64 ((mx (wr64 (1 + t177)) (wr64 (1 + t180))) * 2 ^ (min (Int.toNat (wru64 t183)) 64)))), (5, vI x194), (6, vP b213 0)] = σ_ ∧ (([⟨b213, [vI (wr64 (1 + t210)), vI x224, vI x225, vI t227, vI t236, vI x258, vI x259, vI x260, vI x284, vI x275, .slice (ad a324) y325.length (na324 / 4)], 11⟩, ⟨b186, [vI (wr64 (1 + t177)), vI (wr64 (1 + t180)), vI t183, .slice (ad a261) y262.length (na261 / 4), .slice (ad a195) y196.length (na195 / 11)], 5⟩, ⟨B0, [.slice a_m0_0 m0_0.length c_m0_0, vI x326], 2⟩, ⟨b176, [vI 0, vI 0, vI 0, .slice (ad a201) y202.length (na201 / 4), .slice (ad a199) y200.length (na199 / 11)], 5⟩, ⟨a324, csa324, na324⟩, ⟨a261, encL E_u84 y262, na261⟩, ⟨a195, csa195, na195⟩, ⟨a201, encL E_u84 y202, na201⟩, ⟨a199, csa199, na199⟩] : List Own) ++ (Fa195 ++ (Fa199 ++ (Fa324 ++ [])))) = H_ ∧ S = S_ ∧ RL (rdOf (Fa324 ++ []) S) N_0 y325 csa324) ?_ ?_
          ·refine w_ ?_
           obtain ⟨⟨t289, t290⟩, h291, e287⟩ := bind_of e287
           try dsimp only at e287
           refine wxF mixed [Fa195, Fa199] 1 [2] 0 [(1, spC 21 [111, (.const (vI 3))] [[⟨B0, [.slice a_m0_0 m0_0.length c_m0_0, vI x285], 2⟩]] [] [] 1 (fun l_ => vI t289) (fun l_ => [[⟨B0, [.slice a_m0_0 m0_0.length c_m0_0, vI t290], 2⟩]]) (vs := [vP B0 0, vI 3]) rfl (((glyphicmake_Seq_Next_v1.ok hE_ h_m0_0 h291)).mono fun _ _ _ ⟨h1_, h2_, h3_⟩ => ⟨un ⟨[], [], [], [], []⟩, h1_.trans (by kernel_rfl), h2_.trans (by kernel_rfl), h3_⟩))] (zWL [] ?_)
           refine w_ (w_block (w_vs VS.vac ?_))
           refine wk [(0, vP B0 0), (2, vP b176 0), (3, vP b186 0), (4, vI (wr64 ((mx (wr64 (1 + t177)) (wr64 (1 + t180))) * 2 ^ (min (Int.toNat (wru64 t183)) 64)))), (5, vI x194), (6, vP b213 0), (7, vI t289)] (w_vs (H' := (([⟨none, [], 0⟩, ⟨B0, [.slice a_m0_0 m0_0.length c_m0_0, vI t290], 2⟩, ⟨b213, [vI (wr64 (1 + t210)), vI x224, vI x225, vI t227, vI t236, vI x258, vI x259, vI x260, vI x284, vI x275, .slice (ad none) ([] : List (Int × Int × List (Int × Int × Int × Int × Int × Int × Int) × Bool)).length (0 / 4)], 11⟩, ⟨b186, [vI (wr64 (1 + t177)), vI (wr64 (1 + t180)), vI t183, .slice (ad a261) y262.length (na261 / 4), .slice (ad a195) y196.length (na195 / 11)], 5⟩, ⟨b176, [vI 0, vI 0, vI 0, .slice (ad a201) y202.length (na201 / 4), .slice (ad a199) y200.length (na199 / 11)], 5⟩, ⟨a261, encL E_u84 y262, na261⟩, ⟨a195, csa195, na195⟩, ⟨a201, encL E_u84 y202, na201⟩, ⟨a199, csa199, na199⟩] : List Own) ++ (Fa195 ++ (Fa199 ++ (([] : List Own) ++ []))))) (S' := S) (VS.as (([⟨none, [], 0⟩, ⟨B0, [.slice a_m0_0 m0_0.length c_m0_0, vI t290], 2⟩, ⟨b213, [vI (wr64 (1 + t210)), vI x224, vI x225, vI t227, vI t236, vI x258, vI x259, vI x260, vI x284, vI x275, .slice (ad none) ([] : List (Int × Int × List (Int × Int × Int × Int × Int × Int × Int) × Bool)).length (0 / 4)], 11⟩, ⟨b186, [vI (wr64 (1 + t177)), vI (wr64 (1 + t180)), vI t183, .slice (ad a261) y262.length (na261 / 4), .slice (ad a195) y196.length (na195 / 11)], 5⟩, ⟨b176, [vI 0, vI 0, vI 0, .slice (ad a201) y202.length (na201 / 4), .slice (ad a199) y200.length (na199 / 11)], 5⟩, ⟨a261, encL E_u84 y262, na261⟩, ⟨a195, csa195, na195⟩, ⟨a201, encL E_u84 y202, na201⟩, ⟨a199, csa199, na199⟩] : List Own) ++ (Fa195 ++ (Fa199 ++ []))) (VS.treeA (.a (.l ([⟨none, [], 0⟩, ⟨B0, [.slice a_m0_0 m0_0.length c_m0_0, vI t290], 2⟩, ⟨b213, [vI (wr64 (1 + t210)), vI x224, vI x225, vI t227, vI t236, vI x258, vI x259, vI x260, vI x284, vI x275, .slice (ad none) ([] : List (Int × Int × List (Int × Int × Int × Int × Int × Int × Int) × Bool)).length (0 / 4)], 11⟩, ⟨b186, [vI (wr64 (1 + t177)), vI (wr64 (1 + t180)), vI t183, .slice (ad a261) y262.length (na261 / 4), .slice (ad a195) y196.length (na195 / 11)], 5⟩, ⟨b176, [vI 0, vI 0, vI 0, .slice (ad a201) y202.length (na201 / 4), .slice (ad a199) y200.length (na199 / 11)], 5⟩, ⟨a261, encL E_u84 y262, na261⟩, ⟨a195, csa195, na195⟩, ⟨a201, encL E_u84 y202, na201⟩, ⟨a199, csa199, na199⟩] : List Own)) (.a (.f Fa195) (.a (.f Fa199) (.l [])))) (.a (.l ([⟨none, [], 0⟩, ⟨B0, [.slice a_m0_0 m0_0.length c_m0_0, vI t290], 2⟩, ⟨b213, [vI (wr64 (1 + t210)), vI x224, vI x225, vI t227, vI t236, vI x258, vI x259, vI x260, vI x284, vI x275, .slice (ad none) ([] : List (Int × Int × List (Int × Int × Int × Int × Int × Int × Int) × Bool)).length (0 / 4)], 11⟩, ⟨b186, [vI (wr64 (1 + t177)), vI (wr64 (1 + t180)), vI t183, .slice (ad a261) y262.length (na261 / 4), .slice (ad a195) y196.length (na195 / 11)], 5⟩, ⟨b176, [vI 0, vI 0, vI 0, .slice (ad a201) y202.length (na201 / 4), .slice (ad a199) y200.length (na199 / 11)], 5⟩, ⟨a261, encL E_u84 y262, na261⟩, ⟨a195, csa195, na195⟩, ⟨a201, encL E_u84 y202, na201⟩, ⟨a199, csa199, na199⟩] : List Own)) (.a (.f Fa195) (.a (.f Fa199) (.a (.l ([] : List Own)) (.l []))))) [0, 0, 0, 0, 0, 0, 0, 0, 0, 0, 0] (by kernel_rfl))) ?_)
           refine w_loop (fun n_ σ_ H_ S_ => ∃ (x292 : Int) (y294 : List (Int × Int × List (Int × Int × Int × Int × Int × Int × Int) × Bool)) (x295 : Int), ∃ (a293 : Option Nat) (na293 : Nat) (csa293 : List Value) (Fa293 : List Own), [(0, vP B0 0), (2, vP b176 0), (3, vP b186 0), (4, vI (wr64 ((mx (wr64 (1 + t177)) (wr64 (1 + t180))) * 2 ^ (min (Int.toNat (wru64 t183)) 64)))), (5, vI x194), (6, vP b213 0), (7, vI x292)] = σ_ ∧ (([⟨a293, csa293, na293⟩, ⟨B0, [.slice a_m0_0 m0_0.length c_m0_0, vI x295], 2⟩, ⟨b213, [vI (wr64 (1 + t210)), vI x224, vI x225, vI t227, vI t236, vI x258, vI x259, vI x260, vI x284, vI x275, .slice (ad a293) y294.length (na293 / 4)], 11⟩, ⟨b186, [vI (wr64 (1 + t177)), vI (wr64 (1 + t180)), vI t183, .slice (ad a261) y262.length (na261 / 4), .slice (ad a195) y196.length (na195 / 11)], 5⟩, ⟨b176, [vI 0, vI 0, vI 0, .slice (ad a201) y202.length (na201 / 4), .slice (ad a199) y200.length (na199 / 11)], 5⟩, ⟨a261, encL E_u84 y262, na261⟩, ⟨a195, csa195, na195⟩, ⟨a201, encL E_u84 y202, na201⟩, ⟨a199, csa199, na199⟩] : List Own) ++ (Fa195 ++ (Fa199 ++ (Fa293 ++ [])))) = H_ ∧ S = S_ ∧ glyphicmake_Icon_v1.l1 n_ m0_0 t177 t180 t183 t210 x292 y294 x295 = some (y325, x326) ∧ RL (rdOf (Fa293 ++ []) S) N_0 y294 csa293) _ ⟨t289, ([] : List (Int × Int × List (Int × Int × Int × Int × Int × Int × Int) × Bool)), t290, none, 0, [], ([] : List Own), rfl, rfl, rfl, e287, RL.mono (RL.nil (R := rdOf [] S) (E := N_0)) (rd_sub seg_hd)⟩ ?_
           rintro n323 σ_ H_ S_ ⟨x292, y294, x295, a293, na293, csa293, Fa293, rfl, rfl, rfl, e287, hra293⟩
           cases n323 with
           | zero => rw [glyphicmake_Icon_v1.l1.eq_1] at e287; cases e287
           | succ k_ =>
            rw [glyphicmake_Icon_v1.l1.eq_2] at e287
            by_cases c296 : x292 ≥ 0
            ·rw [if_pos c296] at e287
             have c296b : (decide (x292 ≥ 0)) = true := decide_eq_true c296
             refine wxF mixed [Fa195, Fa199, Fa293] 1 [] 0 [(1, spQ (.bin .geq 113 (.const (vI 0))) [vI x292, vI 0] (congrArg (fun t => some (Value.bool t)) c296b))] (zWL [] ?_)
             refine w_ (w_seq (w_block (w_as [(0, vP B0 0), (2, vP b176 0), (3, vP b186 0), (4, vI (wr64 ((mx (wr64 (1 + t177)) (wr64 (1 + t180))) * 2 ^ (min (Int.toNat (wru64 t183)) 64)))), (5, vI x194), (6, vP b213 0), (7, vI x292)] (([⟨a293, csa293, na293⟩, ⟨B0, [.slice a_m0_0 m0_0.length c_m0_0, vI x295], 2⟩, ⟨b213, [vI (wr64 (1 + t210)), vI x224, vI x225, vI t227, vI t236, vI x258, vI x259, vI x260, vI x284, vI x275, .slice (ad a293) y294.length (na293 / 4)], 11⟩, ⟨b186, [vI (wr64 (1 + t177)), vI (wr64 (1 + t180)), vI t183, .slice (ad a261) y262.length (na261 / 4), .slice (ad a195) y196.length (na195 / 11)], 5⟩, ⟨b176, [vI 0, vI 0, vI 0, .slice (ad a201) y202.length (na201 / 4), .slice (ad a199) y200.length (na199 / 11)], 5⟩, ⟨a261, encL E_u84 y262, na261⟩, ⟨a195, csa195, na195⟩, ⟨a201, encL E_u84 y202, na201⟩, ⟨a199, csa199, na199⟩] : List Own) ++ (Fa195 ++ (Fa199 ++ (Fa293 ++ [])))) ?_)))
             by_cases c297 : (wr64 (1 + t210)) = 2
             ·rw [if_pos c297] at e287
              have c297b : ((wr64 (1 + t210)) == 2) = true := beq_iff_eq.mpr c297
              obtain ⟨⟨t298, t299⟩, h300, e287⟩ := bind_of e287
              try dsimp only at e287
              obtain ⟨⟨t301, t302, t303, t304, t305⟩, h306, e287⟩ := bind_of e287
              try dsimp only at e287
              obtain ⟨y309, hl310, e287⟩ := bind_of e287
              refine wk [(0, vP B0 0), (2, vP b176 0), (3, vP b186 0), (4, vI (wr64 ((mx (wr64 (1 + t177)) (wr64 (1 + t180))) * 2 ^ (min (Int.toNat (wru64 t183)) 64)))), (5, vI x194), (6, vP b213 0), (7, vI x292)] (w_gameQ mixed (by kernel_rfl) fun all G hend hstep hqf => ?_)
              have hg_1ffff : ∀ (g311 : Option Nat) (ng311 : Nat) (g308 : Nat) (N307 : Option Nat) (nN307 : Nat) (csg311 : List Value) (hrg311 : RL (rdOf (([⟨N307, encL E_i647 t304, nN307⟩] : List Own) ++ (Fa293 ++ [])) S) N_0 y309 csg311), G [true, true, true, true, true, true, true, true, true, true, true, true, true, true, true, true, true] [(0, vP B0 0), (2, vP b176 0), (3, vP b186 0), (4, vI (wr64 ((mx (wr64 (1 + t177)) (wr64 (1 + t180))) * 2 ^ (min (Int.toNat (wru64 t183)) 64)))), (5, vI x194), (6, vP b213 0), (7, vI x292)] (([⟨g311, csg311, ng311⟩, ⟨g308, [vI t301, vI t302, .slice (ad N307) t304.length (nN307 / 7), .bool t303], 4⟩, ⟨N307, encL E_i647 t304, nN307⟩, ⟨B0, [.slice a_m0_0 m0_0.length c_m0_0, vI t305], 2⟩, ⟨b213, [vI (wr64 (1 + t210)), vI x224, vI x225, vI t227, vI t236, vI x258, vI x259, vI x260, vI x284, vI x275, .slice (ad g311) y309.length (ng311 / 4)], 11⟩, ⟨b186, [vI (wr64 (1 + t177)), vI (wr64 (1 + t180)), vI t183, .slice (ad a261) y262.length (na261 / 4), .slice (ad a195) y196.length (na195 / 11)], 5⟩, ⟨b176, [vI 0, vI 0, vI 0, .slice (ad a201) y202.length (na201 / 4), .slice (ad a199) y200.length (na199 / 11)], 5⟩, ⟨a261, encL E_u84 y262, na261⟩, ⟨a195, csa195, na195⟩, ⟨a201, encL E_u84 y202, na201⟩, ⟨a199, csa199, na199⟩] : List Own) ++ (Fa195 ++ (Fa199 ++ (Fa293 ++ [])))) := by
               intro g311 ng311 g308 N307 nN307 csg311 hrg311
               refine hend _ _ _ (by kernel_rfl) ?_
               refine w_ ?_
               refine wqF mixed [Fa195, Fa199, Fa293] [] 0 .nrm [] (zQL [1] ?_)
               exact ⟨k_, Nat.lt_succ_self _, _, _, S, keep_sub [0, 2, 3, 4, 5, 6, 7] (by kernel_rfl), VS.as (([⟨g311, csg311, ng311⟩, ⟨N307, encL E_i647 t304, nN307⟩, ⟨B0, [.slice a_m0_0 m0_0.length c_m0_0, vI t305], 2⟩, ⟨b213, [vI (wr64 (1 + t210)), vI x224, vI x225, vI t227, vI t236, vI x258, vI x259, vI x260, vI x284, vI x275, .slice (ad g311) y309.length (ng311 / 4)], 11⟩, ⟨b186, [vI (wr64 (1 + t177)), vI (wr64 (1 + t180)), vI t183, .slice (ad a261) y262.length (na261 / 4), .slice (ad a195) y196.length (na195 / 11)], 5⟩, ⟨b176, [vI 0, vI 0, vI 0, .slice (ad a201) y202.length (na201 / 4), .slice (ad a199) y200.length (na199 / 11)], 5⟩, ⟨a261, encL E_u84 y262, na261⟩, ⟨a195, csa195, na195⟩, ⟨a201, encL E_u84 y202, na201⟩, ⟨a199, csa199, na199⟩] : List Own) ++ (Fa195 ++ (Fa199 ++ (Fa293 ++ [])))) (VS.treeA (.a (.l ([⟨g311, csg311, ng311⟩, ⟨N307, encL E_i647 t304, nN307⟩, ⟨B0, [.slice a_m0_0 m0_0.length c_m0_0, vI t305], 2⟩, ⟨b213, [vI (wr64 (1 + t210)), vI x224, vI x225, vI t227, vI t236, vI x258, vI x259, vI x260, vI x284, vI x275, .slice (ad g311) y309.length (ng311 / 4)], 11⟩, ⟨b186, [vI (wr64 (1 + t177)), vI (wr64 (1 + t180)), vI t183, .slice (ad a261) y262.length (na261 / 4), .slice (ad a195) y196.length (na195 / 11)], 5⟩, ⟨b176, [vI 0, vI 0, vI 0, .slice (ad a201) y202.length (na201 / 4), .slice (ad a199) y200.length (na199 / 11)], 5⟩, ⟨a261, encL E_u84 y262, na261⟩, ⟨a195, csa195, na195⟩, ⟨a201, encL E_u84 y202, na201⟩, ⟨a199, csa199, na199⟩] : List Own)) (.a (.f Fa195) (.a (.f Fa199) (.a (.f Fa293) (.l []))))) (.a (.l ([⟨g311, csg311, ng311⟩, ⟨B0, [.slice a_m0_0 m0_0.length c_m0_0, vI t305], 2⟩, ⟨b213, [vI (wr64 (1 + t210)), vI x224, vI x225, vI t227, vI t236, vI x258, vI x259, vI x260, vI x284, vI x275, .slice (ad g311) y309.length (ng311 / 4)], 11⟩, ⟨b186, [vI (wr64 (1 + t177)), vI (wr64 (1 + t180)), vI t183, .slice (ad a261) y262.length (na261 / 4), .slice (ad a195) y196.length (na195 / 11)], 5⟩, ⟨b176, [vI 0, vI 0, vI 0, .slice (ad a201) y202.length (na201 / 4), .slice (ad a199) y200.length (na199 / 11)], 5⟩, ⟨a261, encL E_u84 y262, na261⟩, ⟨a195, csa195, na195⟩, ⟨a201, encL E_u84 y202, na201⟩, ⟨a199, csa199, na199⟩] : List Own)) (.a (.f Fa195) (.a (.f Fa199) (.a (.a (.l ([⟨N307, encL E_i647 t304, nN307⟩] : List Own)) (.a (.f Fa293) (.l []))) (.l []))))) [0, 1, 1, 1, 1, 1, 1, 1, 1, 1, 1, 0, 0] (by kernel_rfl)), wr64 (x292 - 1), y309, t305, g311, ng311, csg311, (([⟨N307, encL E_i647 t304, nN307⟩] : List Own) ++ (Fa293 ++ [])), rfl, rfl, rfl, e287, RL.mono hrg311 (rd_sub seg_hd)⟩
              have hg_ffff : ∀ (g311 : Option Nat) (ng311 : Nat) (g308 : Nat) (N307 : Option Nat) (nN307 : Nat) (csg311 : List Value) (hrg311 : RL (rdOf (([⟨N307, encL E_i647 t304, nN307⟩] : List Own) ++ (Fa293 ++ [])) S) N_0 y309 csg311), G [true, true, true, true, true, true, true, true, true, true, true, true, true, true, true, true, false] [(0, vP B0 0), (2, vP b176 0), (3, vP b186 0), (4, vI (wr64 ((mx (wr64 (1 + t177)) (wr64 (1 + t180))) * 2 ^ (min (Int.toNat (wru64 t183)) 64)))), (5, vI x194), (6, vP b213 0), (7, vI x292), (131, .slice (ad g311) y309.length (ng311 / 4)), (132, vP b213 10)] (([⟨g311, csg311, ng311⟩, ⟨g308, [vI t301, vI t302, .slice (ad N307) t304.length (nN307 / 7), .bool t303], 4⟩, ⟨N307, encL E_i647 t304, nN307⟩, ⟨B0, [.slice a_m0_0 m0_0.length c_m0_0, vI t305], 2⟩, ⟨b213, [vI (wr64 (1 + t210)), vI x224, vI x225, vI t227, vI t236, vI x258, vI x259, vI x260, vI x284, vI x275, .slice (ad a293) y294.length (na293 / 4)], 11⟩, ⟨b186, [vI (wr64 (1 + t177)), vI (wr64 (1 + t180)), vI t183, .slice (ad a261) y262.length (na261 / 4), .slice (ad a195) y196.length (na195 / 11)], 5⟩, ⟨b176, [vI 0, vI 0, vI 0, .slice (ad a201) y202.length (na201 / 4), .slice (ad a199) y200.length (na199 / 11)], 5⟩, ⟨a261, encL E_u84 y262, na261⟩, ⟨a195, csa195, na195⟩, ⟨a201, encL E_u84 y202, na201⟩, ⟨a199, csa199, na199⟩] : List Own) ++ (Fa195 ++ (Fa199 ++ (Fa293 ++ [])))) := by
               intro g311 ng311 g308 N307 nN307 csg311 hrg311
               refine hstep [16] _ _ _ (by kernel_rfl) (List.cons_ne_nil _ _) ⟨?_, trivial⟩
               ·refine tT (t_sti 4 (cs := [vI (wr64 (1 + t210)), vI x224, vI x225, vI t227, vI t236, vI x258, vI x259, vI x260, vI x284, vI x275, .slice (ad g311) y309.length (ng311 / 4)]) rfl rfl rfl rfl rfl rfl rfl rfl rfl ?_)
                exact tfx (hg_1ffff g311 ng311 g308 N307 nN307 csg311 hrg311)
              have hg_3fff : ∀ (g308 : Nat) (N307 : Option Nat) (nN307 : Nat), G [true, true, true, true, true, true, true, true, true, true, true, true, true, true, false, false, false] [(0, vP B0 0), (2, vP b176 0), (3, vP b186 0), (4, vI (wr64 ((mx (wr64 (1 + t177)) (wr64 (1 + t180))) * 2 ^ (min (Int.toNat (wru64 t183)) 64)))), (5, vI x194), (6, vP b213 0), (7, vI x292), (118, .slice (ad a293) y294.length (na293 / 4)), (130, .slice (some ⟨g308, 0, none⟩) 1 1)] (([⟨g308, [vI t301, vI t302, .slice (ad N307) t304.length (nN307 / 7), .bool t303], 4⟩, ⟨N307, encL E_i647 t304, nN307⟩, ⟨B0, [.slice a_m0_0 m0_0.length c_m0_0, vI t305], 2⟩, ⟨a293, csa293, na293⟩, ⟨b213, [vI (wr64 (1 + t210)), vI x224, vI x225, vI t227, vI t236, vI x258, vI x259, vI x260, vI x284, vI x275, .slice (ad a293) y294.length (na293 / 4)], 11⟩, ⟨b186, [vI (wr64 (1 + t177)), vI (wr64 (1 + t180)), vI t183, .slice (ad a261) y262.length (na261 / 4), .slice (ad a195) y196.length (na195 / 11)], 5⟩, ⟨b176, [vI 0, vI 0, vI 0, .slice (ad a201) y202.length (na201 / 4), .slice (ad a199) y200.length (na199 / 11)], 5⟩, ⟨a261, encL E_u84 y262, na261⟩, ⟨a195, csa195, na195⟩, ⟨a201, encL E_u84 y202, na201⟩, ⟨a199, csa199, na199⟩] : List Own) ++ (Fa195 ++ (Fa199 ++ (Fa293 ++ [])))) := by
               intro g308 N307 nN307
               refine hstep [14] _ _ _ (by kernel_rfl) (List.cons_ne_nil _ _) ⟨?_, trivial⟩
               ·refine tT (t_someB 1 rfl fun hbN307_ => ?_)
                refine t_appN (R := rdOf (([⟨N307, encL E_i647 t304, nN307⟩] : List Own) ++ (Fa293 ++ [])) S) (E := N_0) (L := y294) (X := ([(t301, t302, t304, t303)] : List (Int × Int × List (Int × Int × Int × Int × Int × Int × Int) × Bool))) (cs := csa293) (ds := [vI t301, vI t302, .slice (ad N307) t304.length (nN307 / 7), .bool t303]) (F := (([⟨g308, [vI t301, vI t302, .slice (ad N307) t304.length (nN307 / 7), .bool t303], 4⟩, ⟨N307, encL E_i647 t304, nN307⟩, ⟨B0, [.slice a_m0_0 m0_0.length c_m0_0, vI t305], 2⟩, ⟨b213, [vI (wr64 (1 + t210)), vI x224, vI x225, vI t227, vI t236, vI x258, vI x259, vI x260, vI x284, vI x275, .slice (ad a293) y294.length (na293 / 4)], 11⟩, ⟨b186, [vI (wr64 (1 + t177)), vI (wr64 (1 + t180)), vI t183, .slice (ad a261) y262.length (na261 / 4), .slice (ad a195) y196.length (na195 / 11)], 5⟩, ⟨b176, [vI 0, vI 0, vI 0, .slice (ad a201) y202.length (na201 / 4), .slice (ad a199) y200.length (na199 / 11)], 5⟩, ⟨a261, encL E_u84 y262, na261⟩, ⟨a195, csa195, na195⟩, ⟨a201, encL E_u84 y202, na201⟩, ⟨a199, csa199, na199⟩] : List Own) ++ (Fa195 ++ (Fa199 ++ (Fa293 ++ []))))) rfl rfl rfl rfl (sel_perm (is := [3]) (by kernel_rfl)) (RL.mono hra293 (rd_sub (sub_app (seg_in 1 (X := (Fa293 ++ [])) rfl seg_hd) sub_nil))) (RL.one (E := N_0) ⟨_, _, rfl, SlN.own (RL.flat (E := E_i647)) hbN307_ (by decide) (fun _ hk_ => Or.inl ⟨_, mem_at 0 rfl, hk_, rfl⟩)⟩) rfl (by decide) (.at 0 rfl (by kernel_rfl)) rfl (by decide) (by decide) rfl hl310 fun g311 ng311 csg311 hrg311 => ?_
                exact t_fin0 (hqf 15 [0, 2, 3, 4, 5, 6, 7, 131, 132] _ _ _ _ (by kernel_rfl) (by kernel_rfl) (hg_ffff g311 ng311 g308 N307 nN307 csg311 hrg311))
              have hg_1fff : ∀ (N307 : Option Nat) (nN307 : Nat), G [true, true, true, true, true, true, true, true, true, true, true, true, true, false, false, false, false] [(0, vP B0 0), (2, vP b176 0), (3, vP b186 0), (4, vI (wr64 ((mx (wr64 (1 + t177)) (wr64 (1 + t180))) * 2 ^ (min (Int.toNat (wru64 t183)) 64)))), (5, vI x194), (6, vP b213 0), (7, vI x292), (118, .slice (ad a293) y294.length (na293 / 4)), (129, .agg #[vI t301, vI t302, .slice (ad N307) t304.length (nN307 / 7), .bool t303])] (([⟨N307, encL E_i647 t304, nN307⟩, ⟨B0, [.slice a_m0_0 m0_0.length c_m0_0, vI t305], 2⟩, ⟨a293, csa293, na293⟩, ⟨b213, [vI (wr64 (1 + t210)), vI x224, vI x225, vI t227, vI t236, vI x258, vI x259, vI x260, vI x284, vI x275, .slice (ad a293) y294.length (na293 / 4)], 11⟩, ⟨b186, [vI (wr64 (1 + t177)), vI (wr64 (1 + t180)), vI t183, .slice (ad a261) y262.length (na261 / 4), .slice (ad a195) y196.length (na195 / 11)], 5⟩, ⟨b176, [vI 0, vI 0, vI 0, .slice (ad a201) y202.length (na201 / 4), .slice (ad a199) y200.length (na199 / 11)], 5⟩, ⟨a261, encL E_u84 y262, na261⟩, ⟨a195, csa195, na195⟩, ⟨a201, encL E_u84 y202, na201⟩, ⟨a199, csa199, na199⟩] : List Own) ++ (Fa195 ++ (Fa199 ++ (Fa293 ++ [])))) := by
               intro N307 nN307
               refine hstep [13] _ _ _ (by kernel_rfl) (List.cons_ne_nil _ _) ⟨?_, trivial⟩
               ·refine tT (t_a (dv_bsl (cs := [vI t301, vI t302, .slice (ad N307) t304.length (nN307 / 7), .bool t303]) rfl rfl (by kernel_rfl)) fun g308 fg308 sg308 => ?_)
                exact tfx (hg_3fff g308 N307 nN307)
              have hg_fff : G [true, true, true, true, true, true, true, true, true, true, true, true, false, false, false, false, false] [(0, vP B0 0), (2, vP b176 0), (3, vP b186 0), (4, vI (wr64 ((mx (wr64 (1 + t177)) (wr64 (1 + t180))) * 2 ^ (min (Int.toNat (wru64 t183)) 64)))), (5, vI x194), (6, vP b213 0), (7, vI x292), (118, .slice (ad a293) y294.length (na293 / 4)), (119, vP B0 0), (120, vI (wr64 ((mx (wr64 (1 + t177)) (wr64 (1 + t180))) * 2 ^ (min (Int.toNat (wru64 t183)) 64)))), (128, .bool (t298 == 0))] (([⟨B0, [.slice a_m0_0 m0_0.length c_m0_0, vI t299], 2⟩, ⟨a293, csa293, na293⟩, ⟨b213, [vI (wr64 (1 + t210)), vI x224, vI x225, vI t227, vI t236, vI x258, vI x259, vI x260, vI x284, vI x275, .slice (ad a293) y294.length (na293 / 4)], 11⟩, ⟨b186, [vI (wr64 (1 + t177)), vI (wr64 (1 + t180)), vI t183, .slice (ad a261) y262.length (na261 / 4), .slice (ad a195) y196.length (na195 / 11)], 5⟩, ⟨b176, [vI 0, vI 0, vI 0, .slice (ad a201) y202.length (na201 / 4), .slice (ad a199) y200.length (na199 / 11)], 5⟩, ⟨a261, encL E_u84 y262, na261⟩, ⟨a195, csa195, na195⟩, ⟨a201, encL E_u84 y202, na201⟩, ⟨a199, csa199, na199⟩] : List Own) ++ (Fa195 ++ (Fa199 ++ (Fa293 ++ [])))) := by
               refine hstep [12] _ _ _ (by kernel_rfl) (List.cons_ne_nil _ _) ⟨?_, trivial⟩
               ·refine tT (t_call (vs := [vP B0 0, vI (wr64 ((mx (wr64 (1 + t177)) (wr64 (1 + t180))) * 2 ^ (min (Int.toNat (wru64 t183)) 64))), .bool (t298 == 0)]) (H1 := ([⟨B0, [.slice a_m0_0 m0_0.length c_m0_0, vI t299], 2⟩] : List Own)) (F := (([⟨a293, csa293, na293⟩, ⟨b213, [vI (wr64 (1 + t210)), vI x224, vI x225, vI t227, vI t236, vI x258, vI x259, vI x260, vI x284, vI x275, .slice (ad a293) y294.length (na293 / 4)], 11⟩, ⟨b186, [vI (wr64 (1 + t177)), vI (wr64 (1 + t180)), vI t183, .slice (ad a261) y262.length (na261 / 4), .slice (ad a195) y196.length (na195 / 11)], 5⟩, ⟨b176, [vI 0, vI 0, vI 0, .slice (ad a201) y202.length (na201 / 4), .slice (ad a199) y200.length (na199 / 11)], 5⟩, ⟨a261, encL E_u84 y262, na261⟩, ⟨a195, csa195, na195⟩, ⟨a201, encL E_u84 y202, na201⟩, ⟨a199, csa199, na199⟩] : List Own) ++ (Fa195 ++ (Fa199 ++ (Fa293 ++ []))))) rfl rfl (by kernel_rfl) (sel_perm (is := [0]) (by kernel_rfl)) (glyphicmake_Path_v1.ok hE_ h_m0_0 h306) ?_)
                rintro _ _ S_ ⟨N307, nN307, rfl, rfl, hS_⟩
                obtain rfl := hS_.symm
                exact tfx (hg_1fff N307 nN307)
              have hg_ffd : G [true, false, true, true, true, true, true, true, true, true, true, true, false, false, false, false, false] [(0, vP B0 0), (2, vP b176 0), (3, vP b186 0), (4, vI (wr64 ((mx (wr64 (1 + t177)) (wr64 (1 + t180))) * 2 ^ (min (Int.toNat (wru64 t183)) 64)))), (5, vI x194), (6, vP b213 0), (7, vI x292), (117, vP b213 10), (119, vP B0 0), (120, vI (wr64 ((mx (wr64 (1 + t177)) (wr64 (1 + t180))) * 2 ^ (min (Int.toNat (wru64 t183)) 64)))), (128, .bool (t298 == 0))] (([⟨B0, [.slice a_m0_0 m0_0.length c_m0_0, vI t299], 2⟩, ⟨a293, csa293, na293⟩, ⟨b213, [vI (wr64 (1 + t210)), vI x224, vI x225, vI t227, vI t236, vI x258, vI x259, vI x260, vI x284, vI x275, .slice (ad a293) y294.length (na293 / 4)], 11⟩, ⟨b186, [vI (wr64 (1 + t177)), vI (wr64 (1 + t180)), vI t183, .slice (ad a261) y262.length (na261 / 4), .slice (ad a195) y196.length (na195 / 11)], 5⟩, ⟨b176, [vI 0, vI 0, vI 0, .slice (ad a201) y202.length (na201 / 4), .slice (ad a199) y200.length (na199 / 11)], 5⟩, ⟨a261, encL E_u84 y262, na261⟩, ⟨a195, csa195, na195⟩, ⟨a201, encL E_u84 y202, na201⟩, ⟨a199, csa199, na199⟩] : List Own) ++ (Fa195 ++ (Fa199 ++ (Fa293 ++ [])))) := by
               refine hstep [1, 12] _ _ _ (by kernel_rfl) (List.cons_ne_nil _ _) ⟨?_, ?_, trivial⟩
               ·refine tT (t_v (.ld1 rfl rfl rfl (.at 2 rfl rfl)) ?_)
                exact tfx hg_fff
               ·refine tT (t_call (vs := [vP B0 0, vI (wr64 ((mx (wr64 (1 + t177)) (wr64 (1 + t180))) * 2 ^ (min (Int.toNat (wru64 t183)) 64))), .bool (t298 == 0)]) (H1 := ([⟨B0, [.slice a_m0_0 m0_0.length c_m0_0, vI t299], 2⟩] : List Own)) (F := (([⟨a293, csa293, na293⟩, ⟨b213, [vI (wr64 (1 + t210)), vI x224, vI x225, vI t227, vI t236, vI x258, vI x259, vI x260, vI x284, vI x275, .slice (ad a293) y294.length (na293 / 4)], 11⟩, ⟨b186, [vI (wr64 (1 + t177)), vI (wr64 (1 + t180)), vI t183, .slice (ad a261) y262.length (na261 / 4), .slice (ad a195) y196.length (na195 / 11)], 5⟩, ⟨b176, [vI 0, vI 0, vI 0, .slice (ad a201) y202.length (na201 / 4), .slice (ad a199) y200.length (na199 / 11)], 5⟩, ⟨a261, encL E_u84 y262, na261⟩, ⟨a195, csa195, na195⟩, ⟨a201, encL E_u84 y202, na201⟩, ⟨a199, csa199, na199⟩] : List Own) ++ (Fa195 ++ (Fa199 ++ (Fa293 ++ []))))) rfl rfl (by kernel_rfl) (sel_perm (is := [0]) (by kernel_rfl)) (glyphicmake_Path_v1.ok hE_ h_m0_0 h306) ?_)
                rintro _ _ S_ ⟨N307, nN307, rfl, rfl, hS_⟩
                obtain rfl := hS_.symm
                refine tf [(0, vP B0 0), (2, vP b176 0), (3, vP b186 0), (4, vI (wr64 ((mx (wr64 (1 + t177)) (wr64 (1 + t180))) * 2 ^ (min (Int.toNat (wru64 t183)) 64)))), (5, vI x194), (6, vP b213 0), (7, vI x292), (117, vP b213 10), (129, .agg #[vI t301, vI t302, .slice (ad N307) t304.length (nN307 / 7), .bool t303])] ?_
                refine hstep [1, 13] _ _ _ (by kernel_rfl) (List.cons_ne_nil _ _) ⟨?_, ?_, trivial⟩
                ·refine tT (t_v (.ld1 rfl rfl rfl (.at 3 rfl rfl)) ?_)
                 exact tfx (hg_1fff N307 nN307)
                ·refine tT (t_a (dv_bsl (cs := [vI t301, vI t302, .slice (ad N307) t304.length (nN307 / 7), .bool t303]) rfl rfl (by kernel_rfl)) fun g308 fg308 sg308 => tf [(0, vP B0 0), (2, vP b176 0), (3, vP b186 0), (4, vI (wr64 ((mx (wr64 (1 + t177)) (wr64 (1 + t180))) * 2 ^ (min (Int.toNat (wru64 t183)) 64)))), (5, vI x194), (6, vP b213 0), (7, vI x292), (117, vP b213 10), (130, .slice (some ⟨g308, 0, none⟩) 1 1)] ?_)
                 refine hstep [1] _ _ _ (by kernel_rfl) (List.cons_ne_nil _ _) ⟨?_, trivial⟩
                 ·refine tT (t_v (.ld1 rfl rfl rfl (.at 4 rfl rfl)) ?_)
                  exact tfx (hg_3fff g308 N307 nN307)
              have hg_1ff : G [true, true, true, true, true, true, true, true, true, false, false, false, false, false, false, false, false] [(0, vP B0 0), (2, vP b176 0), (3, vP b186 0), (4, vI (wr64 ((mx (wr64 (1 + t177)) (wr64 (1 + t180))) * 2 ^ (min (Int.toNat (wru64 t183)) 64)))), (5, vI x194), (6, vP b213 0), (7, vI x292), (118, .slice (ad a293) y294.length (na293 / 4)), (119, vP B0 0), (120, vI (wr64 ((mx (wr64 (1 + t177)) (wr64 (1 + t180))) * 2 ^ (min (Int.toNat (wru64 t183)) 64)))), (124, vB true), (125, vP B0 0)] (([⟨a293, csa293, na293⟩, ⟨B0, [.slice a_m0_0 m0_0.length c_m0_0, vI x295], 2⟩, ⟨b213, [vI (wr64 (1 + t210)), vI x224, vI x225, vI t227, vI t236, vI x258, vI x259, vI x260, vI x284, vI x275, .slice (ad a293) y294.length (na293 / 4)], 11⟩, ⟨b186, [vI (wr64 (1 + t177)), vI (wr64 (1 + t180)), vI t183, .slice (ad a261) y262.length (na261 / 4), .slice (ad a195) y196.length (na195 / 11)], 5⟩, ⟨b176, [vI 0, vI 0, vI 0, .slice (ad a201) y202.length (na201 / 4), .slice (ad a199) y200.length (na199 / 11)], 5⟩, ⟨a261, encL E_u84 y262, na261⟩, ⟨a195, csa195, na195⟩, ⟨a201, encL E_u84 y202, na201⟩, ⟨a199, csa199, na199⟩] : List Own) ++ (Fa195 ++ (Fa199 ++ (Fa293 ++ [])))) := by
               refine hstep [9] _ _ _ (by kernel_rfl) (List.cons_ne_nil _ _) ⟨?_, trivial⟩
               ·refine tT (t_call (vs := [vP B0 0, vI 2]) (H1 := ([⟨B0, [.slice a_m0_0 m0_0.length c_m0_0, vI x295], 2⟩] : List Own)) (F := (([⟨a293, csa293, na293⟩, ⟨b213, [vI (wr64 (1 + t210)), vI x224, vI x225, vI t227, vI t236, vI x258, vI x259, vI x260, vI x284, vI x275, .slice (ad a293) y294.length (na293 / 4)], 11⟩, ⟨b186, [vI (wr64 (1 + t177)), vI (wr64 (1 + t180)), vI t183, .slice (ad a261) y262.length (na261 / 4), .slice (ad a195) y196.length (na195 / 11)], 5⟩, ⟨b176, [vI 0, vI 0, vI 0, .slice (ad a201) y202.length (na201 / 4), .slice (ad a199) y200.length (na199 / 11)], 5⟩, ⟨a261, encL E_u84 y262, na261⟩, ⟨a195, csa195, na195⟩, ⟨a201, encL E_u84 y202, na201⟩, ⟨a199, csa199, na199⟩] : List Own) ++ (Fa195 ++ (Fa199 ++ (Fa293 ++ []))))) rfl rfl (by kernel_rfl) (sel_perm (is := [1]) (by kernel_rfl)) (glyphicmake_Seq_Next_v1.ok hE_ h_m0_0 h300) ?_)
                rintro _ _ S_ ⟨rfl, rfl, hS_⟩
                obtain rfl := hS_.symm
                exact t_fin0 (hqf 10 [0, 2, 3, 4, 5, 6, 7, 118, 119, 120, 124, 127] _ _ _ _ (by kernel_rfl) (by kernel_rfl) (hqf 11 [0, 2, 3, 4, 5, 6, 7, 118, 119, 120, 128] _ [(0, vP B0 0), (2, vP b176 0), (3, vP b186 0), (4, vI (wr64 ((mx (wr64 (1 + t177)) (wr64 (1 + t180))) * 2 ^ (min (Int.toNat (wru64 t183)) 64)))), (5, vI x194), (6, vP b213 0), (7, vI x292), (118, .slice (ad a293) y294.length (na293 / 4)), (119, vP B0 0), (120, vI (wr64 ((mx (wr64 (1 + t177)) (wr64 (1 + t180))) * 2 ^ (min (Int.toNat (wru64 t183)) 64)))), (124, vB true), (127, .bool (t298 == 0))] _ _ (by kernel_rfl) (by kernel_rfl) hg_fff))
              have hg_1fd : G [true, false, true, true, true, true, true, true, true, false, false, false, false, false, false, false, false] [(0, vP B0 0), (2, vP b176 0), (3, vP b186 0), (4, vI (wr64 ((mx (wr64 (1 + t177)) (wr64 (1 + t180))) * 2 ^ (min (Int.toNat (wru64 t183)) 64)))), (5, vI x194), (6, vP b213 0), (7, vI x292), (117, vP b213 10), (119, vP B0 0), (120, vI (wr64 ((mx (wr64 (1 + t177)) (wr64 (1 + t180))) * 2 ^ (min (Int.toNat (wru64 t183)) 64)))), (124, vB true), (125, vP B0 0)] (([⟨a293, csa293, na293⟩, ⟨B0, [.slice a_m0_0 m0_0.length c_m0_0, vI x295], 2⟩, ⟨b213, [vI (wr64 (1 + t210)), vI x224, vI x225, vI t227, vI t236, vI x258, vI x259, vI x260, vI x284, vI x275, .slice (ad a293) y294.length (na293 / 4)], 11⟩, ⟨b186, [vI (wr64 (1 + t177)), vI (wr64 (1 + t180)), vI t183, .slice (ad a261) y262.length (na261 / 4), .slice (ad a195) y196.length (na195 / 11)], 5⟩, ⟨b176, [vI 0, vI 0, vI 0, .slice (ad a201) y202.length (na201 / 4), .slice (ad a199) y200.length (na199 / 11)], 5⟩, ⟨a261, encL E_u84 y262, na261⟩, ⟨a195, csa195, na195⟩, ⟨a201, encL E_u84 y202, na201⟩, ⟨a199, csa199, na199⟩] : List Own) ++ (Fa195 ++ (Fa199 ++ (Fa293 ++ [])))) := by
               refine hstep [1, 9] _ _ _ (by kernel_rfl) (List.cons_ne_nil _ _) ⟨?_, ?_, trivial⟩
               ·refine tT (t_v (.ld1 rfl rfl rfl (.at 2 rfl rfl)) ?_)
                exact tfx hg_1ff
               ·refine tT (t_call (vs := [vP B0 0, vI 2]) (H1 := ([⟨B0, [.slice a_m0_0 m0_0.length c_m0_0, vI x295], 2⟩] : List Own)) (F := (([⟨a293, csa293, na293⟩, ⟨b213, [vI (wr64 (1 + t210)), vI x224, vI x225, vI t227, vI t236, vI x258, vI x259, vI x260, vI x284, vI x275, .slice (ad a293) y294.length (na293 / 4)], 11⟩, ⟨b186, [vI (wr64 (1 + t177)), vI (wr64 (1 + t180)), vI t183, .slice (ad a261) y262.length (na261 / 4), .slice (ad a195) y196.length (na195 / 11)], 5⟩, ⟨b176, [vI 0, vI 0, vI 0, .slice (ad a201) y202.length (na201 / 4), .slice (ad a199) y200.length (na199 / 11)], 5⟩, ⟨a261, encL E_u84 y262, na261⟩, ⟨a195, csa195, na195⟩, ⟨a201, encL E_u84 y202, na201⟩, ⟨a199, csa199, na199⟩] : List Own) ++ (Fa195 ++ (Fa199 ++ (Fa293 ++ []))))) rfl rfl (by kernel_rfl) (sel_perm (is := [1]) (by kernel_rfl)) (glyphicmake_Seq_Next_v1.ok hE_ h_m0_0 h300) ?_)
                rintro _ _ S_ ⟨rfl, rfl, hS_⟩
                obtain rfl := hS_.symm
                exact t_fin0 (hqf 10 [0, 2, 3, 4, 5, 6, 7, 117, 119, 120, 124, 127] _ _ _ _ (by kernel_rfl) (by kernel_rfl) (hqf 11 [0, 2, 3, 4, 5, 6, 7, 117, 119, 120, 128] _ [(0, vP B0 0), (2, vP b176 0), (3, vP b186 0), (4, vI (wr64 ((mx (wr64 (1 + t177)) (wr64 (1 + t180))) * 2 ^ (min (Int.toNat (wru64 t183)) 64)))), (5, vI x194), (6, vP b213 0), (7, vI x292), (117, vP b213 10), (119, vP B0 0), (120, vI (wr64 ((mx (wr64 (1 + t177)) (wr64 (1 + t180))) * 2 ^ (min (Int.toNat (wru64 t183)) 64)))), (124, vB true), (127, .bool (t298 == 0))] _ _ (by kernel_rfl) (by kernel_rfl) hg_ffd))
              have hg_3f : G [true, true, true, true, true, true, false, false, false, false, false, false, false, false, false, false, false] [(0, vP B0 0), (2, vP b176 0), (3, vP b186 0), (4, vI (wr64 ((mx (wr64 (1 + t177)) (wr64 (1 + t180))) * 2 ^ (min (Int.toNat (wru64 t183)) 64)))), (5, vI x194), (6, vP b213 0), (7, vI x292), (118, .slice (ad a293) y294.length (na293 / 4)), (119, vP B0 0), (120, vI (wr64 ((mx (wr64 (1 + t177)) (wr64 (1 + t180))) * 2 ^ (min (Int.toNat (wru64 t183)) 64)))), (122, vI (wr64 (1 + t210)))] (([⟨a293, csa293, na293⟩, ⟨B0, [.slice a_m0_0 m0_0.length c_m0_0, vI x295], 2⟩, ⟨b213, [vI (wr64 (1 + t210)), vI x224, vI x225, vI t227, vI t236, vI x258, vI x259, vI x260, vI x284, vI x275, .slice (ad a293) y294.length (na293 / 4)], 11⟩, ⟨b186, [vI (wr64 (1 + t177)), vI (wr64 (1 + t180)), vI t183, .slice (ad a261) y262.length (na261 / 4), .slice (ad a195) y196.length (na195 / 11)], 5⟩, ⟨b176, [vI 0, vI 0, vI 0, .slice (ad a201) y202.length (na201 / 4), .slice (ad a199) y200.length (na199 / 11)], 5⟩, ⟨a261, encL E_u84 y262, na261⟩, ⟨a195, csa195, na195⟩, ⟨a201, encL E_u84 y202, na201⟩, ⟨a199, csa199, na199⟩] : List Own) ++ (Fa195 ++ (Fa199 ++ (Fa293 ++ [])))) := by
               refine hstep [6] _ _ _ (by kernel_rfl) (List.cons_ne_nil _ _) ⟨?_, trivial⟩
               ·refine tT (t_v (dvb c297b) ?_)
                exact t_fin0 (hqf 7 [0, 2, 3, 4, 5, 6, 7, 118, 119, 120, 124] _ _ _ _ (by kernel_rfl) (by kernel_rfl) (hqf 8 [0, 2, 3, 4, 5, 6, 7, 118, 119, 120, 124, 125] _ [(0, vP B0 0), (2, vP b176 0), (3, vP b186 0), (4, vI (wr64 ((mx (wr64 (1 + t177)) (wr64 (1 + t180))) * 2 ^ (min (Int.toNat (wru64 t183)) 64)))), (5, vI x194), (6, vP b213 0), (7, vI x292), (118, .slice (ad a293) y294.length (na293 / 4)), (119, vP B0 0), (120, vI (wr64 ((mx (wr64 (1 + t177)) (wr64 (1 + t180))) * 2 ^ (min (Int.toNat (wru64 t183)) 64)))), (124, vB true)] _ _ (by kernel_rfl) (by kernel_rfl) hg_1ff))
              have hg_1d : G [true, false, true, true, true, false, false, false, false, false, false, false, false, false, false, false, false] [(0, vP B0 0), (2, vP b176 0), (3, vP b186 0), (4, vI (wr64 ((mx (wr64 (1 + t177)) (wr64 (1 + t180))) * 2 ^ (min (Int.toNat (wru64 t183)) 64)))), (5, vI x194), (6, vP b213 0), (7, vI x292), (117, vP b213 10), (119, vP B0 0), (120, vI (wr64 ((mx (wr64 (1 + t177)) (wr64 (1 + t180))) * 2 ^ (min (Int.toNat (wru64 t183)) 64)))), (121, vP b213 0)] (([⟨a293, csa293, na293⟩, ⟨B0, [.slice a_m0_0 m0_0.length c_m0_0, vI x295], 2⟩, ⟨b213, [vI (wr64 (1 + t210)), vI x224, vI x225, vI t227, vI t236, vI x258, vI x259, vI x260, vI x284, vI x275, .slice (ad a293) y294.length (na293 / 4)], 11⟩, ⟨b186, [vI (wr64 (1 + t177)), vI (wr64 (1 + t180)), vI t183, .slice (ad a261) y262.length (na261 / 4), .slice (ad a195) y196.length (na195 / 11)], 5⟩, ⟨b176, [vI 0, vI 0, vI 0, .slice (ad a201) y202.length (na201 / 4), .slice (ad a199) y200.length (na199 / 11)], 5⟩, ⟨a261, encL E_u84 y262, na261⟩, ⟨a195, csa195, na195⟩, ⟨a201, encL E_u84 y202, na201⟩, ⟨a199, csa199, na199⟩] : List Own) ++ (Fa195 ++ (Fa199 ++ (Fa293 ++ [])))) := by
               refine hstep [1, 5] _ _ _ (by kernel_rfl) (List.cons_ne_nil _ _) ⟨?_, ?_, trivial⟩
               ·refine tT (t_v (.ld1 rfl rfl rfl (.at 2 rfl rfl)) (tf [(0, vP B0 0), (2, vP b176 0), (3, vP b186 0), (4, vI (wr64 ((mx (wr64 (1 + t177)) (wr64 (1 + t180))) * 2 ^ (min (Int.toNat (wru64 t183)) 64)))), (5, vI x194), (6, vP b213 0), (7, vI x292), (118, .slice (ad a293) y294.length (na293 / 4)), (119, vP B0 0), (120, vI (wr64 ((mx (wr64 (1 + t177)) (wr64 (1 + t180))) * 2 ^ (min (Int.toNat (wru64 t183)) 64)))), (121, vP b213 0)] ?_))
                refine hstep [5] _ _ _ (by kernel_rfl) (List.cons_ne_nil _ _) ⟨?_, trivial⟩
                ·refine tT (t_v (.ld1 rfl rfl rfl (.at 2 rfl rfl)) ?_)
                 exact tfx hg_3f
               ·refine tT (t_v (.ld1 rfl rfl rfl (.at 2 rfl rfl)) (tf [(0, vP B0 0), (2, vP b176 0), (3, vP b186 0), (4, vI (wr64 ((mx (wr64 (1 + t177)) (wr64 (1 + t180))) * 2 ^ (min (Int.toNat (wru64 t183)) 64)))), (5, vI x194), (6, vP b213 0), (7, vI x292), (117, vP b213 10), (119, vP B0 0), (120, vI (wr64 ((mx (wr64 (1 + t177)) (wr64 (1 + t180))) * 2 ^ (min (Int.toNat (wru64 t183)) 64)))), (122, vI (wr64 (1 + t210)))] ?_))
                refine hstep [1, 6] _ _ _ (by kernel_rfl) (List.cons_ne_nil _ _) ⟨?_, ?_, trivial⟩
                ·refine tT (t_v (.ld1 rfl rfl rfl (.at 2 rfl rfl)) ?_)
                 exact tfx hg_3f
                ·refine tT (t_v (dvb c297b) ?_)
                 exact t_fin0 (hqf 7 [0, 2, 3, 4, 5, 6, 7, 117, 119, 120, 124] _ _ _ _ (by kernel_rfl) (by kernel_rfl) (hqf 8 [0, 2, 3, 4, 5, 6, 7, 117, 119, 120, 124, 125] _ [(0, vP B0 0), (2, vP b176 0), (3, vP b186 0), (4, vI (wr64 ((mx (wr64 (1 + t177)) (wr64 (1 + t180))) * 2 ^ (min (Int.toNat (wru64 t183)) 64)))), (5, vI x194), (6, vP b213 0), (7, vI x292), (117, vP b213 10), (119, vP B0 0), (120, vI (wr64 ((mx (wr64 (1 + t177)) (wr64 (1 + t180))) * 2 ^ (min (Int.toNat (wru64 t183)) 64)))), (124, vB true)] _ _ (by kernel_rfl) (by kernel_rfl) hg_1fd))
              have hg_0 : G [false, false, false, false, false, false, false, false, false, false, false, false, false, false, false, false, false] [(0, vP B0 0), (2, vP b176 0), (3, vP b186 0), (4, vI (wr64 ((mx (wr64 (1 + t177)) (wr64 (1 + t180))) * 2 ^ (min (Int.toNat (wru64 t183)) 64)))), (5, vI x194), (6, vP b213 0), (7, vI x292)] (([⟨a293, csa293, na293⟩, ⟨B0, [.slice a_m0_0 m0_0.length c_m0_0, vI x295], 2⟩, ⟨b213, [vI (wr64 (1 + t210)), vI x224, vI x225, vI t227, vI t236, vI x258, vI x259, vI x260, vI x284, vI x275, .slice (ad a293) y294.length (na293 / 4)], 11⟩, ⟨b186, [vI (wr64 (1 + t177)), vI (wr64 (1 + t180)), vI t183, .slice (ad a261) y262.length (na261 / 4), .slice (ad a195) y196.length (na195 / 11)], 5⟩, ⟨b176, [vI 0, vI 0, vI 0, .slice (ad a201) y202.length (na201 / 4), .slice (ad a199) y200.length (na199 / 11)], 5⟩, ⟨a261, encL E_u84 y262, na261⟩, ⟨a195, csa195, na195⟩, ⟨a201, encL E_u84 y202, na201⟩, ⟨a199, csa199, na199⟩] : List Own) ++ (Fa195 ++ (Fa199 ++ (Fa293 ++ [])))) := by
               exact hqf 0 [0, 2, 3, 4, 5, 6, 7, 117] _ _ _ _ (by kernel_rfl) (by kernel_rfl) (hqf 2 [0, 2, 3, 4, 5, 6, 7, 117, 119] _ [(0, vP B0 0), (2, vP b176 0), (3, vP b186 0), (4, vI (wr64 ((mx (wr64 (1 + t177)) (wr64 (1 + t180))) * 2 ^ (min (Int.toNat (wru64 t183)) 64)))), (5, vI x194), (6, vP b213 0), (7, vI x292), (117, vP b213 10)] _ _ (by kernel_rfl) (by kernel_rfl) (hqf 3 [0, 2, 3, 4, 5, 6, 7, 117, 119, 120] _ [(0, vP B0 0), (2, vP b176 0), (3, vP b186 0), (4, vI (wr64 ((mx (wr64 (1 + t177)) (wr64 (1 + t180))) * 2 ^ (min (Int.toNat (wru64 t183)) 64)))), (5, vI x194), (6, vP b213 0), (7, vI x292), (117, vP b213 10), (119, vP B0 0)] _ _ (by kernel_rfl) (by kernel_rfl) (hqf 4 [0, 2, 3, 4, 5, 6, 7, 117, 119, 120, 121] _ [(0, vP B0 0), (2, vP b176 0), (3, vP b186 0), (4, vI (wr64 ((mx (wr64 (1 + t177)) (wr64 (1 + t180))) * 2 ^ (min (Int.toNat (wru64 t183)) 64)))), (5, vI x194), (6, vP b213 0), (7, vI x292), (117, vP b213 10), (119, vP B0 0), (120, vI (wr64 ((mx (wr64 (1 + t177)) (wr64 (1 + t180))) * 2 ^ (min (Int.toNat (wru64 t183)) 64))))] _ _ (by kernel_rfl) (by kernel_rfl) hg_1d)))
              exact hg_0
             ·rw [if_neg c297] at e287
              have c297b : ((wr64 (1 + t210)) == 2) = false := beq_eq_false_iff_ne.mpr c297
              obtain ⟨⟨t313, t314, t315, t316, t317⟩, h318, e287⟩ := bind_of e287
              try dsimp only at e287
              obtain ⟨y320, hl321, e287⟩ := bind_of e287
              refine wk [(0, vP B0 0), (2, vP b176 0), (3, vP b186 0), (4, vI (wr64 ((mx (wr64 (1 + t177)) (wr64 (1 + t180))) * 2 ^ (min (Int.toNat (wru64 t183)) 64)))), (5, vI x194), (6, vP b213 0), (7, vI x292)] (w_gameQ mixed (by kernel_rfl) fun all G hend hstep hqf => ?_)
              have hg_1ffff : ∀ (g311 : Option Nat) (ng311 : Nat) (g308 : Nat) (N319 : Option Nat) (nN319 : Nat) (csg311 : List Value) (hrg311 : RL (rdOf (([⟨N319, encL E_i647 t316, nN319⟩] : List Own) ++ (Fa293 ++ [])) S) N_0 y320 csg311), G [true, true, true, true, true, true, true, true, true, true, true, true, true, true, true, true, true] [(0, vP B0 0), (2, vP b176 0), (3, vP b186 0), (4, vI (wr64 ((mx (wr64 (1 + t177)) (wr64 (1 + t180))) * 2 ^ (min (Int.toNat (wru64 t183)) 64)))), (5, vI x194), (6, vP b213 0), (7, vI x292)] (([⟨g311, csg311, ng311⟩, ⟨g308, [vI t313, vI t314, .slice (ad N319) t316.length (nN319 / 7), .bool t315], 4⟩, ⟨N319, encL E_i647 t316, nN319⟩, ⟨B0, [.slice a_m0_0 m0_0.length c_m0_0, vI t317], 2⟩, ⟨b213, [vI (wr64 (1 + t210)), vI x224, vI x225, vI t227, vI t236, vI x258, vI x259, vI x260, vI x284, vI x275, .slice (ad g311) y320.length (ng311 / 4)], 11⟩, ⟨b186, [vI (wr64 (1 + t177)), vI (wr64 (1 + t180)), vI t183, .slice (ad a261) y262.length (na261 / 4), .slice (ad a195) y196.length (na195 / 11)], 5⟩, ⟨b176, [vI 0, vI 0, vI 0, .slice (ad a201) y202.length (na201 / 4), .slice (ad a199) y200.length (na199 / 11)], 5⟩, ⟨a261, encL E_u84 y262, na261⟩, ⟨a195, csa195, na195⟩, ⟨a201, encL E_u84 y202, na201⟩, ⟨a199, csa199, na199⟩] : List Own) ++ (Fa195 ++ (Fa199 ++ (Fa293 ++ [])))) := by
               intro g311 ng311 g308 N319 nN319 csg311 hrg311
               refine hend _ _ _ (by kernel_rfl) ?_
               refine w_ ?_
               refine wqF mixed [Fa195, Fa199, Fa293] [] 0 .nrm [] (zQL [1] ?_)
               exact ⟨k_, Nat.lt_succ_self _, _, _, S, keep_sub [0, 2, 3, 4, 5, 6, 7] (by kernel_rfl), VS.as (([⟨g311, csg311, ng311⟩, ⟨N319, encL E_i647 t316, nN319⟩, ⟨B0, [.slice a_m0_0 m0_0.length c_m0_0, vI t317], 2⟩, ⟨b213, [vI (wr64 (1 + t210)), vI x224, vI x225, vI t227, vI t236, vI x258, vI x259, vI x260, vI x284, vI x275, .slice (ad g311) y320.length (ng311 / 4)], 11⟩, ⟨b186, [vI (wr64 (1 + t177)), vI (wr64 (1 + t180)), vI t183, .slice (ad a261) y262.length (na261 / 4), .slice (ad a195) y196.length (na195 / 11)], 5⟩, ⟨b176, [vI 0, vI 0, vI 0, .slice (ad a201) y202.length (na201 / 4), .slice (ad a199) y200.length (na199 / 11)], 5⟩, ⟨a261, encL E_u84 y262, na261⟩, ⟨a195, csa195, na195⟩, ⟨a201, encL E_u84 y202, na201⟩, ⟨a199, csa199, na199⟩] : List Own) ++ (Fa195 ++ (Fa199 ++ (Fa293 ++ [])))) (VS.treeA (.a (.l ([⟨g311, csg311, ng311⟩, ⟨N319, encL E_i647 t316, nN319⟩, ⟨B0, [.slice a_m0_0 m0_0.length c_m0_0, vI t317], 2⟩, ⟨b213, [vI (wr64 (1 + t210)), vI x224, vI x225, vI t227, vI t236, vI x258, vI x259, vI x260, vI x284, vI x275, .slice (ad g311) y320.length (ng311 / 4)], 11⟩, ⟨b186, [vI (wr64 (1 + t177)), vI (wr64 (1 + t180)), vI t183, .slice (ad a261) y262.length (na261 / 4), .slice (ad a195) y196.length (na195 / 11)], 5⟩, ⟨b176, [vI 0, vI 0, vI 0, .slice (ad a201) y202.length (na201 / 4), .slice (ad a199) y200.length (na199 / 11)], 5⟩, ⟨a261, encL E_u84 y262, na261⟩, ⟨a195, csa195, na195⟩, ⟨a201, encL E_u84 y202, na201⟩, ⟨a199, csa199, na199⟩] : List Own)) (.a (.f Fa195) (.a (.f Fa199) (.a (.f Fa293) (.l []))))) (.a (.l ([⟨g311, csg311, ng311⟩, ⟨B0, [.slice a_m0_0 m0_0.length c_m0_0, vI t317], 2⟩, ⟨b213, [vI (wr64 (1 + t210)), vI x224, vI x225, vI t227, vI t236, vI x258, vI x259, vI x260, vI x284, vI x275, .slice (ad g311) y320.length (ng311 / 4)], 11⟩, ⟨b186, [vI (wr64 (1 + t177)), vI (wr64 (1 + t180)), vI t183, .slice (ad a261) y262.length (na261 / 4), .slice (ad a195) y196.length (na195 / 11)], 5⟩, ⟨b176, [vI 0, vI 0, vI 0, .slice (ad a201) y202.length (na201 / 4), .slice (ad a199) y200.length (na199 / 11)], 5⟩, ⟨a261, encL E_u84 y262, na261⟩, ⟨a195, csa195, na195⟩, ⟨a201, encL E_u84 y202, na201⟩, ⟨a199, csa199, na199⟩] : List Own)) (.a (.f Fa195) (.a (.f Fa199) (.a (.a (.l ([⟨N319, encL E_i647 t316, nN319⟩] : List Own)) (.a (.f Fa293) (.l []))) (.l []))))) [0, 1, 1, 1, 1, 1, 1, 1, 1, 1, 1, 0, 0] (by kernel_rfl)), wr64 (x292 - 1), y320, t317, g311, ng311, csg311, (([⟨N319, encL E_i647 t316, nN319⟩] : List Own) ++ (Fa293 ++ [])), rfl, rfl, rfl, e287, RL.mono hrg311 (rd_sub seg_hd)⟩
              have hg_ffff : ∀ (g311 : Option Nat) (ng311 : Nat) (g308 : Nat) (N319 : Option Nat) (nN319 : Nat) (csg311 : List Value) (hrg311 : RL (rdOf (([⟨N319, encL E_i647 t316, nN319⟩] : List Own) ++ (Fa293 ++ [])) S) N_0 y320 csg311), G [true, true, true, true, true, true, true, true, true, true, true, true, true, true, true, true, false] [(0, vP B0 0), (2, vP b176 0), (3, vP b186 0), (4, vI (wr64 ((mx (wr64 (1 + t177)) (wr64 (1 + t180))) * 2 ^ (min (Int.toNat (wru64 t183)) 64)))), (5, vI x194), (6, vP b213 0), (7, vI x292), (131, .slice (ad g311) y320.length (ng311 / 4)), (132, vP b213 10)] (([⟨g311, csg311, ng311⟩, ⟨g308, [vI t313, vI t314, .slice (ad N319) t316.length (nN319 / 7), .bool t315], 4⟩, ⟨N319, encL E_i647 t316, nN319⟩, ⟨B0, [.slice a_m0_0 m0_0.length c_m0_0, vI t317], 2⟩, ⟨b213, [vI (wr64 (1 + t210)), vI x224, vI x225, vI t227, vI t236, vI x258, vI x259, vI x260, vI x284, vI x275, .slice (ad a293) y294.length (na293 / 4)], 11⟩, ⟨b186, [vI (wr64 (1 + t177)), vI (wr64 (1 + t180)), vI t183, .slice (ad a261) y262.length (na261 / 4), .slice (ad a195) y196.length (na195 / 11)], 5⟩, ⟨b176, [vI 0, vI 0, vI 0, .slice (ad a201) y202.length (na201 / 4), .slice (ad a199) y200.length (na199 / 11)], 5⟩, ⟨a261, encL E_u84 y262, na261⟩, ⟨a195, csa195, na195⟩, ⟨a201, encL E_u84 y202, na201⟩, ⟨a199, csa199, na199⟩] : List Own) ++ (Fa195 ++ (Fa199 ++ (Fa293 ++ [])))) := by
               intro g311 ng311 g308 N319 nN319 csg311 hrg311
               refine hstep [16] _ _ _ (by kernel_rfl) (List.cons_ne_nil _ _) ⟨?_, trivial⟩
               ·refine tT (t_sti 4 (cs := [vI (wr64 (1 + t210)), vI x224, vI x225, vI t227, vI t236, vI x258, vI x259, vI x260, vI x284, vI x275, .slice (ad g311) y320.length (ng311 / 4)]) rfl rfl rfl rfl rfl rfl rfl rfl rfl ?_)
                exact tfx (hg_1ffff g311 ng311 g308 N319 nN319 csg311 hrg311)
              have hg_3fff : ∀ (g308 : Nat) (N319 : Option Nat) (nN319 : Nat), G [true, true, true, true, true, true, true, true, true, true, true, true, true, true, false, false, false] [(0, vP B0 0), (2, vP b176 0), (3, vP b186 0), (4, vI (wr64 ((mx (wr64 (1 + t177)) (wr64 (1 + t180))) * 2 ^ (min (Int.toNat (wru64 t183)) 64)))), (5, vI x194), (6, vP b213 0), (7, vI x292), (118, .slice (ad a293) y294.length (na293 / 4)), (130, .slice (some ⟨g308, 0, none⟩) 1 1)] (([⟨g308, [vI t313, vI t314, .slice (ad N319) t316.length (nN319 / 7), .bool t315], 4⟩, ⟨N319, encL E_i647 t316, nN319⟩, ⟨B0, [.slice a_m0_0 m0_0.length c_m0_0, vI t317], 2⟩, ⟨a293, csa293, na293⟩, ⟨b213, [vI (wr64 (1 + t210)), vI x224, vI x225, vI t227, vI t236, vI x258, vI x259, vI x260, vI x284, vI x275, .slice (ad a293) y294.length (na293 / 4)], 11⟩, ⟨b186, [vI (wr64 (1 + t177)), vI (wr64 (1 + t180)), vI t183, .slice (ad a261) y262.length (na261 / 4), .slice (ad a195) y196.length (na195 / 11)], 5⟩, ⟨b176, [vI 0, vI 0, vI 0, .slice (ad a201) y202.length (na201 / 4), .slice (ad a199) y200.length (na199 / 11)], 5⟩, ⟨a261, encL E_u84 y262, na261⟩, ⟨a195, csa195, na195⟩, ⟨a201, encL E_u84 y202, na201⟩, ⟨a199, csa199, na199⟩] : List Own) ++ (Fa195 ++ (Fa199 ++ (Fa293 ++ [])))) := by
               intro g308 N319 nN319
               refine hstep [14] _ _ _ (by kernel_rfl) (List.cons_ne_nil _ _) ⟨?_, trivial⟩
               ·refine tT (t_someB 1 rfl fun hbN319_ => ?_)
                refine t_appN (R := rdOf (([⟨N319, encL E_i647 t316, nN319⟩] : List Own) ++ (Fa293 ++ [])) S) (E := N_0) (L := y294) (X := ([(t313, t314, t316, t315)] : List (Int × Int × List (Int × Int × Int × Int × Int × Int × Int) × Bool))) (cs := csa293) (ds := [vI t313, vI t314, .slice (ad N319) t316.length (nN319 / 7), .bool t315]) (F := (([⟨g308, [vI t313, vI t314, .slice (ad N319) t316.length (nN319 / 7), .bool t315], 4⟩, ⟨N319, encL E_i647 t316, nN319⟩, ⟨B0, [.slice a_m0_0 m0_0.length c_m0_0, vI t317], 2⟩, ⟨b213, [vI (wr64 (1 + t210)), vI x224, vI x225, vI t227, vI t236, vI x258, vI x259, vI x260, vI x284, vI x275, .slice (ad a293) y294.length (na293 / 4)], 11⟩, ⟨b186, [vI (wr64 (1 + t177)), vI (wr64 (1 + t180)), vI t183, .slice (ad a261) y262.length (na261 / 4), .slice (ad a195) y196.length (na195 / 11)], 5⟩, ⟨b176, [vI 0, vI 0, vI 0, .slice (ad a201) y202.length (na201 / 4), .slice (ad a199) y200.length (na199 / 11)], 5⟩, ⟨a261, encL E_u84 y262, na261⟩, ⟨a195, csa195, na195⟩, ⟨a201, encL E_u84 y202, na201⟩, ⟨a199, csa199, na199⟩] : List Own) ++ (Fa195 ++ (Fa199 ++ (Fa293 ++ []))))) rfl rfl rfl rfl (sel_perm (is := [3]) (by kernel_rfl)) (RL.mono hra293 (rd_sub (sub_app (seg_in 1 (X := (Fa293 ++ [])) rfl seg_hd) sub_nil))) (RL.one (E := N_0) ⟨_, _, rfl, SlN.own (RL.flat (E := E_i647)) hbN319_ (by decide) (fun _ hk_ => Or.inl ⟨_, mem_at 0 rfl, hk_, rfl⟩)⟩) rfl (by decide) (.at 0 rfl (by kernel_rfl)) rfl (by decide) (by decide) rfl hl321 fun g311 ng311 csg311 hrg311 => ?_
                exact t_fin0 (hqf 15 [0, 2, 3, 4, 5, 6, 7, 131, 132] _ _ _ _ (by kernel_rfl) (by kernel_rfl) (hg_ffff g311 ng311 g308 N319 nN319 csg311 hrg311))
              have hg_1fff : ∀ (N319 : Option Nat) (nN319 : Nat), G [true, true, true, true, true, true, true, true, true, true, true, true, true, false, false, false, false] [(0, vP B0 0), (2, vP b176 0), (3, vP b186 0), (4, vI (wr64 ((mx (wr64 (1 + t177)) (wr64 (1 + t180))) * 2 ^ (min (Int.toNat (wru64 t183)) 64)))), (5, vI x194), (6, vP b213 0), (7, vI x292), (118, .slice (ad a293) y294.length (na293 / 4)), (129, .agg #[vI t313, vI t314, .slice (ad N319) t316.length (nN319 / 7), .bool t315])] (([⟨N319, encL E_i647 t316, nN319⟩, ⟨B0, [.slice a_m0_0 m0_0.length c_m0_0, vI t317], 2⟩, ⟨a293, csa293, na293⟩, ⟨b213, [vI (wr64 (1 + t210)), vI x224, vI x225, vI t227, vI t236, vI x258, vI x259, vI x260, vI x284, vI x275, .slice (ad a293) y294.length (na293 / 4)], 11⟩, ⟨b186, [vI (wr64 (1 + t177)), vI (wr64 (1 + t180)), vI t183, .slice (ad a261) y262.length (na261 / 4), .slice (ad a195) y196.length (na195 / 11)], 5⟩, ⟨b176, [vI 0, vI 0, vI 0, .slice (ad a201) y202.length (na201 / 4), .slice (ad a199) y200.length (na199 / 11)], 5⟩, ⟨a261, encL E_u84 y262, na261⟩, ⟨a195, csa195, na195⟩, ⟨a201, encL E_u84 y202, na201⟩, ⟨a199, csa199, na199⟩] : List Own) ++ (Fa195 ++ (Fa199 ++ (Fa293 ++ [])))) := by
               intro N319 nN319
               refine hstep [13] _ _ _ (by kernel_rfl) (List.cons_ne_nil _ _) ⟨?_, trivial⟩
               ·refine tT (t_a (dv_bsl (cs := [vI t313, vI t314, .slice (ad N319) t316.length (nN319 / 7), .bool t315]) rfl rfl (by kernel_rfl)) fun g308 fg308 sg308 => ?_)
                exact tfx (hg_3fff g308 N319 nN319)
              have hg_fff : G [true, true, true, true, true, true, true, true, true, true, true, true, false, false, false, false, false] [(0, vP B0 0), (2, vP b176 0), (3, vP b186 0), (4, vI (wr64 ((mx (wr64 (1 + t177)) (wr64 (1 + t180))) * 2 ^ (min (Int.toNat (wru64 t183)) 64)))), (5, vI x194), (6, vP b213 0), (7, vI x292), (118, .slice (ad a293) y294.length (na293 / 4)), (119, vP B0 0), (120, vI (wr64 ((mx (wr64 (1 + t177)) (wr64 (1 + t180))) * 2 ^ (min (Int.toNat (wru64 t183)) 64)))), (128, vB false)] (([⟨a293, csa293, na293⟩, ⟨B0, [.slice a_m0_0 m0_0.length c_m0_0, vI x295], 2⟩, ⟨b213, [vI (wr64 (1 + t210)), vI x224, vI x225, vI t227, vI t236, vI x258, vI x259, vI x260, vI x284, vI x275, .slice (ad a293) y294.length (na293 / 4)], 11⟩, ⟨b186, [vI (wr64 (1 + t177)), vI (wr64 (1 + t180)), vI t183, .slice (ad a261) y262.length (na261 / 4), .slice (ad a195) y196.length (na195 / 11)], 5⟩, ⟨b176, [vI 0, vI 0, vI 0, .slice (ad a201) y202.length (na201 / 4), .slice (ad a199) y200.length (na199 / 11)], 5⟩, ⟨a261, encL E_u84 y262, na261⟩, ⟨a195, csa195, na195⟩, ⟨a201, encL E_u84 y202, na201⟩, ⟨a199, csa199, na199⟩] : List Own) ++ (Fa195 ++ (Fa199 ++ (Fa293 ++ [])))) := by
               refine hstep [12] _ _ _ (by kernel_rfl) (List.cons_ne_nil _ _) ⟨?_, trivial⟩
               ·refine tT (t_call (vs := [vP B0 0, vI (wr64 ((mx (wr64 (1 + t177)) (wr64 (1 + t180))) * 2 ^ (min (Int.toNat (wru64 t183)) 64))), vB false]) (H1 := ([⟨B0, [.slice a_m0_0 m0_0.length c_m0_0, vI x295], 2⟩] : List Own)) (F := (([⟨a293, csa293, na293⟩, ⟨b213, [vI (wr64 (1 + t210)), vI x224, vI x225, vI t227, vI t236, vI x258, vI x259, vI x260, vI x284, vI x275, .slice (ad a293) y294.length (na293 / 4)], 11⟩, ⟨b186, [vI (wr64 (1 + t177)), vI (wr64 (1 + t180)), vI t183, .slice (ad a261) y262.length (na261 / 4), .slice (ad a195) y196.length (na195 / 11)], 5⟩, ⟨b176, [vI 0, vI 0, vI 0, .slice (ad a201) y202.length (na201 / 4), .slice (ad a199) y200.length (na199 / 11)], 5⟩, ⟨a261, encL E_u84 y262, na261⟩, ⟨a195, csa195, na195⟩, ⟨a201, encL E_u84 y202, na201⟩, ⟨a199, csa199, na199⟩] : List Own) ++ (Fa195 ++ (Fa199 ++ (Fa293 ++ []))))) rfl rfl (by kernel_rfl) (sel_perm (is := [1]) (by kernel_rfl)) (glyphicmake_Path_v1.ok hE_ h_m0_0 h318) ?_)
                rintro _ _ S_ ⟨N319, nN319, rfl, rfl, hS_⟩
                obtain rfl := hS_.symm
                exact tfx (hg_1fff N319 nN319)
              have hg_ffd : G [true, false, true, true, true, true, true, true, true, true, true, true, false, false, false, false, false] [(0, vP B0 0), (2, vP b176 0), (3, vP b186 0), (4, vI (wr64 ((mx (wr64 (1 + t177)) (wr64 (1 + t180))) * 2 ^ (min (Int.toNat (wru64 t183)) 64)))), (5, vI x194), (6, vP b213 0), (7, vI x292), (117, vP b213 10), (119, vP B0 0), (120, vI (wr64 ((mx (wr64 (1 + t177)) (wr64 (1 + t180))) * 2 ^ (min (Int.toNat (wru64 t183)) 64)))), (128, vB false)] (([⟨a293, csa293, na293⟩, ⟨B0, [.slice a_m0_0 m0_0.length c_m0_0, vI x295], 2⟩, ⟨b213, [vI (wr64 (1 + t210)), vI x224, vI x225, vI t227, vI t236, vI x258, vI x259, vI x260, vI x284, vI x275, .slice (ad a293) y294.length (na293 / 4)], 11⟩, ⟨b186, [vI (wr64 (1 + t177)), vI (wr64 (1 + t180)), vI t183, .slice (ad a261) y262.length (na261 / 4), .slice (ad a195) y196.length (na195 / 11)], 5⟩, ⟨b176, [vI 0, vI 0, vI 0, .slice (ad a201) y202.length (na201 / 4), .slice (ad a199) y200.length (na199 / 11)], 5⟩, ⟨a261, encL E_u84 y262, na261⟩, ⟨a195, csa195, na195⟩, ⟨a201, encL E_u84 y202, na201⟩, ⟨a199, csa199, na199⟩] : List Own) ++ (Fa195 ++ (Fa199 ++ (Fa293 ++ [])))) := by
               refine hstep [1, 12] _ _ _ (by kernel_rfl) (List.cons_ne_nil _ _) ⟨?_, ?_, trivial⟩
               ·refine tT (t_v (.ld1 rfl rfl rfl (.at 2 rfl rfl)) ?_)
                exact tfx hg_fff
               ·refine tT (t_call (vs := [vP B0 0, vI (wr64 ((mx (wr64 (1 + t177)) (wr64 (1 + t180))) * 2 ^ (min (Int.toNat (wru64 t183)) 64))), vB false]) (H1 := ([⟨B0, [.slice a_m0_0 m0_0.length c_m0_0, vI x295], 2⟩] : List Own)) (F := (([⟨a293, csa293, na293⟩, ⟨b213, [vI (wr64 (1 + t210)), vI x224, vI x225, vI t227, vI t236, vI x258, vI x259, vI x260, vI x284, vI x275, .slice (ad a293) y294.length (na293 / 4)], 11⟩, ⟨b186, [vI (wr64 (1 + t177)), vI (wr64 (1 + t180)), vI t183, .slice (ad a261) y262.length (na261 / 4), .slice (ad a195) y196.length (na195 / 11)], 5⟩, ⟨b176, [vI 0, vI 0, vI 0, .slice (ad a201) y202.length (na201 / 4), .slice (ad a199) y200.length (na199 / 11)], 5⟩, ⟨a261, encL E_u84 y262, na261⟩, ⟨a195, csa195, na195⟩, ⟨a201, encL E_u84 y202, na201⟩, ⟨a199, csa199, na199⟩] : List Own) ++ (Fa195 ++ (Fa199 ++ (Fa293 ++ []))))) rfl rfl (by kernel_rfl) (sel_perm (is := [1]) (by kernel_rfl)) (glyphicmake_Path_v1.ok hE_ h_m0_0 h318) ?_)
                rintro _ _ S_ ⟨N319, nN319, rfl, rfl, hS_⟩
                obtain rfl := hS_.symm
                refine tf [(0, vP B0 0), (2, vP b176 0), (3, vP b186 0), (4, vI (wr64 ((mx (wr64 (1 + t177)) (wr64 (1 + t180))) * 2 ^ (min (Int.toNat (wru64 t183)) 64)))), (5, vI x194), (6, vP b213 0), (7, vI x292), (117, vP b213 10), (129, .agg #[vI t313, vI t314, .slice (ad N319) t316.length (nN319 / 7), .bool t315])] ?_
                refine hstep [1, 13] _ _ _ (by kernel_rfl) (List.cons_ne_nil _ _) ⟨?_, ?_, trivial⟩
                ·refine tT (t_v (.ld1 rfl rfl rfl (.at 3 rfl rfl)) ?_)
                 exact tfx (hg_1fff N319 nN319)
                ·refine tT (t_a (dv_bsl (cs := [vI t313, vI t314, .slice (ad N319) t316.length (nN319 / 7), .bool t315]) rfl rfl (by kernel_rfl)) fun g308 fg308 sg308 => tf [(0, vP B0 0), (2, vP b176 0), (3, vP b186 0), (4, vI (wr64 ((mx (wr64 (1 + t177)) (wr64 (1 + t180))) * 2 ^ (min (Int.toNat (wru64 t183)) 64)))), (5, vI x194), (6, vP b213 0), (7, vI x292), (117, vP b213 10), (130, .slice (some ⟨g308, 0, none⟩) 1 1)] ?_)
                 refine hstep [1] _ _ _ (by kernel_rfl) (List.cons_ne_nil _ _) ⟨?_, trivial⟩
                 ·refine tT (t_v (.ld1 rfl rfl rfl (.at 4 rfl rfl)) ?_)
                  exact tfx (hg_3fff g308 N319 nN319)
              have hg_3f : G [true, true, true, true, true, true, false, false, false, false, false, false, false, false, false, false, false] [(0, vP B0 0), (2, vP b176 0), (3, vP b186 0), (4, vI (wr64 ((mx (wr64 (1 + t177)) (wr64 (1 + t180))) * 2 ^ (min (Int.toNat (wru64 t183)) 64)))), (5, vI x194), (6, vP b213 0), (7, vI x292), (118, .slice (ad a293) y294.length (na293 / 4)), (119, vP B0 0), (120, vI (wr64 ((mx (wr64 (1 + t177)) (wr64 (1 + t180))) * 2 ^ (min (Int.toNat (wru64 t183)) 64)))), (122, vI (wr64 (1 + t210)))] (([⟨a293, csa293, na293⟩, ⟨B0, [.slice a_m0_0 m0_0.length c_m0_0, vI x295], 2⟩, ⟨b213, [vI (wr64 (1 + t210)), vI x224, vI x225, vI t227, vI t236, vI x258, vI x259, vI x260, vI x284, vI x275, .slice (ad a293) y294.length (na293 / 4)], 11⟩, ⟨b186, [vI (wr64 (1 + t177)), vI (wr64 (1 + t180)), vI t183, .slice (ad a261) y262.length (na261 / 4), .slice (ad a195) y196.length (na195 / 11)], 5⟩, ⟨b176, [vI 0, vI 0, vI 0, .slice (ad a201) y202.length (na201 / 4), .slice (ad a199) y200.length (na199 / 11)], 5⟩, ⟨a261, encL E_u84 y262, na261⟩, ⟨a195, csa195, na195⟩, ⟨a201, encL E_u84 y202, na201⟩, ⟨a199, csa199, na199⟩] : List Own) ++ (Fa195 ++ (Fa199 ++ (Fa293 ++ [])))) := by
               refine hstep [6] _ _ _ (by kernel_rfl) (List.cons_ne_nil _ _) ⟨?_, trivial⟩
               ·refine tT (t_v (dvb c297b) ?_)
                exact t_fin0 (hqf 7 [0, 2, 3, 4, 5, 6, 7, 118, 119, 120, 124] _ _ _ _ (by kernel_rfl) (by kernel_rfl) (hqf 8 [0, 2, 3, 4, 5, 6, 7, 118, 119, 120, 124, 125] _ [(0, vP B0 0), (2, vP b176 0), (3, vP b186 0), (4, vI (wr64 ((mx (wr64 (1 + t177)) (wr64 (1 + t180))) * 2 ^ (min (Int.toNat (wru64 t183)) 64)))), (5, vI x194), (6, vP b213 0), (7, vI x292), (118, .slice (ad a293) y294.length (na293 / 4)), (119, vP B0 0), (120, vI (wr64 ((mx (wr64 (1 + t177)) (wr64 (1 + t180))) * 2 ^ (min (Int.toNat (wru64 t183)) 64)))), (124, vB false)] _ _ (by kernel_rfl) (by kernel_rfl) (hqf 9 [0, 2, 3, 4, 5, 6, 7, 118, 119, 120, 124, 126] _ [(0, vP B0 0), (2, vP b176 0), (3, vP b186 0), (4, vI (wr64 ((mx (wr64 (1 + t177)) (wr64 (1 + t180))) * 2 ^ (min (Int.toNat (wru64 t183)) 64)))), (5, vI x194), (6, vP b213 0), (7, vI x292), (118, .slice (ad a293) y294.length (na293 / 4)), (119, vP B0 0), (120, vI (wr64 ((mx (wr64 (1 + t177)) (wr64 (1 + t180))) * 2 ^ (min (Int.toNat (wru64 t183)) 64)))), (124, vB false), (125, .tuple #[])] _ _ (by kernel_rfl) (by kernel_rfl) (hqf 10 [0, 2, 3, 4, 5, 6, 7, 118, 119, 120, 124, 127] _ [(0, vP B0 0), (2, vP b176 0), (3, vP b186 0), (4, vI (wr64 ((mx (wr64 (1 + t177)) (wr64 (1 + t180))) * 2 ^ (min (Int.toNat (wru64 t183)) 64)))), (5, vI x194), (6, vP b213 0), (7, vI x292), (118, .slice (ad a293) y294.length (na293 / 4)), (119, vP B0 0), (120, vI (wr64 ((mx (wr64 (1 + t177)) (wr64 (1 + t180))) * 2 ^ (min (Int.toNat (wru64 t183)) 64)))), (124, vB false), (126, .tuple #[])] _ _ (by kernel_rfl) (by kernel_rfl) (hqf 11 [0, 2, 3, 4, 5, 6, 7, 118, 119, 120, 128] _ [(0, vP B0 0), (2, vP b176 0), (3, vP b186 0), (4, vI (wr64 ((mx (wr64 (1 + t177)) (wr64 (1 + t180))) * 2 ^ (min (Int.toNat (wru64 t183)) 64)))), (5, vI x194), (6, vP b213 0), (7, vI x292), (118, .slice (ad a293) y294.length (na293 / 4)), (119, vP B0 0), (120, vI (wr64 ((mx (wr64 (1 + t177)) (wr64 (1 + t180))) * 2 ^ (min (Int.toNat (wru64 t183)) 64)))), (124, vB false), (127, .tuple #[])] _ _ (by kernel_rfl) (by kernel_rfl) hg_fff)))))
              have hg_1d : G [true, false, true, true, true, false, false, false, false, false, false, false, false, false, false, false, false] [(0, vP B0 0), (2, vP b176 0), (3, vP b186 0), (4, vI (wr64 ((mx (wr64 (1 + t177)) (wr64 (1 + t180))) * 2 ^ (min (Int.toNat (wru64 t183)) 64)))), (5, vI x194), (6, vP b213 0), (7, vI x292), (117, vP b213 10), (119, vP B0 0), (120, vI (wr64 ((mx (wr64 (1 + t177)) (wr64 (1 + t180))) * 2 ^ (min (Int.toNat (wru64 t183)) 64)))), (121, vP b213 0)] (([⟨a293, csa293, na293⟩, ⟨B0, [.slice a_m0_0 m0_0.length c_m0_0, vI x295], 2⟩, ⟨b213, [vI (wr64 (1 + t210)), vI x224, vI x225, vI t227, vI t236, vI x258, vI x259, vI x260, vI x284, vI x275, .slice (ad a293) y294.length (na293 / 4)], 11⟩, ⟨b186, [vI (wr64 (1 + t177)), vI (wr64 (1 + t180)), vI t183, .slice (ad a261) y262.length (na261 / 4), .slice (ad a195) y196.length (na195 / 11)], 5⟩, ⟨b176, [vI 0, vI 0, vI 0, .slice (ad a201) y202.length (na201 / 4), .slice (ad a199) y200.length (na199 / 11)], 5⟩, ⟨a261, encL E_u84 y262, na261⟩, ⟨a195, csa195, na195⟩, ⟨a201, encL E_u84 y202, na201⟩, ⟨a199, csa199, na199⟩] : List Own) ++ (Fa195 ++ (Fa199 ++ (Fa293 ++ [])))) := by
               refine hstep [1, 5] _ _ _ (by kernel_rfl) (List.cons_ne_nil _ _) ⟨?_, ?_, trivial⟩
               ·refine tT (t_v (.ld1 rfl rfl rfl (.at 2 rfl rfl)) (tf [(0, vP B0 0), (2, vP b176 0), (3, vP b186 0), (4, vI (wr64 ((mx (wr64 (1 + t177)) (wr64 (1 + t180))) * 2 ^ (min (Int.toNat (wru64 t183)) 64)))), (5, vI x194), (6, vP b213 0), (7, vI x292), (118, .slice (ad a293) y294.length (na293 / 4)), (119, vP B0 0), (120, vI (wr64 ((mx (wr64 (1 + t177)) (wr64 (1 + t180))) * 2 ^ (min (Int.toNat (wru64 t183)) 64)))), (121, vP b213 0)] ?_))
                refine hstep [5] _ _ _ (by kernel_rfl) (List.cons_ne_nil _ _) ⟨?_, trivial⟩
                ·refine tT (t_v (.ld1 rfl rfl rfl (.at 2 rfl rfl)) ?_)
                 exact tfx hg_3f
               ·refine tT (t_v (.ld1 rfl rfl rfl (.at 2 rfl rfl)) (tf [(0, vP B0 0), (2, vP b176 0), (3, vP b186 0), (4, vI (wr64 ((mx (wr64 (1 + t177)) (wr64 (1 + t180))) * 2 ^ (min (Int.toNat (wru64 t183)) 64)))), (5, vI x194), (6, vP b213 0), (7, vI x292), (117, vP b213 10), (119, vP B0 0), (120, vI (wr64 ((mx (wr64 (1 + t177)) (wr64 (1 + t180))) * 2 ^ (min (Int.toNat (wru64 t183)) 64)))), (122, vI (wr64 (1 + t210)))] ?_))
                refine hstep [1, 6] _ _ _ (by kernel_rfl) (List.cons_ne_nil _ _) ⟨?_, ?_, trivial⟩
                ·refine tT (t_v (.ld1 rfl rfl rfl (.at 2 rfl rfl)) ?_)
                 exact tfx hg_3f
                ·refine tT (t_v (dvb c297b) ?_)
                 exact t_fin0 (hqf 7 [0, 2, 3, 4, 5, 6, 7, 117, 119, 120, 124] _ _ _ _ (by kernel_rfl) (by kernel_rfl) (hqf 8 [0, 2, 3, 4, 5, 6, 7, 117, 119, 120, 124, 125] _ [(0, vP B0 0), (2, vP b176 0), (3, vP b186 0), (4, vI (wr64 ((mx (wr64 (1 + t177)) (wr64 (1 + t180))) * 2 ^ (min (Int.toNat (wru64 t183)) 64)))), (5, vI x194), (6, vP b213 0), (7, vI x292), (117, vP b213 10), (119, vP B0 0), (120, vI (wr64 ((mx (wr64 (1 + t177)) (wr64 (1 + t180))) * 2 ^ (min (Int.toNat (wru64 t183)) 64)))), (124, vB false)] _ _ (by kernel_rfl) (by kernel_rfl) (hqf 9 [0, 2, 3, 4, 5, 6, 7, 117, 119, 120, 124, 126] _ [(0, vP B0 0), (2, vP b176 0), (3, vP b186 0), (4, vI (wr64 ((mx (wr64 (1 + t177)) (wr64 (1 + t180))) * 2 ^ (min (Int.toNat (wru64 t183)) 64)))), (5, vI x194), (6, vP b213 0), (7, vI x292), (117, vP b213 10), (119, vP B0 0), (120, vI (wr64 ((mx (wr64 (1 + t177)) (wr64 (1 + t180))) * 2 ^ (min (Int.toNat (wru64 t183)) 64)))), (124, vB false), (125, .tuple #[])] _ _ (by kernel_rfl) (by kernel_rfl) (hqf 10 [0, 2, 3, 4, 5, 6, 7, 117, 119, 120, 124, 127] _ [(0, vP B0 0), (2, vP b176 0), (3, vP b186 0), (4, vI (wr64 ((mx (wr64 (1 + t177)) (wr64 (1 + t180))) * 2 ^ (min (Int.toNat (wru64 t183)) 64)))), (5, vI x194), (6, vP b213 0), (7, vI x292), (117, vP b213 10), (119, vP B0 0), (120, vI (wr64 ((mx (wr64 (1 + t177)) (wr64 (1 + t180))) * 2 ^ (min (Int.toNat (wru64 t183)) 64)))), (124, vB false), (126, .tuple #[])] _ _ (by kernel_rfl) (by kernel_rfl) (hqf 11 [0, 2, 3, 4, 5, 6, 7, 117, 119, 120, 128] _ [(0, vP B0 0), (2, vP b176 0), (3, vP b186 0), (4, vI (wr64 ((mx (wr64 (1 + t177)) (wr64 (1 + t180))) * 2 ^ (min (Int.toNat (wru64 t183)) 64)))), (5, vI x194), (6, vP b213 0), (7, vI x292), (117, vP b213 10), (119, vP B0 0), (120, vI (wr64 ((mx (wr64 (1 + t177)) (wr64 (1 + t180))) * 2 ^ (min (Int.toNat (wru64 t183)) 64)))), (124, vB false), (127, .tuple #[])] _ _ (by kernel_rfl) (by kernel_rfl) hg_ffd)))))
              have hg_0 : G [false, false, false, false, false, false, false, false, false, false, false, false, false, false, false, false, false] [(0, vP B0 0), (2, vP b176 0), (3, vP b186 0), (4, vI (wr64 ((mx (wr64 (1 + t177)) (wr64 (1 + t180))) * 2 ^ (min (Int.toNat (wru64 t183)) 64)))), (5, vI x194), (6, vP b213 0), (7, vI x292)] (([⟨a293, csa293, na293⟩, ⟨B0, [.slice a_m0_0 m0_0.length c_m0_0, vI x295], 2⟩, ⟨b213, [vI (wr64 (1 + t210)), vI x224, vI x225, vI t227, vI t236, vI x258, vI x259, vI x260, vI x284, vI x275, .slice (ad a293) y294.length (na293 / 4)], 11⟩, ⟨b186, [vI (wr64 (1 + t177)), vI (wr64 (1 + t180)), vI t183, .slice (ad a261) y262.length (na261 / 4), .slice (ad a195) y196.length (na195 / 11)], 5⟩, ⟨b176, [vI 0, vI 0, vI 0, .slice (ad a201) y202.length (na201 / 4), .slice (ad a199) y200.length (na199 / 11)], 5⟩, ⟨a261, encL E_u84 y262, na261⟩, ⟨a195, csa195, na195⟩, ⟨a201, encL E_u84 y202, na201⟩, ⟨a199, csa199, na199⟩] : List Own) ++ (Fa195 ++ (Fa199 ++ (Fa293 ++ [])))) := by
               exact hqf 0 [0, 2, 3, 4, 5, 6, 7, 117] _ _ _ _ (by kernel_rfl) (by kernel_rfl) (hqf 2 [0, 2, 3, 4, 5, 6, 7, 117, 119] _ [(0, vP B0 0), (2, vP b176 0), (3, vP b186 0), (4, vI (wr64 ((mx (wr64 (1 + t177)) (wr64 (1 + t180))) * 2 ^ (min (Int.toNat (wru64 t183)) 64)))), (5, vI x194), (6, vP b213 0), (7, vI x292), (117, vP b213 10)] _ _ (by kernel_rfl) (by kernel_rfl) (hqf 3 [0, 2, 3, 4, 5, 6, 7, 117, 119, 120] _ [(0, vP B0 0), (2, vP b176 0), (3, vP b186 0), (4, vI (wr64 ((mx (wr64 (1 + t177)) (wr64 (1 + t180))) * 2 ^ (min (Int.toNat (wru64 t183)) 64)))), (5, vI x194), (6, vP b213 0), (7, vI x292), (117, vP b213 10), (119, vP B0 0)] _ _ (by kernel_rfl) (by kernel_rfl) (hqf 4 [0, 2, 3, 4, 5, 6, 7, 117, 119, 120, 121] _ [(0, vP B0 0), (2, vP b176 0), (3, vP b186 0), (4, vI (wr64 ((mx (wr64 (1 + t177)) (wr64 (1 + t180))) * 2 ^ (min (Int.toNat (wru64 t183)) 64)))), (5, vI x194), (6, vP b213 0), (7, vI x292), (117, vP b213 10), (119, vP B0 0), (120, vI (wr64 ((mx (wr64 (1 + t177)) (wr64 (1 + t180))) * 2 ^ (min (Int.toNat (wru64 t183)) 64))))] _ _ (by kernel_rfl) (by kernel_rfl) hg_1d)))
              exact hg_0
            ·rw [if_neg c296] at e287
             have c296b : (decide (x292 ≥ 0)) = false := decide_eq_false c296
             refine wqF mixed [Fa195, Fa199, Fa293] [] 0 (.ex 2) [(1, spQ (.bin .geq 113 (.const (vI 0))) [vI x292, vI 0] (congrArg (fun t => some (Value.bool t)) c296b))] (zQL [] ?_)
             simp only [Option.some.injEq, Prod.mk.injEq] at e287
             obtain ⟨rfl, rfl⟩ := e287
             exact ⟨_, S, VS.as (([⟨a293, csa293, na293⟩, ⟨B0, [.slice a_m0_0 m0_0.length c_m0_0, vI x295], 2⟩, ⟨b213, [vI (wr64 (1 + t210)), vI x224, vI x225, vI t227, vI t236, vI x258, vI x259, vI x260, vI x284, vI x275, .slice (ad a293) y294.length (na293 / 4)], 11⟩, ⟨b186, [vI (wr64 (1 + t177)), vI (wr64 (1 + t180)), vI t183, .slice (ad a261) y262.length (na261 / 4), .slice (ad a195) y196.length (na195 / 11)], 5⟩, ⟨b176, [vI 0, vI 0, vI 0, .slice (ad a201) y202.length (na201 / 4), .slice (ad a199) y200.length (na199 / 11)], 5⟩, ⟨a261, encL E_u84 y262, na261⟩, ⟨a195, csa195, na195⟩, ⟨a201, encL E_u84 y202, na201⟩, ⟨a199, csa199, na199⟩] : List Own) ++ (Fa195 ++ (Fa199 ++ (Fa293 ++ [])))) (VS.treeA (.a (.l ([⟨a293, csa293, na293⟩, ⟨B0, [.slice a_m0_0 m0_0.length c_m0_0, vI x295], 2⟩, ⟨b213, [vI (wr64 (1 + t210)), vI x224, vI x225, vI t227, vI t236, vI x258, vI x259, vI x260, vI x284, vI x275, .slice (ad a293) y294.length (na293 / 4)], 11⟩, ⟨b186, [vI (wr64 (1 + t177)), vI (wr64 (1 + t180)), vI t183, .slice (ad a261) y262.length (na261 / 4), .slice (ad a195) y196.length (na195 / 11)], 5⟩, ⟨b176, [vI 0, vI 0, vI 0, .slice (ad a201) y202.length (na201 / 4), .slice (ad a199) y200.length (na199 / 11)], 5⟩, ⟨a261, encL E_u84 y262, na261⟩, ⟨a195, csa195, na195⟩, ⟨a201, encL E_u84 y202, na201⟩, ⟨a199, csa199, na199⟩] : List Own)) (.a (.f Fa195) (.a (.f Fa199) (.a (.f Fa293) (.l []))))) (.a (.l ([⟨b213, [vI (wr64 (1 + t210)), vI x224, vI x225, vI t227, vI t236, vI x258, vI x259, vI x260, vI x284, vI x275, .slice (ad a293) y294.length (na293 / 4)], 11⟩, ⟨b186, [vI (wr64 (1 + t177)), vI (wr64 (1 + t180)), vI t183, .slice (ad a261) y262.length (na261 / 4), .slice (ad a195) y196.length (na195 / 11)], 5⟩, ⟨B0, [.slice a_m0_0 m0_0.length c_m0_0, vI x295], 2⟩, ⟨b176, [vI 0, vI 0, vI 0, .slice (ad a201) y202.length (na201 / 4), .slice (ad a199) y200.length (na199 / 11)], 5⟩, ⟨a293, csa293, na293⟩, ⟨a261, encL E_u84 y262, na261⟩, ⟨a195, csa195, na195⟩, ⟨a201, encL E_u84 y202, na201⟩, ⟨a199, csa199, na199⟩] : List Own)) (.a (.f Fa195) (.a (.f Fa199) (.a (.a (.f Fa293) (.l [])) (.l []))))) [2, 2, 1, 1, 0, 0, 0, 0, 0, 0, 0, 0] (by kernel_rfl)), a293, na293, csa293, (Fa293 ++ []), by kernel_rfl, rfl, rfl, RL.mono hra293 (rd_sub seg_hd)⟩
          ·rintro σ_ H_ S_ ⟨a324, na324, csa324, Fa324, rfl, rfl, rfl, hra324⟩
           refine w_reg fun all => t_someB 4 (a := a324) (cs := csa324) (M := na324) (by kernel_rfl) fun hba324_ => ?_
           refine txF [Fa195, Fa199, Fa324] 4 [1, 0] 1 [] fun b327 => zTL [0] ?_
           refine t_someB 4 (a := a324) (cs := csa324) (M := na324) (by kernel_rfl) fun hba324_ => ?_
           obtain ⟨y328, hl329, e208⟩ := bind_of e208
           refine txM 3 [6, 0, 1] 0 [(0, spN 54 11 104 [(vI 0), (vI 0), (vI 0), (vI 0), (vI 0), (vI 0), (vI 0), (vI 0), (vI 0), (vI 0), (.slice none 0 0)] 134 136 (Rd_ := rdOf (([⟨a324, csa324, na324⟩] : List Own) ++ (Fa195 ++ (Fa324 ++ []))) S) (E := N_1) (L := y196) (X := ([(wr64 (1 + t210), x224, x225, t227, t236, x258, x259, x260, x284, x275, y325)] : List (Int × Int × Int × Int × Int × Int × Int × Int × Int × Int × List (Int × Int × List (Int × Int × Int × Int × Int × Int × Int) × Bool)))) (cs := csa195) (ds := [vI (wr64 (1 + t210)), vI x224, vI x225, vI t227, vI t236, vI x258, vI x259, vI x260, vI x284, vI x275, .slice (ad a324) y325.length (na324 / 4)]) a195 na195 b327 0 1 1 [[⟨b327, [vI (wr64 (1 + t210)), vI x224, vI x225, vI t227, vI t236, vI x258, vI x259, vI x260, vI x284, vI x275, .slice (ad a324) y325.length (na324 / 4)], 11⟩]] (RL.mono hra195 (rd_sub (sub_app (seg_in 1 (X := (Fa195 ++ (Fa324 ++ []))) rfl seg_hd) sub_nil))) (RL.one (E := N_1) ⟨_, _, rfl, SlN.own (RL.mono hra324 (rd_sub (sub_app (seg_in 1 (X := (Fa195 ++ (Fa324 ++ []))) rfl (seg_tl seg_hd)) sub_nil))) hba324_ (by decide) (fun _ hk_ => Or.inl ⟨_, mem_at 0 rfl, hk_, rfl⟩)⟩) (fun _ => .at 1 rfl (by kernel_rfl)) hl329)] fun a330 na330 csa330 => zTL [0] (fun hra330 => ?_)
           refine t_end ?_
           simp only [Option.some.injEq, Prod.mk.injEq] at e208
           obtain ⟨rfl, rfl, rfl⟩ := e208
           exact ⟨_, S, VS.as (([⟨b186, [vI (wr64 (1 + t177)), vI (wr64 (1 + t180)), vI t183, .slice (ad a261) y262.length (na261 / 4), .slice (ad a330) y328.length (na330 / 11)], 5⟩, ⟨a330, csa330, na330⟩, ⟨B0, [.slice a_m0_0 m0_0.length c_m0_0, vI x326], 2⟩, ⟨b176, [vI 0, vI 0, vI 0, .slice (ad a201) y202.length (na201 / 4), .slice (ad a199) y200.length (na199 / 11)], 5⟩, ⟨a324, csa324, na324⟩, ⟨a261, encL E_u84 y262, na261⟩, ⟨a201, encL E_u84 y202, na201⟩, ⟨a199, csa199, na199⟩] : List Own) ++ (Fa195 ++ (Fa199 ++ (Fa324 ++ [])))) (VS.treeA (.a (.l ([⟨b186, [vI (wr64 (1 + t177)), vI (wr64 (1 + t180)), vI t183, .slice (ad a261) y262.length (na261 / 4), .slice (ad a330) y328.length (na330 / 11)], 5⟩, ⟨a330, csa330, na330⟩, ⟨B0, [.slice a_m0_0 m0_0.length c_m0_0, vI x326], 2⟩, ⟨b176, [vI 0, vI 0, vI 0, .slice (ad a201) y202.length (na201 / 4), .slice (ad a199) y200.length (na199 / 11)], 5⟩, ⟨a324, csa324, na324⟩, ⟨a261, encL E_u84 y262, na261⟩, ⟨a201, encL E_u84 y202, na201⟩, ⟨a199, csa199, na199⟩] : List Own)) (.a (.f Fa195) (.a (.f Fa199) (.a (.f Fa324) (.l []))))) (.a (.l ([⟨B0, [.slice a_m0_0 m0_0.length c_m0_0, vI x326], 2⟩, ⟨b186, [vI (wr64 (1 + t177)), vI (wr64 (1 + t180)), vI t183, .slice (ad a261) y262.length (na261 / 4), .slice (ad a330) y328.length (na330 / 11)], 5⟩, ⟨b176, [vI 0, vI 0, vI 0, .slice (ad a201) y202.length (na201 / 4), .slice (ad a199) y200.length (na199 / 11)], 5⟩, ⟨a261, encL E_u84 y262, na261⟩, ⟨a330, csa330, na330⟩, ⟨a201, encL E_u84 y202, na201⟩, ⟨a199, csa199, na199⟩] : List Own)) (.a (.f Fa199) (.a (.a (.l ([⟨a324, csa324, na324⟩] : List Own)) (.a (.f Fa195) (.a (.f Fa324) (.l [])))) (.l [])))) [2, 0, 1, 2, 0, 1, 1, 2, 0, 0, 0] (by kernel_rfl)), a261, na261, a330, na330, csa330, (([⟨a324, csa324, na324⟩] : List Own) ++ (Fa195 ++ (Fa324 ++ []))), by kernel_rfl, rfl, rfl, RL.mono hra330 (rd_sub seg_hd)⟩
     ·rintro σ_ H_ S_ ⟨a332, na332, a334, na334, csa334, Fa334, rfl, rfl, rfl, hra334⟩
      refine wqF mixed [Fa199, Fa334] [] 0 .nrm [] (zQL [] ?_)
      exact ⟨k_, Nat.lt_succ_self _, _, _, S, keep_sub [0, 2, 3, 4, 5] (by kernel_rfl), VS.as (([⟨B0, [.slice a_m0_0 m0_0.length c_m0_0, vI x331], 2⟩, ⟨b186, [vI (wr64 (1 + t177)), vI (wr64 (1 + t180)), vI t183, .slice (ad a332) y333.length (na332 / 4), .slice (ad a334) y335.length (na334 / 11)], 5⟩, ⟨b176, [vI 0, vI 0, vI 0, .slice (ad a201) y202.length (na201 / 4), .slice (ad a199) y200.length (na199 / 11)], 5⟩, ⟨a332, encL E_u84 y333, na332⟩, ⟨a334, csa334, na334⟩, ⟨a201, encL E_u84 y202, na201⟩, ⟨a199, csa199, na199⟩] : List Own) ++ (Fa199 ++ (Fa334 ++ []))) (VS.treeA (.a (.l ([⟨B0, [.slice a_m0_0 m0_0.length c_m0_0, vI x331], 2⟩, ⟨b186, [vI (wr64 (1 + t177)), vI (wr64 (1 + t180)), vI t183, .slice (ad a332) y333.length (na332 / 4), .slice (ad a334) y335.length (na334 / 11)], 5⟩, ⟨b176, [vI 0, vI 0, vI 0, .slice (ad a201) y202.length (na201 / 4), .slice (ad a199) y200.length (na199 / 11)], 5⟩, ⟨a332, encL E_u84 y333, na332⟩, ⟨a334, csa334, na334⟩, ⟨a201, encL E_u84 y202, na201⟩, ⟨a199, csa199, na199⟩] : List Own)) (.a (.f Fa199) (.a (.f Fa334) (.l [])))) (.a (.l ([⟨a334, csa334, na334⟩, ⟨a332, encL E_u84 y333, na332⟩, ⟨a199, csa199, na199⟩, ⟨a201, encL E_u84 y202, na201⟩, ⟨B0, [.slice a_m0_0 m0_0.length c_m0_0, vI x331], 2⟩, ⟨b186, [vI (wr64 (1 + t177)), vI (wr64 (1 + t180)), vI t183, .slice (ad a332) y333.length (na332 / 4), .slice (ad a334) y335.length (na334 / 11)], 5⟩, ⟨b176, [vI 0, vI 0, vI 0, .slice (ad a201) y202.length (na201 / 4), .slice (ad a199) y200.length (na199 / 11)], 5⟩] : List Own)) (.a (.a (.f Fa334) (.l [])) (.a (.a (.f Fa199) (.l [])) (.l [])))) [4, 3, 4, 3, 0, 0, 0, 1, 0] (by kernel_rfl)), wr64 (x194 - 1), y335, y333, y200, y202, x331, a334, na334, csa334, (Fa334 ++ []), a332, na332, a199, na199, csa199, (Fa199 ++ []), a201, na201, rfl, rfl, rfl, e189, RL.mono hra334 (rd_sub seg_hd), RL.mono hra199 (rd_sub seg_hd)⟩
    | false =>
     rw [if_neg (by decide)] at e189
     refine wqF mixed [Fa195, Fa199] [4] 0 (.ex 0) [(1, spQ (.bin .geq 28 (.const (vI 0))) [vI x194, vI 0] (congrArg (fun t => some (Value.bool t)) c204b)), (4, spR 22 [31] [[⟨B0, [.slice a_m0_0 m0_0.length c_m0_0, vI x203], 2⟩]] (vs := [vP B0 0]) (glyphicmake_Seq_more_v1.ok hE_ h_m0_0 h206) rfl)] (zQL [] ?_)
     simp only [Option.some.injEq, Prod.mk.injEq] at e189
     obtain ⟨rfl, rfl, rfl, rfl, rfl⟩ := e189
     exact ⟨_, S, VS.as (([⟨a195, csa195, na195⟩, ⟨a197, encL E_u84 y198, na197⟩, ⟨a199, csa199, na199⟩, ⟨a201, encL E_u84 y202, na201⟩, ⟨B0, [.slice a_m0_0 m0_0.length c_m0_0, vI x203], 2⟩, ⟨b186, [vI (wr64 (1 + t177)), vI (wr64 (1 + t180)), vI t183, .slice (ad a197) y198.length (na197 / 4), .slice (ad a195) y196.length (na195 / 11)], 5⟩, ⟨b176, [vI 0, vI 0, vI 0, .slice (ad a201) y202.length (na201 / 4), .slice (ad a199) y200.length (na199 / 11)], 5⟩] : List Own) ++ (Fa195 ++ (Fa199 ++ []))) (VS.treeA (.a (.l ([⟨a195, csa195, na195⟩, ⟨a197, encL E_u84 y198, na197⟩, ⟨a199, csa199, na199⟩, ⟨a201, encL E_u84 y202, na201⟩, ⟨B0, [.slice a_m0_0 m0_0.length c_m0_0, vI x203], 2⟩, ⟨b186, [vI (wr64 (1 + t177)), vI (wr64 (1 + t180)), vI t183, .slice (ad a197) y198.length (na197 / 4), .slice (ad a195) y196.length (na195 / 11)], 5⟩, ⟨b176, [vI 0, vI 0, vI 0, .slice (ad a201) y202.length (na201 / 4), .slice (ad a199) y200.length (na199 / 11)], 5⟩] : List Own)) (.a (.f Fa195) (.a (.f Fa199) (.l [])))) (.a (.l ([⟨b186, [vI (wr64 (1 + t177)), vI (wr64 (1 + t180)), vI t183, .slice (ad a197) y198.length (na197 / 4), .slice (ad a195) y196.length (na195 / 11)], 5⟩, ⟨B0, [.slice a_m0_0 m0_0.length c_m0_0, vI x203], 2⟩, ⟨b176, [vI 0, vI 0, vI 0, .slice (ad a201) y202.length (na201 / 4), .slice (ad a199) y200.length (na199 / 11)], 5⟩, ⟨a197, encL E_u84 y198, na197⟩, ⟨a195, csa195, na195⟩, ⟨a201, encL E_u84 y202, na201⟩, ⟨a199, csa199, na199⟩] : List Own)) (.a (.a (.f Fa195) (.l [])) (.a (.a (.f Fa199) (.l [])) (.l [])))) [5, 4, 4, 1, 0, 1, 0, 0, 0] (by kernel_rfl)), a197, na197, a195, na195, csa195, (Fa195 ++ []), a201, na201, a199, na199, csa199, (Fa199 ++ []), by kernel_rfl, rfl, rfl, RL.mono hra195 (rd_sub seg_hd), RL.mono hra199 (rd_sub seg_hd)⟩
   ·rw [if_neg c204] at e189
    have c204b : (decide (x194 ≥ 0)) = false := decide_eq_false c204
    refine wqF mixed [Fa195, Fa199] [] 0 (.ex 0) [(1, spQ (.bin .geq 28 (.const (vI 0))) [vI x194, vI 0] (congrArg (fun t => some (Value.bool t)) c204b))] (zQL [] ?_)
    simp only [Option.some.injEq, Prod.mk.injEq] at e189
    obtain ⟨rfl, rfl, rfl, rfl, rfl⟩ := e189
    exact ⟨_, S, VS.as (([⟨a195, csa195, na195⟩, ⟨a197, encL E_u84 y198, na197⟩, ⟨a199, csa199, na199⟩, ⟨a201, encL E_u84 y202, na201⟩, ⟨B0, [.slice a_m0_0 m0_0.length c_m0_0, vI x203], 2⟩, ⟨b186, [vI (wr64 (1 + t177)), vI (wr64 (1 + t180)), vI t183, .slice (ad a197) y198.length (na197 / 4), .slice (ad a195) y196.length (na195 / 11)], 5⟩, ⟨b176, [vI 0, vI 0, vI 0, .slice (ad a201) y202.length (na201 / 4), .slice (ad a199) y200.length (na199 / 11)], 5⟩] : List Own) ++ (Fa195 ++ (Fa199 ++ []))) (VS.treeA (.a (.l ([⟨a195, csa195, na195⟩, ⟨a197, encL E_u84 y198, na197⟩, ⟨a199, csa199, na199⟩, ⟨a201, encL E_u84 y202, na201⟩, ⟨B0, [.slice a_m0_0 m0_0.length c_m0_0, vI x203], 2⟩, ⟨b186, [vI (wr64 (1 + t177)), vI (wr64 (1 + t180)), vI t183, .slice (ad a197) y198.length (na197 / 4), .slice (ad a195) y196.length (na195 / 11)], 5⟩, ⟨b176, [vI 0, vI 0, vI 0, .slice (ad a201) y202.length (na201 / 4), .slice (ad a199) y200.length (na199 / 11)], 5⟩] : List Own)) (.a (.f Fa195) (.a (.f Fa199) (.l [])))) (.a (.l ([⟨b186, [vI (wr64 (1 + t177)), vI (wr64 (1 + t180)), vI t183, .slice (ad a197) y198.length (na197 / 4), .slice (ad a195) y196.length (na195 / 11)], 5⟩, ⟨B0, [.slice a_m0_0 m0_0.length c_m0_0, vI x203], 2⟩, ⟨b176, [vI 0, vI 0, vI 0, .slice (ad a201) y202.length (na201 / 4), .slice (ad a199) y200.length (na199 / 11)], 5⟩, ⟨a197, encL E_u84 y198, na197⟩, ⟨a195, csa195, na195⟩, ⟨a201, encL E_u84 y202, na201⟩, ⟨a199, csa199, na199⟩] : List Own)) (.a (.a (.f Fa195) (.l [])) (.a (.a (.f Fa199) (.l [])) (.l [])))) [5, 4, 4, 1, 0, 1, 0, 0, 0] (by kernel_rfl)), a197, na197, a195, na195, csa195, (Fa195 ++ []), a201, na201, a199, na199, csa199, (Fa199 ++ []), by kernel_rfl, rfl, rfl, RL.mono hra195 (rd_sub seg_hd), RL.mono hra199 (rd_sub seg_hd)⟩
 ·rintro σ_ H_ S_ ⟨a338, na338, a340, na340, csa340, Fa340, a343, na343, a345, na345, csa345, Fa345, rfl, rfl, rfl, hra340, hra345⟩
  refine wxF mixed [Fa340, Fa345] 1 [0, 2] 0 [] (zWL [0] ?_)
  refine w_ (w_as [(2, vP b176 0)] (([⟨b176, [vI (wr64 (1 + t177)), vI (wr64 (1 + t180)), vI t183, .slice (ad a338) y339.length (na338 / 4), .slice (ad a340) y341.length (na340 / 11)], 5⟩, ⟨B0, [.slice a_m0_0 m0_0.length c_m0_0, vI x342], 2⟩, ⟨a338, encL E_u84 y339, na338⟩, ⟨a340, csa340, na340⟩, ⟨a343, encL E_u84 y344, na343⟩, ⟨a345, csa345, na345⟩] : List Own) ++ (Fa340 ++ (Fa345 ++ []))) ?_)
  refine w_someB 3 rfl fun hz3_ => ?_
  refine w_ret ?_
  simp only [Option.some.injEq, Prod.mk.injEq] at e
  obtain ⟨rfl, rfl, rfl, rfl, rfl, rfl⟩ := e
  exact ⟨[_], _, S, ⟨⟨_, _, _, rfl, .at 0 rfl rfl, rfl⟩, trivial⟩, VS.treeA (.a (.l ([⟨b176, [vI (wr64 (1 + t177)), vI (wr64 (1 + t180)), vI t183, .slice (ad a338) y339.length (na338 / 4), .slice (ad a340) y341.length (na340 / 11)], 5⟩, ⟨B0, [.slice a_m0_0 m0_0.length c_m0_0, vI x342], 2⟩, ⟨a338, encL E_u84 y339, na338⟩, ⟨a340, csa340, na340⟩, ⟨a343, encL E_u84 y344, na343⟩, ⟨a345, csa345, na345⟩] : List Own)) (.a (.f Fa340) (.a (.f Fa345) (.l [])))) (.a (.l ([⟨a338, encL E_u84 y339, na338⟩, ⟨B0, [.slice a_m0_0 m0_0.length c_m0_0, vI x342], 2⟩] : List Own)) (.a (.a (.l ([⟨a340, csa340, na340⟩] : List Own)) (.a (.f Fa340) (.l []))) (.l []))) [2, 1, 1, 3] (by kernel_rfl), a338, na338, (ad a340), (na340 / 11), (([⟨a340, csa340, na340⟩] : List Own) ++ (Fa340 ++ [])), rfl, rfl, rfl, SlN.mono (SlN.own (E := N_1) (RL.mono hra340 (rd_sub (sub_app (seg_in 1 (X := (Fa340 ++ [])) rfl seg_hd) sub_nil))) hz3_ (by decide) (fun _ hk_ => Or.inl ⟨_, mem_at 0 rfl, hk_, rfl⟩)) (rd_sub fun e_ he_ => seg_hd e_ ((sub_app (sub_cons (mem_at 0 rfl) sub_nil) (sub_app (seg_in 1 (X := (Fa340 ++ [])) rfl seg_hd) sub_nil)) e_ he_))⟩

/-- glyphicref.Bare -/
def c29 : C := (.seq (.reg [oq 2 (.new [(vI 0), (vB false), (vI 0)])]) (.seq (.reg [oq 3 (.mv 0), oq 4 (.bld [(vI 0), (vB false), (vI 0)] [(0, 1, 3)]), ⟨none, .st 3 2 4, none⟩]) .ret))
def glyphicref_Bare.f (code0 : Int) : Option (Int × Bool × Int) := some (code0, false, 0)
theorem glyphicref_Bare.ok {S : Seal} {code0 r0_ : Int} {r1_ : Bool} {r2_ : Int}{A_ : Int → Addr} (hE_ : EO gsE S A_ 157) (e : glyphicref_Bare.f code0 = some (r0_, r1_, r2_)) :
    Cal Tryd.prog 29 [vI code0] [] S fun v H' S' => v = .agg #[vI r0_, .bool r1_, vI r2_] ∧ H' = [] ∧ S' = S := by
 unfold glyphicref_Bare.f at e
 refine cal_of (c := c29) (N := 5) Tryd.func29 rfl rfl (by kernel_rfl) (rs := [.cn 3 2]) (by kernel_rfl) (Nat.le_of_ble_eq_true rfl) ?_
 unfold c29
 refine wx mixed 2 [0] 1 [] fun b25 => zWL [] ?_
 refine w_ (w_as [(2, vP b25 0)] ([⟨b25, [vI code0, vB false, vI 0], 3⟩] : List Own) ?_)
 refine w_ret ?_
 simp only [Option.some.injEq, Prod.mk.injEq] at e
 obtain ⟨rfl, rfl, rfl⟩ := e
 exact ⟨[_], [], S, ⟨⟨_, _, _, rfl, .at 0 rfl rfl, rfl⟩, trivial⟩, VS.none, rfl, rfl, rfl⟩

/-- glyphicref.None -/
def c52 : C := (.seq (.reg [oq 0 (.new [(vI 0), (vB false), (vI 0)])]) (.seq (.reg [oq 1 (.bld [(vI 0), (vB false), (vI 0)] []), ⟨none, .st 3 0 1, none⟩]) .ret))
def glyphicref_None.f  : Option (Int × Bool × Int) := some (0, false, 0)
theorem glyphicref_None.ok {S : Seal}  {r0_ : Int} {r1_ : Bool} {r2_ : Int}{A_ : Int → Addr} (hE_ : EO gsE S A_ 157) (e : glyphicref_None.f  = some (r0_, r1_, r2_)) :
    Cal Tryd.prog 52 [] [] S fun v H' S' => v = .agg #[vI r0_, .bool r1_, vI r2_] ∧ H' = [] ∧ S' = S := by
 unfold glyphicref_None.f at e
 refine cal_of (c := c52) (N := 2) Tryd.func52 rfl rfl (by kernel_rfl) (rs := [.cn 3 0]) (by kernel_rfl) (Nat.le_of_ble_eq_true rfl) ?_
 unfold c52
 refine wx mixed 2 [0] 1 [] fun b33 => zWL [] ?_
 refine w_ (w_as [(0, vP b33 0)] ([⟨b33, [vI 0, vB false, vI 0], 3⟩] : List Own) ?_)
 refine w_ret ?_
 simp only [Option.some.injEq, Prod.mk.injEq] at e
 obtain ⟨rfl, rfl, rfl⟩ := e
 exact ⟨[_], [], S, ⟨⟨_, _, _, rfl, .at 0 rfl rfl, rfl⟩, trivial⟩, VS.none, rfl, rfl, rfl⟩

/-- glyphicsee.sentinels -/
def c63 : C := (.seq (.reg [oq 0 (.mv (.const (.slice none 0 0)))]) (.seq (.reg [oq 1 (.ld none (.global 3)), oq 2 (.ld none (.global 4)), oq 3 (.ld none (.global 5)), oq 4 (.ld none (.global 6)), oq 5 (.ld none (.global 0)), oq 6 (.ld none (.global 7)), oq 7 (.ld none (.global 8)), oq 8 (.ld none (.global 9)), oq 9 (.ld none (.global 10)), oq 10 (.ld none (.global 11)), oq 11 (.ld none (.global 12)), oq 12 (.ld none (.global 2)), oq 13 (.ld none (.global 1)), oq 14 (.bsl [.nilIface, .nilIface, .nilIface, .nilIface, .nilIface, .nilIface, .nilIface, .nilIface, .nilIface, .nilIface, .nilIface, .nilIface, .nilIface] 13 [(0, 1, 1), (1, 1, 2), (2, 1, 3), (3, 1, 4), (4, 1, 5), (5, 1, 6), (6, 1, 7), (7, 1, 8), (8, 1, 9), (9, 1, 10), (10, 1, 11), (11, 1, 12), (12, 1, 13)]), oq 0 (.mv 14)]) .ret))
def glyphicsee_sentinels.f  : Option (Unit) := some ()
theorem glyphicsee_sentinels.ok {S : Seal}  {A_ : Int → Addr} (hE_ : EO gsE S A_ 157) (e : glyphicsee_sentinels.f  = some ()) :
    Cal Tryd.prog 63 [] [] S fun v H' S' => ∃ (N0_ : Nat) , v = .slice (some ⟨N0_, 0, none⟩) 13 13 ∧ H' = ([⟨N0_, [.iface 157 (.pointer (some (A_ 4))), .iface 157 (.pointer (some (A_ 5))), .iface 157 (.pointer (some (A_ 6))), .iface 157 (.pointer (some (A_ 7))), .iface 157 (.pointer (some (A_ 1))), .iface 157 (.pointer (some (A_ 8))), .iface 157 (.pointer (some (A_ 9))), .iface 157 (.pointer (some (A_ 10))), .iface 157 (.pointer (some (A_ 11))), .iface 157 (.pointer (some (A_ 12))), .iface 157 (.pointer (some (A_ 13))), .iface 157 (.pointer (some (A_ 3))), .iface 157 (.pointer (some (A_ 2)))], 13⟩] : List Own) ∧ S' = S := by
 unfold glyphicsee_sentinels.f at e
 refine cal_of (c := c63) (N := 15) Tryd.func63 rfl rfl (by kernel_rfl) (rs := [.t 0]) (by kernel_rfl) (Nat.le_of_ble_eq_true rfl) ?_
 unfold c63
 refine wx mixed 2 [] 1 [(1, spL1 (.global 3) 3 0 [] (fun _ => hE_.atc 3 4 (by decide) (by decide))), (2, spL1 (.global 4) 4 0 [] (fun _ => hE_.atc 4 5 (by decide) (by decide))), (3, spL1 (.global 5) 5 0 [] (fun _ => hE_.atc 5 6 (by decide) (by decide))), (4, spL1 (.global 6) 6 0 [] (fun _ => hE_.atc 6 7 (by decide) (by decide))), (5, spL1 (.global 0) 0 0 [] (fun _ => hE_.atc 0 1 (by decide) (by decide))), (6, spL1 (.global 7) 7 0 [] (fun _ => hE_.atc 7 8 (by decide) (by decide))), (7, spL1 (.global 8) 8 0 [] (fun _ => hE_.atc 8 9 (by decide) (by decide))), (8, spL1 (.global 9) 9 0 [] (fun _ => hE_.atc 9 10 (by decide) (by decide))), (9, spL1 (.global 10) 10 0 [] (fun _ => hE_.atc 10 11 (by decide) (by decide))), (10, spL1 (.global 11) 11 0 [] (fun _ => hE_.atc 11 12 (by decide) (by decide))), (11, spL1 (.global 12) 12 0 [] (fun _ => hE_.atc 12 13 (by decide) (by decide))), (12, spL1 (.global 2) 2 0 [] (fun _ => hE_.atc 2 3 (by decide) (by decide))), (13, spL1 (.global 1) 1 0 [] (fun _ => hE_.atc 1 2 (by decide) (by decide)))] fun b37 => zWL [] ?_
 refine w_ (w_ret ?_)
 exact ⟨[_], _, S, ⟨(show gt _ _ = some _ from (by kernel_rfl)), trivial⟩, VS.lb [0] (by kernel_rfl), b37, rfl, rfl, rfl⟩

/-- glyphicsee.Alike -/
def c64 : C := (.seq (.reg [oq 4 (.mv (.const (vB false)))]) (.seq (.seq (.reg [oq 5 (.mv 0), oq 6 (.eqt false 29 5 (.const .nilIface)), oq 7 (.mv 6), ⟨(some 8), .mv 1, (some (7, false))⟩, ⟨(some 9), .eqt false 29 8 (.const .nilIface), (some (7, false))⟩, oq 10 (.pk 7 (.const (vB true)) 9)]) (.cond 10 (.seq (.reg [oq 11 (.mv 0), oq 12 (.eqt false 29 11 (.const .nilIface)), oq 13 (.mv 12), ⟨(some 14), .mv 1, (some (13, true))⟩, ⟨(some 15), .eqt false 29 14 (.const .nilIface), (some (13, true))⟩, oq 16 (.pk 13 15 (.const (vB false))), oq 4 (.mv 16)]) .ret) .skip)) (.seq (.reg [oq 17 (.mv 0), oq 18 (.mv 1), oq 19 (.eqt false 29 17 18), oq 4 (.mv 19)]) .ret)))
def glyphicsee_Alike_v1.f (a0 : Int) (b1 : Int) : Option (Bool) := if a0 = 0 then (some (b1 == 0)) else (if b1 = 0 then (some false) else (if isL gsE a0 = false then none else (if isL gsE b1 = false then none else (some (a0 == b1)))))
theorem glyphicsee_Alike_v1.ok {S : Seal} {a0 b1 : Int} {r0_ : Bool}{A_ : Int → Addr} (hE_ : EO gsE S A_ 157) (e : glyphicsee_Alike_v1.f a0 b1 = some r0_) :
    Cal Tryd.prog 64 [errV 157 A_ a0, errV 157 A_ b1] [] S fun v H' S' => v = .bool r0_ ∧ H' = [] ∧ S' = S := by
 unfold glyphicsee_Alike_v1.f at e
 refine cal_of (c := c64) (N := 20) Tryd.func64 rfl rfl (by kernel_rfl) (rs := [.t 4]) (by kernel_rfl) (Nat.le_of_ble_eq_true rfl) ?_
 unfold c64
 refine wx mixed 1 [] 0 [] (zWL [] ?_)
 refine w_ (w_seq ?_)
 by_cases c40 : a0 = 0
 ·rw [if_pos c40] at e
  have c40b : (a0 == 0) = true := beq_iff_eq.mpr c40
  refine wxM mixed 1 [] 0 [(1, spE false 29 5 (.const .nilIface) (a := errV 157 A_ a0) (b := .nilIface) (r := a0 == 0) (eqErr (by kernel_rfl) rfl) (bnk c40b rfl))] (zWL [] ?_)
  refine w_ (w_ct (w_ ?_))
  refine wxM mixed 1 [] 0 [(1, spE false 29 11 (.const .nilIface) (a := errV 157 A_ a0) (b := .nilIface) (r := a0 == 0) (eqErr (by kernel_rfl) rfl) (bnk c40b rfl)), (4, spE false 29 14 (.const .nilIface) (a := errV 157 A_ b1) (b := .nilIface) (r := b1 == 0) (eqErr (by kernel_rfl) rfl) (bnf _))] (zWL [] ?_)
  refine w_ (w_ret ?_)
  obtain rfl := Option.some.inj e
  exact ⟨[_], [], S, ⟨(show gt _ _ = some _ from (by kernel_rfl)), trivial⟩, VS.none, rfl, rfl, rfl⟩
 ·rw [if_neg c40] at e
  have c40b : (a0 == 0) = false := beq_eq_false_iff_ne.mpr c40
  by_cases c41 : b1 = 0
  ·rw [if_pos c41] at e
   have c41b : (b1 == 0) = true := beq_iff_eq.mpr c41
   refine wxM mixed 1 [] 0 [(1, spE false 29 5 (.const .nilIface) (a := errV 157 A_ a0) (b := .nilIface) (r := a0 == 0) (eqErr (by kernel_rfl) rfl) (bnk c40b rfl)), (4, spE false 29 8 (.const .nilIface) (a := errV 157 A_ b1) (b := .nilIface) (r := b1 == 0) (eqErr (by kernel_rfl) rfl) (bnk c41b rfl))] (zWL [] ?_)
   refine w_ (w_ct (w_ ?_))
   refine wxM mixed 1 [] 0 [(1, spE false 29 11 (.const .nilIface) (a := errV 157 A_ a0) (b := .nilIface) (r := a0 == 0) (eqErr (by kernel_rfl) rfl) (bnk c40b rfl))] (zWL [] ?_)
   refine w_ (w_ret ?_)
   obtain rfl := Option.some.inj e
   exact ⟨[_], [], S, ⟨(show gt _ _ = some _ from (by kernel_rfl)), trivial⟩, VS.none, rfl, rfl, rfl⟩
  ·rw [if_neg c41] at e
   have c41b : (b1 == 0) = false := beq_eq_false_iff_ne.mpr c41
   refine wqM mixed [] 0 .nrm [(1, spE false 29 5 (.const .nilIface) (a := errV 157 A_ a0) (b := .nilIface) (r := a0 == 0) (eqErr (by kernel_rfl) rfl) (bnk c40b rfl)), (4, spE false 29 8 (.const .nilIface) (a := errV 157 A_ b1) (b := .nilIface) (r := b1 == 0) (eqErr (by kernel_rfl) rfl) (bnk c41b rfl))] (zQL [] ?_)
   refine w_ ?_
   have c42 : ¬ isL gsE a0 = false := by
    intro h_; rw [if_pos h_] at e; cases e
   rw [if_neg c42] at e
   have c43 : ¬ isL gsE b1 = false := by
    intro h_; rw [if_pos h_] at e; cases e
   rw [if_neg c43] at e
   refine wxM mixed 1 [] 0 [(2, spEp false 29 17 18 (a := errV 157 A_ a0) (b := errV 157 A_ b1) (r := a0 == b1) (eqp_sym hE_ c42 c43 (by kernel_rfl)) (bnf _))] (zWL [] ?_)
   refine w_ (w_ret ?_)
   obtain rfl := Option.some.inj e
   exact ⟨[_], [], S, ⟨(show gt _ _ = some _ from (by kernel_rfl)), trivial⟩, VS.none, rfl, rfl, rfl⟩

/-- glyphicsee.sentinel -/
def c53 : C := (.seq (.reg [oq 2 (.mv (.const (vI 0)))]) (.seq (.reg [oq 5 (.call 63 []), oq 3 (.mv 5)]) (.seq (.seq (.reg [oq 4 (.mv (.const (vI 0)))]) (.block 0 (.loop (.seq (.seq (.reg [oq 6 (.mv 4), oq 7 (.mv 3), oq 8 (.lns 7), oq 9 (.bin .lss 6 8)]) (.cond 9 .skip (.exit 0))) (.seq (.block 1 (.seq (.reg [oq 12 (.mv 0), oq 13 (.mv 3), oq 14 (.mv 4), oq 15 (.ixs 1 13 14), oq 16 (.ld none 15), oq 17 (.call 64 [12, 16])]) (.cond 17 (.seq (.reg [oq 18 (.mv 4), oq 19 (.bin .add (.const (vI 101)) 18), oq 2 (.mv 19)]) .ret) .skip))) (.reg [oq 10 (.mv 4), oq 11 (.bin .add 10 (.const (vI 1))), oq 4 (.mv 11)])))))) (.seq (.reg [oq 2 (.mv (.const (vI (-1))))]) .ret))))
def glyphicsee_sentinel_v1.f (e0 : Int) : Option (Int) := (glyphicsee_sentinels.f).bind fun _ => ((glyphicsee_Alike_v1.f e0 4).bind fun t39 => (if t39 = true then (some 101) else ((glyphicsee_Alike_v1.f e0 5).bind fun t41 => (if t41 = true then (some 102) else ((glyphicsee_Alike_v1.f e0 6).bind fun t43 => (if t43 = true then (some 103) else ((glyphicsee_Alike_v1.f e0 7).bind fun t45 => (if t45 = true then (some 104) else ((glyphicsee_Alike_v1.f e0 1).bind fun t47 => (if t47 = true then (some 105) else ((glyphicsee_Alike_v1.f e0 8).bind fun t49 => (if t49 = true then (some 106) else ((glyphicsee_Alike_v1.f e0 9).bind fun t51 => (if t51 = true then (some 107) else ((glyphicsee_Alike_v1.f e0 10).bind fun t53 => (if t53 = true then (some 108) else ((glyphicsee_Alike_v1.f e0 11).bind fun t55 => (if t55 = true then (some 109) else ((glyphicsee_Alike_v1.f e0 12).bind fun t57 => (if t57 = true then (some 110) else ((glyphicsee_Alike_v1.f e0 13).bind fun t59 => (if t59 = true then (some 111) else ((glyphicsee_Alike_v1.f e0 3).bind fun t61 => (if t61 = true then (some 112) else ((glyphicsee_Alike_v1.f e0 2).bind fun t63 => (if t63 = true then (some 113) else (some (-1))))))))))))))))))))))))))))
theorem glyphicsee_sentinel_v1.ok {S : Seal} {e0 r0_ : Int}{A_ : Int → Addr} (hE_ : EO gsE S A_ 157) (e : glyphicsee_sentinel_v1.f e0 = some r0_) :
    Cal Tryd.prog 53 [errV 157 A_ e0] [] S fun v H' S' => v = vI r0_ ∧ H' = [] ∧ S' = S := by
 unfold glyphicsee_sentinel_v1.f at e
 refine cal_of (c := c53) (N := 20) Tryd.func53 rfl rfl (by kernel_rfl) (rs := [.t 2]) (by kernel_rfl) (Nat.le_of_ble_eq_true rfl) ?_
 unfold c53
 obtain ⟨u_, h37, e⟩ := bind_of e
 refine wx mixed 2 [] 0 [(1, spC 63 [] [] [] [0] 1 (fun l_ => .slice (some ⟨(l_.N 0), 0, none⟩) 13 13) (fun l_ => [[⟨(l_.N 0), [.iface 157 (.pointer (some (A_ 4))), .iface 157 (.pointer (some (A_ 5))), .iface 157 (.pointer (some (A_ 6))), .iface 157 (.pointer (some (A_ 7))), .iface 157 (.pointer (some (A_ 1))), .iface 157 (.pointer (some (A_ 8))), .iface 157 (.pointer (some (A_ 9))), .iface 157 (.pointer (some (A_ 10))), .iface 157 (.pointer (some (A_ 11))), .iface 157 (.pointer (some (A_ 12))), .iface 157 (.pointer (some (A_ 13))), .iface 157 (.pointer (some (A_ 3))), .iface 157 (.pointer (some (A_ 2)))], 13⟩]]) (vs := []) rfl (((glyphicsee_sentinels.ok hE_ h37)).mono fun _ _ _ ⟨N38, h1_, h2_, h3_⟩ => ⟨un ⟨[N38], [], [], [], []⟩, h1_.trans (by kernel_rfl), h2_.trans (by kernel_rfl), h3_⟩))] fun N38 => zWL [] ?_
 refine w_ (w_seq ?_)
 refine wxM mixed 1 [] 0 [] (zWL [] ?_)
 refine w_ (w_block (w_lun 15 ?_))
 refine wl_step ?_
 refine wxM mixed 1 [] 0 [] (zWL [] ?_)
 refine w_ (w_seq (w_block ?_))
 obtain ⟨t39, h40, e⟩ := bind_of e
 cases t39 with
 | true =>
  rw [if_pos rfl] at e
  refine wxM mixed 1 [0] 0 [(5, spP 64 [12, 16] (glyphicsee_Alike_v1.ok (a0 := e0) (b1 := 4) hE_ h40))] (zWL [] ?_)
  refine w_ (w_ct (w_ ?_))
  refine wxM mixed 1 [] 0 [] (zWL [0] ?_)
  refine w_ (w_ret ?_)
  obtain rfl := Option.some.inj e
  exact ⟨[_], [], S, ⟨(show gt _ _ = some _ from (by kernel_rfl)), trivial⟩, VS.none, rfl, rfl, rfl⟩
 | false =>
  rw [if_neg (by decide)] at e
  refine wqM mixed [0] 0 .nrm [(5, spP 64 [12, 16] (glyphicsee_Alike_v1.ok (a0 := e0) (b1 := 4) hE_ h40))] (zQL [] ?_)
  refine w_ ?_
  refine wqM mixed [] 0 .nrm [] (zQL [] ?_)
  show WL _ _ _ _ _ _ _ _
  refine wl_step ?_
  refine wxM mixed 1 [] 0 [] (zW1 [(0, errV 157 A_ e0), (3, .slice (some ⟨N38, 0, none⟩) 13 13), (4, vI 1)] ([⟨N38, [.iface 157 (.pointer (some (A_ 4))), .iface 157 (.pointer (some (A_ 5))), .iface 157 (.pointer (some (A_ 6))), .iface 157 (.pointer (some (A_ 7))), .iface 157 (.pointer (some (A_ 1))), .iface 157 (.pointer (some (A_ 8))), .iface 157 (.pointer (some (A_ 9))), .iface 157 (.pointer (some (A_ 10))), .iface 157 (.pointer (some (A_ 11))), .iface 157 (.pointer (some (A_ 12))), .iface 157 (.pointer (some (A_ 13))), .iface 157 (.pointer (some (A_ 3))), .iface 157 (.pointer (some (A_ 2)))], 13⟩] : List Own) ?_)
  refine w_ (w_seq (w_block ?_))
  obtain ⟨t41, h42, e⟩ := bind_of e
  cases t41 with
  | true =>
   rw [if_pos rfl] at e
   refine wx mixed 1 [0] 0 [(5, spP 64 [12, 16] (glyphicsee_Alike_v1.ok (a0 := e0) (b1 := 5) hE_ h42))] (zWL [] ?_)
   refine w_ (w_ct (w_ ?_))
   refine wxM mixed 1 [] 0 [] (zWL [0] ?_)
   refine w_ (w_ret ?_)
   obtain rfl := Option.some.inj e
   exact ⟨[_], [], S, ⟨(show gt _ _ = some _ from (by kernel_rfl)), trivial⟩, VS.none, rfl, rfl, rfl⟩
  | false =>
   rw [if_neg (by decide)] at e
   refine wq mixed [0] 0 .nrm [(5, spP 64 [12, 16] (glyphicsee_Alike_v1.ok (a0 := e0) (b1 := 5) hE_ h42))] (zQL [] ?_)
   refine w_ ?_
   refine wqM mixed [] 0 .nrm [] (zQL [] ?_)
   show WL _ _ _ _ _ _ _ _
   refine wl_step ?_
   refine wxM mixed 1 [] 0 [] (zWL [] ?_)
   refine w_ (w_seq (w_block ?_))
   obtain ⟨t43, h44, e⟩ := bind_of e
   cases t43 with
   | true =>
    rw [if_pos rfl] at e
    refine wxM mixed 1 [0] 0 [(5, spP 64 [12, 16] (glyphicsee_Alike_v1.ok (a0 := e0) (b1 := 6) hE_ h44))] (zWL [] ?_)
    refine w_ (w_ct (w_ ?_))
    refine wxM mixed 1 [] 0 [] (zWL [0] ?_)
    refine w_ (w_ret ?_)
    obtain rfl := Option.some.inj e
    exact ⟨[_], [], S, ⟨(show gt _ _ = some _ from (by kernel_rfl)), trivial⟩, VS.none, rfl, rfl, rfl⟩
   | false =>
    rw [if_neg (by decide)] at e
    refine wqM mixed [0] 0 .nrm [(5, spP 64 [12, 16] (glyphicsee_Alike_v1.ok (a0 := e0) (b1 := 6) hE_ h44))] (zQL [] ?_)
    refine w_ ?_
    refine wqM mixed [] 0 .nrm [] (zQL [] ?_)
    show WL _ _ _ _ _ _ _ _
    refine wl_step ?_
    refine wxM mixed 1 [] 0 [] (zW1 [(0, errV 157 A_ e0), (3, .slice (some ⟨N38, 0, none⟩) 13 13), (4, vI 3)] ([⟨N38, [.iface 157 (.pointer (some (A_ 4))), .iface 157 (.pointer (some (A_ 5))), .iface 157 (.pointer (some (A_ 6))), .iface 157 (.pointer (some (A_ 7))), .iface 157 (.pointer (some (A_ 1))), .iface 157 (.pointer (some (A_ 8))), .iface 157 (.pointer (some (A_ 9))), .iface 157 (.pointer (some (A_ 10))), .iface 157 (.pointer (some (A_ 11))), .iface 157 (.pointer (some (A_ 12))), .iface 157 (.pointer (some (A_ 13))), .iface 157 (.pointer (some (A_ 3))), .iface 157 (.pointer (some (A_ 2)))], 13⟩] : List Own) ?_)
    refine w_ (w_seq (w_block ?_))
    obtain ⟨t45, h46, e⟩ := bind_of e
    cases t45 with
    | true =>
     rw [if_pos rfl] at e
     refine wx mixed 1 [0] 0 [(5, spP 64 [12, 16] (glyphicsee_Alike_v1.ok (a0 := e0) (b1 := 7) hE_ h46))] (zWL [] ?_)
     refine w_ (w_ct (w_ ?_))
     refine wxM mixed 1 [] 0 [] (zWL [0] ?_)
     refine w_ (w_ret ?_)
     obtain rfl := Option.some.inj e
     exact ⟨[_], [], S, ⟨(show gt _ _ = some _ from (by kernel_rfl)), trivial⟩, VS.none, rfl, rfl, rfl⟩
    | false =>
     rw [if_neg (by decide)] at e
     refine wq mixed [0] 0 .nrm [(5, spP 64 [12, 16] (glyphicsee_Alike_v1.ok (a0 := e0) (b1 := 7) hE_ h46))] (zQL [] ?_)
     refine w_ ?_
     refine wqM mixed [] 0 .nrm [] (zQL [] ?_)
     show WL _ _ _ _ _ _ _ _
     refine wl_step ?_
     refine wxM mixed 1 [] 0 [] (zWL [] ?_)
     refine w_ (w_seq (w_block ?_))
     obtain ⟨t47, h48, e⟩ := bind_of e
     cases t47 with
     | true =>
      rw [if_pos rfl] at e
      refine wxM mixed 1 [0] 0 [(5, spP 64 [12, 16] (glyphicsee_Alike_v1.ok (a0 := e0) (b1 := 1) hE_ h48))] (zWL [] ?_)
      refine w_ (w_ct (w_ ?_))
      refine wxM mixed 1 [] 0 [] (zWL [0] ?_)
      refine w_ (w_ret ?_)
      obtain rfl := Option.some.inj e
      exact ⟨[_], [], S, ⟨(show gt _ _ = some _ from (by kernel_rfl)), trivial⟩, VS.none, rfl, rfl, rfl⟩
     | false =>
      rw [if_neg (by decide)] at e
      refine wqM mixed [0] 0 .nrm [(5, spP 64 [12, 16] (glyphicsee_Alike_v1.ok (a0 := e0) (b1 := 1) hE_ h48))] (zQL [] ?_)
      refine w_ ?_
      refine wqM mixed [] 0 .nrm [] (zQL [] ?_)
      show WL _ _ _ _ _ _ _ _
      refine wl_step ?_
      refine wxM mixed 1 [] 0 [] (zW1 [(0, errV 157 A_ e0), (3, .slice (some ⟨N38, 0, none⟩) 13 13), (4, vI 5)] ([⟨N38, [.iface 157 (.pointer (some (A_ 4))), .iface 157 (.pointer (some (A_ 5))), .iface 157 (.pointer (some (A_ 6))), .iface 157 (.pointer (some (A_ 7))), .iface 157 (.pointer (some (A_ 1))), .iface 157 (.pointer (some (A_ 8))), .iface 157 (.pointer (some (A_ 9))), .iface 157 (.pointer (some (A_ 10))), .iface 157 (.pointer (some (A_ 11))), .iface 157 (.pointer (some (A_ 12))), .iface 157 (.pointer (some (A_ 13))), .iface 157 (.pointer (some (A_ 3))), .iface 157 (.pointer (some (A_ 2)))], 13⟩] : List Own) ?_)
      refine w_ (w_seq (w_block ?_))
      obtain ⟨t49, h50, e⟩ := bind_of e
      cases t49 with
      | true =>
       rw [if_pos rfl] at e
       refine wx mixed 1 [0] 0 [(5, spP 64 [12, 16] (glyphicsee_Alike_v1.ok (a0 := e0) (b1 := 8) hE_ h50))] (zWL [] ?_)
       refine w_ (w_ct (w_ ?_))
       refine wxM mixed 1 [] 0 [] (zWL [0] ?_)
       refine w_ (w_ret ?_)
       obtain rfl := Option.some.inj e
       exact ⟨[_], [], S, ⟨(show gt _ _ = some _ from (by kernel_rfl)), trivial⟩, VS.none, rfl, rfl, rfl⟩
      | false =>
       rw [if_neg (by decide)] at e
       refine wq mixed [0] 0 .nrm [(5, spP 64 [12, 16] (glyphicsee_Alike_v1.ok (a0 := e0) (b1 := 8) hE_ h50))] (zQL [] ?_)
       refine w_ ?_
       refine wqM mixed [] 0 .nrm [] (zQL [] ?_)
       show WL _ _ _ _ _ _ _ _
       refine wl_step ?_
       refine wxM mixed 1 [] 0 [] (zWL [] ?_)
       refine w_ (w_seq (w_block ?_))
       obtain ⟨t51, h52, e⟩ := bind_of e
       cases t51 with
       | true =>
        rw [if_pos rfl] at e
        refine wxM mixed 1 [0] 0 [(5, spP 64 [12, 16] (glyphicsee_Alike_v1.ok (a0 := e0) (b1 := 9) hE_ h52))] (zWL [] ?_)
        refine w_ (w_ct (w_ ?_))
        refine wxM mixed 1 [] 0 [] (zWL [0] ?_)
        refine w_ (w_ret ?_)
        obtain rfl := Option.some.inj e
        exact ⟨[_], [], S, ⟨(show gt _ _ = some _ from (by kernel_rfl)), trivial⟩, VS.none, rfl, rfl, rfl⟩
       | false =>
        rw [if_neg (by decide)] at e
        refine wqM mixed [0] 0 .nrm [(5, spP 64 [12, 16] (glyphicsee_Alike_v1.ok (a0 := e0) (b1 := 9) hE_ h52))] (zQL [] ?_)
        refine w_ ?_
        refine wqM mixed [] 0 .nrm [] (zQL [] ?_)
        show WL _ _ _ _ _ _ _ _
        refine wl_step ?_
        refine wxM mixed 1 [] 0 [] (zW1 [(0, errV 157 A_ e0), (3, .slice (some ⟨N38, 0, none⟩) 13 13), (4, vI 7)] ([⟨N38, [.iface 157 (.pointer (some (A_ 4))), .iface 157 (.pointer (some (A_ 5))), .iface 157 (.pointer (some (A_ 6))), .iface 157 (.pointer (some (A_ 7))), .iface 157 (.pointer (some (A_ 1))), .iface 157 (.pointer (some (A_ 8))), .iface 157 (.pointer (some (A_ 9))), .iface 157 (.pointer (some (A_ 10))), .iface 157 (.pointer (some (A_ 11))), .iface 157 (.pointer (some (A_ 12))), .iface 157 (.pointer (some (A_ 13))), .iface 157 (.pointer (some (A_ 3))), .iface 157 (.pointer (some (A_ 2)))], 13⟩] : List Own) ?_)
        refine w_ (w_seq (w_block ?_))
        obtain ⟨t53, h54, e⟩ := bind_of e
        cases t53 with
        | true =>
         rw [if_pos rfl] at e
         refine wx mixed 1 [0] 0 [(5, spP 64 [12, 16] (glyphicsee_Alike_v1.ok (a0 := e0) (b1 := 10) hE_ h54))] (zWL [] ?_)
         refine w_ (w_ct (w_ ?_))
         refine wxM mixed 1 [] 0 [] (zWL [0] ?_)
         refine w_ (w_ret ?_)
         obtain rfl := Option.some.inj e
         exact ⟨[_], [], S, ⟨(show gt _ _ = some _ from (by kernel_rfl)), trivial⟩, VS.none, rfl, rfl, rfl⟩
        | false =>
         rw [if_neg (by decide)] at e
         refine wq mixed [0] 0 .nrm [(5, spP 64 [12, 16] (glyphicsee_Alike_v1.ok (a0 := e0) (b1 := 10) hE_ h54))] (zQL [] ?_)
         refine w_ ?_
         refine wqM mixed [] 0 .nrm [] (zQL [] ?_)
         show WL _ _ _ _ _ _ _ _
         refine wl_step ?_
         refine wxM mixed 1 [] 0 [] (zWL [] ?_)
         refine w_ (w_seq (w_block ?_))
         obtain ⟨t55, h56, e⟩ := bind_of e
         cases t55 with
         | true =>
          rw [if_pos rfl] at e
          refine wxM mixed 1 [0] 0 [(5, spP 64 [12, 16] (glyphicsee_Alike_v1.ok (a0 := e0) (b1 := 11) hE_ h56))] (zWL [] ?_)
          refine w_ (w_ct (w_ ?_))
          refine wxM mixed 1 [] 0 [] (zWL [0] ?_)
          refine w_ (w_ret ?_)
          obtain rfl := Option.some.inj e
          exact ⟨[_], [], S, ⟨(show gt _ _ = some _ from (by kernel_rfl)), trivial⟩, VS.none, rfl, rfl, rfl⟩
         | false =>
          rw [if_neg (by decide)] at e
          refine wqM mixed [0] 0 .nrm [(5, spP 64 [12, 16] (glyphicsee_Alike_v1.ok (a0 := e0) (b1 := 11) hE_ h56))] (zQL [] ?_)
          refine w_ ?_
          refine wqM mixed [] 0 .nrm [] (zQL [] ?_)
          show WL _ _ _ _ _ _ _ _
          refine wl_step ?_
          refine wxM mixed 1 [] 0 [] (zW1 [(0, errV 157 A_ e0), (3, .slice (some ⟨N38, 0, none⟩) 13 13), (4, vI 9)] ([⟨N38, [.iface 157 (.pointer (some (A_ 4))), .iface 157 (.pointer (some (A_ 5))), .iface 157 (.pointer (some (A_ 6))), .iface 157 (.pointer (some (A_ 7))), .iface 157 (.pointer (some (A_ 1))), .iface 157 (.pointer (some (A_ 8))), .iface 157 (.pointer (some (A_ 9))), .iface 157 (.pointer (some (A_ 10))), .iface 157 (.pointer (some (A_ 11))), .iface 157 (.pointer (some (A_ 12))), .iface 157 (.pointer (some (A_ 13))), .iface 157 (.pointer (some (A_ 3))), .iface 157 (.pointer (some (A_ 2)))], 13⟩] : List Own) ?_)
          refine w_ (w_seq (w_block ?_))
          obtain ⟨t57, h58, e⟩ := bind_of e
          cases t57 with
          | true =>
           rw [if_pos rfl] at e
           refine wx mixed 1 [0] 0 [(5, spP 64 [12, 16] (glyphicsee_Alike_v1.ok (a0 := e0) (b1 := 12) hE_ h58))] (zWL [] ?_)
           refine w_ (w_ct (w_ ?_))
           refine wxM mixed 1 [] 0 [] (zWL [0] ?_)
           refine w_ (w_ret ?_)
           obtain rfl := Option.some.inj e
           exact ⟨[_], [], S, ⟨(show gt _ _ = some _ from (by kernel_rfl)), trivial⟩, VS.none, rfl, rfl, rfl⟩
          | false =>
           rw [if_neg (by decide)] at e
           refine wq mixed [0] 0 .nrm [(5, spP 64 [12, 16] (glyphicsee_Alike_v1.ok (a0 := e0) (b1 := 12) hE_ h58))] (zQL [] ?_)
           refine w_ ?_
           refine wqM mixed [] 0 .nrm [] (zQL [] ?_)
           show WL _ _ _ _ _ _ _ _
           refine wl_step ?_
           refine wxM mixed 1 [] 0 [] (zWL [] ?_)
           refine w_ (w_seq (w_block ?_))
           obtain ⟨t59, h60, e⟩ := bind_of e
           cases t59 with
           | true =>
            rw [if_pos rfl] at e
            refine wxM mixed 1 [0] 0 [(5, spP 64 [12, 16] (glyphicsee_Alike_v1.ok (a0 := e0) (b1 := 13) hE_ h60))] (zWL [] ?_)
            refine w_ (w_ct (w_ ?_))
            refine wxM mixed 1 [] 0 [] (zWL [0] ?_)
            refine w_ (w_ret ?_)
            obtain rfl := Option.some.inj e
            exact ⟨[_], [], S, ⟨(show gt _ _ = some _ from (by kernel_rfl)), trivial⟩, VS.none, rfl, rfl, rfl⟩
           | false =>
            rw [if_neg (by decide)] at e
            refine wqM mixed [0] 0 .nrm [(5, spP 64 [12, 16] (glyphicsee_Alike_v1.ok (a0 := e0) (b1 := 13) hE_ h60))] (zQL [] ?_)
            refine w_ ?_
            refine wqM mixed [] 0 .nrm [] (zQL [] ?_)
            show WL _ _ _ _ _ _ _ _
            refine wl_step ?_
            refine wxM mixed 1 [] 0 [] (zW1 [(0, errV 157 A_ e0), (3, .slice (some ⟨N38, 0, none⟩) 13 13), (4, vI 11)] ([⟨N38, [.iface 157 (.pointer (some (A_ 4))), .iface 157 (.pointer (some (A_ 5))), .iface 157 (.pointer (some (A_ 6))), .iface 157 (.pointer (some (A_ 7))), .iface 157 (.pointer (some (A_ 1))), .iface 157 (.pointer (some (A_ 8))), .iface 157 (.pointer (some (A_ 9))), .iface 157 (.pointer (some (A_ 10))), .iface 157 (.pointer (some (A_ 11))), .iface 157 (.pointer (some (A_ 12))), .iface 157 (.pointer (some (A_ 13))), .iface 157 (.pointer (some (A_ 3))), .iface 157 (.pointer (some (A_ 2)))], 13⟩] : List Own) ?_)
            refine w_ (w_seq (w_block ?_))
            obtain ⟨t61, h62, e⟩ := bind_of e
            cases t61 with
            | true =>
             rw [if_pos rfl] at e
             refine wx mixed 1 [0] 0 [(5, spP 64 [12, 16] (glyphicsee_Alike_v1.ok (a0 := e0) (b1 := 3) hE_ h62))] (zWL [] ?_)
             refine w_ (w_ct (w_ ?_))
             refine wxM mixed 1 [] 0 [] (zWL [0] ?_)
             refine w_ (w_ret ?_)
             obtain rfl := Option.some.inj e
             exact ⟨[_], [], S, ⟨(show gt _ _ = some _ from (by kernel_rfl)), trivial⟩, VS.none, rfl, rfl, rfl⟩
            | false =>
             rw [if_neg (by decide)] at e
             refine wq mixed [0] 0 .nrm [(5, spP 64 [12, 16] (glyphicsee_Alike_v1.ok (a0 := e0) (b1 := 3) hE_ h62))] (zQL [] ?_)
             refine w_ ?_
             refine wqM mixed [] 0 .nrm [] (zQL [] ?_)
             show WL _ _ _ _ _ _ _ _
             refine wl_step ?_
             refine wxM mixed 1 [] 0 [] (zWL [] ?_)
             refine w_ (w_seq (w_block ?_))
             obtain ⟨t63, h64, e⟩ := bind_of e
             cases t63 with
             | true =>
              rw [if_pos rfl] at e
              refine wxM mixed 1 [0] 0 [(5, spP 64 [12, 16] (glyphicsee_Alike_v1.ok (a0 := e0) (b1 := 2) hE_ h64))] (zWL [] ?_)
              refine w_ (w_ct (w_ ?_))
              refine wxM mixed 1 [] 0 [] (zWL [0] ?_)
              refine w_ (w_ret ?_)
              obtain rfl := Option.some.inj e
              exact ⟨[_], [], S, ⟨(show gt _ _ = some _ from (by kernel_rfl)), trivial⟩, VS.none, rfl, rfl, rfl⟩
             | false =>
              rw [if_neg (by decide)] at e
              refine wqM mixed [0] 0 .nrm [(5, spP 64 [12, 16] (glyphicsee_Alike_v1.ok (a0 := e0) (b1 := 2) hE_ h64))] (zQL [] ?_)
              refine w_ ?_
              refine wqM mixed [] 0 .nrm [] (zQL [] ?_)
              show WL _ _ _ _ _ _ _ _
              refine wl_step ?_
              refine wqM mixed [] 0 (.ex 0) [] (zQ1 [(0, errV 157 A_ e0), (3, .slice (some ⟨N38, 0, none⟩) 13 13), (4, vI 13)] ([⟨N38, [.iface 157 (.pointer (some (A_ 4))), .iface 157 (.pointer (some (A_ 5))), .iface 157 (.pointer (some (A_ 6))), .iface 157 (.pointer (some (A_ 7))), .iface 157 (.pointer (some (A_ 1))), .iface 157 (.pointer (some (A_ 8))), .iface 157 (.pointer (some (A_ 9))), .iface 157 (.pointer (some (A_ 10))), .iface 157 (.pointer (some (A_ 11))), .iface 157 (.pointer (some (A_ 12))), .iface 157 (.pointer (some (A_ 13))), .iface 157 (.pointer (some (A_ 3))), .iface 157 (.pointer (some (A_ 2)))], 13⟩] : List Own) ?_)
              refine w_ ?_
              refine wx mixed 1 [] 0 [] (zWL [0] ?_)
              refine w_ (w_ret ?_)
              obtain rfl := Option.some.inj e
              exact ⟨[_], [], S, ⟨(show gt _ _ = some _ from (by kernel_rfl)), trivial⟩, VS.none, rfl, rfl, rfl⟩

/-- glyphicsee.Fault -/
def c40 : C := (.seq (.reg [oq 2 (.new [(vI 0), (vB false), (vI 0)])]) (.seq (.seq (.reg [oq 5 (.mv 0), oq 6 (.eqt false 29 5 (.const .nilIface))]) (.cond 6 (.seq (.reg [oq 7 (.call 52 []), ⟨none, .st 3 2 7, none⟩]) .ret) .skip)) (.seq (.reg [oq 9 (.mv 0), oq 10 (.tas 115 true (.pointer none) 9), oq 8 (.mv 10), oq 11 (.xt 0 8), oq 12 (.xt 1 8), oq 3 (.mv 11), oq 4 (.mv 12)]) (.seq (.seq (.reg [oq 13 (.mv 4), oq 14 (.un .not 13)]) (.cond 14 (.seq (.reg [oq 15 (.mv 0), oq 16 (.call 53 [15]), oq 17 (.call 29 [16]), ⟨none, .st 3 2 17, none⟩]) .ret) .skip)) (.seq (.seq (.reg [oq 18 (.mv 3), oq 19 (.fail), oq 20 (.mv 19), ⟨(some 21), .mv 3, (some (20, false))⟩, ⟨(some 22), .nck 21, (some (20, false))⟩, ⟨(some 23), .pad 1 22, (some (20, false))⟩, ⟨(some 24), .ld none 23, (some (20, false))⟩, ⟨(some 25), .eqt false 29 24 (.const .nilIface), (some (20, false))⟩, oq 26 (.pk 20 (.const (vB true)) 25)]) (.cond 26 (.seq (.reg [oq 27 (.call 29 [(.const (vI (-1)))]), ⟨none, .st 3 2 27, none⟩]) .ret) .skip)) (.seq (.drw [oq 28 (.mv 3), oq 29 (.nck 28), oq 30 (.pad 1 29), oq 31 (.ld none 30), oq 32 (.call 53 [31]), oq 33 (.mv 3), oq 34 (.nck 33), oq 35 (.pad 0 34), oq 36 (.ld none 35), oq 37 (.call 54 [32, 36]), ⟨none, .st 3 2 37, none⟩] [[], [0], [1], [2], [3], [], [5], [6], [7], [4, 8, 4], [9, 9, 0, 1, 2, 3, 4, 5, 6, 7, 8, 9]]) .ret))))))
def glyphicsee_Fault_v1.f (e0 : Int) : Option (Int × Bool × Int) := if e0 = 0 then ((glyphicref_None.f).bind fun (t33, t34, t35) => (some (t33, t34, t35))) else ((glyphicsee_sentinel_v1.f e0).bind fun t37 => ((glyphicref_Bare.f t37).bind fun (t39, t40, t41) => (some (t39, t40, t41))))
theorem glyphicsee_Fault_v1.ok {S : Seal} {e0 r0_ : Int} {r1_ : Bool} {r2_ : Int}{A_ : Int → Addr} (hE_ : EO gsE S A_ 157) (e : glyphicsee_Fault_v1.f e0 = some (r0_, r1_, r2_)) :
    Cal Tryd.prog 40 [errV 157 A_ e0] [] S fun v H' S' => v = .agg #[vI r0_, .bool r1_, vI r2_] ∧ H' = [] ∧ S' = S := by
 unfold glyphicsee_Fault_v1.f at e
 refine cal_of (c := c40) (N := 38) Tryd.func40 rfl rfl (by kernel_rfl) (rs := [.cn 3 2]) (by kernel_rfl) (Nat.le_of_ble_eq_true rfl) ?_
 unfold c40
 refine wx mixed 1 [] 1 [] fun b31 => zWL [] ?_
 refine w_ (w_seq ?_)
 by_cases c32 : e0 = 0
 ·rw [if_pos c32] at e
  have c32b : (e0 == 0) = true := beq_iff_eq.mpr c32
  refine wxM mixed 1 [] 0 [(1, spE false 29 5 (.const .nilIface) (a := errV 157 A_ e0) (b := .nilIface) (r := e0 == 0) (eqErr (by kernel_rfl) rfl) (bnk c32b rfl))] (zWL [] ?_)
  refine w_ (w_ct (w_ ?_))
  obtain ⟨⟨t33, t34, t35⟩, h36, e⟩ := bind_of e
  try dsimp only at e
  refine wxM mixed 1 [0] 0 [(0, spP 52 [] (vs := []) (glyphicref_None.ok hE_ h36))] (zWL [] ?_)
  refine w_ (w_as [(2, vP b31 0)] ([⟨b31, [vI t33, .bool t34, vI t35], 3⟩] : List Own) ?_)
  refine w_ret ?_
  simp only [Option.some.injEq, Prod.mk.injEq] at e
  obtain ⟨rfl, rfl, rfl⟩ := e
  exact ⟨[_], [], S, ⟨⟨_, _, _, rfl, .at 0 rfl rfl, rfl⟩, trivial⟩, VS.none, rfl, rfl, rfl⟩
 ·rw [if_neg c32] at e
  have c32b : (e0 == 0) = false := beq_eq_false_iff_ne.mpr c32
  refine wqM mixed [] 0 .nrm [(1, spE false 29 5 (.const .nilIface) (a := errV 157 A_ e0) (b := .nilIface) (r := e0 == 0) (eqErr (by kernel_rfl) rfl) (bnk c32b rfl))] (zQL [] ?_)
  refine w_ (w_seq (w_reg fun all => ?_))
  refine txM 1 [] 0 [] (zTL [] ?_)
  refine t_as [(0, errV 157 A_ e0), (2, vP b31 0), (9, errV 157 A_ e0)] ([⟨b31, [vI 0, vB false, vI 0], 3⟩] : List Own) ?_
  refine t_v (dv_tas (T := 157) (A := A_) (c := e0) rfl rfl rfl (by decide)) ?_
  refine tx 5 [] 0 [] (zTL [] ?_)
  refine t_end (w_ (w_seq ?_))
  refine wxM mixed 1 [] 0 [] (zWL [] ?_)
  refine w_ (w_ct (w_ ?_))
  obtain ⟨t37, h38, e⟩ := bind_of e
  obtain ⟨⟨t39, t40, t41⟩, h42, e⟩ := bind_of e
  try dsimp only at e
  refine wxM mixed 1 [0] 0 [(1, spP 53 [15] (glyphicsee_sentinel_v1.ok (e0 := e0) hE_ h38)), (2, spP 29 [16] (glyphicref_Bare.ok hE_ h42))] (zWL [] ?_)
  refine w_ (w_as [(2, vP b31 0)] ([⟨b31, [vI t39, .bool t40, vI t41], 3⟩] : List Own) ?_)
  refine w_ret ?_
  simp only [Option.some.injEq, Prod.mk.injEq] at e
  obtain ⟨rfl, rfl, rfl⟩ := e
  exact ⟨[_], [], S, ⟨⟨_, _, _, rfl, .at 0 rfl rfl, rfl⟩, trivial⟩, VS.none, rfl, rfl, rfl⟩

/-- glyphicref.SameFault -/
def c39 : C := (.seq (.reg [oq 2 (.box 0), oq 3 (.box 1), oq 4 (.mv (.const (vB false)))]) (.seq (.reg [oq 5 (.pad 0 2), oq 6 (.ld none 5), oq 7 (.pad 0 3), oq 8 (.ld none 7), oq 9 (.bin .eql 6 8), oq 10 (.mv 9), ⟨(some 11), .pad 1 2, (some (10, true))⟩, ⟨(some 12), .ld none 11, (some (10, true))⟩, ⟨(some 13), .pad 1 3, (some (10, true))⟩, ⟨(some 14), .ld none 13, (some (10, true))⟩, ⟨(some 15), .beq false 12 14, (some (10, true))⟩, oq 16 (.pk 10 15 (.const (vB false))), oq 17 (.mv 16), ⟨(some 18), .pad 2 2, (some (17, true))⟩, ⟨(some 19), .ld none 18, (some (17, true))⟩, ⟨(some 20), .pad 2 3, (some (17, true))⟩, ⟨(some 21), .ld none 20, (some (17, true))⟩, ⟨(some 22), .bin .eql 19 21, (some (17, true))⟩, oq 23 (.pk 17 22 (.const (vB false))), oq 4 (.mv 23)]) .ret))
def glyphicref_SameFault.f (a0_Code : Int) (a0_Placed : Bool) (a0_Pos : Int) (b1_Code : Int) (b1_Placed : Bool) (b1_Pos : Int) : Option (Bool) := if a0_Code = b1_Code then (if a0_Placed = b1_Placed then (some (a0_Pos == b1_Pos)) else (some false)) else (some false)
theorem glyphicref_SameFault.ok {S : Seal} {a0_Code : Int} {a0_Placed : Bool} {a0_Pos b1_Code : Int} {b1_Placed : Bool} {b1_Pos : Int} {r0_ : Bool}{A_ : Int → Addr} (hE_ : EO gsE S A_ 157) (e : glyphicref_SameFault.f a0_Code a0_Placed a0_Pos b1_Code b1_Placed b1_Pos = some r0_) :
    Cal Tryd.prog 39 [.agg #[vI a0_Code, .bool a0_Placed, vI a0_Pos], .agg #[vI b1_Code, .bool b1_Placed, vI b1_Pos]] [] S fun v H' S' => v = .bool r0_ ∧ H' = [] ∧ S' = S := by
 unfold glyphicref_SameFault.f at e
 refine cal_of (c := c39) (N := 24) Tryd.func39 rfl rfl (by kernel_rfl) (rs := [.t 4]) (by kernel_rfl) (Nat.le_of_ble_eq_true rfl) ?_
 unfold c39
 refine wx mixed 1 [] 2 [] fun b47 b48 => zWL [] ?_
 refine w_ ?_
 by_cases c49 : a0_Code = b1_Code
 ·rw [if_pos c49] at e
  have c49b : (a0_Code == b1_Code) = true := beq_iff_eq.mpr c49
  by_cases c50 : a0_Placed = b1_Placed
  ·rw [if_pos c50] at e
   have c50b : (a0_Placed == b1_Placed) = true := beq_iff_eq.mpr c50
   refine wxM mixed 1 [1, 0, 1, 0, 1, 0] 0 [(4, spQ (.bin .eql 6 8) [vI a0_Code, vI b1_Code] (congrArg (fun t => some (Value.bool t)) c49b)), (10, spQ (.beq false 12 14) [.bool a0_Placed, .bool b1_Placed] (congrArg (fun t => some (Value.bool t)) c50b))] (zWL [0, 1] ?_)
   refine w_ (w_ret ?_)
   obtain rfl := Option.some.inj e
   exact ⟨[_], [], S, ⟨(show gt _ _ = some _ from (by kernel_rfl)), trivial⟩, VS.none, rfl, rfl, rfl⟩
  ·rw [if_neg c50] at e
   have c50b : (a0_Placed == b1_Placed) = false := beq_eq_false_iff_ne.mpr c50
   refine wxM mixed 1 [1, 0, 1, 0, 0, 0] 0 [(4, spQ (.bin .eql 6 8) [vI a0_Code, vI b1_Code] (congrArg (fun t => some (Value.bool t)) c49b)), (10, spQ (.beq false 12 14) [.bool a0_Placed, .bool b1_Placed] (congrArg (fun t => some (Value.bool t)) c50b))] (zWL [0, 1] ?_)
   refine w_ (w_ret ?_)
   obtain rfl := Option.some.inj e
   exact ⟨[_], [], S, ⟨(show gt _ _ = some _ from (by kernel_rfl)), trivial⟩, VS.none, rfl, rfl, rfl⟩
 ·rw [if_neg c49] at e
  have c49b : (a0_Code == b1_Code) = false := beq_eq_false_iff_ne.mpr c49
  refine wxM mixed 1 [1, 0, 0, 0, 0, 0] 0 [(4, spQ (.bin .eql 6 8) [vI a0_Code, vI b1_Code] (congrArg (fun t => some (Value.bool t)) c49b))] (zWL [0, 1] ?_)
  refine w_ (w_ret ?_)
  obtain rfl := Option.some.inj e
  exact ⟨[_], [], S, ⟨(show gt _ _ = some _ from (by kernel_rfl)), trivial⟩, VS.none, rfl, rfl, rfl⟩

/-- glyphicsee.Same -/
def c28 : C := (.seq (.reg [oq 3 (.box 1), oq 4 (.mv (.const (vB false)))]) (.seq (.drw [oq 5 (.mv 0), oq 6 (.call 40 [5]), oq 7 (.ld (some 3) 3), oq 8 (.call 39 [6, 7]), oq 4 (.mv 8)] [[], [0], [], [1, 2, 1], [3, 3, 0, 1, 2, 3]]) .ret))
def glyphicsee_Same_v1.f (e0 : Int) (f1_0 : Int) (f1_1 : Bool) (f1_2 : Int) : Option (Bool) := (glyphicsee_Fault_v1.f e0).bind fun (t31, t32, t33) => ((glyphicref_SameFault.f t31 t32 t33 f1_0 f1_1 f1_2).bind fun t35 => (some t35))
theorem glyphicsee_Same_v1.ok {S : Seal} {e0 f1_0 : Int} {f1_1 : Bool} {f1_2 : Int} {r0_ : Bool}{A_ : Int → Addr} (hE_ : EO gsE S A_ 157) (e : glyphicsee_Same_v1.f e0 f1_0 f1_1 f1_2 = some r0_) :
    Cal Tryd.prog 28 [errV 157 A_ e0, .agg #[vI f1_0, .bool f1_1, vI f1_2]] [] S fun v H' S' => v = .bool r0_ ∧ H' = [] ∧ S' = S := by
 unfold glyphicsee_Same_v1.f at e
 refine cal_of (c := c28) (N := 9) Tryd.func28 rfl rfl (by kernel_rfl) (rs := [.t 4]) (by kernel_rfl) (Nat.le_of_ble_eq_true rfl) ?_
 unfold c28
 obtain ⟨⟨t31, t32, t33⟩, h34, e⟩ := bind_of e
 try dsimp only at e
 obtain ⟨t35, h36, e⟩ := bind_of e
 refine wx mixed 2 [0] 1 [(3, spP 40 [5] (glyphicsee_Fault_v1.ok (e0 := e0) hE_ h34)), (5, spP 39 [6, 7] (glyphicref_SameFault.ok hE_ h36))] fun b30 => zWL [0] ?_
 refine w_ (w_ret ?_)
 obtain rfl := Option.some.inj e
 exact ⟨[_], [], S, ⟨(show gt _ _ = some _ from (by kernel_rfl)), trivial⟩, VS.none, rfl, rfl, rfl⟩

/-- glyphicsee.Is -/
def c14 : C := (.seq (.reg [oq 4 (.mv (.const (vB false)))]) (.seq (.reg [oq 5 (.mv 0), oq 6 (.mv 1), oq 7 (.call 29 [6]), oq 8 (.call 28 [5, 7]), oq 4 (.mv 8)]) .ret))
def glyphicsee_Is_v1.f (e0 : Int) (code1 : Int) : Option (Bool) := (glyphicref_Bare.f code1).bind fun (t25, t26, t27) => ((glyphicsee_Same_v1.f e0 t25 t26 t27).bind fun t29 => (some t29))
theorem glyphicsee_Is_v1.ok {S : Seal} {e0 code1 : Int} {r0_ : Bool}{A_ : Int → Addr} (hE_ : EO gsE S A_ 157) (e : glyphicsee_Is_v1.f e0 code1 = some r0_) :
    Cal Tryd.prog 14 [errV 157 A_ e0, vI code1] [] S fun v H' S' => v = .bool r0_ ∧ H' = [] ∧ S' = S := by
 unfold glyphicsee_Is_v1.f at e
 refine cal_of (c := c14) (N := 9) Tryd.func14 rfl rfl (by kernel_rfl) (rs := [.t 4]) (by kernel_rfl) (Nat.le_of_ble_eq_true rfl) ?_
 unfold c14
 obtain ⟨⟨t25, t26, t27⟩, h28, e⟩ := bind_of e
 try dsimp only at e
 obtain ⟨t29, h30, e⟩ := bind_of e
 refine wx mixed 2 [] 0 [(3, spP 29 [6] (glyphicref_Bare.ok hE_ h28)), (4, spP 28 [5, 7] (glyphicsee_Same_v1.ok (e0 := e0) hE_ h30))] (zWL [] ?_)
 refine w_ (w_ret ?_)
 obtain rfl := Option.some.inj e
 exact ⟨[_], [], S, ⟨(show gt _ _ = some _ from (by kernel_rfl)), trivial⟩, VS.none, rfl, rfl, rfl⟩

/-- render.Pixel -/
def c16 : C := (.seq (.reg [oq 4 (.box 0), oq 8 (.new [(.int .u8 0), (.int .u8 0), (.int .u8 0), (.int .u8 0)]), oq 9 (.mv (.const .nilIface))]) (.seq (.seq (.reg [oq 13 (.ld (some 5) 4), oq 14 (.mv 1), oq 15 (.call 17 [13, 14]), oq 12 (.mv 15), oq 16 (.xt 0 12), oq 17 (.xt 1 12), oq 10 (.mv 16), oq 11 (.mv 17)]) (.seq (.reg [oq 18 (.mv 11), oq 19 (.eqt true 29 18 (.const .nilIface))]) (.cond 19 (.seq (.reg [oq 20 (.bld [(.int .u8 0), (.int .u8 0), (.int .u8 0), (.int .u8 0)] []), oq 21 (.mv 11), ⟨none, .st 4 8 20, none⟩, oq 9 (.mv 21)]) .ret) .skip))) (.seq (.seq (.reg [oq 22 (.mv 2), oq 23 (.bin .lss 22 (.const (vI 0))), oq 24 (.mv 23), ⟨(some 25), .mv 2, (some (24, false))⟩, ⟨(some 26), .mv 1, (some (24, false))⟩, ⟨(some 27), .bin .geq 25 26, (some (24, false))⟩, oq 28 (.pk 24 (.const (vB true)) 27), oq 29 (.mv 28), ⟨(some 30), .mv 3, (some (29, false))⟩, ⟨(some 31), .bin .lss 30 (.const (vI 0)), (some (29, false))⟩, oq 32 (.pk 29 (.const (vB true)) 31), oq 33 (.mv 32), ⟨(some 34), .mv 3, (some (33, false))⟩, ⟨(some 35), .ld (some 5) 4, (some (33, false))⟩, ⟨(some 36), .mv 1, (some (33, false))⟩, ⟨(some 37), .call 19 [35, 36], (some (33, false))⟩, ⟨(some 38), .bin .geq 34 37, (some (33, false))⟩, oq 39 (.pk 33 (.const (vB true)) 38)]) (.cond 39 (.seq (.drw [oq 40 (.bld [(.int .u8 0), (.int .u8 0), (.int .u8 0), (.int .u8 0)] []), oq 41 (.ld none (.global 0)), ⟨none, .st 4 8 40, none⟩, oq 9 (.mv 41)] [[], [], [0, 0], [1, 2, 0, 1, 2]]) .ret) .skip)) (.seq (.drw [oq 42 (.ld (some 5) 4), oq 43 (.ld (some 5) 4), oq 44 (.mv 1), oq 45 (.call 18 [43, 44]), oq 46 (.mv 1), oq 47 (.mv 3), oq 48 (.call 20 [42, 45, 46, 47]), oq 49 (.mv 2), oq 50 (.bin .mul (.const (vI 4)) 49), oq 51 (.sls 1 48 (some 50) none), oq 52 (.s2a 4 51), oq 53 (.ld (some 4) 52), ⟨none, .st 4 8 53, none⟩, oq 9 (.mv (.const .nilIface))] [[], [], [], [1, 2], [], [], [0, 3, 4, 5, 3], [], [7], [6, 8], [9], [10], [11, 6, 0, 1, 2, 3, 4, 5, 6, 7, 8, 9, 10, 11], [12, 0, 1, 2, 3, 4, 5, 6, 7, 8, 9, 10, 11, 12]]) .ret))))
def render_Pixel_v1.f (k : Nat) (i0_0 : Int) (i0_1 : Int) (i0_2 : Int) (i0_3 : List (Int × Int × Int × Int)) (i0_4 : List (Int × Int × Int × Int × Int × Int × Int × Int × Int × Int × List (Int × Int × List (Int × Int × Int × Int × Int × Int × Int) × Bool))) (w1 : Int) (x2 : Int) (y3 : Int) : Option (Int × Int × Int × Int × Int) := (render_Edges_v1.f k i0_0 i0_1 i0_2 i0_4 w1).bind fun (t32, t33) => (if t33 = 0 then (if x2 < 0 then (some (0, 0, 0, 0, 1)) else (if x2 ≥ w1 then (some (0, 0, 0, 0, 1)) else (if y3 < 0 then (some (0, 0, 0, 0, 1)) else ((scale_Height_v1.f i0_0 i0_1 i0_2 w1).bind fun t39 => (if y3 ≥ t39 then (some (0, 0, 0, 0, 1)) else ((render_layers_v1.f k i0_0 i0_1 i0_2 i0_4 w1).bind fun t42 => ((render_row_v1.f k i0_0 i0_1 i0_2 i0_3 t42 w1 y3).bind fun t45 => ((lsub t45 (wr64 (4 * x2)) (t45.length : Int)).bind fun y48 => ((lgt y48 0).bind fun x54 => ((lgt y48 1).bind fun x56 => ((lgt y48 2).bind fun x58 => ((lgt y48 3).bind fun x60 => (some (x54, x56, x58, x60, 0)))))))))))))) else (some (0, 0, 0, 0, t33)))
theorem render_Pixel_v1.ok {S : Seal} {k : Nat} {i0_0 i0_1 i0_2 : Int} {i0_3 : List (Int × Int × Int × Int)} {i0_4 : List (Int × Int × Int × Int × Int × Int × Int × Int × Int × Int × List (Int × Int × List (Int × Int × Int × Int × Int × Int × Int) × Bool))} {w1 x2 y3 r0_ r1_ r2_ r3_ r4_ : Int}{A_ : Int → Addr} (hE_ : EO gsE S A_ 157) {a_i0_3 : Option Addr} {c_i0_3 : Nat} (h_i0_3 : SlE S E_u84 i0_3 a_i0_3) {a_i0_4 : Option Addr} {c_i0_4 : Nat} (h_i0_4 : SlN (rdOf [] S) N_1 i0_4 a_i0_4) (e : render_Pixel_v1.f k i0_0 i0_1 i0_2 i0_3 i0_4 w1 x2 y3 = some (r0_, r1_, r2_, r3_, r4_)) :
    Cal Tryd.prog 16 [.agg #[vI i0_0, vI i0_1, vI i0_2, .slice a_i0_3 i0_3.length c_i0_3, .slice a_i0_4 i0_4.length c_i0_4], vI w1, vI x2, vI y3] [] S fun v H' S' => v = .tuple #[.agg #[.int .u8 r0_, .int .u8 r1_, .int .u8 r2_, .int .u8 r3_], errV 157 A_ r4_] ∧ H' = [] ∧ S' = S := by
 unfold render_Pixel_v1.f at e
 refine cal_of (c := c16) (N := 54) Tryd.func16 rfl rfl (by kernel_rfl) (rs := [.cn 4 8, .t 9]) (by kernel_rfl) (Nat.le_of_ble_eq_true rfl) ?_
 unfold c16
 refine wx mixed 1 [] 2 [] fun b30 b31 => zWL [] ?_
 refine w_ (w_seq ?_)
 obtain ⟨⟨t32, t33⟩, h34, e⟩ := bind_of e
 try dsimp only at e
 refine wxM mixed 1 [1] 0 [(2, spP 17 [13, 14] (vs := [.agg #[vI i0_0, vI i0_1, vI i0_2, .slice a_i0_3 i0_3.length c_i0_3, .slice a_i0_4 i0_4.length c_i0_4], vI w1]) (render_Edges_v1.ok hE_ h_i0_4 h34))] (zWL [] ?_)
 refine w_ ?_
 by_cases c35 : t33 = 0
 ·rw [if_pos c35] at e
  have c35b : (t33 == 0) = true := beq_iff_eq.mpr c35
  refine wqM mixed [] 0 .nrm [(1, spE true 29 18 (.const .nilIface) (a := errV 157 A_ t33) (b := .nilIface) (r := t33 == 0) (eqErr (by kernel_rfl) rfl) (bnk c35b rfl))] (zQL [] ?_)
  refine w_ (w_seq ?_)
  by_cases c36 : x2 < 0
  ·rw [if_pos c36] at e
   have c36b : (decide (x2 < 0)) = true := decide_eq_true c36
   refine wxM mixed 1 [0] 0 [(1, spQ (.bin .lss 22 (.const (vI 0))) [vI x2, vI 0] (congrArg (fun t => some (Value.bool t)) c36b))] (zWL [] ?_)
   refine w_ (w_ct (w_ ?_))
   refine wxM mixed 1 [0] 0 [(1, spL1 (.global 0) 0 0 [] (fun _ => hE_.atc 0 1 (by decide) (by decide)))] (zWL [1] ?_)
   refine w_ (w_as [(8, vP b31 0), (9, .iface 157 (.pointer (some (A_ 1))))] ([⟨b31, [.int .u8 0, .int .u8 0, .int .u8 0, .int .u8 0], 4⟩] : List Own) ?_)
   refine w_ret ?_
   simp only [Option.some.injEq, Prod.mk.injEq] at e
   obtain ⟨rfl, rfl, rfl, rfl, rfl⟩ := e
   exact ⟨[_, _], [], S, ⟨⟨_, _, _, rfl, .at 0 rfl rfl, rfl⟩, rfl, trivial⟩, VS.none, rfl, rfl, rfl⟩
  ·rw [if_neg c36] at e
   have c36b : (decide (x2 < 0)) = false := decide_eq_false c36
   by_cases c37 : x2 ≥ w1
   ·rw [if_pos c37] at e
    have c37b : (decide (x2 ≥ w1)) = true := decide_eq_true c37
    refine wxM mixed 1 [0] 0 [(1, spQ (.bin .lss 22 (.const (vI 0))) [vI x2, vI 0] (congrArg (fun t => some (Value.bool t)) c36b)), (5, spQ (.bin .geq 25 26) [vI x2, vI w1] (congrArg (fun t => some (Value.bool t)) c37b))] (zWL [] ?_)
    refine w_ (w_ct (w_ ?_))
    refine wxM mixed 1 [0] 0 [(1, spL1 (.global 0) 0 0 [] (fun _ => hE_.atc 0 1 (by decide) (by decide)))] (zWL [1] ?_)
    refine w_ (w_as [(8, vP b31 0), (9, .iface 157 (.pointer (some (A_ 1))))] ([⟨b31, [.int .u8 0, .int .u8 0, .int .u8 0, .int .u8 0], 4⟩] : List Own) ?_)
    refine w_ret ?_
    simp only [Option.some.injEq, Prod.mk.injEq] at e
    obtain ⟨rfl, rfl, rfl, rfl, rfl⟩ := e
    exact ⟨[_, _], [], S, ⟨⟨_, _, _, rfl, .at 0 rfl rfl, rfl⟩, rfl, trivial⟩, VS.none, rfl, rfl, rfl⟩
   ·rw [if_neg c37] at e
    have c37b : (decide (x2 ≥ w1)) = false := decide_eq_false c37
    by_cases c38 : y3 < 0
    ·rw [if_pos c38] at e
     have c38b : (decide (y3 < 0)) = true := decide_eq_true c38
     refine wxM mixed 1 [0] 0 [(1, spQ (.bin .lss 22 (.const (vI 0))) [vI x2, vI 0] (congrArg (fun t => some (Value.bool t)) c36b)), (5, spQ (.bin .geq 25 26) [vI x2, vI w1] (congrArg (fun t => some (Value.bool t)) c37b)), (9, spQ (.bin .lss 30 (.const (vI 0))) [vI y3, vI 0] (congrArg (fun t => some (Value.bool t)) c38b))] (zWL [] ?_)
     refine w_ (w_ct (w_ ?_))
     refine wxM mixed 1 [0] 0 [(1, spL1 (.global 0) 0 0 [] (fun _ => hE_.atc 0 1 (by decide) (by decide)))] (zWL [1] ?_)
     refine w_ (w_as [(8, vP b31 0), (9, .iface 157 (.pointer (some (A_ 1))))] ([⟨b31, [.int .u8 0, .int .u8 0, .int .u8 0, .int .u8 0], 4⟩] : List Own) ?_)
     refine w_ret ?_
     simp only [Option.some.injEq, Prod.mk.injEq] at e
     obtain ⟨rfl, rfl, rfl, rfl, rfl⟩ := e
     exact ⟨[_, _], [], S, ⟨⟨_, _, _, rfl, .at 0 rfl rfl, rfl⟩, rfl, trivial⟩, VS.none, rfl, rfl, rfl⟩
    ·rw [if_neg c38] at e
     have c38b : (decide (y3 < 0)) = false := decide_eq_false c38
     obtain ⟨t39, h40, e⟩ := bind_of e
     by_cases c41 : y3 ≥ t39
     ·rw [if_pos c41] at e
      have c41b : (decide (y3 ≥ t39)) = true := decide_eq_true c41
      refine wxM mixed 1 [1] 0 [(1, spQ (.bin .lss 22 (.const (vI 0))) [vI x2, vI 0] (congrArg (fun t => some (Value.bool t)) c36b)), (5, spQ (.bin .geq 25 26) [vI x2, vI w1] (congrArg (fun t => some (Value.bool t)) c37b)), (9, spQ (.bin .lss 30 (.const (vI 0))) [vI y3, vI 0] (congrArg (fun t => some (Value.bool t)) c38b)), (15, spP 19 [35, 36] (vs := [.agg #[vI i0_0, vI i0_1, vI i0_2, .slice a_i0_3 i0_3.length c_i0_3, .slice a_i0_4 i0_4.length c_i0_4], vI w1]) (scale_Height_v1.ok hE_ h40)), (16, spQ (.bin .geq 34 37) [vI y3, vI t39] (congrArg (fun t => some (Value.bool t)) c41b))] (zWL [] ?_)
      refine w_ (w_ct (w_ ?_))
      refine wxM mixed 1 [0] 0 [(1, spL1 (.global 0) 0 0 [] (fun _ => hE_.atc 0 1 (by decide) (by decide)))] (zWL [1] ?_)
      refine w_ (w_as [(8, vP b31 0), (9, .iface 157 (.pointer (some (A_ 1))))] ([⟨b31, [.int .u8 0, .int .u8 0, .int .u8 0, .int .u8 0], 4⟩] : List Own) ?_)
      refine w_ret ?_
      simp only [Option.some.injEq, Prod.mk.injEq] at e
      obtain ⟨rfl, rfl, rfl, rfl, rfl⟩ := e
      exact ⟨[_, _], [], S, ⟨⟨_, _, _, rfl, .at 0 rfl rfl, rfl⟩, rfl, trivial⟩, VS.none, rfl, rfl, rfl⟩
     ·rw [if_neg c41] at e
      have c41b : (decide (y3 ≥ t39)) = false := decide_eq_false c41
      refine wqM mixed [1] 0 .nrm [(1, spQ (.bin .lss 22 (.const (vI 0))) [vI x2, vI 0] (congrArg (fun t => some (Value.bool t)) c36b)), (5, spQ (.bin .geq 25 26) [vI x2, vI w1] (congrArg (fun t => some (Value.bool t)) c37b)), (9, spQ (.bin .lss 30 (.const (vI 0))) [vI y3, vI 0] (congrArg (fun t => some (Value.bool t)) c38b)), (15, spP 19 [35, 36] (vs := [.agg #[vI i0_0, vI i0_1, vI i0_2, .slice a_i0_3 i0_3.length c_i0_3, .slice a_i0_4 i0_4.length c_i0_4], vI w1]) (scale_Height_v1.ok hE_ h40)), (16, spQ (.bin .geq 34 37) [vI y3, vI t39] (congrArg (fun t => some (Value.bool t)) c41b))] (zQL [] ?_)
      refine w_ (w_seq (w_as [(1, vI w1), (2, vI x2), (3, vI y3), (4, vP b30 0), (8, vP b31 0)] ([⟨b31, [.int .u8 0, .int .u8 0, .int .u8 0, .int .u8 0], 4⟩, ⟨b30, [vI i0_0, vI i0_1, vI i0_2, .slice a_i0_3 i0_3.length c_i0_3, .slice a_i0_4 i0_4.length c_i0_4], 5⟩] : List Own) ?_))
      obtain ⟨t42, h43, e⟩ := bind_of e
      obtain ⟨t45, h46, e⟩ := bind_of e
      obtain ⟨y48, hl49, e⟩ := bind_of e
      obtain ⟨x54, hx55, e⟩ := bind_of e
      obtain ⟨x56, hx57, e⟩ := bind_of e
      obtain ⟨x58, hx59, e⟩ := bind_of e
      obtain ⟨x60, hx61, e⟩ := bind_of e
      refine wk [(1, vI w1), (2, vI x2), (3, vI y3), (4, vP b30 0), (8, vP b31 0)] (w_gameQ mixed (by kernel_rfl) fun all G hend hstep hqf => ?_)
      have hg_3fff : ∀ (N47 : Option Nat) (nN47 : Nat) (Q44a0 : Option Addr) (Q44c0 : Nat) (Q44F : List Own) (Q44h0 : SlN (rdOf (Q44F ++ []) S) N_2 t42 Q44a0), G [true, true, true, true, true, true, true, true, true, true, true, true, true, true] [(8, vP b31 0), (9, .nilIface)] (([⟨N47, encL E_u8 t45, nN47⟩, ⟨b31, [.int .u8 x54, .int .u8 x56, .int .u8 x58, .int .u8 x60], 4⟩, ⟨b30, [vI i0_0, vI i0_1, vI i0_2, .slice a_i0_3 i0_3.length c_i0_3, .slice a_i0_4 i0_4.length c_i0_4], 5⟩] : List Own) ++ (Q44F ++ [])) := by
       intro N47 nN47 Q44a0 Q44c0 Q44F Q44h0
       refine hend _ _ _ (by kernel_rfl) ?_
       refine w_ (w_ret ?_)
       simp only [Option.some.injEq, Prod.mk.injEq] at e
       obtain ⟨rfl, rfl, rfl, rfl, rfl⟩ := e
       exact ⟨[_, _], [], S, ⟨⟨_, _, _, rfl, .at 1 rfl rfl, rfl⟩, rfl, trivial⟩, VS.none, rfl, rfl, rfl⟩
      have hg_1bf : ∀ (Q44a0 : Option Addr) (Q44c0 : Nat) (Q44F : List Own) (Q44h0 : SlN (rdOf (Q44F ++ []) S) N_2 t42 Q44a0), G [true, true, true, true, true, true, false, true, true, false, false, false, false, false] [(8, vP b31 0), (42, .agg #[vI i0_0, vI i0_1, vI i0_2, .slice a_i0_3 i0_3.length c_i0_3, .slice a_i0_4 i0_4.length c_i0_4]), (45, .slice Q44a0 t42.length Q44c0), (46, vI w1), (47, vI y3), (50, vI (wr64 (4 * x2)))] (([⟨b31, [.int .u8 0, .int .u8 0, .int .u8 0, .int .u8 0], 4⟩, ⟨b30, [vI i0_0, vI i0_1, vI i0_2, .slice a_i0_3 i0_3.length c_i0_3, .slice a_i0_4 i0_4.length c_i0_4], 5⟩] : List Own) ++ (Q44F ++ [])) := by
       intro Q44a0 Q44c0 Q44F Q44h0
       refine hstep [6] _ _ _ (by kernel_rfl) (List.cons_ne_nil _ _) ⟨?_, trivial⟩
       ·refine tT (t_call (vs := [.agg #[vI i0_0, vI i0_1, vI i0_2, .slice a_i0_3 i0_3.length c_i0_3, .slice a_i0_4 i0_4.length c_i0_4], .slice Q44a0 t42.length Q44c0, vI w1, vI y3]) (H1 := ((Q44F ++ []) ++ [])) (F := ([⟨b31, [.int .u8 0, .int .u8 0, .int .u8 0, .int .u8 0], 4⟩, ⟨b30, [vI i0_0, vI i0_1, vI i0_2, .slice a_i0_3 i0_3.length c_i0_3, .slice a_i0_4 i0_4.length c_i0_4], 5⟩] : List Own)) rfl rfl (by kernel_rfl) (tree_perm (.a (.l ([⟨b31, [.int .u8 0, .int .u8 0, .int .u8 0, .int .u8 0], 4⟩, ⟨b30, [vI i0_0, vI i0_1, vI i0_2, .slice a_i0_3 i0_3.length c_i0_3, .slice a_i0_4 i0_4.length c_i0_4], 5⟩] : List Own)) (.a (.f Q44F) (.l []))) (.a (.a (.f Q44F) (.l [])) (.l ([] : List Own))) (.l ([⟨b31, [.int .u8 0, .int .u8 0, .int .u8 0, .int .u8 0], 4⟩, ⟨b30, [vI i0_0, vI i0_1, vI i0_2, .slice a_i0_3 i0_3.length c_i0_3, .slice a_i0_4 i0_4.length c_i0_4], 5⟩] : List Own)) [2] (by kernel_rfl)) (cal_lendF (Qc := fun v_ H_ => ∃ (N47 : Option Nat) (nN47 : Nat), v_ = (.slice (ad N47) t45.length (nN47 / 1)) ∧ H_ = ([⟨N47, encL E_u8 t45, nN47⟩] : List Own)) (Q44F ++ []) fun S1_ le1_ hp1_ hs1_ hn1_ ex1_ => (render_row_v1.ok (EO.mono hE_ le1_ hp1_) (SlE.mono h_i0_3 le1_) (SlN.mono Q44h0 (rd_lend hs1_ le1_ (sub_app (seg_in 0 (X := (Q44F ++ [])) rfl seg_hd) sub_nil))) h46).mono fun _ _ _ ⟨N47, nN47, h1_, h2_, h3_⟩ => ⟨⟨N47, nN47, h1_, h2_⟩, h3_⟩) ?_)
        rintro _ _ S_ ⟨⟨_, rfl, N47, nN47, rfl, rfl⟩, hS_⟩
        obtain rfl := hS_.symm
        refine t_vs (H' := (([⟨N47, encL E_u8 t45, nN47⟩, ⟨b31, [.int .u8 0, .int .u8 0, .int .u8 0, .int .u8 0], 4⟩, ⟨b30, [vI i0_0, vI i0_1, vI i0_2, .slice a_i0_3 i0_3.length c_i0_3, .slice a_i0_4 i0_4.length c_i0_4], 5⟩] : List Own) ++ (Q44F ++ []))) (S' := S) (VS.treeA (.a (.a (.a (.f Q44F) (.l [])) (.l ([⟨N47, encL E_u8 t45, nN47⟩] : List Own))) (.l ([⟨b31, [.int .u8 0, .int .u8 0, .int .u8 0, .int .u8 0], 4⟩, ⟨b30, [vI i0_0, vI i0_1, vI i0_2, .slice a_i0_3 i0_3.length c_i0_3, .slice a_i0_4 i0_4.length c_i0_4], 5⟩] : List Own))) (.a (.l ([⟨N47, encL E_u8 t45, nN47⟩, ⟨b31, [.int .u8 0, .int .u8 0, .int .u8 0, .int .u8 0], 4⟩, ⟨b30, [vI i0_0, vI i0_1, vI i0_2, .slice a_i0_3 i0_3.length c_i0_3, .slice a_i0_4 i0_4.length c_i0_4], 5⟩] : List Own)) (.a (.f Q44F) (.l []))) [1, 1, 1, 0] (by kernel_rfl)) ?_
        refine tf [(8, vP b31 0), (48, .slice (ad N47) t45.length (nN47 / 1)), (50, vI (wr64 (4 * x2)))] ?_
        refine hstep [9] _ _ _ (by kernel_rfl) (List.cons_ne_nil _ _) ⟨?_, trivial⟩
        ·refine tT (t_v (.quietH rfl (by intro h_; cases h_) (cutQ (E := E_u8) (j := 0) rfl (by decide) hl49 rfl (.is rfl) .no rfl)) (tf [(8, vP b31 0), (51, .slice (some ⟨bk N47, (cq nN47 1 (wr64 (4 * x2))), none⟩) y48.length (cc nN47 1 (wr64 (4 * x2))))] ?_))
         refine hstep [10] _ _ _ (by kernel_rfl) (List.cons_ne_nil _ _) ⟨?_, trivial⟩
         ·refine tT (t_v (.quiet rfl (s2a_q rfl (le4 hx61))) (tf [(8, vP b31 0), (52, vP (bk N47) ((cq nN47 1 (wr64 (4 * x2))) + 0))] ?_))
          refine hstep [11] _ _ _ (by kernel_rfl) (List.cons_ne_nil _ _) ⟨?_, trivial⟩
          ·refine tT (t_v (.ldnH (vs := [.int .u8 x54, .int .u8 x56, .int .u8 x58, .int .u8 x60]) rfl rfl rfl (fun w_ h_ => .lst 0 rfl (subl_sub (SlV.arr4 (E := E_u8) (cutV rfl (by decide) (HOK.le h_ (j := 0) rfl) hl49) hx55 hx57 hx59 hx61).1 (by kernel_rfl)))) (tf [(8, vP b31 0), (53, .agg #[.int .u8 x54, .int .u8 x56, .int .u8 x58, .int .u8 x60])] ?_))
           refine hstep [12] _ _ _ (by kernel_rfl) (List.cons_ne_nil _ _) ⟨?_, trivial⟩
           ·refine tT (t_sti 1 (cs := [.int .u8 x54, .int .u8 x56, .int .u8 x58, .int .u8 x60]) rfl rfl rfl rfl rfl rfl rfl rfl rfl ?_)
            exact t_fin0 (hqf 13 [8, 9] _ _ _ _ (by kernel_rfl) (by kernel_rfl) (hg_3fff N47 nN47 Q44a0 Q44c0 Q44F Q44h0))
      have hg_1b7 : G [true, true, true, false, true, true, false, true, true, false, false, false, false, false] [(8, vP b31 0), (42, .agg #[vI i0_0, vI i0_1, vI i0_2, .slice a_i0_3 i0_3.length c_i0_3, .slice a_i0_4 i0_4.length c_i0_4]), (43, .agg #[vI i0_0, vI i0_1, vI i0_2, .slice a_i0_3 i0_3.length c_i0_3, .slice a_i0_4 i0_4.length c_i0_4]), (44, vI w1), (46, vI w1), (47, vI y3), (50, vI (wr64 (4 * x2)))] ([⟨b31, [.int .u8 0, .int .u8 0, .int .u8 0, .int .u8 0], 4⟩, ⟨b30, [vI i0_0, vI i0_1, vI i0_2, .slice a_i0_3 i0_3.length c_i0_3, .slice a_i0_4 i0_4.length c_i0_4], 5⟩] : List Own) := by
       refine hstep [3] _ _ _ (by kernel_rfl) (List.cons_ne_nil _ _) ⟨?_, trivial⟩
       ·refine tT (t_call (vs := [.agg #[vI i0_0, vI i0_1, vI i0_2, .slice a_i0_3 i0_3.length c_i0_3, .slice a_i0_4 i0_4.length c_i0_4], vI w1]) (H1 := []) (F := ([⟨b31, [.int .u8 0, .int .u8 0, .int .u8 0, .int .u8 0], 4⟩, ⟨b30, [vI i0_0, vI i0_1, vI i0_2, .slice a_i0_3 i0_3.length c_i0_3, .slice a_i0_4 i0_4.length c_i0_4], 5⟩] : List Own)) rfl rfl (by kernel_rfl) (sel_perm (is := []) (by kernel_rfl)) (render_layers_v1.ok hE_ h_i0_4 h43) ?_)
        rintro _ _ S_ ⟨Q44a0, Q44c0, Q44F, rfl, rfl, hS_, Q44h0⟩
        obtain rfl := hS_.symm
        refine t_vs (H' := (([⟨b31, [.int .u8 0, .int .u8 0, .int .u8 0, .int .u8 0], 4⟩, ⟨b30, [vI i0_0, vI i0_1, vI i0_2, .slice a_i0_3 i0_3.length c_i0_3, .slice a_i0_4 i0_4.length c_i0_4], 5⟩] : List Own) ++ (Q44F ++ []))) (S' := S) (VS.treeA (.a (.a (.f Q44F) (.l [])) (.l ([⟨b31, [.int .u8 0, .int .u8 0, .int .u8 0, .int .u8 0], 4⟩, ⟨b30, [vI i0_0, vI i0_1, vI i0_2, .slice a_i0_3 i0_3.length c_i0_3, .slice a_i0_4 i0_4.length c_i0_4], 5⟩] : List Own))) (.a (.l ([⟨b31, [.int .u8 0, .int .u8 0, .int .u8 0, .int .u8 0], 4⟩, ⟨b30, [vI i0_0, vI i0_1, vI i0_2, .slice a_i0_3 i0_3.length c_i0_3, .slice a_i0_4 i0_4.length c_i0_4], 5⟩] : List Own)) (.a (.f Q44F) (.l []))) [1, 1, 0] (by kernel_rfl)) ?_
        exact tfx (hg_1bf Q44a0 Q44c0 Q44F Q44h0)
      have hg_1b4 : G [false, false, true, false, true, true, false, true, true, false, false, false, false, false] [(4, vP b30 0), (8, vP b31 0), (44, vI w1), (46, vI w1), (47, vI y3), (50, vI (wr64 (4 * x2)))] ([⟨b31, [.int .u8 0, .int .u8 0, .int .u8 0, .int .u8 0], 4⟩, ⟨b30, [vI i0_0, vI i0_1, vI i0_2, .slice a_i0_3 i0_3.length c_i0_3, .slice a_i0_4 i0_4.length c_i0_4], 5⟩] : List Own) := by
       refine hstep [0, 1] _ _ _ (by kernel_rfl) (List.cons_ne_nil _ _) ⟨?_, ?_, trivial⟩
       ·refine tT (t_v (.ldn rfl rfl rfl (.at 1 rfl rfl)) (tf [(4, vP b30 0), (8, vP b31 0), (42, .agg #[vI i0_0, vI i0_1, vI i0_2, .slice a_i0_3 i0_3.length c_i0_3, .slice a_i0_4 i0_4.length c_i0_4]), (44, vI w1), (46, vI w1), (47, vI y3), (50, vI (wr64 (4 * x2)))] ?_))
        refine hstep [1] _ _ _ (by kernel_rfl) (List.cons_ne_nil _ _) ⟨?_, trivial⟩
        ·refine tT (t_v (.ldn rfl rfl rfl (.at 1 rfl rfl)) ?_)
         exact tfx hg_1b7
       ·refine tT (t_v (.ldn rfl rfl rfl (.at 1 rfl rfl)) (tf [(4, vP b30 0), (8, vP b31 0), (43, .agg #[vI i0_0, vI i0_1, vI i0_2, .slice a_i0_3 i0_3.length c_i0_3, .slice a_i0_4 i0_4.length c_i0_4]), (44, vI w1), (46, vI w1), (47, vI y3), (50, vI (wr64 (4 * x2)))] ?_))
        refine hstep [0, 3] _ _ _ (by kernel_rfl) (List.cons_ne_nil _ _) ⟨?_, ?_, trivial⟩
        ·refine tT (t_v (.ldn rfl rfl rfl (.at 1 rfl rfl)) ?_)
         exact tfx hg_1b7
        ·refine tT (t_call (vs := [.agg #[vI i0_0, vI i0_1, vI i0_2, .slice a_i0_3 i0_3.length c_i0_3, .slice a_i0_4 i0_4.length c_i0_4], vI w1]) (H1 := []) (F := ([⟨b31, [.int .u8 0, .int .u8 0, .int .u8 0, .int .u8 0], 4⟩, ⟨b30, [vI i0_0, vI i0_1, vI i0_2, .slice a_i0_3 i0_3.length c_i0_3, .slice a_i0_4 i0_4.length c_i0_4], 5⟩] : List Own)) rfl rfl (by kernel_rfl) (sel_perm (is := []) (by kernel_rfl)) (render_layers_v1.ok hE_ h_i0_4 h43) ?_)
         rintro _ _ S_ ⟨Q44a0, Q44c0, Q44F, rfl, rfl, hS_, Q44h0⟩
         obtain rfl := hS_.symm
         refine t_vs (H' := (([⟨b31, [.int .u8 0, .int .u8 0, .int .u8 0, .int .u8 0], 4⟩, ⟨b30, [vI i0_0, vI i0_1, vI i0_2, .slice a_i0_3 i0_3.length c_i0_3, .slice a_i0_4 i0_4.length c_i0_4], 5⟩] : List Own) ++ (Q44F ++ []))) (S' := S) (VS.treeA (.a (.a (.f Q44F) (.l [])) (.l ([⟨b31, [.int .u8 0, .int .u8 0, .int .u8 0, .int .u8 0], 4⟩, ⟨b30, [vI i0_0, vI i0_1, vI i0_2, .slice a_i0_3 i0_3.length c_i0_3, .slice a_i0_4 i0_4.length c_i0_4], 5⟩] : List Own))) (.a (.l ([⟨b31, [.int .u8 0, .int .u8 0, .int .u8 0, .int .u8 0], 4⟩, ⟨b30, [vI i0_0, vI i0_1, vI i0_2, .slice a_i0_3 i0_3.length c_i0_3, .slice a_i0_4 i0_4.length c_i0_4], 5⟩] : List Own)) (.a (.f Q44F) (.l []))) [1, 1, 0] (by kernel_rfl)) ?_
         refine tf [(4, vP b30 0), (8, vP b31 0), (45, .slice Q44a0 t42.length Q44c0), (46, vI w1), (47, vI y3), (50, vI (wr64 (4 * x2)))] ?_
         refine hstep [0] _ _ _ (by kernel_rfl) (List.cons_ne_nil _ _) ⟨?_, trivial⟩
         ·refine tT (t_v (.ldn rfl rfl rfl (.at 1 rfl rfl)) ?_)
          exact tfx (hg_1bf Q44a0 Q44c0 Q44F Q44h0)
      have hg_0 : G [false, false, false, false, false, false, false, false, false, false, false, false, false, false] [(1, vI w1), (2, vI x2), (3, vI y3), (4, vP b30 0), (8, vP b31 0)] ([⟨b31, [.int .u8 0, .int .u8 0, .int .u8 0, .int .u8 0], 4⟩, ⟨b30, [vI i0_0, vI i0_1, vI i0_2, .slice a_i0_3 i0_3.length c_i0_3, .slice a_i0_4 i0_4.length c_i0_4], 5⟩] : List Own) := by
       exact hqf 2 [1, 2, 3, 4, 8, 44] _ _ _ _ (by kernel_rfl) (by kernel_rfl) (hqf 4 [2, 3, 4, 8, 44, 46] _ [(1, vI w1), (2, vI x2), (3, vI y3), (4, vP b30 0), (8, vP b31 0), (44, vI w1)] _ _ (by kernel_rfl) (by kernel_rfl) (hqf 5 [2, 4, 8, 44, 46, 47] _ [(2, vI x2), (3, vI y3), (4, vP b30 0), (8, vP b31 0), (44, vI w1), (46, vI w1)] _ _ (by kernel_rfl) (by kernel_rfl) (hqf 7 [4, 8, 44, 46, 47, 49] _ [(2, vI x2), (4, vP b30 0), (8, vP b31 0), (44, vI w1), (46, vI w1), (47, vI y3)] _ _ (by kernel_rfl) (by kernel_rfl) (hqf 8 [4, 8, 44, 46, 47, 50] _ [(4, vP b30 0), (8, vP b31 0), (44, vI w1), (46, vI w1), (47, vI y3), (49, vI x2)] _ _ (by kernel_rfl) (by kernel_rfl) hg_1b4))))
      exact hg_0
 ·rw [if_neg c35] at e
  have c35b : (t33 == 0) = false := beq_eq_false_iff_ne.mpr c35
  refine wxM mixed 1 [] 0 [(1, spE true 29 18 (.const .nilIface) (a := errV 157 A_ t33) (b := .nilIface) (r := t33 == 0) (eqErr (by kernel_rfl) rfl) (bnk c35b rfl))] (zWL [] ?_)
  refine w_ (w_ct (w_ ?_))
  refine wxM mixed 1 [0] 0 [] (zWL [1] ?_)
  refine w_ (w_as [(8, vP b31 0), (9, errV 157 A_ t33)] ([⟨b31, [.int .u8 0, .int .u8 0, .int .u8 0, .int .u8 0], 4⟩] : List Own) ?_)
  refine w_ret ?_
  simp only [Option.some.injEq, Prod.mk.injEq] at e
  obtain ⟨rfl, rfl, rfl, rfl, rfl⟩ := e
  exact ⟨[_, _], [], S, ⟨⟨_, _, _, rfl, .at 0 rfl rfl, rfl⟩, rfl, trivial⟩, VS.none, rfl, rfl, rfl⟩

/-- glyphiclaw27.RenderRows -/
def c5 : C := (.seq (.reg [oq 4 (.mv (.const (vB false)))]) (.seq (.reg [oq 18 (.call 6 []), oq 5 (.mv 18)]) (.seq (.seq (.reg [oq 19 (.mv 5), oq 20 (.un .not 19)]) (.cond 20 (.seq (.reg [oq 4 (.mv (.const (vB false)))]) .ret) .skip)) (.seq (.seq (.reg [oq 21 (.mv 0), oq 22 (.lns 21), oq 23 (.bin .gtr 22 (.const (vI 200)))]) (.cond 23 (.seq (.reg [oq 24 (.mv 5), oq 4 (.mv 24)]) .ret) .skip)) (.seq (.reg [oq 25 (.mv 0), oq 26 (.bld [(.slice none 0 0), (vI 0)] [(0, 1, 25)]), oq 27 (.box 26), oq 28 (.call 9 [27]), oq 6 (.new [(vI 0), (vI 0), (vI 0), (.slice none 0 0), (.slice none 0 0)]), ⟨none, .st 5 6 28, none⟩]) (.seq (.reg [oq 29 (.mv 1), oq 30 (.call 15 [29, (.const (vI 7))]), oq 31 (.bin .add (.const (vI 1)) 30), oq 1 (.mv 31)]) (.seq (.reg [oq 33 (.ld (some 5) 6), oq 34 (.mv 1), oq 35 (.call 7 [33, 34]), oq 32 (.mv 35), oq 36 (.xt 0 32), oq 37 (.xt 1 32), oq 7 (.new [(vI 0), (vI 0), (.slice none 0 0)]), ⟨none, .st 3 7 36, none⟩, oq 8 (.mv 37)]) (.seq (.seq (.reg [oq 38 (.mv 8), oq 39 (.eqt true 29 38 (.const .nilIface))]) (.cond 39 (.seq (.reg [oq 40 (.mv 5), oq 41 (.mv 40), ⟨(some 42), .mv 8, (some (41, true))⟩, ⟨(some 43), .call 14 [42, (.const (vI 113))], (some (41, true))⟩, oq 44 (.pk 41 43 (.const (vB false))), oq 4 (.mv 44)]) .ret) .skip)) (.seq (.seq (.reg [oq 45 (.pad 0 7), oq 46 (.ld none 45), oq 47 (.mv 1), oq 48 (.bin .neq 46 47), oq 49 (.mv 48), ⟨(some 50), .pad 1 7, (some (49, false))⟩, ⟨(some 51), .ld none 50, (some (49, false))⟩, ⟨(some 52), .bin .lss 51 (.const (vI 1)), (some (49, false))⟩, oq 53 (.pk 49 (.const (vB true)) 52), oq 54 (.mv 53), ⟨(some 55), .pad 2 7, (some (54, false))⟩, ⟨(some 56), .ld none 55, (some (54, false))⟩, ⟨(some 57), .lns 56, (some (54, false))⟩, ⟨(some 58), .pad 0 7, (some (54, false))⟩, ⟨(some 59), .ld none 58, (some (54, false))⟩, ⟨(some 60), .bin .mul (.const (vI 4)) 59, (some (54, false))⟩, ⟨(some 61), .pad 1 7, (some (54, false))⟩, ⟨(some 62), .ld none 61, (some (54, false))⟩, ⟨(some 63), .bin .mul 60 62, (some (54, false))⟩, ⟨(some 64), .bin .neq 57 63, (some (54, false))⟩, oq 65 (.pk 54 (.const (vB true)) 64)]) (.cond 65 (.seq (.reg [oq 4 (.mv (.const (vB false)))]) .ret) .skip)) (.seq (.seq (.reg [oq 9 (.mv (.const (vI 0)))]) (.block 0 (.loop (.seq (.seq (.reg [oq 66 (.mv 9), oq 67 (.bin .lss 66 (.const (vI 6)))]) (.cond 67 .skip (.exit 0))) (.seq (.block 1 (.seq (.reg [oq 70 (.mv 9), oq 71 (.bin .mul 70 (.const (vI 5))), oq 72 (.pad 0 7), oq 73 (.ld none 72), oq 74 (.bin .rem 71 73), oq 10 (.mv 74)]) (.seq (.reg [oq 75 (.mv 9), oq 76 (.bin .mul 75 (.const (vI 7))), oq 77 (.pad 1 7), oq 78 (.ld none 77), oq 79 (.bin .rem 76 78), oq 11 (.mv 79)]) (.seq (.reg [oq 81 (.ld (some 5) 6), oq 82 (.mv 1), oq 83 (.mv 10), oq 84 (.mv 11), oq 85 (.call 16 [81, 82, 83, 84]), oq 80 (.mv 85), oq 86 (.xt 0 80), oq 87 (.xt 1 80), oq 12 (.new [(.int .u8 0), (.int .u8 0), (.int .u8 0), (.int .u8 0)]), ⟨none, .st 4 12 86, none⟩, oq 13 (.mv 87)]) (.seq (.reg [oq 88 (.mv 11), oq 89 (.pad 0 7), oq 90 (.ld none 89), oq 91 (.bin .mul 88 90), oq 92 (.mv 10), oq 93 (.bin .add 91 92), oq 94 (.bin .mul (.const (vI 4)) 93), oq 14 (.mv 94)]) (.seq (.drw [oq 95 (.mv 13), oq 96 (.eqt true 29 95 (.const .nilIface)), oq 97 (.mv 96), ⟨(some 98), .ixa 1 4 12 (.const (vI 0)), (some (97, false))⟩, ⟨(some 99), .ld none 98, (some (97, false))⟩, ⟨(some 100), .pad 2 7, (some (97, false))⟩, ⟨(some 101), .ld none 100, (some (97, false))⟩, ⟨(some 102), .mv 14, (some (97, false))⟩, ⟨(some 103), .ixs 1 101 102, (some (97, false))⟩, ⟨(some 104), .ld none 103, (some (97, false))⟩, ⟨(some 105), .bin .neq 99 104, (some (97, false))⟩, oq 106 (.pk 97 (.const (vB true)) 105), oq 107 (.mv 106), ⟨(some 108), .ixa 1 4 12 (.const (vI 1)), (some (107, false))⟩, ⟨(some 109), .ld none 108, (some (107, false))⟩, ⟨(some 110), .pad 2 7, (some (107, false))⟩, ⟨(some 111), .ld none 110, (some (107, false))⟩, ⟨(some 112), .mv 14, (some (107, false))⟩, ⟨(some 113), .bin .add 112 (.const (vI 1)), (some (107, false))⟩, ⟨(some 114), .ixs 1 111 113, (some (107, false))⟩, ⟨(some 115), .ld none 114, (some (107, false))⟩, ⟨(some 116), .bin .neq 109 115, (some (107, false))⟩, oq 117 (.pk 107 (.const (vB true)) 116), oq 118 (.mv 117), ⟨(some 119), .ixa 1 4 12 (.const (vI 2)), (some (118, false))⟩, ⟨(some 120), .ld none 119, (some (118, false))⟩, ⟨(some 121), .pad 2 7, (some (118, false))⟩, ⟨(some 122), .ld none 121, (some (118, false))⟩, ⟨(some 123), .mv 14, (some (118, false))⟩, ⟨(some 124), .bin .add 123 (.const (vI 2)), (some (118, false))⟩, ⟨(some 125), .ixs 1 122 124, (some (118, false))⟩, ⟨(some 126), .ld none 125, (some (118, false))⟩, ⟨(some 127), .bin .neq 120 126, (some (118, false))⟩, oq 128 (.pk 118 (.const (vB true)) 127), oq 129 (.mv 128), ⟨(some 130), .ixa 1 4 12 (.const (vI 3)), (some (129, false))⟩, ⟨(some 131), .ld none 130, (some (129, false))⟩, ⟨(some 132), .pad 2 7, (some (129, false))⟩, ⟨(some 133), .ld none 132, (some (129, false))⟩, ⟨(some 134), .mv 14, (some (129, false))⟩, ⟨(some 135), .bin .add 134 (.const (vI 3)), (some (129, false))⟩, ⟨(some 136), .ixs 1 133 135, (some (129, false))⟩, ⟨(some 137), .ld none 136, (some (129, false))⟩, ⟨(some 138), .bin .neq 131 137, (some (129, false))⟩, oq 139 (.pk 129 (.const (vB true)) 138)] [[], [0], [1], [2], [3, 2], [2], [5, 2], [2], [6, 7, 2], [8, 2], [4, 9, 2], [2, 10], [11, 2], [12], [13, 12], [12], [15, 12], [12], [17, 12], [16, 18, 12], [19, 12], [14, 20, 12], [12, 21], [22, 12], [23], [24, 23], [23], [26, 23], [23], [28, 23], [27, 29, 23], [30, 23], [25, 31, 23], [23, 32], [33, 23], [34], [35, 34], [34], [37, 34], [34], [39, 34], [38, 40, 34], [41, 34], [36, 42, 34], [34, 43]]) (.cond 139 (.seq (.reg [oq 4 (.mv (.const (vB false)))]) .ret) .skip))))))) (.reg [oq 68 (.mv 9), oq 69 (.bin .add 68 (.const (vI 1))), oq 9 (.mv 69)])))))) (.seq (.reg [oq 141 (.pad 0 6), oq 142 (.ld none 141), oq 143 (.pad 1 6), oq 144 (.ld none 143), oq 145 (.bld [(vI 0), (vI 0), (vI 0), (.slice none 0 0), (.slice none 0 0)] [(0, 1, 142), (1, 1, 144)]), oq 146 (.mv 1), oq 147 (.call 7 [145, 146]), oq 140 (.mv 147), oq 148 (.xt 0 140), oq 149 (.xt 1 140), oq 15 (.new [(vI 0), (vI 0), (.slice none 0 0)]), ⟨none, .st 3 15 148, none⟩, oq 16 (.mv 149)]) (.seq (.seq (.reg [oq 17 (.mv (.const (vI 0)))]) (.block 2 (.loop (.seq (.seq (.reg [oq 150 (.mv 17), oq 151 (.pad 2 15), oq 152 (.ld none 151), oq 153 (.lns 152), oq 154 (.bin .lss 150 153)]) (.cond 154 .skip (.exit 2))) (.seq (.block 3 (.seq (.reg [oq 157 (.pad 2 15), oq 158 (.ld none 157), oq 159 (.mv 17), oq 160 (.ixs 1 158 159), oq 161 (.ld none 160), oq 162 (.bin .neq 161 (.const (.int .u8 0)))]) (.cond 162 (.seq (.reg [oq 4 (.mv (.const (vB false)))]) .ret) .skip))) (.reg [oq 155 (.mv 17), oq 156 (.bin .add 155 (.const (vI 1))), oq 17 (.mv 156)])))))) (.seq (.reg [oq 163 (.mv 5), oq 164 (.mv 163), ⟨(some 165), .mv 16, (some (164, true))⟩, ⟨(some 166), .eqt false 29 165 (.const .nilIface), (some (164, true))⟩, oq 167 (.pk 164 166 (.const (vB false))), oq 168 (.mv 167), ⟨(some 169), .pad 1 15, (some (168, true))⟩, ⟨(some 170), .ld none 169, (some (168, true))⟩, ⟨(some 171), .pad 1 7, (some (168, true))⟩, ⟨(some 172), .ld none 171, (some (168, true))⟩, ⟨(some 173), .bin .eql 170 172, (some (168, true))⟩, oq 174 (.pk 168 173 (.const (vB false))), oq 4 (.mv 174)]) .ret)))))))))))))
def glyphiclaw27_RenderRows.l0 : Nat → Int → Int → Int → List (Int × Int × Int × Int × Int × Int × Int × Int × Int × Int × List (Int × Int × List (Int × Int × Int × Int × Int × Int × Int) × Bool)) → List (Int × Int × Int × Int) → Int → Int → Int → List (Int) → Int → Option ((Bool) ⊕ (Unit))
  | 0, _, _, _, _, _, _, _, _, _, _ => none
  | k + 1, t5, t6, t7, t8, t9, t15, t17, t18, t20, x31 => if x31 < 6 then (if t17 = 0 then none else (if t18 = 0 then none else ((render_Pixel_v1.f k t5 t6 t7 t9 t8 (wr64 (1 + t15)) (Int.tmod (wr64 (x31 * 5)) t17) (Int.tmod (wr64 (x31 * 7)) t18)).bind fun (t35, t36, t37, t38, t39) => (if t39 = 0 then ((lgt t20 (wr64 (4 * (wr64 ((wr64 ((Int.tmod (wr64 (x31 * 7)) t18) * t17)) + (Int.tmod (wr64 (x31 * 5)) t17)))))).bind fun x43 => (if t35 = x43 then ((lgt t20 (wr64 ((wr64 (4 * (wr64 ((wr64 ((Int.tmod (wr64 (x31 * 7)) t18) * t17)) + (Int.tmod (wr64 (x31 * 5)) t17))))) + 1))).bind fun x46 => (if t36 = x46 then ((lgt t20 (wr64 ((wr64 (4 * (wr64 ((wr64 ((Int.tmod (wr64 (x31 * 7)) t18) * t17)) + (Int.tmod (wr64 (x31 * 5)) t17))))) + 2))).bind fun x49 => (if t37 = x49 then ((lgt t20 (wr64 ((wr64 (4 * (wr64 ((wr64 ((Int.tmod (wr64 (x31 * 7)) t18) * t17)) + (Int.tmod (wr64 (x31 * 5)) t17))))) + 3))).bind fun x52 => (if t38 = x52 then (glyphiclaw27_RenderRows.l0 k t5 t6 t7 t8 t9 t15 t17 t18 t20 (wr64 (x31 + 1))) else (some (.inl false)))) else (some (.inl false)))) else (some (.inl false)))) else (some (.inl false)))) else (some (.inl false)))))) else (some (.inr ()))
def glyphiclaw27_RenderRows.l1 : Nat → List (Int) → Int → Option ((Bool) ⊕ (Unit))
  | 0, _, _ => none
  | k + 1, t60, x67 => if x67 < (t60.length : Int) then ((lgt t60 x67).bind fun x69 => (if x69 = 0 then (glyphiclaw27_RenderRows.l1 k t60 (wr64 (x67 + 1))) else (some (.inl false)))) else (some (.inr ()))
def glyphiclaw27_RenderRows.f (k : Nat) (t0 : List (Int)) (o1 : Int) : Option (Bool) := (glyphiclaw27_first.f k).bind fun t1 => (if t1 = true then (if (t0.length : Int) > 200 then (some true) else ((glyphicmake_Icon_v1.f k t0 0).bind fun (t5, t6, t7, t8, t9, t10) => ((glyphicworld_Number.f o1 7).bind fun t15 => ((render_Frame_v1.f k t5 t6 t7 t9 t8 (wr64 (1 + t15))).bind fun (t17, t18, t19, t20) => (if t19 = 0 then (if t17 = (wr64 (1 + t15)) then (if t18 < 1 then (some false) else (if (t20.length : Int) = (wr64 ((wr64 (4 * t17)) * t18)) then ((glyphiclaw27_RenderRows.l0 k t5 t6 t7 t8 t9 t15 t17 t18 t20 0 : Option ((Bool) ⊕ (Unit))).bind fun s_ => match s_ with | .inl q76 => some q76 | .inr _ => ((render_Frame_v1.f k t5 t6 0 ([] : List (Int × Int × Int × Int)) ([] : List (Int × Int × Int × Int × Int × Int × Int × Int × Int × Int × List (Int × Int × List (Int × Int × Int × Int × Int × Int × Int) × Bool))) (wr64 (1 + t15))).bind fun (t57, t58, t59, t60) => ((glyphiclaw27_RenderRows.l1 k t60 0 : Option ((Bool) ⊕ (Unit))).bind fun s_ => match s_ with | .inl q75 => some q75 | .inr _ => (if t59 = 0 then (some (t58 == t18)) else (some false))))) else (some false))) else (some false)) else ((glyphicsee_Is_v1.f t19 113).bind fun t77 => (some t77))))))) else (some false))
theorem glyphiclaw27_RenderRows.ok {S : Seal} {k : Nat} {t0 : List (Int)} {o1 : Int} {A_ : Int → Addr} (hE_ : EO gsE S A_ 157) {a_t0 : Option Addr} {c_t0 : Nat} (h_t0 : SlE S E_i64 t0 a_t0) (e : glyphiclaw27_RenderRows.f k t0 o1 = some true) :
    Cal Tryd.prog 5 [.slice a_t0 t0.length c_t0, vI o1] [] S fun v H' S' => v = vB true ∧ H' = [] ∧ S' = S := by
 unfold glyphiclaw27_RenderRows.f at e
 refine cal_of (c := c5) (N := 175) Tryd.func5 rfl rfl (by kernel_rfl) (rs := [.t 4]) (by kernel_rfl) (Nat.le_of_ble_eq_true rfl) ?_
 unfold c5
 refine wx mixed 1 [] 0 [] (zWL [] ?_)
 refine w_ ?_
 obtain ⟨t1, h2, e⟩ := bind_of e
 cases t1 with
 | true =>
  rw [if_pos rfl] at e
  refine wxM mixed 2 [] 0 [(0, spP 6 [] (vs := []) (glyphiclaw27_first.ok hE_ h2))] (zWL [] ?_)
  refine w_ (w_seq ?_)
  by_cases c3 : (t0.length : Int) > 200
  ·rw [if_pos c3] at e
   have c3b : (decide ((t0.length : Int) > 200)) = true := decide_eq_true c3
   refine wxM mixed 1 [] 0 [(2, spQ (.bin .gtr 22 (.const (vI 200))) [vI (t0.length : Int), vI 200] (congrArg (fun t => some (Value.bool t)) c3b))] (zWL [] ?_)
   refine w_ (w_ct (w_ ?_))
   refine wxM mixed 1 [] 0 [] (zWL [] ?_)
   refine w_ (w_ret ?_)
   have hr_ := Option.some.inj e
   exact ⟨[_], [], S, ⟨(show gt _ _ = some _ from (by kernel_rfl)), trivial⟩, VS.none, congrArg Value.bool hr_, rfl, rfl⟩
  ·rw [if_neg c3] at e
   have c3b : (decide ((t0.length : Int) > 200)) = false := decide_eq_false c3
   refine wqM mixed [] 0 .nrm [(2, spQ (.bin .gtr 22 (.const (vI 200))) [vI (t0.length : Int), vI 200] (congrArg (fun t => some (Value.bool t)) c3b))] (zQL [] ?_)
   refine w_ (w_seq (w_reg fun all => txM 3 [] 1 [] fun b4 => zTL [] ?_))
   refine t_as [(1, vI o1), (5, vB true), (27, vP b4 0)] ([⟨b4, [.slice a_t0 t0.length c_t0, vI 0], 2⟩] : List Own) ?_
   obtain ⟨⟨t5, t6, t7, t8, t9, t10⟩, h11, e⟩ := bind_of e
   try dsimp only at e
   refine t_call (vs := [vP b4 0]) (H1 := ([⟨b4, [.slice a_t0 t0.length c_t0, vI 0], 2⟩] : List Own)) (F := ([] : List Own)) rfl rfl (by kernel_rfl) (sel_perm (is := [0]) (by kernel_rfl)) (glyphicmake_Icon_v1.ok hE_ h_t0 h11) ?_
   rintro _ _ S_ ⟨N12, nN12, Q13a0, Q13c0, Q13F, rfl, rfl, hS_, Q13h0⟩
   obtain rfl := hS_.symm
   refine t_vs (H' := (([⟨N12, encL E_u84 t9, nN12⟩, ⟨b4, [.slice a_t0 t0.length c_t0, vI t10], 2⟩] : List Own) ++ (Q13F ++ []))) (S' := S) (VS.treeA (.a (.a (.l ([⟨N12, encL E_u84 t9, nN12⟩, ⟨b4, [.slice a_t0 t0.length c_t0, vI t10], 2⟩] : List Own)) (.a (.f Q13F) (.l []))) (.l ([] : List Own))) (.a (.l ([⟨N12, encL E_u84 t9, nN12⟩, ⟨b4, [.slice a_t0 t0.length c_t0, vI t10], 2⟩] : List Own)) (.a (.f Q13F) (.l []))) [0, 0, 0] (by kernel_rfl)) ?_
   refine txF [Q13F] 2 [3] 1 [] fun b14 => zTL [1] ?_
   refine t_end (w_ ?_)
   obtain ⟨t15, h16, e⟩ := bind_of e
   refine wxM mixed 1 [] 0 [(1, spP 15 [29, (.const (vI 7))] (glyphicworld_Number.ok hE_ h16))] (zWL [] ?_)
   refine w_ (w_seq (w_reg fun all => ?_))
   refine txM 2 [0] 0 [] (zTL [] ?_)
   refine t_as [(1, vI (wr64 (1 + t15))), (5, vB true), (6, vP b14 0), (33, .agg #[vI t5, vI t6, vI t7, .slice (ad N12) t9.length (nN12 / 4), .slice Q13a0 t8.length Q13c0]), (34, vI (wr64 (1 + t15)))] (([⟨b14, [vI t5, vI t6, vI t7, .slice (ad N12) t9.length (nN12 / 4), .slice Q13a0 t8.length Q13c0], 5⟩, ⟨N12, encL E_u84 t9, nN12⟩] : List Own) ++ (Q13F ++ [])) ?_
   obtain ⟨⟨t17, t18, t19, t20⟩, h21, e⟩ := bind_of e
   try dsimp only at e
   refine t_call (vs := [.agg #[vI t5, vI t6, vI t7, .slice (ad N12) t9.length (nN12 / 4), .slice Q13a0 t8.length Q13c0], vI (wr64 (1 + t15))]) (H1 := ((([⟨N12, encL E_u84 t9, nN12⟩] : List Own) ++ (Q13F ++ [])) ++ [])) (F := ([⟨b14, [vI t5, vI t6, vI t7, .slice (ad N12) t9.length (nN12 / 4), .slice Q13a0 t8.length Q13c0], 5⟩] : List Own)) rfl rfl (by kernel_rfl) (tree_perm (.a (.l ([⟨b14, [vI t5, vI t6, vI t7, .slice (ad N12) t9.length (nN12 / 4), .slice Q13a0 t8.length Q13c0], 5⟩, ⟨N12, encL E_u84 t9, nN12⟩] : List Own)) (.a (.f Q13F) (.l []))) (.a (.a (.l ([⟨N12, encL E_u84 t9, nN12⟩] : List Own)) (.a (.f Q13F) (.l []))) (.l ([] : List Own))) (.l ([⟨b14, [vI t5, vI t6, vI t7, .slice (ad N12) t9.length (nN12 / 4), .slice Q13a0 t8.length Q13c0], 5⟩] : List Own)) [1, 1] (by kernel_rfl)) (cal_lendF (Qc := fun v_ H_ => ∃ (N22 : Option Nat) (nN22 : Nat), v_ = (.tuple #[.agg #[vI t17, vI t18, .slice (ad N22) t20.length (nN22 / 1)], errV 157 A_ t19]) ∧ H_ = ([⟨N22, encL E_u8 t20, nN22⟩] : List Own)) (([⟨N12, encL E_u84 t9, nN12⟩] : List Own) ++ (Q13F ++ [])) fun S1_ le1_ hp1_ hs1_ hn1_ ex1_ => (render_Frame_v1.ok (EO.mono hE_ le1_ hp1_) (SlE.ofAd (E := E_u84) (L := t9) (hn1_ _ (mem_at 0 rfl)) (by decide)) (SlN.mono Q13h0 (rd_lend hs1_ le1_ (sub_app (seg_in 1 (X := (Q13F ++ [])) rfl seg_hd) sub_nil))) h21).mono fun _ _ _ ⟨N22, nN22, h1_, h2_, h3_⟩ => ⟨⟨N22, nN22, h1_, h2_⟩, h3_⟩) ?_
   rintro _ _ S_ ⟨⟨_, rfl, N22, nN22, rfl, rfl⟩, hS_⟩
   obtain rfl := hS_.symm
   refine t_vs (H' := (([⟨N12, encL E_u84 t9, nN12⟩, ⟨N22, encL E_u8 t20, nN22⟩, ⟨b14, [vI t5, vI t6, vI t7, .slice (ad N12) t9.length (nN12 / 4), .slice Q13a0 t8.length Q13c0], 5⟩] : List Own) ++ (Q13F ++ []))) (S' := S) (VS.treeA (.a (.a (.a (.l ([⟨N12, encL E_u84 t9, nN12⟩] : List Own)) (.a (.f Q13F) (.l []))) (.l ([⟨N22, encL E_u8 t20, nN22⟩] : List Own))) (.l ([⟨b14, [vI t5, vI t6, vI t7, .slice (ad N12) t9.length (nN12 / 4), .slice Q13a0 t8.length Q13c0], 5⟩] : List Own))) (.a (.l ([⟨N12, encL E_u84 t9, nN12⟩, ⟨N22, encL E_u8 t20, nN22⟩, ⟨b14, [vI t5, vI t6, vI t7, .slice (ad N12) t9.length (nN12 / 4), .slice Q13a0 t8.length Q13c0], 5⟩] : List Own)) (.a (.f Q13F) (.l []))) [0, 1, 1, 0] (by kernel_rfl)) ?_
   refine txF [Q13F] 6 [4] 1 [] fun b23 => zTL [] ?_
   refine t_end (w_ (w_seq ?_))
   by_cases c24 : t19 = 0
   ·rw [if_pos c24] at e
    have c24b : (t19 == 0) = true := beq_iff_eq.mpr c24
    refine wqM mixed [] 0 .nrm [(1, spE true 29 38 (.const .nilIface) (a := errV 157 A_ t19) (b := .nilIface) (r := t19 == 0) (eqErr (by kernel_rfl) rfl) (bnk c24b rfl))] (zQL [] ?_)
    refine w_ (w_seq ?_)
    by_cases c25 : t17 = (wr64 (1 + t15))
    ·rw [if_pos c25] at e
     have c25b : (t17 == (wr64 (1 + t15))) = true := beq_iff_eq.mpr c25
     by_cases c26 : t18 < 1
     ·rw [if_pos c26] at e
      exact absurd (Option.some.inj e) (by decide)
     ·rw [if_neg c26] at e
      have c26b : (decide (t18 < 1)) = false := decide_eq_false c26
      by_cases c27 : (t20.length : Int) = (wr64 ((wr64 (4 * t17)) * t18))
      ·rw [if_pos c27] at e
       have c27b : ((t20.length : Int) == (wr64 ((wr64 (4 * t17)) * t18))) = true := beq_iff_eq.mpr c27
       refine wqM mixed [0, 0, 0, 0, 0] 0 .nrm [(3, spQ (.bin .neq 46 47) [vI t17, vI (wr64 (1 + t15))] (congrArg (fun t => some (Value.bool (!t))) c25b)), (7, spQ (.bin .lss 51 (.const (vI 1))) [vI t18, vI 1] (congrArg (fun t => some (Value.bool t)) c26b)), (19, spQ (.bin .neq 57 63) [vI (t20.length : Int), vI (wr64 ((wr64 (4 * t17)) * t18))] (congrArg (fun t => some (Value.bool (!t))) c27b))] (zQL [] ?_)
       refine w_ ?_
       obtain ⟨s30, e29, e⟩ := bind_of e
       refine w_cut [1, 5, 6, 7] (fun σ_ H_ S_ => ∃ u_ : Unit, s30 = .inr u_ ∧ [(1, vI (wr64 (1 + t15))), (5, vB true), (6, vP b14 0), (7, vP b23 0)] = σ_ ∧ (([⟨b23, [vI t17, vI t18, .slice (ad N22) t20.length (nN22 / 1)], 3⟩, ⟨b14, [vI t5, vI t6, vI t7, .slice (ad N12) t9.length (nN12 / 4), .slice Q13a0 t8.length Q13c0], 5⟩, ⟨N22, encL E_u8 t20, nN22⟩, ⟨N12, encL E_u84 t9, nN12⟩] : List Own) ++ (Q13F ++ [])) = H_ ∧ S = S_) ?_ ?_
       ·refine w_ ?_
        refine wxM mixed 1 [] 0 [] (zWL [] ?_)
        refine w_ (w_block (wk [(1, vI (wr64 (1 + t15))), (5, vB true), (6, vP b14 0), (7, vP b23 0), (9, vI 0)] (w_vs (H' := (([⟨b23, [vI t17, vI t18, .slice (ad N22) t20.length (nN22 / 1)], 3⟩, ⟨N12, encL E_u84 t9, nN12⟩, ⟨N22, encL E_u8 t20, nN22⟩, ⟨b14, [vI t5, vI t6, vI t7, .slice (ad N12) t9.length (nN12 / 4), .slice Q13a0 t8.length Q13c0], 5⟩] : List Own) ++ (Q13F ++ []))) (S' := S) (VS.lb [0, 0, 0, 0, 0] (by kernel_rfl)) ?_)))
        refine w_loop (fun n_ σ_ H_ S_ => ∃ (x31 : Int), [(1, vI (wr64 (1 + t15))), (5, vB true), (6, vP b14 0), (7, vP b23 0), (9, vI x31)] = σ_ ∧ (([⟨b23, [vI t17, vI t18, .slice (ad N22) t20.length (nN22 / 1)], 3⟩, ⟨N12, encL E_u84 t9, nN12⟩, ⟨N22, encL E_u8 t20, nN22⟩, ⟨b14, [vI t5, vI t6, vI t7, .slice (ad N12) t9.length (nN12 / 4), .slice Q13a0 t8.length Q13c0], 5⟩] : List Own) ++ (Q13F ++ [])) = H_ ∧ S = S_ ∧ glyphiclaw27_RenderRows.l0 n_ t5 t6 t7 t8 t9 t15 t17 t18 t20 x31 = some s30) _ ⟨0, rfl, rfl, rfl, e29⟩ ?_
        rintro n56 σ_ H_ S_ ⟨x31, rfl, rfl, rfl, e29⟩
        cases n56 with
        | zero => rw [glyphiclaw27_RenderRows.l0.eq_1] at e29; cases e29
        | succ k_ =>
         rw [glyphiclaw27_RenderRows.l0.eq_2] at e29
         by_cases c32 : x31 < 6
         ·rw [if_pos c32] at e29
          have c32b : (decide (x31 < 6)) = true := decide_eq_true c32
          refine wxF mixed [Q13F] 1 [] 0 [(1, spQ (.bin .lss 66 (.const (vI 6))) [vI x31, vI 6] (congrArg (fun t => some (Value.bool t)) c32b))] (zWL [] ?_)
          refine w_ (w_seq (w_block ?_))
          have c33 : ¬ t17 = 0 := by
           intro h_; rw [if_pos h_] at e29; cases e29
          rw [if_neg c33] at e29
          have c34 : ¬ t18 = 0 := by
           intro h_; rw [if_pos h_] at e29; cases e29
          rw [if_neg c34] at e29
          refine wxM mixed 2 [0, 0] 0 [(4, spQ (.bin .rem 71 73) [vI (wr64 (x31 * 5)), vI t17] (qv_rem rfl rfl c33)), (10, spQ (.bin .rem 76 78) [vI (wr64 (x31 * 7)), vI t18] (qv_rem rfl rfl c34))] (zWL [] ?_)
          refine w_ (w_seq (w_reg fun all => ?_))
          refine txM 4 [3] 0 [] (zTL [] ?_)
          refine t_as [(1, vI (wr64 (1 + t15))), (5, vB true), (6, vP b14 0), (7, vP b23 0), (9, vI x31), (10, vI (Int.tmod (wr64 (x31 * 5)) t17)), (11, vI (Int.tmod (wr64 (x31 * 7)) t18)), (81, .agg #[vI t5, vI t6, vI t7, .slice (ad N12) t9.length (nN12 / 4), .slice Q13a0 t8.length Q13c0]), (82, vI (wr64 (1 + t15))), (83, vI (Int.tmod (wr64 (x31 * 5)) t17)), (84, vI (Int.tmod (wr64 (x31 * 7)) t18))] (([⟨b23, [vI t17, vI t18, .slice (ad N22) t20.length (nN22 / 1)], 3⟩, ⟨N12, encL E_u84 t9, nN12⟩, ⟨N22, encL E_u8 t20, nN22⟩, ⟨b14, [vI t5, vI t6, vI t7, .slice (ad N12) t9.length (nN12 / 4), .slice Q13a0 t8.length Q13c0], 5⟩] : List Own) ++ (Q13F ++ [])) ?_
          obtain ⟨⟨t35, t36, t37, t38, t39⟩, h40, e29⟩ := bind_of e29
          try dsimp only at e29
          refine t_v (.callr (vs := [.agg #[vI t5, vI t6, vI t7, .slice (ad N12) t9.length (nN12 / 4), .slice Q13a0 t8.length Q13c0], vI (wr64 (1 + t15)), vI (Int.tmod (wr64 (x31 * 5)) t17), vI (Int.tmod (wr64 (x31 * 7)) t18)]) (A := ((([⟨N12, encL E_u84 t9, nN12⟩] : List Own) ++ (Q13F ++ [])) ++ [])) (F0 := ([⟨b23, [vI t17, vI t18, .slice (ad N22) t20.length (nN22 / 1)], 3⟩, ⟨N22, encL E_u8 t20, nN22⟩, ⟨b14, [vI t5, vI t6, vI t7, .slice (ad N12) t9.length (nN12 / 4), .slice Q13a0 t8.length Q13c0], 5⟩] : List Own)) rfl rfl (by kernel_rfl) (tree_perm (.a (.l ([⟨b23, [vI t17, vI t18, .slice (ad N22) t20.length (nN22 / 1)], 3⟩, ⟨N12, encL E_u84 t9, nN12⟩, ⟨N22, encL E_u8 t20, nN22⟩, ⟨b14, [vI t5, vI t6, vI t7, .slice (ad N12) t9.length (nN12 / 4), .slice Q13a0 t8.length Q13c0], 5⟩] : List Own)) (.a (.f Q13F) (.l []))) (.a (.a (.l ([⟨N12, encL E_u84 t9, nN12⟩] : List Own)) (.a (.f Q13F) (.l []))) (.l ([] : List Own))) (.l ([⟨b23, [vI t17, vI t18, .slice (ad N22) t20.length (nN22 / 1)], 3⟩, ⟨N22, encL E_u8 t20, nN22⟩, ⟨b14, [vI t5, vI t6, vI t7, .slice (ad N12) t9.length (nN12 / 4), .slice Q13a0 t8.length Q13c0], 5⟩] : List Own)) [1, 3] (by kernel_rfl)) (cal_lendFr (([⟨N12, encL E_u84 t9, nN12⟩] : List Own) ++ (Q13F ++ [])) fun S1_ le1_ hp1_ hs1_ hn1_ ex1_ => render_Pixel_v1.ok (EO.mono hE_ le1_ hp1_) (SlE.ofAd (E := E_u84) (L := t9) (hn1_ _ (mem_at 0 rfl)) (by decide)) (SlN.mono Q13h0 (rd_lend hs1_ le1_ (sub_app (seg_in 1 (X := (Q13F ++ [])) rfl seg_hd) sub_nil))) h40)) (txF [Q13F] 6 [5] 1 [] fun b41 => zTL [] ?_)
          refine t_end (w_ ?_)
          refine wxM mixed 1 [1] 0 [] (zWL [] ?_)
          refine w_ (w_seq (w_as [(1, vI (wr64 (1 + t15))), (5, vB true), (6, vP b14 0), (7, vP b23 0), (9, vI x31), (12, vP b41 0), (13, errV 157 A_ t39), (14, vI (wr64 (4 * (wr64 ((wr64 ((Int.tmod (wr64 (x31 * 7)) t18) * t17)) + (Int.tmod (wr64 (x31 * 5)) t17))))))] (([⟨b41, [.int .u8 t35, .int .u8 t36, .int .u8 t37, .int .u8 t38], 4⟩, ⟨b23, [vI t17, vI t18, .slice (ad N22) t20.length (nN22 / 1)], 3⟩, ⟨N12, encL E_u84 t9, nN12⟩, ⟨N22, encL E_u8 t20, nN22⟩, ⟨b14, [vI t5, vI t6, vI t7, .slice (ad N12) t9.length (nN12 / 4), .slice Q13a0 t8.length Q13c0], 5⟩] : List Own) ++ (Q13F ++ [])) ?_))
          by_cases c42 : t39 = 0
          ·rw [if_pos c42] at e29
           have c42b : (t39 == 0) = true := beq_iff_eq.mpr c42
           obtain ⟨x43, hx44, e29⟩ := bind_of e29
           by_cases c45 : t35 = x43
           ·rw [if_pos c45] at e29
            have c45b : (t35 == x43) = true := beq_iff_eq.mpr c45
            obtain ⟨x46, hx47, e29⟩ := bind_of e29
            by_cases c48 : t36 = x46
            ·rw [if_pos c48] at e29
             have c48b : (t36 == x46) = true := beq_iff_eq.mpr c48
             obtain ⟨x49, hx50, e29⟩ := bind_of e29
             by_cases c51 : t37 = x49
             ·rw [if_pos c51] at e29
              have c51b : (t37 == x49) = true := beq_iff_eq.mpr c51
              obtain ⟨x52, hx53, e29⟩ := bind_of e29
              by_cases c54 : t38 = x52
              ·rw [if_pos c54] at e29
               have c54b : (t38 == x52) = true := beq_iff_eq.mpr c54
               refine w_drwE mixed 45 [.v (errV 157 A_ t39), .v (vB false), .v (vB false), .v (vP b41 0), .v (.int .u8 t35), .v (vP b23 2), .v (.slice (ad N22) t20.length (nN22 / 1)), .v (vI (wr64 (4 * (wr64 ((wr64 ((Int.tmod (wr64 (x31 * 7)) t18) * t17)) + (Int.tmod (wr64 (x31 * 5)) t17)))))), .v (vP (bk N22) ((wr64 (4 * (wr64 ((wr64 ((Int.tmod (wr64 (x31 * 7)) t18) * t17)) + (Int.tmod (wr64 (x31 * 5)) t17))))).toNat * 1 + 0)), .v (.int .u8 x43), .v (vB false), .v (vB false), .v (vB false), .v (vP b41 1), .v (.int .u8 t36), .v (vP b23 2), .v (.slice (ad N22) t20.length (nN22 / 1)), .v (vI (wr64 (4 * (wr64 ((wr64 ((Int.tmod (wr64 (x31 * 7)) t18) * t17)) + (Int.tmod (wr64 (x31 * 5)) t17)))))), .v (vI (wr64 ((wr64 (4 * (wr64 ((wr64 ((Int.tmod (wr64 (x31 * 7)) t18) * t17)) + (Int.tmod (wr64 (x31 * 5)) t17))))) + 1))), .v (vP (bk N22) ((wr64 ((wr64 (4 * (wr64 ((wr64 ((Int.tmod (wr64 (x31 * 7)) t18) * t17)) + (Int.tmod (wr64 (x31 * 5)) t17))))) + 1)).toNat * 1 + 0)), .v (.int .u8 x46), .v (vB false), .v (vB false), .v (vB false), .v (vP b41 2), .v (.int .u8 t37), .v (vP b23 2), .v (.slice (ad N22) t20.length (nN22 / 1)), .v (vI (wr64 (4 * (wr64 ((wr64 ((Int.tmod (wr64 (x31 * 7)) t18) * t17)) + (Int.tmod (wr64 (x31 * 5)) t17)))))), .v (vI (wr64 ((wr64 (4 * (wr64 ((wr64 ((Int.tmod (wr64 (x31 * 7)) t18) * t17)) + (Int.tmod (wr64 (x31 * 5)) t17))))) + 2))), .v (vP (bk N22) ((wr64 ((wr64 (4 * (wr64 ((wr64 ((Int.tmod (wr64 (x31 * 7)) t18) * t17)) + (Int.tmod (wr64 (x31 * 5)) t17))))) + 2)).toNat * 1 + 0)), .v (.int .u8 x49), .v (vB false), .v (vB false), .v (vB false), .v (vP b41 3), .v (.int .u8 t38), .v (vP b23 2), .v (.slice (ad N22) t20.length (nN22 / 1)), .v (vI (wr64 (4 * (wr64 ((wr64 ((Int.tmod (wr64 (x31 * 7)) t18) * t17)) + (Int.tmod (wr64 (x31 * 5)) t17)))))), .v (vI (wr64 ((wr64 (4 * (wr64 ((wr64 ((Int.tmod (wr64 (x31 * 7)) t18) * t17)) + (Int.tmod (wr64 (x31 * 5)) t17))))) + 3))), .v (vP (bk N22) ((wr64 ((wr64 (4 * (wr64 ((wr64 ((Int.tmod (wr64 (x31 * 7)) t18) * t17)) + (Int.tmod (wr64 (x31 * 5)) t17))))) + 3)).toNat * 1 + 0)), .v (.int .u8 x52), .v (vB false), .v (vB false)] (by kernel_rfl) ?_ ?_
               ·refine ds 1 (.cons (.eqt (a := errV 157 A_ t39) (b := .nilIface) (r := t39 == 0) rfl rfl rfl rfl (eqErr (by kernel_rfl) rfl) (bnk c42b rfl)) ?_)
                refine ds 2 (.cons (.ld1 rfl rfl rfl (.at 0 rfl rfl)) ?_)
                refine ds 1 (.cons (.ld1 rfl rfl rfl (.at 1 rfl rfl)) ?_)
                refine ds 1 (.cons (.quietH rfl (by intro h_; cases h_) (ixl (E := E_u8) (j := 3) rfl rfl rfl (by decide) rfl hx44)) ?_)
                refine .cons (.ld1 rfl rfl rfl (.lst 3 rfl (encL_at (lgt_in hx44).1 rfl))) ?_
                refine .cons (dv_quiet rfl (congrArg (fun t => some (Value.bool (!t))) c45b)) ?_
                refine ds 3 (.cons (.ld1 rfl rfl rfl (.at 0 rfl rfl)) ?_)
                refine ds 1 (.cons (.ld1 rfl rfl rfl (.at 1 rfl rfl)) ?_)
                refine ds 2 (.cons (.quietH rfl (by intro h_; cases h_) (ixl (E := E_u8) (j := 3) rfl rfl rfl (by decide) rfl hx47)) ?_)
                refine .cons (.ld1 rfl rfl rfl (.lst 3 rfl (encL_at (lgt_in hx47).1 rfl))) ?_
                refine .cons (dv_quiet rfl (congrArg (fun t => some (Value.bool (!t))) c48b)) ?_
                refine ds 3 (.cons (.ld1 rfl rfl rfl (.at 0 rfl rfl)) ?_)
                refine ds 1 (.cons (.ld1 rfl rfl rfl (.at 1 rfl rfl)) ?_)
                refine ds 2 (.cons (.quietH rfl (by intro h_; cases h_) (ixl (E := E_u8) (j := 3) rfl rfl rfl (by decide) rfl hx50)) ?_)
                refine .cons (.ld1 rfl rfl rfl (.lst 3 rfl (encL_at (lgt_in hx50).1 rfl))) ?_
                refine .cons (dv_quiet rfl (congrArg (fun t => some (Value.bool (!t))) c51b)) ?_
                refine ds 3 (.cons (.ld1 rfl rfl rfl (.at 0 rfl rfl)) ?_)
                refine ds 1 (.cons (.ld1 rfl rfl rfl (.at 1 rfl rfl)) ?_)
                refine ds 2 (.cons (.quietH rfl (by intro h_; cases h_) (ixl (E := E_u8) (j := 3) rfl rfl rfl (by decide) rfl hx53)) ?_)
                refine .cons (.ld1 rfl rfl rfl (.lst 3 rfl (encL_at (lgt_in hx53).1 rfl))) ?_
                refine .cons (dv_quiet rfl (congrArg (fun t => some (Value.bool (!t))) c54b)) ?_
                refine ds 1 ?_
                exact .nil
               refine fkq 45 [(1, vI (wr64 (1 + t15))), (5, vB true), (6, vP b14 0), (7, vP b23 0), (9, vI x31), (139, vB false)] ?_
               refine fk_nil fun all => t_end (w_ ?_)
               refine wqF mixed [Q13F] [] 0 .nrm [] (zQL [0] ?_)
               refine w_ ?_
               refine wqM mixed [] 0 .nrm [] (zQL [] ?_)
               exact ⟨k_, Nat.lt_succ_self _, _, _, S, keep_sub [1, 5, 6, 7, 9] (by kernel_rfl), VS.lb [0, 0, 0, 0, 0] (by kernel_rfl), wr64 (x31 + 1), rfl, rfl, rfl, e29⟩
              ·rw [if_neg c54] at e29
               have c54b : (t38 == x52) = false := beq_eq_false_iff_ne.mpr c54
               refine w_drwE mixed 45 [.v (errV 157 A_ t39), .v (vB false), .v (vB false), .v (vP b41 0), .v (.int .u8 t35), .v (vP b23 2), .v (.slice (ad N22) t20.length (nN22 / 1)), .v (vI (wr64 (4 * (wr64 ((wr64 ((Int.tmod (wr64 (x31 * 7)) t18) * t17)) + (Int.tmod (wr64 (x31 * 5)) t17)))))), .v (vP (bk N22) ((wr64 (4 * (wr64 ((wr64 ((Int.tmod (wr64 (x31 * 7)) t18) * t17)) + (Int.tmod (wr64 (x31 * 5)) t17))))).toNat * 1 + 0)), .v (.int .u8 x43), .v (vB false), .v (vB false), .v (vB false), .v (vP b41 1), .v (.int .u8 t36), .v (vP b23 2), .v (.slice (ad N22) t20.length (nN22 / 1)), .v (vI (wr64 (4 * (wr64 ((wr64 ((Int.tmod (wr64 (x31 * 7)) t18) * t17)) + (Int.tmod (wr64 (x31 * 5)) t17)))))), .v (vI (wr64 ((wr64 (4 * (wr64 ((wr64 ((Int.tmod (wr64 (x31 * 7)) t18) * t17)) + (Int.tmod (wr64 (x31 * 5)) t17))))) + 1))), .v (vP (bk N22) ((wr64 ((wr64 (4 * (wr64 ((wr64 ((Int.tmod (wr64 (x31 * 7)) t18) * t17)) + (Int.tmod (wr64 (x31 * 5)) t17))))) + 1)).toNat * 1 + 0)), .v (.int .u8 x46), .v (vB false), .v (vB false), .v (vB false), .v (vP b41 2), .v (.int .u8 t37), .v (vP b23 2), .v (.slice (ad N22) t20.length (nN22 / 1)), .v (vI (wr64 (4 * (wr64 ((wr64 ((Int.tmod (wr64 (x31 * 7)) t18) * t17)) + (Int.tmod (wr64 (x31 * 5)) t17)))))), .v (vI (wr64 ((wr64 (4 * (wr64 ((wr64 ((Int.tmod (wr64 (x31 * 7)) t18) * t17)) + (Int.tmod (wr64 (x31 * 5)) t17))))) + 2))), .v (vP (bk N22) ((wr64 ((wr64 (4 * (wr64 ((wr64 ((Int.tmod (wr64 (x31 * 7)) t18) * t17)) + (Int.tmod (wr64 (x31 * 5)) t17))))) + 2)).toNat * 1 + 0)), .v (.int .u8 x49), .v (vB false), .v (vB false), .v (vB false), .v (vP b41 3), .v (.int .u8 t38), .v (vP b23 2), .v (.slice (ad N22) t20.length (nN22 / 1)), .v (vI (wr64 (4 * (wr64 ((wr64 ((Int.tmod (wr64 (x31 * 7)) t18) * t17)) + (Int.tmod (wr64 (x31 * 5)) t17)))))), .v (vI (wr64 ((wr64 (4 * (wr64 ((wr64 ((Int.tmod (wr64 (x31 * 7)) t18) * t17)) + (Int.tmod (wr64 (x31 * 5)) t17))))) + 3))), .v (vP (bk N22) ((wr64 ((wr64 (4 * (wr64 ((wr64 ((Int.tmod (wr64 (x31 * 7)) t18) * t17)) + (Int.tmod (wr64 (x31 * 5)) t17))))) + 3)).toNat * 1 + 0)), .v (.int .u8 x52), .v (vB true), .v (vB true)] (by kernel_rfl) ?_ ?_
               ·refine ds 1 (.cons (.eqt (a := errV 157 A_ t39) (b := .nilIface) (r := t39 == 0) rfl rfl rfl rfl (eqErr (by kernel_rfl) rfl) (bnk c42b rfl)) ?_)
                refine ds 2 (.cons (.ld1 rfl rfl rfl (.at 0 rfl rfl)) ?_)
                refine ds 1 (.cons (.ld1 rfl rfl rfl (.at 1 rfl rfl)) ?_)
                refine ds 1 (.cons (.quietH rfl (by intro h_; cases h_) (ixl (E := E_u8) (j := 3) rfl rfl rfl (by decide) rfl hx44)) ?_)
                refine .cons (.ld1 rfl rfl rfl (.lst 3 rfl (encL_at (lgt_in hx44).1 rfl))) ?_
                refine .cons (dv_quiet rfl (congrArg (fun t => some (Value.bool (!t))) c45b)) ?_
                refine ds 3 (.cons (.ld1 rfl rfl rfl (.at 0 rfl rfl)) ?_)
                refine ds 1 (.cons (.ld1 rfl rfl rfl (.at 1 rfl rfl)) ?_)
                refine ds 2 (.cons (.quietH rfl (by intro h_; cases h_) (ixl (E := E_u8) (j := 3) rfl rfl rfl (by decide) rfl hx47)) ?_)
                refine .cons (.ld1 rfl rfl rfl (.lst 3 rfl (encL_at (lgt_in hx47).1 rfl))) ?_
                refine .cons (dv_quiet rfl (congrArg (fun t => some (Value.bool (!t))) c48b)) ?_
                refine ds 3 (.cons (.ld1 rfl rfl rfl (.at 0 rfl rfl)) ?_)
                refine ds 1 (.cons (.ld1 rfl rfl rfl (.at 1 rfl rfl)) ?_)
                refine ds 2 (.cons (.quietH rfl (by intro h_; cases h_) (ixl (E := E_u8) (j := 3) rfl rfl rfl (by decide) rfl hx50)) ?_)
                refine .cons (.ld1 rfl rfl rfl (.lst 3 rfl (encL_at (lgt_in hx50).1 rfl))) ?_
                refine .cons (dv_quiet rfl (congrArg (fun t => some (Value.bool (!t))) c51b)) ?_
                refine ds 3 (.cons (.ld1 rfl rfl rfl (.at 0 rfl rfl)) ?_)
                refine ds 1 (.cons (.ld1 rfl rfl rfl (.at 1 rfl rfl)) ?_)
                refine ds 2 (.cons (.quietH rfl (by intro h_; cases h_) (ixl (E := E_u8) (j := 3) rfl rfl rfl (by decide) rfl hx53)) ?_)
                refine .cons (.ld1 rfl rfl rfl (.lst 3 rfl (encL_at (lgt_in hx53).1 rfl))) ?_
                refine .cons (dv_quiet rfl (congrArg (fun t => some (Value.bool (!t))) c54b)) ?_
                refine ds 1 ?_
                exact .nil
               refine fkq 45 [(1, vI (wr64 (1 + t15))), (5, vB true), (6, vP b14 0), (7, vP b23 0), (9, vI x31), (139, vB true)] ?_
               refine fk_nil fun all => t_end (w_ (w_ct (w_ ?_)))
               refine wxF mixed [Q13F] 1 [] 0 [] (zWL [0] ?_)
               refine w_ (w_ret ?_)
               obtain rfl := Option.some.inj e29
               have hr_ := Option.some.inj e
               exact ⟨[_], [], S, ⟨(show gt _ _ = some _ from (by kernel_rfl)), trivial⟩, VS.none, congrArg Value.bool hr_, rfl, rfl⟩
             ·rw [if_neg c51] at e29
              have c51b : (t37 == x49) = false := beq_eq_false_iff_ne.mpr c51
              refine w_drwE mixed 45 [.v (errV 157 A_ t39), .v (vB false), .v (vB false), .v (vP b41 0), .v (.int .u8 t35), .v (vP b23 2), .v (.slice (ad N22) t20.length (nN22 / 1)), .v (vI (wr64 (4 * (wr64 ((wr64 ((Int.tmod (wr64 (x31 * 7)) t18) * t17)) + (Int.tmod (wr64 (x31 * 5)) t17)))))), .v (vP (bk N22) ((wr64 (4 * (wr64 ((wr64 ((Int.tmod (wr64 (x31 * 7)) t18) * t17)) + (Int.tmod (wr64 (x31 * 5)) t17))))).toNat * 1 + 0)), .v (.int .u8 x43), .v (vB false), .v (vB false), .v (vB false), .v (vP b41 1), .v (.int .u8 t36), .v (vP b23 2), .v (.slice (ad N22) t20.length (nN22 / 1)), .v (vI (wr64 (4 * (wr64 ((wr64 ((Int.tmod (wr64 (x31 * 7)) t18) * t17)) + (Int.tmod (wr64 (x31 * 5)) t17)))))), .v (vI (wr64 ((wr64 (4 * (wr64 ((wr64 ((Int.tmod (wr64 (x31 * 7)) t18) * t17)) + (Int.tmod (wr64 (x31 * 5)) t17))))) + 1))), .v (vP (bk N22) ((wr64 ((wr64 (4 * (wr64 ((wr64 ((Int.tmod (wr64 (x31 * 7)) t18) * t17)) + (Int.tmod (wr64 (x31 * 5)) t17))))) + 1)).toNat * 1 + 0)), .v (.int .u8 x46), .v (vB false), .v (vB false), .v (vB false), .v (vP b41 2), .v (.int .u8 t37), .v (vP b23 2), .v (.slice (ad N22) t20.length (nN22 / 1)), .v (vI (wr64 (4 * (wr64 ((wr64 ((Int.tmod (wr64 (x31 * 7)) t18) * t17)) + (Int.tmod (wr64 (x31 * 5)) t17)))))), .v (vI (wr64 ((wr64 (4 * (wr64 ((wr64 ((Int.tmod (wr64 (x31 * 7)) t18) * t17)) + (Int.tmod (wr64 (x31 * 5)) t17))))) + 2))), .v (vP (bk N22) ((wr64 ((wr64 (4 * (wr64 ((wr64 ((Int.tmod (wr64 (x31 * 7)) t18) * t17)) + (Int.tmod (wr64 (x31 * 5)) t17))))) + 2)).toNat * 1 + 0)), .v (.int .u8 x49), .v (vB true), .v (vB true), .v (vB true), .v (.tuple #[]), .v (.tuple #[]), .v (.tuple #[]), .v (.tuple #[]), .v (.tuple #[]), .v (.tuple #[]), .v (.tuple #[]), .v (.tuple #[]), .v (.tuple #[]), .v (vB true)] (by kernel_rfl) ?_ ?_
              ·refine ds 1 (.cons (.eqt (a := errV 157 A_ t39) (b := .nilIface) (r := t39 == 0) rfl rfl rfl rfl (eqErr (by kernel_rfl) rfl) (bnk c42b rfl)) ?_)
               refine ds 2 (.cons (.ld1 rfl rfl rfl (.at 0 rfl rfl)) ?_)
               refine ds 1 (.cons (.ld1 rfl rfl rfl (.at 1 rfl rfl)) ?_)
               refine ds 1 (.cons (.quietH rfl (by intro h_; cases h_) (ixl (E := E_u8) (j := 3) rfl rfl rfl (by decide) rfl hx44)) ?_)
               refine .cons (.ld1 rfl rfl rfl (.lst 3 rfl (encL_at (lgt_in hx44).1 rfl))) ?_
               refine .cons (dv_quiet rfl (congrArg (fun t => some (Value.bool (!t))) c45b)) ?_
               refine ds 3 (.cons (.ld1 rfl rfl rfl (.at 0 rfl rfl)) ?_)
               refine ds 1 (.cons (.ld1 rfl rfl rfl (.at 1 rfl rfl)) ?_)
               refine ds 2 (.cons (.quietH rfl (by intro h_; cases h_) (ixl (E := E_u8) (j := 3) rfl rfl rfl (by decide) rfl hx47)) ?_)
               refine .cons (.ld1 rfl rfl rfl (.lst 3 rfl (encL_at (lgt_in hx47).1 rfl))) ?_
               refine .cons (dv_quiet rfl (congrArg (fun t => some (Value.bool (!t))) c48b)) ?_
               refine ds 3 (.cons (.ld1 rfl rfl rfl (.at 0 rfl rfl)) ?_)
               refine ds 1 (.cons (.ld1 rfl rfl rfl (.at 1 rfl rfl)) ?_)
               refine ds 2 (.cons (.quietH rfl (by intro h_; cases h_) (ixl (E := E_u8) (j := 3) rfl rfl rfl (by decide) rfl hx50)) ?_)
               refine .cons (.ld1 rfl rfl rfl (.lst 3 rfl (encL_at (lgt_in hx50).1 rfl))) ?_
               refine .cons (dv_quiet rfl (congrArg (fun t => some (Value.bool (!t))) c51b)) ?_
               refine ds 12 ?_
               exact .nil
              refine fkq 45 [(1, vI (wr64 (1 + t15))), (5, vB true), (6, vP b14 0), (7, vP b23 0), (9, vI x31), (139, vB true)] ?_
              refine fk_nil fun all => t_end (w_ (w_ct (w_ ?_)))
              refine wxF mixed [Q13F] 1 [] 0 [] (zWL [0] ?_)
              refine w_ (w_ret ?_)
              obtain rfl := Option.some.inj e29
              have hr_ := Option.some.inj e
              exact ⟨[_], [], S, ⟨(show gt _ _ = some _ from (by kernel_rfl)), trivial⟩, VS.none, congrArg Value.bool hr_, rfl, rfl⟩
            ·rw [if_neg c48] at e29
             have c48b : (t36 == x46) = false := beq_eq_false_iff_ne.mpr c48
             refine w_drwE mixed 45 [.v (errV 157 A_ t39), .v (vB false), .v (vB false), .v (vP b41 0), .v (.int .u8 t35), .v (vP b23 2), .v (.slice (ad N22) t20.length (nN22 / 1)), .v (vI (wr64 (4 * (wr64 ((wr64 ((Int.tmod (wr64 (x31 * 7)) t18) * t17)) + (Int.tmod (wr64 (x31 * 5)) t17)))))), .v (vP (bk N22) ((wr64 (4 * (wr64 ((wr64 ((Int.tmod (wr64 (x31 * 7)) t18) * t17)) + (Int.tmod (wr64 (x31 * 5)) t17))))).toNat * 1 + 0)), .v (.int .u8 x43), .v (vB false), .v (vB false), .v (vB false), .v (vP b41 1), .v (.int .u8 t36), .v (vP b23 2), .v (.slice (ad N22) t20.length (nN22 / 1)), .v (vI (wr64 (4 * (wr64 ((wr64 ((Int.tmod (wr64 (x31 * 7)) t18) * t17)) + (Int.tmod (wr64 (x31 * 5)) t17)))))), .v (vI (wr64 ((wr64 (4 * (wr64 ((wr64 ((Int.tmod (wr64 (x31 * 7)) t18) * t17)) + (Int.tmod (wr64 (x31 * 5)) t17))))) + 1))), .v (vP (bk N22) ((wr64 ((wr64 (4 * (wr64 ((wr64 ((Int.tmod (wr64 (x31 * 7)) t18) * t17)) + (Int.tmod (wr64 (x31 * 5)) t17))))) + 1)).toNat * 1 + 0)), .v (.int .u8 x46), .v (vB true), .v (vB true), .v (vB true), .v (.tuple #[]), .v (.tuple #[]), .v (.tuple #[]), .v (.tuple #[]), .v (.tuple #[]), .v (.tuple #[]), .v (.tuple #[]), .v (.tuple #[]), .v (.tuple #[]), .v (vB true), .v (vB true), .v (.tuple #[]), .v (.tuple #[]), .v (.tuple #[]), .v (.tuple #[]), .v (.tuple #[]), .v (.tuple #[]), .v (.tuple #[]), .v (.tuple #[]), .v (.tuple #[]), .v (vB true)] (by kernel_rfl) ?_ ?_
             ·refine ds 1 (.cons (.eqt (a := errV 157 A_ t39) (b := .nilIface) (r := t39 == 0) rfl rfl rfl rfl (eqErr (by kernel_rfl) rfl) (bnk c42b rfl)) ?_)
              refine ds 2 (.cons (.ld1 rfl rfl rfl (.at 0 rfl rfl)) ?_)
              refine ds 1 (.cons (.ld1 rfl rfl rfl (.at 1 rfl rfl)) ?_)
              refine ds 1 (.cons (.quietH rfl (by intro h_; cases h_) (ixl (E := E_u8) (j := 3) rfl rfl rfl (by decide) rfl hx44)) ?_)
              refine .cons (.ld1 rfl rfl rfl (.lst 3 rfl (encL_at (lgt_in hx44).1 rfl))) ?_
              refine .cons (dv_quiet rfl (congrArg (fun t => some (Value.bool (!t))) c45b)) ?_
              refine ds 3 (.cons (.ld1 rfl rfl rfl (.at 0 rfl rfl)) ?_)
              refine ds 1 (.cons (.ld1 rfl rfl rfl (.at 1 rfl rfl)) ?_)
              refine ds 2 (.cons (.quietH rfl (by intro h_; cases h_) (ixl (E := E_u8) (j := 3) rfl rfl rfl (by decide) rfl hx47)) ?_)
              refine .cons (.ld1 rfl rfl rfl (.lst 3 rfl (encL_at (lgt_in hx47).1 rfl))) ?_
              refine .cons (dv_quiet rfl (congrArg (fun t => some (Value.bool (!t))) c48b)) ?_
              refine ds 23 ?_
              exact .nil
             refine fkq 45 [(1, vI (wr64 (1 + t15))), (5, vB true), (6, vP b14 0), (7, vP b23 0), (9, vI x31), (139, vB true)] ?_
             refine fk_nil fun all => t_end (w_ (w_ct (w_ ?_)))
             refine wxF mixed [Q13F] 1 [] 0 [] (zWL [0] ?_)
             refine w_ (w_ret ?_)
             obtain rfl := Option.some.inj e29
             have hr_ := Option.some.inj e
             exact ⟨[_], [], S, ⟨(show gt _ _ = some _ from (by kernel_rfl)), trivial⟩, VS.none, congrArg Value.bool hr_, rfl, rfl⟩
           ·rw [if_neg c45] at e29
            have c45b : (t35 == x43) = false := beq_eq_false_iff_ne.mpr c45
            refine w_drwE mixed 45 [.v (errV 157 A_ t39), .v (vB false), .v (vB false), .v (vP b41 0), .v (.int .u8 t35), .v (vP b23 2), .v (.slice (ad N22) t20.length (nN22 / 1)), .v (vI (wr64 (4 * (wr64 ((wr64 ((Int.tmod (wr64 (x31 * 7)) t18) * t17)) + (Int.tmod (wr64 (x31 * 5)) t17)))))), .v (vP (bk N22) ((wr64 (4 * (wr64 ((wr64 ((Int.tmod (wr64 (x31 * 7)) t18) * t17)) + (Int.tmod (wr64 (x31 * 5)) t17))))).toNat * 1 + 0)), .v (.int .u8 x43), .v (vB true), .v (vB true), .v (vB true), .v (.tuple #[]), .v (.tuple #[]), .v (.tuple #[]), .v (.tuple #[]), .v (.tuple #[]), .v (.tuple #[]), .v (.tuple #[]), .v (.tuple #[]), .v (.tuple #[]), .v (vB true), .v (vB true), .v (.tuple #[]), .v (.tuple #[]), .v (.tuple #[]), .v (.tuple #[]), .v (.tuple #[]), .v (.tuple #[]), .v (.tuple #[]), .v (.tuple #[]), .v (.tuple #[]), .v (vB true), .v (vB true), .v (.tuple #[]), .v (.tuple #[]), .v (.tuple #[]), .v (.tuple #[]), .v (.tuple #[]), .v (.tuple #[]), .v (.tuple #[]), .v (.tuple #[]), .v (.tuple #[]), .v (vB true)] (by kernel_rfl) ?_ ?_
            ·refine ds 1 (.cons (.eqt (a := errV 157 A_ t39) (b := .nilIface) (r := t39 == 0) rfl rfl rfl rfl (eqErr (by kernel_rfl) rfl) (bnk c42b rfl)) ?_)
             refine ds 2 (.cons (.ld1 rfl rfl rfl (.at 0 rfl rfl)) ?_)
             refine ds 1 (.cons (.ld1 rfl rfl rfl (.at 1 rfl rfl)) ?_)
             refine ds 1 (.cons (.quietH rfl (by intro h_; cases h_) (ixl (E := E_u8) (j := 3) rfl rfl rfl (by decide) rfl hx44)) ?_)
             refine .cons (.ld1 rfl rfl rfl (.lst 3 rfl (encL_at (lgt_in hx44).1 rfl))) ?_
             refine .cons (dv_quiet rfl (congrArg (fun t => some (Value.bool (!t))) c45b)) ?_
             refine ds 34 ?_
             exact .nil
            refine fkq 45 [(1, vI (wr64 (1 + t15))), (5, vB true), (6, vP b14 0), (7, vP b23 0), (9, vI x31), (139, vB true)] ?_
            refine fk_nil fun all => t_end (w_ (w_ct (w_ ?_)))
            refine wxF mixed [Q13F] 1 [] 0 [] (zWL [0] ?_)
            refine w_ (w_ret ?_)
            obtain rfl := Option.some.inj e29
            have hr_ := Option.some.inj e
            exact ⟨[_], [], S, ⟨(show gt _ _ = some _ from (by kernel_rfl)), trivial⟩, VS.none, congrArg Value.bool hr_, rfl, rfl⟩
          ·rw [if_neg c42] at e29
           have c42b : (t39 == 0) = false := beq_eq_false_iff_ne.mpr c42
           refine w_drwE mixed 45 [.v (errV 157 A_ t39), .v (vB true), .v (vB true), .v (.tuple #[]), .v (.tuple #[]), .v (.tuple #[]), .v (.tuple #[]), .v (.tuple #[]), .v (.tuple #[]), .v (.tuple #[]), .v (.tuple #[]), .v (vB true), .v (vB true), .v (.tuple #[]), .v (.tuple #[]), .v (.tuple #[]), .v (.tuple #[]), .v (.tuple #[]), .v (.tuple #[]), .v (.tuple #[]), .v (.tuple #[]), .v (.tuple #[]), .v (vB true), .v (vB true), .v (.tuple #[]), .v (.tuple #[]), .v (.tuple #[]), .v (.tuple #[]), .v (.tuple #[]), .v (.tuple #[]), .v (.tuple #[]), .v (.tuple #[]), .v (.tuple #[]), .v (vB true), .v (vB true), .v (.tuple #[]), .v (.tuple #[]), .v (.tuple #[]), .v (.tuple #[]), .v (.tuple #[]), .v (.tuple #[]), .v (.tuple #[]), .v (.tuple #[]), .v (.tuple #[]), .v (vB true)] (by kernel_rfl) ?_ ?_
           ·refine ds 1 (.cons (.eqt (a := errV 157 A_ t39) (b := .nilIface) (r := t39 == 0) rfl rfl rfl rfl (eqErr (by kernel_rfl) rfl) (bnk c42b rfl)) ?_)
            refine ds 43 ?_
            exact .nil
           refine fkq 45 [(1, vI (wr64 (1 + t15))), (5, vB true), (6, vP b14 0), (7, vP b23 0), (9, vI x31), (139, vB true)] ?_
           refine fk_nil fun all => t_end (w_ (w_ct (w_ ?_)))
           refine wxF mixed [Q13F] 1 [] 0 [] (zWL [0] ?_)
           refine w_ (w_ret ?_)
           obtain rfl := Option.some.inj e29
           have hr_ := Option.some.inj e
           exact ⟨[_], [], S, ⟨(show gt _ _ = some _ from (by kernel_rfl)), trivial⟩, VS.none, congrArg Value.bool hr_, rfl, rfl⟩
         ·rw [if_neg c32] at e29
          have c32b : (decide (x31 < 6)) = false := decide_eq_false c32
          refine wqF mixed [Q13F] [] 0 (.ex 0) [(1, spQ (.bin .lss 66 (.const (vI 6))) [vI x31, vI 6] (congrArg (fun t => some (Value.bool t)) c32b))] (zQL [] ?_)
          obtain rfl := Option.some.inj e29
          exact ⟨_, S, VS.lb [0, 2, 1, 0, 0] (by kernel_rfl), (), rfl, by kernel_rfl, rfl, rfl⟩
       ·rintro σ_ H_ S_ ⟨u_, rfl, rfl, rfl, rfl⟩
        dsimp only at e
        obtain ⟨⟨t57, t58, t59, t60⟩, h61, e⟩ := bind_of e
        try dsimp only at e
        refine wxF mixed [Q13F] 1 [1, 1, 6] 1 [(6, spC 7 [145, 146] [] [] [1, 0] 1 (fun l_ => .tuple #[.agg #[vI t57, vI t58, .slice (ad (l_.O 0)) t60.length ((l_.N 0) / 1)], errV 157 A_ t59]) (fun l_ => [[⟨(l_.O 0), encL E_u8 t60, (l_.N 0)⟩]]) (vs := [.agg #[vI t5, vI t6, vI 0, .slice none ([] : List (Int × Int × Int × Int)).length 0, .slice none ([] : List (Int × Int × Int × Int × Int × Int × Int × Int × Int × Int × List (Int × Int × List (Int × Int × Int × Int × Int × Int × Int) × Bool))).length 0], vI (wr64 (1 + t15))]) rfl (((render_Frame_v1.ok hE_ (SlE.ofN SlN.nil) SlN.nil h61)).mono fun _ _ _ ⟨N62, nN62, h1_, h2_, h3_⟩ => ⟨un ⟨[nN62], [N62], [], [], []⟩, h1_.trans (by kernel_rfl), h2_.trans (by kernel_rfl), h3_⟩))] fun b63 N62 nN62 => zWL [1] ?_
        refine w_ ?_
        obtain ⟨s66, e65, e⟩ := bind_of e
        refine w_cut [5, 7, 15, 16] (fun σ_ H_ S_ => ∃ u_ : Unit, s66 = .inr u_ ∧ [(5, vB true), (7, vP b23 0), (15, vP b63 0), (16, errV 157 A_ t59)] = σ_ ∧ (([⟨b63, [vI t57, vI t58, .slice (ad N62) t60.length (nN62 / 1)], 3⟩, ⟨b23, [vI t17, vI t18, .slice (ad N22) t20.length (nN22 / 1)], 3⟩, ⟨N62, encL E_u8 t60, nN62⟩, ⟨N22, encL E_u8 t20, nN22⟩, ⟨N12, encL E_u84 t9, nN12⟩] : List Own) ++ (Q13F ++ [])) = H_ ∧ S = S_) ?_ ?_
        ·refine w_ ?_
         refine wxM mixed 1 [] 0 [] (zWL [] ?_)
         refine w_ (w_block (wk [(5, vB true), (7, vP b23 0), (15, vP b63 0), (16, errV 157 A_ t59), (17, vI 0)] (w_vs (H' := (([⟨b63, [vI t57, vI t58, .slice (ad N62) t60.length (nN62 / 1)], 3⟩, ⟨N62, encL E_u8 t60, nN62⟩, ⟨b23, [vI t17, vI t18, .slice (ad N22) t20.length (nN22 / 1)], 3⟩, ⟨N22, encL E_u8 t20, nN22⟩, ⟨N12, encL E_u84 t9, nN12⟩] : List Own) ++ (Q13F ++ []))) (S' := S) (VS.lb [0, 0, 0, 0, 0, 0] (by kernel_rfl)) ?_)))
         refine w_loop (fun n_ σ_ H_ S_ => ∃ (x67 : Int), [(5, vB true), (7, vP b23 0), (15, vP b63 0), (16, errV 157 A_ t59), (17, vI x67)] = σ_ ∧ (([⟨b63, [vI t57, vI t58, .slice (ad N62) t60.length (nN62 / 1)], 3⟩, ⟨N62, encL E_u8 t60, nN62⟩, ⟨b23, [vI t17, vI t18, .slice (ad N22) t20.length (nN22 / 1)], 3⟩, ⟨N22, encL E_u8 t20, nN22⟩, ⟨N12, encL E_u84 t9, nN12⟩] : List Own) ++ (Q13F ++ [])) = H_ ∧ S = S_ ∧ glyphiclaw27_RenderRows.l1 n_ t60 x67 = some s66) _ ⟨0, rfl, rfl, rfl, e65⟩ ?_
         rintro n73 σ_ H_ S_ ⟨x67, rfl, rfl, rfl, e65⟩
         cases n73 with
         | zero => rw [glyphiclaw27_RenderRows.l1.eq_1] at e65; cases e65
         | succ k_ =>
          rw [glyphiclaw27_RenderRows.l1.eq_2] at e65
          by_cases c68 : x67 < (t60.length : Int)
          ·rw [if_pos c68] at e65
           have c68b : (decide (x67 < (t60.length : Int))) = true := decide_eq_true c68
           refine wxF mixed [Q13F] 1 [0] 0 [(4, spQ (.bin .lss 150 153) [vI x67, vI (t60.length : Int)] (congrArg (fun t => some (Value.bool t)) c68b))] (zWL [] ?_)
           refine w_ (w_seq (w_block ?_))
           obtain ⟨x69, hx70, e65⟩ := bind_of e65
           by_cases c71 : x69 = 0
           ·rw [if_pos c71] at e65
            have c71b : (x69 == 0) = true := beq_iff_eq.mpr c71
            refine wqM mixed [0, 1, 1] 0 .nrm [(3, spH (.ixs 1 158 159) [.slice (ad N62) t60.length (nN62 / 1), vI x67] [[⟨N62, encL E_u8 t60, nN62⟩]] (fun _ => ixl (E := E_u8) (j := 0) rfl rfl rfl (by decide) rfl hx70) (by intro h_; cases h_)), (4, spL1 160 (bk N62) ((x67).toNat * 1 + 0) [[⟨N62, encL E_u8 t60, nN62⟩]] (fun _ => .lst 0 rfl (encL_at (lgt_in hx70).1 rfl))), (5, spQ (.bin .neq 161 (.const (.int .u8 0))) [.int .u8 x69, .int .u8 0] (congrArg (fun t => some (Value.bool (!t))) c71b))] (zQL [] ?_)
            refine w_ ?_
            refine wqM mixed [] 0 .nrm [] (zQL [] ?_)
            exact ⟨k_, Nat.lt_succ_self _, _, _, S, keep_sub [5, 7, 15, 16, 17] (by kernel_rfl), VS.lb [0, 0, 0, 0, 0, 0] (by kernel_rfl), wr64 (x67 + 1), rfl, rfl, rfl, e65⟩
           ·rw [if_neg c71] at e65
            have c71b : (x69 == 0) = false := beq_eq_false_iff_ne.mpr c71
            refine wxM mixed 1 [0, 1, 1] 0 [(3, spH (.ixs 1 158 159) [.slice (ad N62) t60.length (nN62 / 1), vI x67] [[⟨N62, encL E_u8 t60, nN62⟩]] (fun _ => ixl (E := E_u8) (j := 0) rfl rfl rfl (by decide) rfl hx70) (by intro h_; cases h_)), (4, spL1 160 (bk N62) ((x67).toNat * 1 + 0) [[⟨N62, encL E_u8 t60, nN62⟩]] (fun _ => .lst 0 rfl (encL_at (lgt_in hx70).1 rfl))), (5, spQ (.bin .neq 161 (.const (.int .u8 0))) [.int .u8 x69, .int .u8 0] (congrArg (fun t => some (Value.bool (!t))) c71b))] (zWL [] ?_)
            refine w_ (w_ct (w_ ?_))
            refine wxM mixed 1 [] 0 [] (zWL [] ?_)
            refine w_ (w_ret ?_)
            obtain rfl := Option.some.inj e65
            have hr_ := Option.some.inj e
            exact ⟨[_], [], S, ⟨(show gt _ _ = some _ from (by kernel_rfl)), trivial⟩, VS.none, congrArg Value.bool hr_, rfl, rfl⟩
          ·rw [if_neg c68] at e65
           have c68b : (decide (x67 < (t60.length : Int))) = false := decide_eq_false c68
           refine wqF mixed [Q13F] [0] 0 (.ex 2) [(4, spQ (.bin .lss 150 153) [vI x67, vI (t60.length : Int)] (congrArg (fun t => some (Value.bool t)) c68b))] (zQL [] ?_)
           obtain rfl := Option.some.inj e65
           exact ⟨_, S, VS.lb [0, 1, 0, 0, 0, 0] (by kernel_rfl), (), rfl, by kernel_rfl, rfl, rfl⟩
        ·rintro σ_ H_ S_ ⟨u_, rfl, rfl, rfl, rfl⟩
         dsimp only at e
         by_cases c74 : t59 = 0
         ·rw [if_pos c74] at e
          have c74b : (t59 == 0) = true := beq_iff_eq.mpr c74
          refine wxF mixed [Q13F] 1 [0, 1] 0 [(3, spE false 29 165 (.const .nilIface) (a := errV 157 A_ t59) (b := .nilIface) (r := t59 == 0) (eqErr (by kernel_rfl) rfl) (bnk c74b rfl))] (zWL [0, 1] ?_)
          refine w_ (w_ret ?_)
          have hr_ := Option.some.inj e
          exact ⟨[_], [], S, ⟨(show gt _ _ = some _ from (by kernel_rfl)), trivial⟩, VS.none, congrArg Value.bool hr_, rfl, rfl⟩
         ·rw [if_neg c74] at e
          exact absurd (Option.some.inj e) (by decide)
      ·rw [if_neg c27] at e
       exact absurd (Option.some.inj e) (by decide)
    ·rw [if_neg c25] at e
     exact absurd (Option.some.inj e) (by decide)
   ·rw [if_neg c24] at e
    have c24b : (t19 == 0) = false := beq_eq_false_iff_ne.mpr c24
    refine wxM mixed 1 [] 0 [(1, spE true 29 38 (.const .nilIface) (a := errV 157 A_ t19) (b := .nilIface) (r := t19 == 0) (eqErr (by kernel_rfl) rfl) (bnk c24b rfl))] (zWL [] ?_)
    refine w_ (w_ct (w_ ?_))
    obtain ⟨t77, h78, e⟩ := bind_of e
    refine wxM mixed 1 [] 0 [(3, spP 14 [42, (.const (vI 113))] (glyphicsee_Is_v1.ok (e0 := t19) hE_ h78))] (zWL [0, 3] ?_)
    refine w_ (w_ret ?_)
    have hr_ := Option.some.inj e
    exact ⟨[_], [], S, ⟨(show gt _ _ = some _ from (by kernel_rfl)), trivial⟩, VS.none, congrArg Value.bool hr_, rfl, rfl⟩
 | false =>
  rw [if_neg (by decide)] at e
  exact absurd (Option.some.inj e) (by decide)

def glyphiclaw27_RenderRows.Pure : Prop := ∀ (t0 : List (Int)) (o1 : Int), (Lit.int .i64 o1).wf = true → ∃ k, glyphiclaw27_RenderRows.f k t0 o1 = some true
theorem glyphiclaw27_RenderRows.walk (P : glyphiclaw27_RenderRows.Pure) (t0 : List (Int)) (o1 : Int) (w : World) {S : Seal} (hS : HOK [] S w) {A_ : Int → Addr} (hE_ : EO gsE S A_ 157) {a_t0 : Option Addr} {c_t0 : Nat} (h_t0 : SlI S .i64 t0 a_t0) (ho1 : (Lit.int .i64 o1).wf = true) :
    Calls Tryd.prog 5 #[.slice a_t0 t0.length c_t0, .int .i64 o1] w fun e w' => e = .returned (.bool true) ∧ Below w.heap.size w w' := let ⟨k, h⟩ := P t0 o1 ho1; law_w hS (glyphiclaw27_RenderRows.ok hE_ (SlI.e h_t0) (k := k) h)
end Go.Proofs.YtobjaddicodiaaaDoor.QRenderRows
