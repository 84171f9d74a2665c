/- Functions of the program as Lean functions, each with the proof of its walk. Written by gen.py, a program of these sessions. -/
import Derived.Test.YtobjaddicodiaaaDoorQRenderWholex2
namespace Go.Proofs.YtobjaddicodiaaaDoor.QRenderWhole
open Go Go.RowKit Go.Proofs.YtobjaddicodiaaaDoorE Go.Proofs.YtobjaddicodiaaaDoorX
set_option linter.unusedVariables false
set_option maxRecDepth 100000
set_option maxHeartbeats 8000000
def render_Frame_v2.l0 : Nat → Int → Int → Int → Int → Int → Int → Int → Int → Int → Int → Int → Int → Int → Int → Int → Int → Int → Int → Int → Int → Int → Int → Int → Int → Int → Int → Int → Int → Int → Int → Int → List (Int × Int × Int × Int) → Int → Int → List (Int) → List (Int) → Option (List (Int) × List (Int))
  | 0, _, _, _, _, _, _, _, _, _, _, _, _, _, _, _, _, _, _, _, _, _, _, _, _, _, _, _, _, _, _, _, _, _, _, _, _ => none
  | k + 1, i0_0, i0_1, w1, m0_0, m0_1, m0_2, m0_3, t311, t312, t313, t314, t315, t316, t317, t318, t319, t320, t321, t322, t323, t324, t325, t326, t327, t328, t329, t330, t331, t332, t333, t334, t335, t341, x347, y349, y351 => if x347 < t341 then ((render_row_v2.f k i0_0 i0_1 w1 x347 m0_0 m0_1 m0_2 m0_3 t311 t312 t313 t314 t315 t316 t317 t318 t319 t320 t321 t322 t323 t324 t325 t326 t327 t328 t329 t330 t331 t332 t333 t334 t335).bind fun t353 => ((lapp y349 t353).bind fun y356 => (render_Frame_v2.l0 k i0_0 i0_1 w1 m0_0 m0_1 m0_2 m0_3 t311 t312 t313 t314 t315 t316 t317 t318 t319 t320 t321 t322 t323 t324 t325 t326 t327 t328 t329 t330 t331 t332 t333 t334 t335 t341 (wr64 (x347 + 1)) y356 y351))) else (some (y349, y351))
def render_Frame_v2.f (k : Nat) (i0_0 : Int) (i0_1 : Int) (w1 : Int) (m0_0 : Int) (m0_1 : Int) (m0_2 : Int) (m0_3 : Int) (m3_1 : Int) (m3_8 : Int) (m3_9 : Int) (m3_16 : Int) : Option (Int × Int × Int × List (Int)) := (render_Edges_v2.f i0_0 i0_1 w1 m3_1 m3_8 m3_9 m3_16).bind fun (t307, t308) => (if t308 = 0 then ((render_layers_v2.f k i0_0 i0_1 w1 m3_1 m3_8 m3_9 m3_16).bind fun (t311, t312, t313, t314, t315, t316, t317, t318, t319, t320, t321, t322, t323, t324, t325, t326, t327, t328, t329, t330, t331, t332, t333, t334, t335) => ((scale_Height_v1.f i0_0 i0_1 0 w1).bind fun t341 => ((render_Frame_v2.l0 k i0_0 i0_1 w1 m0_0 m0_1 m0_2 m0_3 t311 t312 t313 t314 t315 t316 t317 t318 t319 t320 t321 t322 t323 t324 t325 t326 t327 t328 t329 t330 t331 t332 t333 t334 t335 t341 0 ([] : List (Int)) ([] : List (Int)) : Option (List (Int) × List (Int))).bind fun (y362, y364) => (some (w1, t341, 0, y362))))) else (some (0, 0, t308, ([] : List (Int)))))
theorem render_Frame_v2.ok {S : Seal} {B0 : Nat} {B1 : Nat} {B2 : Nat} {B3 : Nat} {k : Nat} {i0_0 : Int} {i0_1 : Int} {w1 : Int} {m0_0 : Int} {m0_1 : Int} {m0_2 : Int} {m0_3 : Int} {m3_1 : Int} {m3_8 : Int} {m3_9 : Int} {m3_16 : Int} {r0_ : Int} {r1_ : Int} {r2_ : Int} {r3_ : List (Int)}{A_ : Int → Addr} (hE_ : EO gsE S A_ 157) (e : render_Frame_v2.f k i0_0 i0_1 w1 m0_0 m0_1 m0_2 m0_3 m3_1 m3_8 m3_9 m3_16 = some (r0_, r1_, r2_, r3_)) :
    Cal Tryd.prog 7 [.agg #[vI i0_0, vI i0_1, vI 0, .slice (some ⟨B0, 0, none⟩) 1 1, .slice (some ⟨B1, 0, none⟩) 1 1], vI w1] ([⟨B0, [.int .u8 m0_0, .int .u8 m0_1, .int .u8 m0_2, .int .u8 m0_3], 4⟩, ⟨B1, [vI 1, vI 0, vI 0, vI 0, vI 0, vI 0, vI 0, vI 0, vI 0, vI 0, .slice (some ⟨B2, 0, none⟩) 1 1], 11⟩, ⟨B2, [vI 0, vI 0, .slice (some ⟨B3, 0, none⟩) 3 3, vB false], 4⟩, ⟨B3, [vI 1, vI m3_1, vI 0, vI 0, vI 0, vI 0, vI 0, vI 1, vI m3_8, vI m3_9, vI 0, vI 0, vI 0, vI 0, vI 1, vI 0, vI m3_16, vI 0, vI 0, vI 0, vI 0], 21⟩] : List Own) S fun v H' S' => ∃ (N0_ : Option Nat) (nN0_ : Nat) , v = .tuple #[.agg #[vI r0_, vI r1_, .slice (ad N0_) r3_.length (nN0_ / 1)], errV 157 A_ r2_] ∧ H' = ([⟨N0_, encL E_u8 r3_, nN0_⟩, ⟨B0, [.int .u8 m0_0, .int .u8 m0_1, .int .u8 m0_2, .int .u8 m0_3], 4⟩, ⟨B1, [vI 1, vI 0, vI 0, vI 0, vI 0, vI 0, vI 0, vI 0, vI 0, vI 0, .slice (some ⟨B2, 0, none⟩) 1 1], 11⟩, ⟨B2, [vI 0, vI 0, .slice (some ⟨B3, 0, none⟩) 3 3, vB false], 4⟩, ⟨B3, [vI 1, vI m3_1, vI 0, vI 0, vI 0, vI 0, vI 0, vI 1, vI m3_8, vI m3_9, vI 0, vI 0, vI 0, vI 0, vI 1, vI 0, vI m3_16, vI 0, vI 0, vI 0, vI 0], 21⟩] : List Own) ∧ S' = S := by
 unfold render_Frame_v2.f at e
 refine cal_of (c := c7) (N := 45) Tryd.func7 rfl rfl (by kernel_rfl) (rs := [.cn 3 4, .t 5]) (by kernel_rfl) (Nat.le_of_ble_eq_true rfl) ?_
 unfold c7
 refine w_seq ?_
 refine w_reg fun all => ?_
 refine t_a (.box rfl rfl rfl) fun b305 fb305 sb305 => ?_
 refine t_a (.new rfl rfl) fun b306 fb306 sb306 => ?_
 refine t_qz 1 [1, 2, 4] (σ' := [(1, vI w1), (2, vP b305 0), (4, vP b306 0)]) (by kernel_rfl) ?_
 refine t_end ?_
 show W _ _ _ _ _ _ _
 refine w_seq ?_
 refine w_seq ?_
 refine w_reg fun all => ?_
 refine t_v (.ldn rfl rfl rfl (.at 1 rfl rfl)) ?_
 obtain ⟨⟨t307, t308⟩, h309, e⟩ := bind_of e
 try dsimp only at e
 refine t_qz 1 [1, 2, 4, 12, 13] (σ' := [(1, vI w1), (2, vP b305 0), (4, vP b306 0), (12, .agg #[vI i0_0, vI i0_1, vI 0, .slice (some ⟨B0, 0, none⟩) 1 1, .slice (some ⟨B1, 0, none⟩) 1 1]), (13, vI w1)]) (by kernel_rfl) ?_
 refine t_v (.callr (vs := [.agg #[vI i0_0, vI i0_1, vI 0, .slice (some ⟨B0, 0, none⟩) 1 1, .slice (some ⟨B1, 0, none⟩) 1 1], vI w1]) (A := ([⟨B1, [vI 1, vI 0, vI 0, vI 0, vI 0, vI 0, vI 0, vI 0, vI 0, vI 0, .slice (some ⟨B2, 0, none⟩) 1 1], 11⟩, ⟨B2, [vI 0, vI 0, .slice (some ⟨B3, 0, none⟩) 3 3, vB false], 4⟩, ⟨B3, [vI 1, vI m3_1, vI 0, vI 0, vI 0, vI 0, vI 0, vI 1, vI m3_8, vI m3_9, vI 0, vI 0, vI 0, vI 0, vI 1, vI 0, vI m3_16, vI 0, vI 0, vI 0, vI 0], 21⟩] : List Own)) (F0 := ([⟨b306, [vI 0, vI 0, .slice none 0 0], 3⟩, ⟨b305, [vI i0_0, vI i0_1, vI 0, .slice (some ⟨B0, 0, none⟩) 1 1, .slice (some ⟨B1, 0, none⟩) 1 1], 5⟩, ⟨B0, [.int .u8 m0_0, .int .u8 m0_1, .int .u8 m0_2, .int .u8 m0_3], 4⟩] : List Own)) rfl rfl (by kernel_rfl) (sel_perm (is := [3, 3, 3]) (by kernel_rfl)) (render_Edges_v2.ok hE_ h309)) ?_
 refine t_qz 5 [1, 2, 4, 7] (σ' := [(1, vI w1), (2, vP b305 0), (4, vP b306 0), (7, errV 157 A_ t308)]) (by kernel_rfl) ?_
 refine t_end ?_
 show W _ _ _ _ _ _ _
 refine w_seq ?_
 refine w_reg fun all => ?_
 by_cases c310 : t308 = 0
 ·rw [if_pos c310] at e
  have c310b : (t308 == 0) = true := beq_iff_eq.mpr c310
  refine t_qz 1 [1, 2, 4, 7, 17] (σ' := [(1, vI w1), (2, vP b305 0), (4, vP b306 0), (7, errV 157 A_ t308), (17, errV 157 A_ t308)]) (by kernel_rfl) ?_
  refine t_v (.eqt (a := errV 157 A_ t308) (b := .nilIface) (r := t308 == 0) rfl rfl rfl rfl (eqErr (by kernel_rfl) rfl) (bnk c310b rfl)) ?_
  refine t_keep [1, 2, 4, 7, 18] (σ' := [(1, vI w1), (2, vP b305 0), (4, vP b306 0), (7, errV 157 A_ t308), (18, vB false)]) (by kernel_rfl) ?_
  refine t_end ?_
  show W _ _ _ _ _ _ _
  refine w_cond rfl (fun c_ => by cases c_) (fun _ => ?_)
  show W _ _ _ _ _ _ _
  refine w_skip ?_
  show W _ _ _ _ _ _ _
  refine w_seq ?_
  refine w_reg fun all => ?_
  refine t_v (.ldn rfl rfl rfl (.at 1 rfl rfl)) ?_
  obtain ⟨⟨t311, t312, t313, t314, t315, t316, t317, t318, t319, t320, t321, t322, t323, t324, t325, t326, t327, t328, t329, t330, t331, t332, t333, t334, t335⟩, h336, e⟩ := bind_of e
  try dsimp only at e
  refine t_qz 1 [1, 2, 4, 21, 22] (σ' := [(1, vI w1), (2, vP b305 0), (4, vP b306 0), (21, .agg #[vI i0_0, vI i0_1, vI 0, .slice (some ⟨B0, 0, none⟩) 1 1, .slice (some ⟨B1, 0, none⟩) 1 1]), (22, vI w1)]) (by kernel_rfl) ?_
  refine t_call (vs := [.agg #[vI i0_0, vI i0_1, vI 0, .slice (some ⟨B0, 0, none⟩) 1 1, .slice (some ⟨B1, 0, none⟩) 1 1], vI w1]) (H1 := ([⟨B1, [vI 1, vI 0, vI 0, vI 0, vI 0, vI 0, vI 0, vI 0, vI 0, vI 0, .slice (some ⟨B2, 0, none⟩) 1 1], 11⟩, ⟨B2, [vI 0, vI 0, .slice (some ⟨B3, 0, none⟩) 3 3, vB false], 4⟩, ⟨B3, [vI 1, vI m3_1, vI 0, vI 0, vI 0, vI 0, vI 0, vI 1, vI m3_8, vI m3_9, vI 0, vI 0, vI 0, vI 0, vI 1, vI 0, vI m3_16, vI 0, vI 0, vI 0, vI 0], 21⟩] : List Own)) (F := ([⟨b306, [vI 0, vI 0, .slice none 0 0], 3⟩, ⟨b305, [vI i0_0, vI i0_1, vI 0, .slice (some ⟨B0, 0, none⟩) 1 1, .slice (some ⟨B1, 0, none⟩) 1 1], 5⟩, ⟨B0, [.int .u8 m0_0, .int .u8 m0_1, .int .u8 m0_2, .int .u8 m0_3], 4⟩] : List Own)) rfl rfl (by kernel_rfl) (sel_perm (is := [3, 3, 3]) (by kernel_rfl)) (render_layers_v2.ok hE_ h336) ?_
  rintro _ _ S_ ⟨N337, nN337, N338, nN338, N339, nN339, N340, nN340, rfl, rfl, hS_⟩
  obtain rfl := hS_.symm
  refine t_qz 1 [1, 2, 4, 8] (σ' := [(1, vI w1), (2, vP b305 0), (4, vP b306 0), (8, .slice (some ⟨N337, 0, none⟩) 1 (nN337 / 12))]) (by kernel_rfl) ?_
  refine t_end ?_
  show W _ _ _ _ _ _ _
  refine w_seq ?_
  refine w_reg fun all => ?_
  refine t_qz 1 [1, 2, 4, 8, 24] (σ' := [(1, vI w1), (2, vP b305 0), (4, vP b306 0), (8, .slice (some ⟨N337, 0, none⟩) 1 (nN337 / 12)), (24, vI w1)]) (by kernel_rfl) ?_
  refine t_v (.ldn rfl rfl rfl (.at 8 rfl rfl)) ?_
  obtain ⟨t341, h342, e⟩ := bind_of e
  refine t_qz 1 [1, 2, 4, 8, 24, 25, 26] (σ' := [(1, vI w1), (2, vP b305 0), (4, vP b306 0), (8, .slice (some ⟨N337, 0, none⟩) 1 (nN337 / 12)), (24, vI w1), (25, .agg #[vI i0_0, vI i0_1, vI 0, .slice (some ⟨B0, 0, none⟩) 1 1, .slice (some ⟨B1, 0, none⟩) 1 1]), (26, vI w1)]) (by kernel_rfl) ?_
  refine t_v (.call (vs := [.agg #[vI i0_0, vI i0_1, vI 0, .slice (some ⟨B0, 0, none⟩) 1 1, .slice (some ⟨B1, 0, none⟩) 1 1], vI w1]) rfl rfl (by kernel_rfl) (scale_Height_v1.ok hE_ h342)) ?_
  refine t_qz 1 [1, 2, 4, 8, 28] (σ' := [(1, vI w1), (2, vP b305 0), (4, vP b306 0), (8, .slice (some ⟨N337, 0, none⟩) 1 (nN337 / 12)), (28, .agg #[vI w1, vI t341, .slice none 0 0])]) (by kernel_rfl) ?_
  refine t_a (.new rfl rfl) fun b343 fb343 sb343 => ?_
  refine t_sti 0 (cs := [vI w1, vI t341, .slice none 0 0]) rfl rfl rfl rfl rfl rfl rfl rfl rfl ?_
  refine t_keep [1, 2, 4, 8, 9] (σ' := [(1, vI w1), (2, vP b305 0), (4, vP b306 0), (8, .slice (some ⟨N337, 0, none⟩) 1 (nN337 / 12)), (9, vP b343 0)]) (by kernel_rfl) ?_
  refine t_end ?_
  show W _ _ _ _ _ _ _
  obtain ⟨⟨y362, y364⟩, e345, e⟩ := bind_of e
  try dsimp only at e
  refine w_cut [4, 9] (fun σ_ H_ S_ => ∃ (a361 : Option Nat) (na361 : Nat) (a363 : Option Nat) (na363 : Nat), [(4, vP b306 0), (9, vP b343 0)] = σ_ ∧ ([⟨b343, [vI w1, vI t341, .slice (ad a361) y362.length (na361 / 1)], 3⟩, ⟨N337, [vI 1, vI 0, vI 0, vI 0, vI 0, vI 0, vI t311, vI t312, vI t313, vI t314, .slice (some ⟨N338, 0, none⟩) 1 (nN338 / 4), .slice (ad N340) t335.length (nN340 / 4)], nN337⟩, ⟨N338, [vI t315, vI t316, .slice (some ⟨N339, 0, none⟩) 3 (nN339 / 7), vB false], nN338⟩, ⟨N339, [vI 1, vI t317, vI t318, vI t319, vI t320, vI t321, vI t322, vI 1, vI t323, vI t324, vI t325, vI t326, vI t327, vI t328, vI 1, vI t329, vI t330, vI t331, vI t332, vI t333, vI t334], nN339⟩, ⟨B1, [vI 1, vI 0, vI 0, vI 0, vI 0, vI 0, vI 0, vI 0, vI 0, vI 0, .slice (some ⟨B2, 0, none⟩) 1 1], 11⟩, ⟨B2, [vI 0, vI 0, .slice (some ⟨B3, 0, none⟩) 3 3, vB false], 4⟩, ⟨B3, [vI 1, vI m3_1, vI 0, vI 0, vI 0, vI 0, vI 0, vI 1, vI m3_8, vI m3_9, vI 0, vI 0, vI 0, vI 0, vI 1, vI 0, vI m3_16, vI 0, vI 0, vI 0, vI 0], 21⟩, ⟨b306, [vI 0, vI 0, .slice (ad a363) y364.length (na363 / 1)], 3⟩, ⟨b305, [vI i0_0, vI i0_1, vI 0, .slice (some ⟨B0, 0, none⟩) 1 1, .slice (some ⟨B1, 0, none⟩) 1 1], 5⟩, ⟨B0, [.int .u8 m0_0, .int .u8 m0_1, .int .u8 m0_2, .int .u8 m0_3], 4⟩, ⟨a361, encL E_u8 y362, na361⟩, ⟨N340, encL E_i644 t335, nN340⟩, ⟨a363, encL E_u8 y364, na363⟩] : List Own) = H_ ∧ S = S_) ?_ ?_
  ·show W _ _ _ _ _ _ _
   refine w_seq ?_
   refine w_reg fun all => ?_
   refine t_qz 1 [1, 2, 4, 8, 9, 29] (σ' := [(1, vI w1), (2, vP b305 0), (4, vP b306 0), (8, .slice (some ⟨N337, 0, none⟩) 1 (nN337 / 12)), (9, vP b343 0), (29, vP b343 1)]) (by kernel_rfl) ?_
   refine t_v (.ld1 rfl rfl rfl (.at 0 rfl rfl)) ?_
   refine t_qz 1 [1, 2, 4, 8, 9, 30, 31] (σ' := [(1, vI w1), (2, vP b305 0), (4, vP b306 0), (8, .slice (some ⟨N337, 0, none⟩) 1 (nN337 / 12)), (9, vP b343 0), (30, vI t341), (31, vI 0)]) (by kernel_rfl) ?_
   refine t_end ?_
   show W _ _ _ _ _ _ _
   refine w_block ?_
   refine w_vs VS.vac ?_
   refine w_vs VS.vac ?_
   refine w_kp [1, 2, 4, 8, 9, 30, 31] (σ' := [(1, vI w1), (2, vP b305 0), (4, vP b306 0), (8, .slice (some ⟨N337, 0, none⟩) 1 (nN337 / 12)), (9, vP b343 0), (30, vI t341), (31, vI 0)]) (by kernel_rfl) ?_
   refine w_loop (fun n_ σ_ H_ S_ => ∃ (x347 : Int) (y349 : List (Int)) (y351 : List (Int)), ∃ (a348 : Option Nat) (na348 : Nat) (a350 : Option Nat) (na350 : Nat), [(1, vI w1), (2, vP b305 0), (4, vP b306 0), (8, .slice (some ⟨N337, 0, none⟩) 1 (nN337 / 12)), (9, vP b343 0), (30, vI t341), (31, vI x347)] = σ_ ∧ ([⟨a348, encL E_u8 y349, na348⟩, ⟨a350, encL E_u8 y351, na350⟩, ⟨b343, [vI w1, vI t341, .slice (ad a348) y349.length (na348 / 1)], 3⟩, ⟨N337, [vI 1, vI 0, vI 0, vI 0, vI 0, vI 0, vI t311, vI t312, vI t313, vI t314, .slice (some ⟨N338, 0, none⟩) 1 (nN338 / 4), .slice (ad N340) t335.length (nN340 / 4)], nN337⟩, ⟨N338, [vI t315, vI t316, .slice (some ⟨N339, 0, none⟩) 3 (nN339 / 7), vB false], nN338⟩, ⟨N339, [vI 1, vI t317, vI t318, vI t319, vI t320, vI t321, vI t322, vI 1, vI t323, vI t324, vI t325, vI t326, vI t327, vI t328, vI 1, vI t329, vI t330, vI t331, vI t332, vI t333, vI t334], nN339⟩, ⟨N340, encL E_i644 t335, nN340⟩, ⟨B1, [vI 1, vI 0, vI 0, vI 0, vI 0, vI 0, vI 0, vI 0, vI 0, vI 0, .slice (some ⟨B2, 0, none⟩) 1 1], 11⟩, ⟨B2, [vI 0, vI 0, .slice (some ⟨B3, 0, none⟩) 3 3, vB false], 4⟩, ⟨B3, [vI 1, vI m3_1, vI 0, vI 0, vI 0, vI 0, vI 0, vI 1, vI m3_8, vI m3_9, vI 0, vI 0, vI 0, vI 0, vI 1, vI 0, vI m3_16, vI 0, vI 0, vI 0, vI 0], 21⟩, ⟨b306, [vI 0, vI 0, .slice (ad a350) y351.length (na350 / 1)], 3⟩, ⟨b305, [vI i0_0, vI i0_1, vI 0, .slice (some ⟨B0, 0, none⟩) 1 1, .slice (some ⟨B1, 0, none⟩) 1 1], 5⟩, ⟨B0, [.int .u8 m0_0, .int .u8 m0_1, .int .u8 m0_2, .int .u8 m0_3], 4⟩] : List Own) = H_ ∧ S = S_ ∧ render_Frame_v2.l0 n_ i0_0 i0_1 w1 m0_0 m0_1 m0_2 m0_3 t311 t312 t313 t314 t315 t316 t317 t318 t319 t320 t321 t322 t323 t324 t325 t326 t327 t328 t329 t330 t331 t332 t333 t334 t335 t341 x347 y349 y351 = some (y362, y364)) _ ⟨0, ([] : List (Int)), ([] : List (Int)), none, 0, none, 0, rfl, rfl, rfl, e345⟩ ?_
   rintro n360 σ_ H_ S_ ⟨x347, y349, y351, a348, na348, a350, na350, rfl, rfl, rfl, e345⟩
   cases n360 with
   | zero => rw [render_Frame_v2.l0.eq_1] at e345; cases e345
   | succ k_ =>
    rw [render_Frame_v2.l0.eq_2] at e345
    refine w_seq ?_
    refine w_reg fun all => ?_
    by_cases c352 : x347 < t341
    ·rw [if_pos c352] at e345
     have c352b : (decide (x347 < t341)) = true := decide_eq_true c352
     refine t_v (dv_quiet rfl (congrArg (fun t => some (Value.bool t)) c352b)) ?_
     refine t_keep [1, 2, 4, 8, 9, 30, 31, 32] (σ' := [(1, vI w1), (2, vP b305 0), (4, vP b306 0), (8, .slice (some ⟨N337, 0, none⟩) 1 (nN337 / 12)), (9, vP b343 0), (30, vI t341), (31, vI x347), (32, vB true)]) (by kernel_rfl) ?_
     refine t_end ?_
     show W _ _ _ _ _ _ _
     refine w_seq ?_
     refine w_cond rfl (fun _ => ?_) (fun c_ => by cases c_)
     show W _ _ _ _ _ _ _
     refine w_skip ?_
     show W _ _ _ _ _ _ _
     refine w_seq ?_
     refine w_block ?_
     refine w_seq ?_
     refine w_reg fun all => ?_
     refine t_qz 2 [1, 2, 4, 8, 9, 10, 30, 31] (σ' := [(1, vI w1), (2, vP b305 0), (4, vP b306 0), (8, .slice (some ⟨N337, 0, none⟩) 1 (nN337 / 12)), (9, vP b343 0), (10, vI x347), (30, vI t341), (31, vI x347)]) (by kernel_rfl) ?_
     refine t_end ?_
     show W _ _ _ _ _ _ _
     obtain ⟨t353, h354, e345⟩ := bind_of e345
     obtain ⟨y356, hl357, e345⟩ := bind_of e345
     refine w_kp [1, 2, 4, 8, 9, 10, 30, 31] (σ' := [(1, vI w1), (2, vP b305 0), (4, vP b306 0), (8, .slice (some ⟨N337, 0, none⟩) 1 (nN337 / 12)), (9, vP b343 0), (10, vI x347), (30, vI t341), (31, vI x347)]) (by kernel_rfl) ?_
     refine w_gameQ mixed (by kernel_rfl) fun all G hend hstep hqf => ?_
     have hg_3ff : ∀ (g358 : Option Nat) (ng358 : Nat) (N355 : Option Nat) (nN355 : Nat), G [true, true, true, true, true, true, true, true, true, true] [(1, vI w1), (2, vP b305 0), (4, vP b306 0), (8, .slice (some ⟨N337, 0, none⟩) 1 (nN337 / 12)), (9, vP b343 0), (30, vI t341), (31, vI x347)] ([⟨g358, encL E_u8 y356, ng358⟩, ⟨N355, encL E_u8 t353, nN355⟩, ⟨B0, [.int .u8 m0_0, .int .u8 m0_1, .int .u8 m0_2, .int .u8 m0_3], 4⟩, ⟨N337, [vI 1, vI 0, vI 0, vI 0, vI 0, vI 0, vI t311, vI t312, vI t313, vI t314, .slice (some ⟨N338, 0, none⟩) 1 (nN338 / 4), .slice (ad N340) t335.length (nN340 / 4)], nN337⟩, ⟨N338, [vI t315, vI t316, .slice (some ⟨N339, 0, none⟩) 3 (nN339 / 7), vB false], nN338⟩, ⟨N339, [vI 1, vI t317, vI t318, vI t319, vI t320, vI t321, vI t322, vI 1, vI t323, vI t324, vI t325, vI t326, vI t327, vI t328, vI 1, vI t329, vI t330, vI t331, vI t332, vI t333, vI t334], nN339⟩, ⟨N340, encL E_i644 t335, nN340⟩, ⟨a350, encL E_u8 y351, na350⟩, ⟨b343, [vI w1, vI t341, .slice (ad g358) y356.length (ng358 / 1)], 3⟩, ⟨B1, [vI 1, vI 0, vI 0, vI 0, vI 0, vI 0, vI 0, vI 0, vI 0, vI 0, .slice (some ⟨B2, 0, none⟩) 1 1], 11⟩, ⟨B2, [vI 0, vI 0, .slice (some ⟨B3, 0, none⟩) 3 3, vB false], 4⟩, ⟨B3, [vI 1, vI m3_1, vI 0, vI 0, vI 0, vI 0, vI 0, vI 1, vI m3_8, vI m3_9, vI 0, vI 0, vI 0, vI 0, vI 1, vI 0, vI m3_16, vI 0, vI 0, vI 0, vI 0], 21⟩, ⟨b306, [vI 0, vI 0, .slice (ad a350) y351.length (na350 / 1)], 3⟩, ⟨b305, [vI i0_0, vI i0_1, vI 0, .slice (some ⟨B0, 0, none⟩) 1 1, .slice (some ⟨B1, 0, none⟩) 1 1], 5⟩] : List Own) := by
      intro g358 ng358 N355 nN355
      refine hend _ _ _ (by kernel_rfl) ?_
      show W _ _ _ _ _ _ _
      refine w_reg fun all => ?_
      refine t_qz 2 [1, 2, 4, 8, 9, 30, 31] (σ' := [(1, vI w1), (2, vP b305 0), (4, vP b306 0), (8, .slice (some ⟨N337, 0, none⟩) 1 (nN337 / 12)), (9, vP b343 0), (30, vI t341), (31, vI (wr64 (x347 + 1)))]) (by kernel_rfl) ?_
      refine t_end ?_
      exact ⟨k_, Nat.lt_succ_self _, [(1, vI w1), (2, vP b305 0), (4, vP b306 0), (8, .slice (some ⟨N337, 0, none⟩) 1 (nN337 / 12)), (9, vP b343 0), (30, vI t341), (31, vI (wr64 (x347 + 1)))], ([⟨g358, encL E_u8 y356, ng358⟩, ⟨a350, encL E_u8 y351, na350⟩, ⟨b343, [vI w1, vI t341, .slice (ad g358) y356.length (ng358 / 1)], 3⟩, ⟨N337, [vI 1, vI 0, vI 0, vI 0, vI 0, vI 0, vI t311, vI t312, vI t313, vI t314, .slice (some ⟨N338, 0, none⟩) 1 (nN338 / 4), .slice (ad N340) t335.length (nN340 / 4)], nN337⟩, ⟨N338, [vI t315, vI t316, .slice (some ⟨N339, 0, none⟩) 3 (nN339 / 7), vB false], nN338⟩, ⟨N339, [vI 1, vI t317, vI t318, vI t319, vI t320, vI t321, vI t322, vI 1, vI t323, vI t324, vI t325, vI t326, vI t327, vI t328, vI 1, vI t329, vI t330, vI t331, vI t332, vI t333, vI t334], nN339⟩, ⟨N340, encL E_i644 t335, nN340⟩, ⟨B1, [vI 1, vI 0, vI 0, vI 0, vI 0, vI 0, vI 0, vI 0, vI 0, vI 0, .slice (some ⟨B2, 0, none⟩) 1 1], 11⟩, ⟨B2, [vI 0, vI 0, .slice (some ⟨B3, 0, none⟩) 3 3, vB false], 4⟩, ⟨B3, [vI 1, vI m3_1, vI 0, vI 0, vI 0, vI 0, vI 0, vI 1, vI m3_8, vI m3_9, vI 0, vI 0, vI 0, vI 0, vI 1, vI 0, vI m3_16, vI 0, vI 0, vI 0, vI 0], 21⟩, ⟨b306, [vI 0, vI 0, .slice (ad a350) y351.length (na350 / 1)], 3⟩, ⟨b305, [vI i0_0, vI i0_1, vI 0, .slice (some ⟨B0, 0, none⟩) 1 1, .slice (some ⟨B1, 0, none⟩) 1 1], 5⟩, ⟨B0, [.int .u8 m0_0, .int .u8 m0_1, .int .u8 m0_2, .int .u8 m0_3], 4⟩] : List Own), S, keep_sub [1, 2, 4, 8, 9, 30, 31] (by kernel_rfl), VS.sel [0, 6, 6, 2, 2, 2, 2, 2, 2, 2, 2, 2, 1] (by kernel_rfl), wr64 (x347 + 1), y356, y351, g358, ng358, a350, na350, rfl, rfl, rfl, e345⟩
     have hg_1ff : ∀ (g358 : Option Nat) (ng358 : Nat) (N355 : Option Nat) (nN355 : Nat), G [true, true, true, true, true, true, true, true, true, false] [(1, vI w1), (2, vP b305 0), (4, vP b306 0), (8, .slice (some ⟨N337, 0, none⟩) 1 (nN337 / 12)), (9, vP b343 0), (30, vI t341), (31, vI x347), (41, .slice (ad g358) y356.length (ng358 / 1)), (42, vP b343 2)] ([⟨g358, encL E_u8 y356, ng358⟩, ⟨N355, encL E_u8 t353, nN355⟩, ⟨B0, [.int .u8 m0_0, .int .u8 m0_1, .int .u8 m0_2, .int .u8 m0_3], 4⟩, ⟨N337, [vI 1, vI 0, vI 0, vI 0, vI 0, vI 0, vI t311, vI t312, vI t313, vI t314, .slice (some ⟨N338, 0, none⟩) 1 (nN338 / 4), .slice (ad N340) t335.length (nN340 / 4)], nN337⟩, ⟨N338, [vI t315, vI t316, .slice (some ⟨N339, 0, none⟩) 3 (nN339 / 7), vB false], nN338⟩, ⟨N339, [vI 1, vI t317, vI t318, vI t319, vI t320, vI t321, vI t322, vI 1, vI t323, vI t324, vI t325, vI t326, vI t327, vI t328, vI 1, vI t329, vI t330, vI t331, vI t332, vI t333, vI t334], nN339⟩, ⟨N340, encL E_i644 t335, nN340⟩, ⟨a350, encL E_u8 y351, na350⟩, ⟨b343, [vI w1, vI t341, .slice (ad a348) y349.length (na348 / 1)], 3⟩, ⟨B1, [vI 1, vI 0, vI 0, vI 0, vI 0, vI 0, vI 0, vI 0, vI 0, vI 0, .slice (some ⟨B2, 0, none⟩) 1 1], 11⟩, ⟨B2, [vI 0, vI 0, .slice (some ⟨B3, 0, none⟩) 3 3, vB false], 4⟩, ⟨B3, [vI 1, vI m3_1, vI 0, vI 0, vI 0, vI 0, vI 0, vI 1, vI m3_8, vI m3_9, vI 0, vI 0, vI 0, vI 0, vI 1, vI 0, vI m3_16, vI 0, vI 0, vI 0, vI 0], 21⟩, ⟨b306, [vI 0, vI 0, .slice (ad a350) y351.length (na350 / 1)], 3⟩, ⟨b305, [vI i0_0, vI i0_1, vI 0, .slice (some ⟨B0, 0, none⟩) 1 1, .slice (some ⟨B1, 0, none⟩) 1 1], 5⟩] : List Own) := by
      intro g358 ng358 N355 nN355
      refine hstep [9] _ _ _ (by kernel_rfl) (List.cons_ne_nil _ _) ⟨?_, trivial⟩
      ·show T _ _ _ _ _ _ _ _
       refine t_sti 8 (cs := [vI w1, vI t341, .slice (ad g358) y356.length (ng358 / 1)]) rfl rfl rfl rfl rfl rfl rfl rfl rfl ?_
       exact t_fin [1, 2, 4, 8, 9, 30, 31] (hg_3ff g358 ng358 N355 nN355) (by kernel_rfl)
     have hg_ff : ∀ (g358 : Option Nat) (ng358 : Nat) (N355 : Option Nat) (nN355 : Nat), G [true, true, true, true, true, true, true, true, false, false] [(1, vI w1), (2, vP b305 0), (4, vP b306 0), (8, .slice (some ⟨N337, 0, none⟩) 1 (nN337 / 12)), (9, vP b343 0), (30, vI t341), (31, vI x347), (41, .slice (ad g358) y356.length (ng358 / 1))] ([⟨g358, encL E_u8 y356, ng358⟩, ⟨N355, encL E_u8 t353, nN355⟩, ⟨B0, [.int .u8 m0_0, .int .u8 m0_1, .int .u8 m0_2, .int .u8 m0_3], 4⟩, ⟨N337, [vI 1, vI 0, vI 0, vI 0, vI 0, vI 0, vI t311, vI t312, vI t313, vI t314, .slice (some ⟨N338, 0, none⟩) 1 (nN338 / 4), .slice (ad N340) t335.length (nN340 / 4)], nN337⟩, ⟨N338, [vI t315, vI t316, .slice (some ⟨N339, 0, none⟩) 3 (nN339 / 7), vB false], nN338⟩, ⟨N339, [vI 1, vI t317, vI t318, vI t319, vI t320, vI t321, vI t322, vI 1, vI t323, vI t324, vI t325, vI t326, vI t327, vI t328, vI 1, vI t329, vI t330, vI t331, vI t332, vI t333, vI t334], nN339⟩, ⟨N340, encL E_i644 t335, nN340⟩, ⟨a350, encL E_u8 y351, na350⟩, ⟨b343, [vI w1, vI t341, .slice (ad a348) y349.length (na348 / 1)], 3⟩, ⟨B1, [vI 1, vI 0, vI 0, vI 0, vI 0, vI 0, vI 0, vI 0, vI 0, vI 0, .slice (some ⟨B2, 0, none⟩) 1 1], 11⟩, ⟨B2, [vI 0, vI 0, .slice (some ⟨B3, 0, none⟩) 3 3, vB false], 4⟩, ⟨B3, [vI 1, vI m3_1, vI 0, vI 0, vI 0, vI 0, vI 0, vI 1, vI m3_8, vI m3_9, vI 0, vI 0, vI 0, vI 0, vI 1, vI 0, vI m3_16, vI 0, vI 0, vI 0, vI 0], 21⟩, ⟨b306, [vI 0, vI 0, .slice (ad a350) y351.length (na350 / 1)], 3⟩, ⟨b305, [vI i0_0, vI i0_1, vI 0, .slice (some ⟨B0, 0, none⟩) 1 1, .slice (some ⟨B1, 0, none⟩) 1 1], 5⟩] : List Own) := by
      intro g358 ng358 N355 nN355
      exact hqf 8 [1, 2, 4, 8, 9, 30, 31, 41, 42] _ _ _ _ (by kernel_rfl) (by kernel_rfl) (hg_1ff g358 ng358 N355 nN355)
     have hg_7f : ∀ (N355 : Option Nat) (nN355 : Nat), G [true, true, true, true, true, true, true, false, false, false] [(1, vI w1), (2, vP b305 0), (4, vP b306 0), (8, .slice (some ⟨N337, 0, none⟩) 1 (nN337 / 12)), (9, vP b343 0), (30, vI t341), (31, vI x347), (35, .slice (ad a348) y349.length (na348 / 1)), (40, .slice (ad N355) t353.length (nN355 / 1))] ([⟨N355, encL E_u8 t353, nN355⟩, ⟨B0, [.int .u8 m0_0, .int .u8 m0_1, .int .u8 m0_2, .int .u8 m0_3], 4⟩, ⟨N337, [vI 1, vI 0, vI 0, vI 0, vI 0, vI 0, vI t311, vI t312, vI t313, vI t314, .slice (some ⟨N338, 0, none⟩) 1 (nN338 / 4), .slice (ad N340) t335.length (nN340 / 4)], nN337⟩, ⟨N338, [vI t315, vI t316, .slice (some ⟨N339, 0, none⟩) 3 (nN339 / 7), vB false], nN338⟩, ⟨N339, [vI 1, vI t317, vI t318, vI t319, vI t320, vI t321, vI t322, vI 1, vI t323, vI t324, vI t325, vI t326, vI t327, vI t328, vI 1, vI t329, vI t330, vI t331, vI t332, vI t333, vI t334], nN339⟩, ⟨N340, encL E_i644 t335, nN340⟩, ⟨a348, encL E_u8 y349, na348⟩, ⟨a350, encL E_u8 y351, na350⟩, ⟨b343, [vI w1, vI t341, .slice (ad a348) y349.length (na348 / 1)], 3⟩, ⟨B1, [vI 1, vI 0, vI 0, vI 0, vI 0, vI 0, vI 0, vI 0, vI 0, vI 0, .slice (some ⟨B2, 0, none⟩) 1 1], 11⟩, ⟨B2, [vI 0, vI 0, .slice (some ⟨B3, 0, none⟩) 3 3, vB false], 4⟩, ⟨B3, [vI 1, vI m3_1, vI 0, vI 0, vI 0, vI 0, vI 0, vI 1, vI m3_8, vI m3_9, vI 0, vI 0, vI 0, vI 0, vI 1, vI 0, vI m3_16, vI 0, vI 0, vI 0, vI 0], 21⟩, ⟨b306, [vI 0, vI 0, .slice (ad a350) y351.length (na350 / 1)], 3⟩, ⟨b305, [vI i0_0, vI i0_1, vI 0, .slice (some ⟨B0, 0, none⟩) 1 1, .slice (some ⟨B1, 0, none⟩) 1 1], 5⟩] : List Own) := by
      intro N355 nN355
      refine hstep [7] _ _ _ (by kernel_rfl) (List.cons_ne_nil _ _) ⟨?_, trivial⟩
      ·show T _ _ _ _ _ _ _ _
       refine t_pure (fun w_ h_ => apO (E := E_u8) (z := 1) h_ (j := 0) rfl rfl (by decide)) fun hy_ => ?_
       refine t_appX (E := E_u8) (L := y349) (X := t353) (F := ([⟨N355, encL E_u8 t353, nN355⟩, ⟨B0, [.int .u8 m0_0, .int .u8 m0_1, .int .u8 m0_2, .int .u8 m0_3], 4⟩, ⟨N337, [vI 1, vI 0, vI 0, vI 0, vI 0, vI 0, vI t311, vI t312, vI t313, vI t314, .slice (some ⟨N338, 0, none⟩) 1 (nN338 / 4), .slice (ad N340) t335.length (nN340 / 4)], nN337⟩, ⟨N338, [vI t315, vI t316, .slice (some ⟨N339, 0, none⟩) 3 (nN339 / 7), vB false], nN338⟩, ⟨N339, [vI 1, vI t317, vI t318, vI t319, vI t320, vI t321, vI t322, vI 1, vI t323, vI t324, vI t325, vI t326, vI t327, vI t328, vI 1, vI t329, vI t330, vI t331, vI t332, vI t333, vI t334], nN339⟩, ⟨N340, encL E_i644 t335, nN340⟩, ⟨a350, encL E_u8 y351, na350⟩, ⟨b343, [vI w1, vI t341, .slice (ad a348) y349.length (na348 / 1)], 3⟩, ⟨B1, [vI 1, vI 0, vI 0, vI 0, vI 0, vI 0, vI 0, vI 0, vI 0, vI 0, .slice (some ⟨B2, 0, none⟩) 1 1], 11⟩, ⟨B2, [vI 0, vI 0, .slice (some ⟨B3, 0, none⟩) 3 3, vB false], 4⟩, ⟨B3, [vI 1, vI m3_1, vI 0, vI 0, vI 0, vI 0, vI 0, vI 1, vI m3_8, vI m3_9, vI 0, vI 0, vI 0, vI 0, vI 1, vI 0, vI m3_16, vI 0, vI 0, vI 0, vI 0], 21⟩, ⟨b306, [vI 0, vI 0, .slice (ad a350) y351.length (na350 / 1)], 3⟩, ⟨b305, [vI i0_0, vI i0_1, vI 0, .slice (some ⟨B0, 0, none⟩) 1 1, .slice (some ⟨B1, 0, none⟩) 1 1], 5⟩] : List Own)) rfl rfl rfl rfl (sel_perm (is := [6]) (by kernel_rfl)) rfl hy_ rfl (by decide) (by decide) rfl hl357 fun g358 ng358 => ?_
       exact t_fin [1, 2, 4, 8, 9, 30, 31, 41] (hg_ff g358 ng358 N355 nN355) (by kernel_rfl)
     have hg_7d : ∀ (N355 : Option Nat) (nN355 : Nat), G [true, false, true, true, true, true, true, false, false, false] [(1, vI w1), (2, vP b305 0), (4, vP b306 0), (8, .slice (some ⟨N337, 0, none⟩) 1 (nN337 / 12)), (9, vP b343 0), (30, vI t341), (31, vI x347), (34, vP b343 2), (40, .slice (ad N355) t353.length (nN355 / 1))] ([⟨N355, encL E_u8 t353, nN355⟩, ⟨B0, [.int .u8 m0_0, .int .u8 m0_1, .int .u8 m0_2, .int .u8 m0_3], 4⟩, ⟨N337, [vI 1, vI 0, vI 0, vI 0, vI 0, vI 0, vI t311, vI t312, vI t313, vI t314, .slice (some ⟨N338, 0, none⟩) 1 (nN338 / 4), .slice (ad N340) t335.length (nN340 / 4)], nN337⟩, ⟨N338, [vI t315, vI t316, .slice (some ⟨N339, 0, none⟩) 3 (nN339 / 7), vB false], nN338⟩, ⟨N339, [vI 1, vI t317, vI t318, vI t319, vI t320, vI t321, vI t322, vI 1, vI t323, vI t324, vI t325, vI t326, vI t327, vI t328, vI 1, vI t329, vI t330, vI t331, vI t332, vI t333, vI t334], nN339⟩, ⟨N340, encL E_i644 t335, nN340⟩, ⟨a348, encL E_u8 y349, na348⟩, ⟨a350, encL E_u8 y351, na350⟩, ⟨b343, [vI w1, vI t341, .slice (ad a348) y349.length (na348 / 1)], 3⟩, ⟨B1, [vI 1, vI 0, vI 0, vI 0, vI 0, vI 0, vI 0, vI 0, vI 0, vI 0, .slice (some ⟨B2, 0, none⟩) 1 1], 11⟩, ⟨B2, [vI 0, vI 0, .slice (some ⟨B3, 0, none⟩) 3 3, vB false], 4⟩, ⟨B3, [vI 1, vI m3_1, vI 0, vI 0, vI 0, vI 0, vI 0, vI 1, vI m3_8, vI m3_9, vI 0, vI 0, vI 0, vI 0, vI 1, vI 0, vI m3_16, vI 0, vI 0, vI 0, vI 0], 21⟩, ⟨b306, [vI 0, vI 0, .slice (ad a350) y351.length (na350 / 1)], 3⟩, ⟨b305, [vI i0_0, vI i0_1, vI 0, .slice (some ⟨B0, 0, none⟩) 1 1, .slice (some ⟨B1, 0, none⟩) 1 1], 5⟩] : List Own) := by
      intro N355 nN355
      refine hstep [1] _ _ _ (by kernel_rfl) (List.cons_ne_nil _ _) ⟨?_, trivial⟩
      ·show T _ _ _ _ _ _ _ _
       refine t_v (.ld1 rfl rfl rfl (.at 8 rfl rfl)) ?_
       exact t_fin [1, 2, 4, 8, 9, 30, 31, 35, 40] (hg_7f N355 nN355) (by kernel_rfl)
     have hg_3f : G [true, true, true, true, true, true, false, false, false, false] [(1, vI w1), (2, vP b305 0), (4, vP b306 0), (8, .slice (some ⟨N337, 0, none⟩) 1 (nN337 / 12)), (9, vP b343 0), (30, vI t341), (31, vI x347), (35, .slice (ad a348) y349.length (na348 / 1)), (36, .agg #[vI i0_0, vI i0_1, vI 0, .slice (some ⟨B0, 0, none⟩) 1 1, .slice (some ⟨B1, 0, none⟩) 1 1]), (37, .slice (some ⟨N337, 0, none⟩) 1 (nN337 / 12)), (38, vI w1), (39, vI x347)] ([⟨a348, encL E_u8 y349, na348⟩, ⟨a350, encL E_u8 y351, na350⟩, ⟨b343, [vI w1, vI t341, .slice (ad a348) y349.length (na348 / 1)], 3⟩, ⟨N337, [vI 1, vI 0, vI 0, vI 0, vI 0, vI 0, vI t311, vI t312, vI t313, vI t314, .slice (some ⟨N338, 0, none⟩) 1 (nN338 / 4), .slice (ad N340) t335.length (nN340 / 4)], nN337⟩, ⟨N338, [vI t315, vI t316, .slice (some ⟨N339, 0, none⟩) 3 (nN339 / 7), vB false], nN338⟩, ⟨N339, [vI 1, vI t317, vI t318, vI t319, vI t320, vI t321, vI t322, vI 1, vI t323, vI t324, vI t325, vI t326, vI t327, vI t328, vI 1, vI t329, vI t330, vI t331, vI t332, vI t333, vI t334], nN339⟩, ⟨N340, encL E_i644 t335, nN340⟩, ⟨B1, [vI 1, vI 0, vI 0, vI 0, vI 0, vI 0, vI 0, vI 0, vI 0, vI 0, .slice (some ⟨B2, 0, none⟩) 1 1], 11⟩, ⟨B2, [vI 0, vI 0, .slice (some ⟨B3, 0, none⟩) 3 3, vB false], 4⟩, ⟨B3, [vI 1, vI m3_1, vI 0, vI 0, vI 0, vI 0, vI 0, vI 1, vI m3_8, vI m3_9, vI 0, vI 0, vI 0, vI 0, vI 1, vI 0, vI m3_16, vI 0, vI 0, vI 0, vI 0], 21⟩, ⟨b306, [vI 0, vI 0, .slice (ad a350) y351.length (na350 / 1)], 3⟩, ⟨b305, [vI i0_0, vI i0_1, vI 0, .slice (some ⟨B0, 0, none⟩) 1 1, .slice (some ⟨B1, 0, none⟩) 1 1], 5⟩, ⟨B0, [.int .u8 m0_0, .int .u8 m0_1, .int .u8 m0_2, .int .u8 m0_3], 4⟩] : List Own) := by
      refine hstep [6] _ _ _ (by kernel_rfl) (List.cons_ne_nil _ _) ⟨?_, trivial⟩
      ·show T _ _ _ _ _ _ _ _
       refine t_call (vs := [.agg #[vI i0_0, vI i0_1, vI 0, .slice (some ⟨B0, 0, none⟩) 1 1, .slice (some ⟨B1, 0, none⟩) 1 1], .slice (some ⟨N337, 0, none⟩) 1 (nN337 / 12), vI w1, vI x347]) (H1 := ([⟨B0, [.int .u8 m0_0, .int .u8 m0_1, .int .u8 m0_2, .int .u8 m0_3], 4⟩, ⟨N337, [vI 1, vI 0, vI 0, vI 0, vI 0, vI 0, vI t311, vI t312, vI t313, vI t314, .slice (some ⟨N338, 0, none⟩) 1 (nN338 / 4), .slice (ad N340) t335.length (nN340 / 4)], nN337⟩, ⟨N338, [vI t315, vI t316, .slice (some ⟨N339, 0, none⟩) 3 (nN339 / 7), vB false], nN338⟩, ⟨N339, [vI 1, vI t317, vI t318, vI t319, vI t320, vI t321, vI t322, vI 1, vI t323, vI t324, vI t325, vI t326, vI t327, vI t328, vI 1, vI t329, vI t330, vI t331, vI t332, vI t333, vI t334], nN339⟩, ⟨N340, encL E_i644 t335, nN340⟩] : List Own)) (F := ([⟨a348, encL E_u8 y349, na348⟩, ⟨a350, encL E_u8 y351, na350⟩, ⟨b343, [vI w1, vI t341, .slice (ad a348) y349.length (na348 / 1)], 3⟩, ⟨B1, [vI 1, vI 0, vI 0, vI 0, vI 0, vI 0, vI 0, vI 0, vI 0, vI 0, .slice (some ⟨B2, 0, none⟩) 1 1], 11⟩, ⟨B2, [vI 0, vI 0, .slice (some ⟨B3, 0, none⟩) 3 3, vB false], 4⟩, ⟨B3, [vI 1, vI m3_1, vI 0, vI 0, vI 0, vI 0, vI 0, vI 1, vI m3_8, vI m3_9, vI 0, vI 0, vI 0, vI 0, vI 1, vI 0, vI m3_16, vI 0, vI 0, vI 0, vI 0], 21⟩, ⟨b306, [vI 0, vI 0, .slice (ad a350) y351.length (na350 / 1)], 3⟩, ⟨b305, [vI i0_0, vI i0_1, vI 0, .slice (some ⟨B0, 0, none⟩) 1 1, .slice (some ⟨B1, 0, none⟩) 1 1], 5⟩] : List Own)) rfl rfl (by kernel_rfl) (sel_perm (is := [12, 3, 3, 3, 3]) (by kernel_rfl)) (render_row_v2.ok hE_ h354) ?_
       rintro _ _ S_ ⟨N355, nN355, rfl, rfl, hS_⟩
       obtain rfl := hS_.symm
       exact t_fin [1, 2, 4, 8, 9, 30, 31, 35, 40] (hg_7f N355 nN355) (by kernel_rfl)
     have hg_3b : G [true, true, false, true, true, true, false, false, false, false] [(1, vI w1), (2, vP b305 0), (4, vP b306 0), (8, .slice (some ⟨N337, 0, none⟩) 1 (nN337 / 12)), (9, vP b343 0), (30, vI t341), (31, vI x347), (35, .slice (ad a348) y349.length (na348 / 1)), (37, .slice (some ⟨N337, 0, none⟩) 1 (nN337 / 12)), (38, vI w1), (39, vI x347)] ([⟨a348, encL E_u8 y349, na348⟩, ⟨a350, encL E_u8 y351, na350⟩, ⟨b343, [vI w1, vI t341, .slice (ad a348) y349.length (na348 / 1)], 3⟩, ⟨N337, [vI 1, vI 0, vI 0, vI 0, vI 0, vI 0, vI t311, vI t312, vI t313, vI t314, .slice (some ⟨N338, 0, none⟩) 1 (nN338 / 4), .slice (ad N340) t335.length (nN340 / 4)], nN337⟩, ⟨N338, [vI t315, vI t316, .slice (some ⟨N339, 0, none⟩) 3 (nN339 / 7), vB false], nN338⟩, ⟨N339, [vI 1, vI t317, vI t318, vI t319, vI t320, vI t321, vI t322, vI 1, vI t323, vI t324, vI t325, vI t326, vI t327, vI t328, vI 1, vI t329, vI t330, vI t331, vI t332, vI t333, vI t334], nN339⟩, ⟨N340, encL E_i644 t335, nN340⟩, ⟨B1, [vI 1, vI 0, vI 0, vI 0, vI 0, vI 0, vI 0, vI 0, vI 0, vI 0, .slice (some ⟨B2, 0, none⟩) 1 1], 11⟩, ⟨B2, [vI 0, vI 0, .slice (some ⟨B3, 0, none⟩) 3 3, vB false], 4⟩, ⟨B3, [vI 1, vI m3_1, vI 0, vI 0, vI 0, vI 0, vI 0, vI 1, vI m3_8, vI m3_9, vI 0, vI 0, vI 0, vI 0, vI 1, vI 0, vI m3_16, vI 0, vI 0, vI 0, vI 0], 21⟩, ⟨b306, [vI 0, vI 0, .slice (ad a350) y351.length (na350 / 1)], 3⟩, ⟨b305, [vI i0_0, vI i0_1, vI 0, .slice (some ⟨B0, 0, none⟩) 1 1, .slice (some ⟨B1, 0, none⟩) 1 1], 5⟩, ⟨B0, [.int .u8 m0_0, .int .u8 m0_1, .int .u8 m0_2, .int .u8 m0_3], 4⟩] : List Own) := by
      refine hstep [2] _ _ _ (by kernel_rfl) (List.cons_ne_nil _ _) ⟨?_, trivial⟩
      ·show T _ _ _ _ _ _ _ _
       refine t_v (.ldn rfl rfl rfl (.at 11 rfl rfl)) ?_
       exact t_fin [1, 2, 4, 8, 9, 30, 31, 35, 36, 37, 38, 39] hg_3f (by kernel_rfl)
     have hg_3d : G [true, false, true, true, true, true, false, false, false, false] [(1, vI w1), (2, vP b305 0), (4, vP b306 0), (8, .slice (some ⟨N337, 0, none⟩) 1 (nN337 / 12)), (9, vP b343 0), (30, vI t341), (31, vI x347), (34, vP b343 2), (36, .agg #[vI i0_0, vI i0_1, vI 0, .slice (some ⟨B0, 0, none⟩) 1 1, .slice (some ⟨B1, 0, none⟩) 1 1]), (37, .slice (some ⟨N337, 0, none⟩) 1 (nN337 / 12)), (38, vI w1), (39, vI x347)] ([⟨a348, encL E_u8 y349, na348⟩, ⟨a350, encL E_u8 y351, na350⟩, ⟨b343, [vI w1, vI t341, .slice (ad a348) y349.length (na348 / 1)], 3⟩, ⟨N337, [vI 1, vI 0, vI 0, vI 0, vI 0, vI 0, vI t311, vI t312, vI t313, vI t314, .slice (some ⟨N338, 0, none⟩) 1 (nN338 / 4), .slice (ad N340) t335.length (nN340 / 4)], nN337⟩, ⟨N338, [vI t315, vI t316, .slice (some ⟨N339, 0, none⟩) 3 (nN339 / 7), vB false], nN338⟩, ⟨N339, [vI 1, vI t317, vI t318, vI t319, vI t320, vI t321, vI t322, vI 1, vI t323, vI t324, vI t325, vI t326, vI t327, vI t328, vI 1, vI t329, vI t330, vI t331, vI t332, vI t333, vI t334], nN339⟩, ⟨N340, encL E_i644 t335, nN340⟩, ⟨B1, [vI 1, vI 0, vI 0, vI 0, vI 0, vI 0, vI 0, vI 0, vI 0, vI 0, .slice (some ⟨B2, 0, none⟩) 1 1], 11⟩, ⟨B2, [vI 0, vI 0, .slice (some ⟨B3, 0, none⟩) 3 3, vB false], 4⟩, ⟨B3, [vI 1, vI m3_1, vI 0, vI 0, vI 0, vI 0, vI 0, vI 1, vI m3_8, vI m3_9, vI 0, vI 0, vI 0, vI 0, vI 1, vI 0, vI m3_16, vI 0, vI 0, vI 0, vI 0], 21⟩, ⟨b306, [vI 0, vI 0, .slice (ad a350) y351.length (na350 / 1)], 3⟩, ⟨b305, [vI i0_0, vI i0_1, vI 0, .slice (some ⟨B0, 0, none⟩) 1 1, .slice (some ⟨B1, 0, none⟩) 1 1], 5⟩, ⟨B0, [.int .u8 m0_0, .int .u8 m0_1, .int .u8 m0_2, .int .u8 m0_3], 4⟩] : List Own) := by
      refine hstep [1, 6] _ _ _ (by kernel_rfl) (List.cons_ne_nil _ _) ⟨?_, ?_, trivial⟩
      ·show T _ _ _ _ _ _ _ _
       refine t_v (.ld1 rfl rfl rfl (.at 2 rfl rfl)) ?_
       exact t_fin [1, 2, 4, 8, 9, 30, 31, 35, 36, 37, 38, 39] hg_3f (by kernel_rfl)
      ·show T _ _ _ _ _ _ _ _
       refine t_call (vs := [.agg #[vI i0_0, vI i0_1, vI 0, .slice (some ⟨B0, 0, none⟩) 1 1, .slice (some ⟨B1, 0, none⟩) 1 1], .slice (some ⟨N337, 0, none⟩) 1 (nN337 / 12), vI w1, vI x347]) (H1 := ([⟨B0, [.int .u8 m0_0, .int .u8 m0_1, .int .u8 m0_2, .int .u8 m0_3], 4⟩, ⟨N337, [vI 1, vI 0, vI 0, vI 0, vI 0, vI 0, vI t311, vI t312, vI t313, vI t314, .slice (some ⟨N338, 0, none⟩) 1 (nN338 / 4), .slice (ad N340) t335.length (nN340 / 4)], nN337⟩, ⟨N338, [vI t315, vI t316, .slice (some ⟨N339, 0, none⟩) 3 (nN339 / 7), vB false], nN338⟩, ⟨N339, [vI 1, vI t317, vI t318, vI t319, vI t320, vI t321, vI t322, vI 1, vI t323, vI t324, vI t325, vI t326, vI t327, vI t328, vI 1, vI t329, vI t330, vI t331, vI t332, vI t333, vI t334], nN339⟩, ⟨N340, encL E_i644 t335, nN340⟩] : List Own)) (F := ([⟨a348, encL E_u8 y349, na348⟩, ⟨a350, encL E_u8 y351, na350⟩, ⟨b343, [vI w1, vI t341, .slice (ad a348) y349.length (na348 / 1)], 3⟩, ⟨B1, [vI 1, vI 0, vI 0, vI 0, vI 0, vI 0, vI 0, vI 0, vI 0, vI 0, .slice (some ⟨B2, 0, none⟩) 1 1], 11⟩, ⟨B2, [vI 0, vI 0, .slice (some ⟨B3, 0, none⟩) 3 3, vB false], 4⟩, ⟨B3, [vI 1, vI m3_1, vI 0, vI 0, vI 0, vI 0, vI 0, vI 1, vI m3_8, vI m3_9, vI 0, vI 0, vI 0, vI 0, vI 1, vI 0, vI m3_16, vI 0, vI 0, vI 0, vI 0], 21⟩, ⟨b306, [vI 0, vI 0, .slice (ad a350) y351.length (na350 / 1)], 3⟩, ⟨b305, [vI i0_0, vI i0_1, vI 0, .slice (some ⟨B0, 0, none⟩) 1 1, .slice (some ⟨B1, 0, none⟩) 1 1], 5⟩] : List Own)) rfl rfl (by kernel_rfl) (sel_perm (is := [12, 3, 3, 3, 3]) (by kernel_rfl)) (render_row_v2.ok hE_ h354) ?_
       rintro _ _ S_ ⟨N355, nN355, rfl, rfl, hS_⟩
       obtain rfl := hS_.symm
       exact t_fin [1, 2, 4, 8, 9, 30, 31, 34, 40] (hg_7d N355 nN355) (by kernel_rfl)
     have hg_39 : G [true, false, false, true, true, true, false, false, false, false] [(1, vI w1), (2, vP b305 0), (4, vP b306 0), (8, .slice (some ⟨N337, 0, none⟩) 1 (nN337 / 12)), (9, vP b343 0), (30, vI t341), (31, vI x347), (34, vP b343 2), (37, .slice (some ⟨N337, 0, none⟩) 1 (nN337 / 12)), (38, vI w1), (39, vI x347)] ([⟨a348, encL E_u8 y349, na348⟩, ⟨a350, encL E_u8 y351, na350⟩, ⟨b343, [vI w1, vI t341, .slice (ad a348) y349.length (na348 / 1)], 3⟩, ⟨N337, [vI 1, vI 0, vI 0, vI 0, vI 0, vI 0, vI t311, vI t312, vI t313, vI t314, .slice (some ⟨N338, 0, none⟩) 1 (nN338 / 4), .slice (ad N340) t335.length (nN340 / 4)], nN337⟩, ⟨N338, [vI t315, vI t316, .slice (some ⟨N339, 0, none⟩) 3 (nN339 / 7), vB false], nN338⟩, ⟨N339, [vI 1, vI t317, vI t318, vI t319, vI t320, vI t321, vI t322, vI 1, vI t323, vI t324, vI t325, vI t326, vI t327, vI t328, vI 1, vI t329, vI t330, vI t331, vI t332, vI t333, vI t334], nN339⟩, ⟨N340, encL E_i644 t335, nN340⟩, ⟨B1, [vI 1, vI 0, vI 0, vI 0, vI 0, vI 0, vI 0, vI 0, vI 0, vI 0, .slice (some ⟨B2, 0, none⟩) 1 1], 11⟩, ⟨B2, [vI 0, vI 0, .slice (some ⟨B3, 0, none⟩) 3 3, vB false], 4⟩, ⟨B3, [vI 1, vI m3_1, vI 0, vI 0, vI 0, vI 0, vI 0, vI 1, vI m3_8, vI m3_9, vI 0, vI 0, vI 0, vI 0, vI 1, vI 0, vI m3_16, vI 0, vI 0, vI 0, vI 0], 21⟩, ⟨b306, [vI 0, vI 0, .slice (ad a350) y351.length (na350 / 1)], 3⟩, ⟨b305, [vI i0_0, vI i0_1, vI 0, .slice (some ⟨B0, 0, none⟩) 1 1, .slice (some ⟨B1, 0, none⟩) 1 1], 5⟩, ⟨B0, [.int .u8 m0_0, .int .u8 m0_1, .int .u8 m0_2, .int .u8 m0_3], 4⟩] : List Own) := by
      refine hstep [1, 2] _ _ _ (by kernel_rfl) (List.cons_ne_nil _ _) ⟨?_, ?_, trivial⟩
      ·show T _ _ _ _ _ _ _ _
       refine t_v (.ld1 rfl rfl rfl (.at 2 rfl rfl)) ?_
       exact t_fin [1, 2, 4, 8, 9, 30, 31, 35, 37, 38, 39] hg_3b (by kernel_rfl)
      ·show T _ _ _ _ _ _ _ _
       refine t_v (.ldn rfl rfl rfl (.at 11 rfl rfl)) ?_
       exact t_fin [1, 2, 4, 8, 9, 30, 31, 34, 36, 37, 38, 39] hg_3d (by kernel_rfl)
     have hg_19 : G [true, false, false, true, true, false, false, false, false, false] [(1, vI w1), (2, vP b305 0), (4, vP b306 0), (8, .slice (some ⟨N337, 0, none⟩) 1 (nN337 / 12)), (9, vP b343 0), (10, vI x347), (30, vI t341), (31, vI x347), (34, vP b343 2), (37, .slice (some ⟨N337, 0, none⟩) 1 (nN337 / 12)), (38, vI w1)] ([⟨a348, encL E_u8 y349, na348⟩, ⟨a350, encL E_u8 y351, na350⟩, ⟨b343, [vI w1, vI t341, .slice (ad a348) y349.length (na348 / 1)], 3⟩, ⟨N337, [vI 1, vI 0, vI 0, vI 0, vI 0, vI 0, vI t311, vI t312, vI t313, vI t314, .slice (some ⟨N338, 0, none⟩) 1 (nN338 / 4), .slice (ad N340) t335.length (nN340 / 4)], nN337⟩, ⟨N338, [vI t315, vI t316, .slice (some ⟨N339, 0, none⟩) 3 (nN339 / 7), vB false], nN338⟩, ⟨N339, [vI 1, vI t317, vI t318, vI t319, vI t320, vI t321, vI t322, vI 1, vI t323, vI t324, vI t325, vI t326, vI t327, vI t328, vI 1, vI t329, vI t330, vI t331, vI t332, vI t333, vI t334], nN339⟩, ⟨N340, encL E_i644 t335, nN340⟩, ⟨B1, [vI 1, vI 0, vI 0, vI 0, vI 0, vI 0, vI 0, vI 0, vI 0, vI 0, .slice (some ⟨B2, 0, none⟩) 1 1], 11⟩, ⟨B2, [vI 0, vI 0, .slice (some ⟨B3, 0, none⟩) 3 3, vB false], 4⟩, ⟨B3, [vI 1, vI m3_1, vI 0, vI 0, vI 0, vI 0, vI 0, vI 1, vI m3_8, vI m3_9, vI 0, vI 0, vI 0, vI 0, vI 1, vI 0, vI m3_16, vI 0, vI 0, vI 0, vI 0], 21⟩, ⟨b306, [vI 0, vI 0, .slice (ad a350) y351.length (na350 / 1)], 3⟩, ⟨b305, [vI i0_0, vI i0_1, vI 0, .slice (some ⟨B0, 0, none⟩) 1 1, .slice (some ⟨B1, 0, none⟩) 1 1], 5⟩, ⟨B0, [.int .u8 m0_0, .int .u8 m0_1, .int .u8 m0_2, .int .u8 m0_3], 4⟩] : List Own) := by
      exact hqf 5 [1, 2, 4, 8, 9, 30, 31, 34, 37, 38, 39] _ _ _ _ (by kernel_rfl) (by kernel_rfl) hg_39
     have hg_9 : G [true, false, false, true, false, false, false, false, false, false] [(1, vI w1), (2, vP b305 0), (4, vP b306 0), (8, .slice (some ⟨N337, 0, none⟩) 1 (nN337 / 12)), (9, vP b343 0), (10, vI x347), (30, vI t341), (31, vI x347), (34, vP b343 2), (37, .slice (some ⟨N337, 0, none⟩) 1 (nN337 / 12))] ([⟨a348, encL E_u8 y349, na348⟩, ⟨a350, encL E_u8 y351, na350⟩, ⟨b343, [vI w1, vI t341, .slice (ad a348) y349.length (na348 / 1)], 3⟩, ⟨N337, [vI 1, vI 0, vI 0, vI 0, vI 0, vI 0, vI t311, vI t312, vI t313, vI t314, .slice (some ⟨N338, 0, none⟩) 1 (nN338 / 4), .slice (ad N340) t335.length (nN340 / 4)], nN337⟩, ⟨N338, [vI t315, vI t316, .slice (some ⟨N339, 0, none⟩) 3 (nN339 / 7), vB false], nN338⟩, ⟨N339, [vI 1, vI t317, vI t318, vI t319, vI t320, vI t321, vI t322, vI 1, vI t323, vI t324, vI t325, vI t326, vI t327, vI t328, vI 1, vI t329, vI t330, vI t331, vI t332, vI t333, vI t334], nN339⟩, ⟨N340, encL E_i644 t335, nN340⟩, ⟨B1, [vI 1, vI 0, vI 0, vI 0, vI 0, vI 0, vI 0, vI 0, vI 0, vI 0, .slice (some ⟨B2, 0, none⟩) 1 1], 11⟩, ⟨B2, [vI 0, vI 0, .slice (some ⟨B3, 0, none⟩) 3 3, vB false], 4⟩, ⟨B3, [vI 1, vI m3_1, vI 0, vI 0, vI 0, vI 0, vI 0, vI 1, vI m3_8, vI m3_9, vI 0, vI 0, vI 0, vI 0, vI 1, vI 0, vI m3_16, vI 0, vI 0, vI 0, vI 0], 21⟩, ⟨b306, [vI 0, vI 0, .slice (ad a350) y351.length (na350 / 1)], 3⟩, ⟨b305, [vI i0_0, vI i0_1, vI 0, .slice (some ⟨B0, 0, none⟩) 1 1, .slice (some ⟨B1, 0, none⟩) 1 1], 5⟩, ⟨B0, [.int .u8 m0_0, .int .u8 m0_1, .int .u8 m0_2, .int .u8 m0_3], 4⟩] : List Own) := by
      exact hqf 4 [1, 2, 4, 8, 9, 10, 30, 31, 34, 37, 38] _ _ _ _ (by kernel_rfl) (by kernel_rfl) hg_19
     have hg_1 : G [true, false, false, false, false, false, false, false, false, false] [(1, vI w1), (2, vP b305 0), (4, vP b306 0), (8, .slice (some ⟨N337, 0, none⟩) 1 (nN337 / 12)), (9, vP b343 0), (10, vI x347), (30, vI t341), (31, vI x347), (34, vP b343 2)] ([⟨a348, encL E_u8 y349, na348⟩, ⟨a350, encL E_u8 y351, na350⟩, ⟨b343, [vI w1, vI t341, .slice (ad a348) y349.length (na348 / 1)], 3⟩, ⟨N337, [vI 1, vI 0, vI 0, vI 0, vI 0, vI 0, vI t311, vI t312, vI t313, vI t314, .slice (some ⟨N338, 0, none⟩) 1 (nN338 / 4), .slice (ad N340) t335.length (nN340 / 4)], nN337⟩, ⟨N338, [vI t315, vI t316, .slice (some ⟨N339, 0, none⟩) 3 (nN339 / 7), vB false], nN338⟩, ⟨N339, [vI 1, vI t317, vI t318, vI t319, vI t320, vI t321, vI t322, vI 1, vI t323, vI t324, vI t325, vI t326, vI t327, vI t328, vI 1, vI t329, vI t330, vI t331, vI t332, vI t333, vI t334], nN339⟩, ⟨N340, encL E_i644 t335, nN340⟩, ⟨B1, [vI 1, vI 0, vI 0, vI 0, vI 0, vI 0, vI 0, vI 0, vI 0, vI 0, .slice (some ⟨B2, 0, none⟩) 1 1], 11⟩, ⟨B2, [vI 0, vI 0, .slice (some ⟨B3, 0, none⟩) 3 3, vB false], 4⟩, ⟨B3, [vI 1, vI m3_1, vI 0, vI 0, vI 0, vI 0, vI 0, vI 1, vI m3_8, vI m3_9, vI 0, vI 0, vI 0, vI 0, vI 1, vI 0, vI m3_16, vI 0, vI 0, vI 0, vI 0], 21⟩, ⟨b306, [vI 0, vI 0, .slice (ad a350) y351.length (na350 / 1)], 3⟩, ⟨b305, [vI i0_0, vI i0_1, vI 0, .slice (some ⟨B0, 0, none⟩) 1 1, .slice (some ⟨B1, 0, none⟩) 1 1], 5⟩, ⟨B0, [.int .u8 m0_0, .int .u8 m0_1, .int .u8 m0_2, .int .u8 m0_3], 4⟩] : List Own) := by
      exact hqf 3 [1, 2, 4, 8, 9, 10, 30, 31, 34, 37] _ _ _ _ (by kernel_rfl) (by kernel_rfl) hg_9
     have hg_0 : G [false, false, false, false, false, false, false, false, false, false] [(1, vI w1), (2, vP b305 0), (4, vP b306 0), (8, .slice (some ⟨N337, 0, none⟩) 1 (nN337 / 12)), (9, vP b343 0), (10, vI x347), (30, vI t341), (31, vI x347)] ([⟨a348, encL E_u8 y349, na348⟩, ⟨a350, encL E_u8 y351, na350⟩, ⟨b343, [vI w1, vI t341, .slice (ad a348) y349.length (na348 / 1)], 3⟩, ⟨N337, [vI 1, vI 0, vI 0, vI 0, vI 0, vI 0, vI t311, vI t312, vI t313, vI t314, .slice (some ⟨N338, 0, none⟩) 1 (nN338 / 4), .slice (ad N340) t335.length (nN340 / 4)], nN337⟩, ⟨N338, [vI t315, vI t316, .slice (some ⟨N339, 0, none⟩) 3 (nN339 / 7), vB false], nN338⟩, ⟨N339, [vI 1, vI t317, vI t318, vI t319, vI t320, vI t321, vI t322, vI 1, vI t323, vI t324, vI t325, vI t326, vI t327, vI t328, vI 1, vI t329, vI t330, vI t331, vI t332, vI t333, vI t334], nN339⟩, ⟨N340, encL E_i644 t335, nN340⟩, ⟨B1, [vI 1, vI 0, vI 0, vI 0, vI 0, vI 0, vI 0, vI 0, vI 0, vI 0, .slice (some ⟨B2, 0, none⟩) 1 1], 11⟩, ⟨B2, [vI 0, vI 0, .slice (some ⟨B3, 0, none⟩) 3 3, vB false], 4⟩, ⟨B3, [vI 1, vI m3_1, vI 0, vI 0, vI 0, vI 0, vI 0, vI 1, vI m3_8, vI m3_9, vI 0, vI 0, vI 0, vI 0, vI 1, vI 0, vI m3_16, vI 0, vI 0, vI 0, vI 0], 21⟩, ⟨b306, [vI 0, vI 0, .slice (ad a350) y351.length (na350 / 1)], 3⟩, ⟨b305, [vI i0_0, vI i0_1, vI 0, .slice (some ⟨B0, 0, none⟩) 1 1, .slice (some ⟨B1, 0, none⟩) 1 1], 5⟩, ⟨B0, [.int .u8 m0_0, .int .u8 m0_1, .int .u8 m0_2, .int .u8 m0_3], 4⟩] : List Own) := by
      exact hqf 0 [1, 2, 4, 8, 9, 10, 30, 31, 34] _ _ _ _ (by kernel_rfl) (by kernel_rfl) hg_1
     exact hg_0
    ·rw [if_neg c352] at e345
     have c352b : (decide (x347 < t341)) = false := decide_eq_false c352
     refine t_v (dv_quiet rfl (congrArg (fun t => some (Value.bool t)) c352b)) ?_
     refine t_keep [1, 2, 4, 8, 9, 30, 31, 32] (σ' := [(1, vI w1), (2, vP b305 0), (4, vP b306 0), (8, .slice (some ⟨N337, 0, none⟩) 1 (nN337 / 12)), (9, vP b343 0), (30, vI t341), (31, vI x347), (32, vB false)]) (by kernel_rfl) ?_
     refine t_end ?_
     show W _ _ _ _ _ _ _
     refine w_seq ?_
     refine w_cond rfl (fun c_ => by cases c_) (fun _ => ?_)
     show W _ _ _ _ _ _ _
     refine w_exit ?_
     simp only [Option.some.injEq, Prod.mk.injEq] at e345
     obtain ⟨rfl, rfl⟩ := e345
     exact ⟨([⟨b343, [vI w1, vI t341, .slice (ad a348) y349.length (na348 / 1)], 3⟩, ⟨N337, [vI 1, vI 0, vI 0, vI 0, vI 0, vI 0, vI t311, vI t312, vI t313, vI t314, .slice (some ⟨N338, 0, none⟩) 1 (nN338 / 4), .slice (ad N340) t335.length (nN340 / 4)], nN337⟩, ⟨N338, [vI t315, vI t316, .slice (some ⟨N339, 0, none⟩) 3 (nN339 / 7), vB false], nN338⟩, ⟨N339, [vI 1, vI t317, vI t318, vI t319, vI t320, vI t321, vI t322, vI 1, vI t323, vI t324, vI t325, vI t326, vI t327, vI t328, vI 1, vI t329, vI t330, vI t331, vI t332, vI t333, vI t334], nN339⟩, ⟨B1, [vI 1, vI 0, vI 0, vI 0, vI 0, vI 0, vI 0, vI 0, vI 0, vI 0, .slice (some ⟨B2, 0, none⟩) 1 1], 11⟩, ⟨B2, [vI 0, vI 0, .slice (some ⟨B3, 0, none⟩) 3 3, vB false], 4⟩, ⟨B3, [vI 1, vI m3_1, vI 0, vI 0, vI 0, vI 0, vI 0, vI 1, vI m3_8, vI m3_9, vI 0, vI 0, vI 0, vI 0, vI 1, vI 0, vI m3_16, vI 0, vI 0, vI 0, vI 0], 21⟩, ⟨b306, [vI 0, vI 0, .slice (ad a350) y351.length (na350 / 1)], 3⟩, ⟨b305, [vI i0_0, vI i0_1, vI 0, .slice (some ⟨B0, 0, none⟩) 1 1, .slice (some ⟨B1, 0, none⟩) 1 1], 5⟩, ⟨B0, [.int .u8 m0_0, .int .u8 m0_1, .int .u8 m0_2, .int .u8 m0_3], 4⟩, ⟨a348, encL E_u8 y349, na348⟩, ⟨N340, encL E_i644 t335, nN340⟩, ⟨a350, encL E_u8 y351, na350⟩] : List Own), S, VS.sel [2, 2, 2, 2, 3, 3, 3, 3, 3, 3, 0, 1, 0] (by kernel_rfl), a348, na348, a350, na350, by kernel_rfl, rfl, rfl⟩
  ·rintro σ_ H_ S_ ⟨a361, na361, a363, na363, rfl, rfl, rfl⟩
   refine w_seq ?_
   refine w_reg fun all => ?_
   refine t_v (.ldn rfl rfl rfl (.at 0 rfl rfl)) ?_
   refine t_sti 7 (cs := [vI w1, vI t341, .slice (ad a361) y362.length (na361 / 1)]) rfl rfl rfl rfl rfl rfl rfl rfl rfl ?_
   refine t_qz 1 [4, 5] (σ' := [(4, vP b306 0), (5, .nilIface)]) (by kernel_rfl) ?_
   refine t_end ?_
   show W _ _ _ _ _ _ _
   refine w_ret ?_
   simp only [Option.some.injEq, Prod.mk.injEq] at e
   obtain ⟨rfl, rfl, rfl, rfl⟩ := e
   exact ⟨[.agg #[vI w1, vI t341, .slice (ad a361) y362.length (na361 / 1)], .nilIface], ([⟨a361, encL E_u8 y362, na361⟩, ⟨B0, [.int .u8 m0_0, .int .u8 m0_1, .int .u8 m0_2, .int .u8 m0_3], 4⟩, ⟨B1, [vI 1, vI 0, vI 0, vI 0, vI 0, vI 0, vI 0, vI 0, vI 0, vI 0, .slice (some ⟨B2, 0, none⟩) 1 1], 11⟩, ⟨B2, [vI 0, vI 0, .slice (some ⟨B3, 0, none⟩) 3 3, vB false], 4⟩, ⟨B3, [vI 1, vI m3_1, vI 0, vI 0, vI 0, vI 0, vI 0, vI 1, vI m3_8, vI m3_9, vI 0, vI 0, vI 0, vI 0, vI 1, vI 0, vI m3_16, vI 0, vI 0, vI 0, vI 0], 21⟩] : List Own), S, ⟨⟨_, _, _, rfl, .at 7 rfl rfl, rfl⟩, (show gt _ _ = some _ from (by kernel_rfl)), trivial⟩, VS.sel [10, 9, 4, 4, 4] (by kernel_rfl), a361, na361, rfl, rfl, rfl⟩
 ·rw [if_neg c310] at e
  have c310b : (t308 == 0) = false := beq_eq_false_iff_ne.mpr c310
  refine t_qz 1 [1, 2, 4, 7, 17] (σ' := [(1, vI w1), (2, vP b305 0), (4, vP b306 0), (7, errV 157 A_ t308), (17, errV 157 A_ t308)]) (by kernel_rfl) ?_
  refine t_v (.eqt (a := errV 157 A_ t308) (b := .nilIface) (r := t308 == 0) rfl rfl rfl rfl (eqErr (by kernel_rfl) rfl) (bnk c310b rfl)) ?_
  refine t_keep [1, 2, 4, 7, 18] (σ' := [(1, vI w1), (2, vP b305 0), (4, vP b306 0), (7, errV 157 A_ t308), (18, vB true)]) (by kernel_rfl) ?_
  refine t_end ?_
  show W _ _ _ _ _ _ _
  refine w_cond rfl (fun _ => ?_) (fun c_ => by cases c_)
  show W _ _ _ _ _ _ _
  refine w_seq ?_
  refine w_reg fun all => ?_
  refine t_qz 2 [4, 19, 20] (σ' := [(4, vP b306 0), (19, .agg #[vI 0, vI 0, .slice none 0 0]), (20, errV 157 A_ t308)]) (by kernel_rfl) ?_
  refine t_sti 0 (cs := [vI 0, vI 0, .slice none 0 0]) rfl rfl rfl rfl rfl rfl rfl rfl rfl ?_
  refine t_qz 1 [4, 5] (σ' := [(4, vP b306 0), (5, errV 157 A_ t308)]) (by kernel_rfl) ?_
  refine t_end ?_
  show W _ _ _ _ _ _ _
  refine w_ret ?_
  simp only [Option.some.injEq, Prod.mk.injEq] at e
  obtain ⟨rfl, rfl, rfl, rfl⟩ := e
  exact ⟨[.agg #[vI 0, vI 0, .slice (ad none) ([] : List (Int)).length (0 / 1)], errV 157 A_ t308], ([⟨none, encL E_u8 ([] : List (Int)), 0⟩, ⟨B0, [.int .u8 m0_0, .int .u8 m0_1, .int .u8 m0_2, .int .u8 m0_3], 4⟩, ⟨B1, [vI 1, vI 0, vI 0, vI 0, vI 0, vI 0, vI 0, vI 0, vI 0, vI 0, .slice (some ⟨B2, 0, none⟩) 1 1], 11⟩, ⟨B2, [vI 0, vI 0, .slice (some ⟨B3, 0, none⟩) 3 3, vB false], 4⟩, ⟨B3, [vI 1, vI m3_1, vI 0, vI 0, vI 0, vI 0, vI 0, vI 1, vI m3_8, vI m3_9, vI 0, vI 0, vI 0, vI 0, vI 1, vI 0, vI m3_16, vI 0, vI 0, vI 0, vI 0], 21⟩] : List Own), S, ⟨⟨_, _, _, rfl, .at 0 rfl rfl, rfl⟩, (show gt _ _ = some _ from (by kernel_rfl)), trivial⟩, VS.trans VS.vac (VS.sel [0, 2, 2, 2, 2] (by kernel_rfl)), none, 0, rfl, rfl, rfl⟩

/-- glyphiclaw27.RenderWhole -/
def c3 : C :=
  (.seq (.reg [oq 3 (.box (.tmp 0)),
     oq 6 (.mv (.const (vB false)))])
  (.seq (.reg [oq 12 (.call 6 []),
     oq 7 (.mv (.tmp 12))])
  (.seq (.seq (.reg [oq 13 (.mv (.tmp 7)),
      oq 14 (.un .not (.tmp 13))])
   (.cond (.tmp 14)
    (.seq (.reg [oq 6 (.mv (.const (vB false)))])
     .ret)
    .skip))
  (.seq (.reg [oq 15 (.mv (.tmp 1)),
     oq 16 (.bin .rem (.tmp 15) (.const (vI 50))),
     oq 17 (.bin .add (.tmp 16) (.const (vI 50))),
     oq 18 (.bin .rem (.tmp 17) (.const (vI 50))),
     oq 19 (.bin .add (.tmp 18) (.const (vI 1))),
     oq 1 (.mv (.tmp 19))])
  (.seq (.reg [oq 20 (.mv (.tmp 2)),
     oq 21 (.bin .rem (.tmp 20) (.const (vI 9))),
     oq 22 (.bin .add (.tmp 21) (.const (vI 9))),
     oq 23 (.bin .rem (.tmp 22) (.const (vI 9))),
     oq 24 (.bin .add (.tmp 23) (.const (vI 1))),
     oq 2 (.mv (.tmp 24))])
  (.seq (.reg [oq 26 (.ld (some 4) (.tmp 3)),
     oq 27 (.mv (.tmp 1)),
     oq 28 (.call 8 [(.tmp 26), (.tmp 27)]),
     oq 29 (.mv (.tmp 2)),
     oq 30 (.call 7 [(.tmp 28), (.tmp 29)]),
     oq 25 (.mv (.tmp 30)),
     oq 31 (.xt 0 (.tmp 25)),
     oq 32 (.xt 1 (.tmp 25)),
     oq 8 (.new [(vI 0), (vI 0), (.slice none 0 0)]),
     ⟨none, .st 3 (.tmp 8) (.tmp 31), none⟩,
     oq 9 (.mv (.tmp 32))])
  (.seq (.seq (.reg [oq 33 (.mv (.tmp 9)),
      oq 34 (.eqt true 29 (.tmp 33) (.const .nilIface)),
      oq 35 (.mv (.tmp 34)),
      ⟨(some 36), .pad 0 (.tmp 8), (some (35, false))⟩,
      ⟨(some 37), .ld none (.tmp 36), (some (35, false))⟩,
      ⟨(some 38), .mv (.tmp 2), (some (35, false))⟩,
      ⟨(some 39), .bin .neq (.tmp 37) (.tmp 38), (some (35, false))⟩,
      oq 40 (.pk (.tmp 35) (.const (vB true)) (.tmp 39)),
      oq 41 (.mv (.tmp 40)),
      ⟨(some 42), .pad 1 (.tmp 8), (some (41, false))⟩,
      ⟨(some 43), .ld none (.tmp 42), (some (41, false))⟩,
      ⟨(some 44), .mv (.tmp 2), (some (41, false))⟩,
      ⟨(some 45), .bin .neq (.tmp 43) (.tmp 44), (some (41, false))⟩,
      oq 46 (.pk (.tmp 41) (.const (vB true)) (.tmp 45)),
      oq 47 (.mv (.tmp 46)),
      ⟨(some 48), .pad 2 (.tmp 8), (some (47, false))⟩,
      ⟨(some 49), .ld none (.tmp 48), (some (47, false))⟩,
      ⟨(some 50), .lns (.tmp 49), (some (47, false))⟩,
      ⟨(some 51), .mv (.tmp 2), (some (47, false))⟩,
      ⟨(some 52), .bin .mul (.const (vI 4)) (.tmp 51), (some (47, false))⟩,
      ⟨(some 53), .mv (.tmp 2), (some (47, false))⟩,
      ⟨(some 54), .bin .mul (.tmp 52) (.tmp 53), (some (47, false))⟩,
      ⟨(some 55), .bin .neq (.tmp 50) (.tmp 54), (some (47, false))⟩,
      oq 56 (.pk (.tmp 47) (.const (vB true)) (.tmp 55))])
   (.cond (.tmp 56)
    (.seq (.reg [oq 6 (.mv (.const (vB false)))])
     .ret)
    .skip))
  (.seq (.seq (.reg [oq 10 (.mv (.const (vI 0)))])
   (.block 0 (.loop (.seq (.seq (.reg [oq 57 (.mv (.tmp 10)),
         oq 58 (.pad 2 (.tmp 8)),
         oq 59 (.ld none (.tmp 58)),
         oq 60 (.lns (.tmp 59)),
         oq 61 (.bin .lss (.tmp 57) (.tmp 60))])
      (.cond (.tmp 61)
       .skip
       (.exit 0)))
     (.seq (.block 1 (.seq (.drw [oq 64 (.pad 2 (.tmp 8)),
          oq 65 (.ld none (.tmp 64)),
          oq 66 (.mv (.tmp 10)),
          oq 67 (.ixs 1 (.tmp 65) (.tmp 66)),
          oq 68 (.ld none (.tmp 67)),
          oq 69 (.pad 2 (.tmp 8)),
          oq 70 (.ld none (.tmp 69)),
          oq 71 (.mv (.tmp 10)),
          oq 72 (.bin .add (.tmp 71) (.const (vI 1))),
          oq 73 (.ixs 1 (.tmp 70) (.tmp 72)),
          oq 74 (.ld none (.tmp 73)),
          oq 75 (.pad 2 (.tmp 8)),
          oq 76 (.ld none (.tmp 75)),
          oq 77 (.mv (.tmp 10)),
          oq 78 (.bin .add (.tmp 77) (.const (vI 2))),
          oq 79 (.ixs 1 (.tmp 76) (.tmp 78)),
          oq 80 (.ld none (.tmp 79)),
          oq 81 (.pad 2 (.tmp 8)),
          oq 82 (.ld none (.tmp 81)),
          oq 83 (.mv (.tmp 10)),
          oq 84 (.bin .add (.tmp 83) (.const (vI 3))),
          oq 85 (.ixs 1 (.tmp 82) (.tmp 84)),
          oq 86 (.ld none (.tmp 85)),
          oq 87 (.bld [(.int .u8 0), (.int .u8 0), (.int .u8 0), (.int .u8 0)] [(0, 1, (.tmp 68)), (1, 1, (.tmp 74)), (2, 1, (.tmp 80)), (3, 1, (.tmp 86))]),
          oq 11 (.new [(.int .u8 0), (.int .u8 0), (.int .u8 0), (.int .u8 0)]),
          ⟨none, .st 4 (.tmp 11) (.tmp 87), none⟩] [[], [0], [], [1, 2], [3], [], [5], [], [7], [6, 8], [9], [], [11], [], [13], [12, 14], [15], [], [17], [], [19], [18, 20], [21], [4, 10, 16, 22], [], [24, 23, 0, 1, 2, 3, 4, 5, 6, 7, 8, 9, 10, 11, 12, 13, 14, 15, 16, 17, 18, 19, 20, 21, 22, 23, 24]])
       (.seq (.reg [oq 88 (.pad 3 (.tmp 3)),
          oq 89 (.ld none (.tmp 88)),
          oq 90 (.bin .eql (.tmp 89) (.const (.int .u8 0))),
          oq 91 (.mv (.tmp 90)),
          ⟨(some 92), .ld (some 4) (.tmp 11), (some (91, true))⟩,
          ⟨(some 93), .bld [(.int .u8 0), (.int .u8 0), (.int .u8 0), (.int .u8 0)] [], (some (91, true))⟩,
          ⟨(some 94), .eqt true 37 (.tmp 92) (.tmp 93), (some (91, true))⟩,
          oq 95 (.pk (.tmp 91) (.tmp 94) (.const (vB false))),
          oq 96 (.mv (.tmp 95)),
          ⟨(some 97), .pad 3 (.tmp 3), (some (96, false))⟩,
          ⟨(some 98), .ld none (.tmp 97), (some (96, false))⟩,
          ⟨(some 99), .bin .gtr (.tmp 98) (.const (.int .u8 0)), (some (96, false))⟩,
          ⟨(some 100), .mv (.tmp 99), (some (96, false))⟩,
          ⟨(some 101), .ld (some 4) (.tmp 11), (some (100, true))⟩,
          ⟨(some 102), .pad 0 (.tmp 3), (some (100, true))⟩,
          ⟨(some 103), .ld none (.tmp 102), (some (100, true))⟩,
          ⟨(some 104), .pad 1 (.tmp 3), (some (100, true))⟩,
          ⟨(some 105), .ld none (.tmp 104), (some (100, true))⟩,
          ⟨(some 106), .pad 2 (.tmp 3), (some (100, true))⟩,
          ⟨(some 107), .ld none (.tmp 106), (some (100, true))⟩,
          ⟨(some 108), .pad 3 (.tmp 3), (some (100, true))⟩,
          ⟨(some 109), .ld none (.tmp 108), (some (100, true))⟩,
          ⟨(some 110), .bld [(.int .u8 0), (.int .u8 0), (.int .u8 0), (.int .u8 0)] [(0, 1, (.tmp 103)), (1, 1, (.tmp 105)), (2, 1, (.tmp 107)), (3, 1, (.tmp 109))], (some (100, true))⟩,
          ⟨(some 111), .eqt true 37 (.tmp 101) (.tmp 110), (some (100, true))⟩,
          ⟨(some 112), .pk (.tmp 100) (.tmp 111) (.const (vB false)), (some (96, false))⟩,
          oq 113 (.pk (.tmp 96) (.const (vB true)) (.tmp 112))])
       (.cond (.tmp 113)
        (.seq (.reg [oq 6 (.mv (.const (vB false)))])
         .ret)
        .skip))))
     (.reg [oq 62 (.mv (.tmp 10)),
       oq 63 (.bin .add (.tmp 62) (.const (vI 4))),
       oq 10 (.mv (.tmp 63))]))))))
  (.seq (.reg [oq 114 (.mv (.tmp 7)),
     oq 6 (.mv (.tmp 114))])
  .ret)))))))))
def glyphiclaw27_RenderWhole.l0 : Nat → Int → Int → Int → Int → List (Int) → Int → Option ((Bool) ⊕ (Unit))
  | 0, _, _, _, _, _, _ => none
  | k + 1, c0_R, c0_G, c0_B, c0_A, t368, x379 => if x379 < (t368.length : Int) then ((lgt t368 x379).bind fun x381 => ((lgt t368 (wr64 (x379 + 1))).bind fun x383 => ((lgt t368 (wr64 (x379 + 2))).bind fun x385 => ((lgt t368 (wr64 (x379 + 3))).bind fun x387 => (if c0_A = 0 then (if ((x381 == 0) && ((x383 == 0) && ((x385 == 0) && (x387 == 0)))) = true then (if c0_A > 0 then (if ((x381 == c0_R) && ((x383 == c0_G) && ((x385 == c0_B) && (x387 == c0_A)))) = true then (glyphiclaw27_RenderWhole.l0 k c0_R c0_G c0_B c0_A t368 (wr64 (x379 + 4))) else (some (.inl false))) else (glyphiclaw27_RenderWhole.l0 k c0_R c0_G c0_B c0_A t368 (wr64 (x379 + 4)))) else (some (.inl false))) else (if c0_A > 0 then (if ((x381 == c0_R) && ((x383 == c0_G) && ((x385 == c0_B) && (x387 == c0_A)))) = true then (glyphiclaw27_RenderWhole.l0 k c0_R c0_G c0_B c0_A t368 (wr64 (x379 + 4))) else (some (.inl false))) else (glyphiclaw27_RenderWhole.l0 k c0_R c0_G c0_B c0_A t368 (wr64 (x379 + 4))))))))) else (some (.inr ()))
def glyphiclaw27_RenderWhole.f (k : Nat) (c0_R : Int) (c0_G : Int) (c0_B : Int) (c0_A : Int) (n1 : Int) (w2 : Int) : Option (Bool) := (glyphiclaw27_first.f k).bind fun t121 => (if t121 = true then ((glyphiclaw27_square.f c0_R c0_G c0_B c0_A (wr64 ((Int.tmod (wr64 ((Int.tmod n1 50) + 50)) 50) + 1))).bind fun (t131, t132, t133, t134, t135, t136, t137, t138, t139, t140) => ((render_Frame_v2.f k t131 t132 (wr64 ((Int.tmod (wr64 ((Int.tmod w2 9) + 9)) 9) + 1)) t133 t134 t135 t136 t137 t138 t139 t140).bind fun (t365, t366, t367, t368) => (if t367 = 0 then (if t365 = (wr64 ((Int.tmod (wr64 ((Int.tmod w2 9) + 9)) 9) + 1)) then (if t366 = (wr64 ((Int.tmod (wr64 ((Int.tmod w2 9) + 9)) 9) + 1)) then (if (t368.length : Int) = (wr64 ((wr64 (4 * (wr64 ((Int.tmod (wr64 ((Int.tmod w2 9) + 9)) 9) + 1)))) * (wr64 ((Int.tmod (wr64 ((Int.tmod w2 9) + 9)) 9) + 1)))) then ((glyphiclaw27_RenderWhole.l0 k c0_R c0_G c0_B c0_A t368 0 : Option ((Bool) ⊕ (Unit))).bind fun s_ => match s_ with | .inl q401 => some q401 | .inr _ => (some t121)) else (some false)) else (some false)) else (some false)) else (some false)))) else (some false))
theorem glyphiclaw27_RenderWhole.ok {S : Seal} {k : Nat} {c0_R : Int} {c0_G : Int} {c0_B : Int} {c0_A : Int} {n1 : Int} {w2 : Int} {A_ : Int → Addr} (hE_ : EO gsE S A_ 157) (e : glyphiclaw27_RenderWhole.f k c0_R c0_G c0_B c0_A n1 w2 = some true) :
    Cal Tryd.prog 3 [.agg #[.int .u8 c0_R, .int .u8 c0_G, .int .u8 c0_B, .int .u8 c0_A], vI n1, vI w2] [] S fun v H' S' => v = vB true ∧ H' = [] ∧ S' = S := by
 unfold glyphiclaw27_RenderWhole.f at e
 refine cal_of (c := c3) (N := 115) Tryd.func3 rfl rfl (by kernel_rfl) (rs := [.t 6]) (by kernel_rfl) (Nat.le_of_ble_eq_true rfl) ?_
 unfold c3
 refine w_seq ?_
 refine w_reg fun all => ?_
 refine t_a (.box rfl rfl rfl) fun b1 fb1 sb1 => ?_
 refine t_qz 1 [1, 2, 3] (σ' := [(1, vI n1), (2, vI w2), (3, vP b1 0)]) (by kernel_rfl) ?_
 refine t_end ?_
 show W _ _ _ _ _ _ _
 refine w_seq ?_
 refine w_reg fun all => ?_
 obtain ⟨t121, h122, e⟩ := bind_of e
 refine t_v (.call (vs := []) rfl rfl (by kernel_rfl) (glyphiclaw27_first.ok hE_ h122)) ?_
 refine t_qz 1 [1, 2, 3, 7] (σ' := [(1, vI n1), (2, vI w2), (3, vP b1 0), (7, .bool t121)]) (by kernel_rfl) ?_
 refine t_end ?_
 show W _ _ _ _ _ _ _
 refine w_seq ?_
 refine w_seq ?_
 refine w_reg fun all => ?_
 by_cases c123 : t121 = true
 ·rw [if_pos c123] at e
  have c123b : t121 = true := c123
  refine t_qz 1 [1, 2, 3, 7, 13] (σ' := [(1, vI n1), (2, vI w2), (3, vP b1 0), (7, .bool t121), (13, .bool t121)]) (by kernel_rfl) ?_
  refine t_v (dv_quiet rfl (congrArg (fun t => some (Value.bool (!t))) c123b)) ?_
  refine t_keep [1, 2, 3, 7, 14] (σ' := [(1, vI n1), (2, vI w2), (3, vP b1 0), (7, .bool t121), (14, vB false)]) (by kernel_rfl) ?_
  refine t_end ?_
  show W _ _ _ _ _ _ _
  refine w_cond rfl (fun c_ => by cases c_) (fun _ => ?_)
  show W _ _ _ _ _ _ _
  refine w_skip ?_
  show W _ _ _ _ _ _ _
  refine w_seq ?_
  refine w_reg fun all => ?_
  refine t_qz 6 [1, 2, 3, 7] (σ' := [(1, vI (wr64 ((Int.tmod (wr64 ((Int.tmod n1 50) + 50)) 50) + 1))), (2, vI w2), (3, vP b1 0), (7, .bool t121)]) (by kernel_rfl) ?_
  refine t_end ?_
  show W _ _ _ _ _ _ _
  refine w_seq ?_
  refine w_reg fun all => ?_
  refine t_qz 6 [1, 2, 3, 7] (σ' := [(1, vI (wr64 ((Int.tmod (wr64 ((Int.tmod n1 50) + 50)) 50) + 1))), (2, vI (wr64 ((Int.tmod (wr64 ((Int.tmod w2 9) + 9)) 9) + 1))), (3, vP b1 0), (7, .bool t121)]) (by kernel_rfl) ?_
  refine t_end ?_
  show W _ _ _ _ _ _ _
  refine w_seq ?_
  refine w_reg fun all => ?_
  refine t_v (.ldn rfl rfl rfl (.at 0 rfl rfl)) ?_
  obtain ⟨⟨t131, t132, t133, t134, t135, t136, t137, t138, t139, t140⟩, h141, e⟩ := bind_of e
  try dsimp only at e
  refine t_qz 1 [2, 3, 7, 26, 27] (σ' := [(2, vI (wr64 ((Int.tmod (wr64 ((Int.tmod w2 9) + 9)) 9) + 1))), (3, vP b1 0), (7, .bool t121), (26, .agg #[.int .u8 c0_R, .int .u8 c0_G, .int .u8 c0_B, .int .u8 c0_A]), (27, vI (wr64 ((Int.tmod (wr64 ((Int.tmod n1 50) + 50)) 50) + 1)))]) (by kernel_rfl) ?_
  refine t_call (vs := [.agg #[.int .u8 c0_R, .int .u8 c0_G, .int .u8 c0_B, .int .u8 c0_A], vI (wr64 ((Int.tmod (wr64 ((Int.tmod n1 50) + 50)) 50) + 1))]) (H1 := []) (F := ([⟨b1, [.int .u8 c0_R, .int .u8 c0_G, .int .u8 c0_B, .int .u8 c0_A], 4⟩] : List Own)) rfl rfl (by kernel_rfl) (sel_perm (is := []) (by kernel_rfl)) (glyphiclaw27_square.ok hE_ h141) ?_
  rintro _ _ S_ ⟨N142, N143, N144, N145, rfl, rfl, hS_⟩
  obtain rfl := hS_.symm
  obtain ⟨⟨t365, t366, t367, t368⟩, h369, e⟩ := bind_of e
  try dsimp only at e
  refine t_qz 1 [2, 3, 7, 28, 29] (σ' := [(2, vI (wr64 ((Int.tmod (wr64 ((Int.tmod w2 9) + 9)) 9) + 1))), (3, vP b1 0), (7, .bool t121), (28, .agg #[vI t131, vI t132, vI 0, .slice (some ⟨N142, 0, none⟩) 1 1, .slice (some ⟨N143, 0, none⟩) 1 1]), (29, vI (wr64 ((Int.tmod (wr64 ((Int.tmod w2 9) + 9)) 9) + 1)))]) (by kernel_rfl) ?_
  refine t_call (vs := [.agg #[vI t131, vI t132, vI 0, .slice (some ⟨N142, 0, none⟩) 1 1, .slice (some ⟨N143, 0, none⟩) 1 1], vI (wr64 ((Int.tmod (wr64 ((Int.tmod w2 9) + 9)) 9) + 1))]) (H1 := ([⟨N142, [.int .u8 t133, .int .u8 t134, .int .u8 t135, .int .u8 t136], 4⟩, ⟨N143, [vI 1, vI 0, vI 0, vI 0, vI 0, vI 0, vI 0, vI 0, vI 0, vI 0, .slice (some ⟨N144, 0, none⟩) 1 1], 11⟩, ⟨N144, [vI 0, vI 0, .slice (some ⟨N145, 0, none⟩) 3 3, vB false], 4⟩, ⟨N145, [vI 1, vI t137, vI 0, vI 0, vI 0, vI 0, vI 0, vI 1, vI t138, vI t139, vI 0, vI 0, vI 0, vI 0, vI 1, vI 0, vI t140, vI 0, vI 0, vI 0, vI 0], 21⟩] : List Own)) (F := ([⟨b1, [.int .u8 c0_R, .int .u8 c0_G, .int .u8 c0_B, .int .u8 c0_A], 4⟩] : List Own)) rfl rfl (by kernel_rfl) (sel_perm (is := [0, 0, 0, 0]) (by kernel_rfl)) (render_Frame_v2.ok hE_ h369) ?_
  rintro _ _ S_ ⟨N370, nN370, rfl, rfl, hS_⟩
  obtain rfl := hS_.symm
  refine t_qz 3 [2, 3, 7, 31, 32] (σ' := [(2, vI (wr64 ((Int.tmod (wr64 ((Int.tmod w2 9) + 9)) 9) + 1))), (3, vP b1 0), (7, .bool t121), (31, .agg #[vI t365, vI t366, .slice (ad N370) t368.length (nN370 / 1)]), (32, errV 157 A_ t367)]) (by kernel_rfl) ?_
  refine t_a (.new rfl rfl) fun b371 fb371 sb371 => ?_
  refine t_sti 0 (cs := [vI t365, vI t366, .slice (ad N370) t368.length (nN370 / 1)]) rfl rfl rfl rfl rfl rfl rfl rfl rfl ?_
  refine t_qz 1 [2, 3, 7, 8, 9] (σ' := [(2, vI (wr64 ((Int.tmod (wr64 ((Int.tmod w2 9) + 9)) 9) + 1))), (3, vP b1 0), (7, .bool t121), (8, vP b371 0), (9, errV 157 A_ t367)]) (by kernel_rfl) ?_
  refine t_end ?_
  show W _ _ _ _ _ _ _
  refine w_seq ?_
  refine w_seq ?_
  refine w_reg fun all => ?_
  by_cases c372 : t367 = 0
  ·rw [if_pos c372] at e
   have c372b : (t367 == 0) = true := beq_iff_eq.mpr c372
   refine t_qz 1 [2, 3, 7, 8, 33] (σ' := [(2, vI (wr64 ((Int.tmod (wr64 ((Int.tmod w2 9) + 9)) 9) + 1))), (3, vP b1 0), (7, .bool t121), (8, vP b371 0), (33, errV 157 A_ t367)]) (by kernel_rfl) ?_
   refine t_v (.eqt (a := errV 157 A_ t367) (b := .nilIface) (r := t367 == 0) rfl rfl rfl rfl (eqErr (by kernel_rfl) rfl) (bnk c372b rfl)) ?_
   refine t_qz 2 [2, 3, 7, 8, 35, 36] (σ' := [(2, vI (wr64 ((Int.tmod (wr64 ((Int.tmod w2 9) + 9)) 9) + 1))), (3, vP b1 0), (7, .bool t121), (8, vP b371 0), (35, vB false), (36, vP b371 0)]) (by kernel_rfl) ?_
   refine t_v (.ld1 rfl rfl rfl (.at 0 rfl rfl)) ?_
   by_cases c373 : t365 = (wr64 ((Int.tmod (wr64 ((Int.tmod w2 9) + 9)) 9) + 1))
   ·rw [if_pos c373] at e
    have c373b : (t365 == (wr64 ((Int.tmod (wr64 ((Int.tmod w2 9) + 9)) 9) + 1))) = true := beq_iff_eq.mpr c373
    refine t_qz 1 [2, 3, 7, 8, 35, 37, 38] (σ' := [(2, vI (wr64 ((Int.tmod (wr64 ((Int.tmod w2 9) + 9)) 9) + 1))), (3, vP b1 0), (7, .bool t121), (8, vP b371 0), (35, vB false), (37, vI t365), (38, vI (wr64 ((Int.tmod (wr64 ((Int.tmod w2 9) + 9)) 9) + 1)))]) (by kernel_rfl) ?_
    refine t_v (dv_quiet rfl (congrArg (fun t => some (Value.bool (!t))) c373b)) ?_
    refine t_qz 3 [2, 3, 7, 8, 41, 42] (σ' := [(2, vI (wr64 ((Int.tmod (wr64 ((Int.tmod w2 9) + 9)) 9) + 1))), (3, vP b1 0), (7, .bool t121), (8, vP b371 0), (41, vB false), (42, vP b371 1)]) (by kernel_rfl) ?_
    refine t_v (.ld1 rfl rfl rfl (.at 0 rfl rfl)) ?_
    by_cases c374 : t366 = (wr64 ((Int.tmod (wr64 ((Int.tmod w2 9) + 9)) 9) + 1))
    ·rw [if_pos c374] at e
     have c374b : (t366 == (wr64 ((Int.tmod (wr64 ((Int.tmod w2 9) + 9)) 9) + 1))) = true := beq_iff_eq.mpr c374
     refine t_qz 1 [2, 3, 7, 8, 41, 43, 44] (σ' := [(2, vI (wr64 ((Int.tmod (wr64 ((Int.tmod w2 9) + 9)) 9) + 1))), (3, vP b1 0), (7, .bool t121), (8, vP b371 0), (41, vB false), (43, vI t366), (44, vI (wr64 ((Int.tmod (wr64 ((Int.tmod w2 9) + 9)) 9) + 1)))]) (by kernel_rfl) ?_
     refine t_v (dv_quiet rfl (congrArg (fun t => some (Value.bool (!t))) c374b)) ?_
     refine t_qz 3 [2, 3, 7, 8, 47, 48] (σ' := [(2, vI (wr64 ((Int.tmod (wr64 ((Int.tmod w2 9) + 9)) 9) + 1))), (3, vP b1 0), (7, .bool t121), (8, vP b371 0), (47, vB false), (48, vP b371 2)]) (by kernel_rfl) ?_
     refine t_v (.ld1 rfl rfl rfl (.at 0 rfl rfl)) ?_
     by_cases c375 : (t368.length : Int) = (wr64 ((wr64 (4 * (wr64 ((Int.tmod (wr64 ((Int.tmod w2 9) + 9)) 9) + 1)))) * (wr64 ((Int.tmod (wr64 ((Int.tmod w2 9) + 9)) 9) + 1))))
     ·rw [if_pos c375] at e
      have c375b : ((t368.length : Int) == (wr64 ((wr64 (4 * (wr64 ((Int.tmod (wr64 ((Int.tmod w2 9) + 9)) 9) + 1)))) * (wr64 ((Int.tmod (wr64 ((Int.tmod w2 9) + 9)) 9) + 1))))) = true := beq_iff_eq.mpr c375
      refine t_qz 5 [3, 7, 8, 47, 50, 54] (σ' := [(3, vP b1 0), (7, .bool t121), (8, vP b371 0), (47, vB false), (50, vI (t368.length : Int)), (54, vI (wr64 ((wr64 (4 * (wr64 ((Int.tmod (wr64 ((Int.tmod w2 9) + 9)) 9) + 1)))) * (wr64 ((Int.tmod (wr64 ((Int.tmod w2 9) + 9)) 9) + 1)))))]) (by kernel_rfl) ?_
      refine t_v (dv_quiet rfl (congrArg (fun t => some (Value.bool (!t))) c375b)) ?_
      refine t_qz 1 [3, 7, 8, 56] (σ' := [(3, vP b1 0), (7, .bool t121), (8, vP b371 0), (56, vB false)]) (by kernel_rfl) ?_
      refine t_end ?_
      show W _ _ _ _ _ _ _
      refine w_cond rfl (fun c_ => by cases c_) (fun _ => ?_)
      show W _ _ _ _ _ _ _
      refine w_skip ?_
      show W _ _ _ _ _ _ _
      obtain ⟨s378, e377, e⟩ := bind_of e
      refine w_cut [7] (fun σ_ H_ S_ => ∃ u_ : Unit, s378 = .inr u_ ∧ [(7, .bool t121)] = σ_ ∧ ([⟨b371, [vI t365, vI t366, .slice (ad N370) t368.length (nN370 / 1)], 3⟩, ⟨N142, [.int .u8 t133, .int .u8 t134, .int .u8 t135, .int .u8 t136], 4⟩, ⟨N143, [vI 1, vI 0, vI 0, vI 0, vI 0, vI 0, vI 0, vI 0, vI 0, vI 0, .slice (some ⟨N144, 0, none⟩) 1 1], 11⟩, ⟨N144, [vI 0, vI 0, .slice (some ⟨N145, 0, none⟩) 3 3, vB false], 4⟩, ⟨N145, [vI 1, vI t137, vI 0, vI 0, vI 0, vI 0, vI 0, vI 1, vI t138, vI t139, vI 0, vI 0, vI 0, vI 0, vI 1, vI 0, vI t140, vI 0, vI 0, vI 0, vI 0], 21⟩, ⟨b1, [.int .u8 c0_R, .int .u8 c0_G, .int .u8 c0_B, .int .u8 c0_A], 4⟩, ⟨N370, encL E_u8 t368, nN370⟩] : List Own) = H_ ∧ S = S_) ?_ ?_
      ·show W _ _ _ _ _ _ _
       refine w_seq ?_
       refine w_reg fun all => ?_
       refine t_qz 1 [3, 7, 8, 10] (σ' := [(3, vP b1 0), (7, .bool t121), (8, vP b371 0), (10, vI 0)]) (by kernel_rfl) ?_
       refine t_end ?_
       show W _ _ _ _ _ _ _
       refine w_block ?_
       refine w_kp [3, 7, 8, 10] (σ' := [(3, vP b1 0), (7, .bool t121), (8, vP b371 0), (10, vI 0)]) (by kernel_rfl) ?_
       refine w_loop (fun n_ σ_ H_ S_ => ∃ (x379 : Int), [(3, vP b1 0), (7, .bool t121), (8, vP b371 0), (10, vI x379)] = σ_ ∧ ([⟨b371, [vI t365, vI t366, .slice (ad N370) t368.length (nN370 / 1)], 3⟩, ⟨N370, encL E_u8 t368, nN370⟩, ⟨N142, [.int .u8 t133, .int .u8 t134, .int .u8 t135, .int .u8 t136], 4⟩, ⟨N143, [vI 1, vI 0, vI 0, vI 0, vI 0, vI 0, vI 0, vI 0, vI 0, vI 0, .slice (some ⟨N144, 0, none⟩) 1 1], 11⟩, ⟨N144, [vI 0, vI 0, .slice (some ⟨N145, 0, none⟩) 3 3, vB false], 4⟩, ⟨N145, [vI 1, vI t137, vI 0, vI 0, vI 0, vI 0, vI 0, vI 1, vI t138, vI t139, vI 0, vI 0, vI 0, vI 0, vI 1, vI 0, vI t140, vI 0, vI 0, vI 0, vI 0], 21⟩, ⟨b1, [.int .u8 c0_R, .int .u8 c0_G, .int .u8 c0_B, .int .u8 c0_A], 4⟩] : List Own) = H_ ∧ S = S_ ∧ glyphiclaw27_RenderWhole.l0 n_ c0_R c0_G c0_B c0_A t368 x379 = some s378) _ ⟨0, rfl, rfl, rfl, e377⟩ ?_
       rintro n400 σ_ H_ S_ ⟨x379, rfl, rfl, rfl, e377⟩
       cases n400 with
       | zero => rw [glyphiclaw27_RenderWhole.l0.eq_1] at e377; cases e377
       | succ k_ =>
        rw [glyphiclaw27_RenderWhole.l0.eq_2] at e377
        refine w_seq ?_
        refine w_seq ?_
        refine w_reg fun all => ?_
        refine t_qz 2 [3, 7, 8, 10, 57, 58] (σ' := [(3, vP b1 0), (7, .bool t121), (8, vP b371 0), (10, vI x379), (57, vI x379), (58, vP b371 2)]) (by kernel_rfl) ?_
        refine t_v (.ld1 rfl rfl rfl (.at 0 rfl rfl)) ?_
        by_cases c380 : x379 < (t368.length : Int)
        ·rw [if_pos c380] at e377
         have c380b : (decide (x379 < (t368.length : Int))) = true := decide_eq_true c380
         refine t_qz 1 [3, 7, 8, 10, 57, 60] (σ' := [(3, vP b1 0), (7, .bool t121), (8, vP b371 0), (10, vI x379), (57, vI x379), (60, vI (t368.length : Int))]) (by kernel_rfl) ?_
         refine t_v (dv_quiet rfl (congrArg (fun t => some (Value.bool t)) c380b)) ?_
         refine t_keep [3, 7, 8, 10, 61] (σ' := [(3, vP b1 0), (7, .bool t121), (8, vP b371 0), (10, vI x379), (61, vB true)]) (by kernel_rfl) ?_
         refine t_end ?_
         show W _ _ _ _ _ _ _
         refine w_cond rfl (fun _ => ?_) (fun c_ => by cases c_)
         show W _ _ _ _ _ _ _
         refine w_skip ?_
         show W _ _ _ _ _ _ _
         refine w_seq ?_
         refine w_block ?_
         refine w_seq ?_
         obtain ⟨x381, hx382, e377⟩ := bind_of e377
         obtain ⟨x383, hx384, e377⟩ := bind_of e377
         obtain ⟨x385, hx386, e377⟩ := bind_of e377
         obtain ⟨x387, hx388, e377⟩ := bind_of e377
         refine w_drwE mixed 25 [.v (vP b371 2), .v (.slice (ad N370) t368.length (nN370 / 1)), .v (vI x379), .v (vP (bk N370) ((x379).toNat * 1 + 0)), .v (.int .u8 x381), .v (vP b371 2), .v (.slice (ad N370) t368.length (nN370 / 1)), .v (vI x379), .v (vI (wr64 (x379 + 1))), .v (vP (bk N370) ((wr64 (x379 + 1)).toNat * 1 + 0)), .v (.int .u8 x383), .v (vP b371 2), .v (.slice (ad N370) t368.length (nN370 / 1)), .v (vI x379), .v (vI (wr64 (x379 + 2))), .v (vP (bk N370) ((wr64 (x379 + 2)).toNat * 1 + 0)), .v (.int .u8 x385), .v (vP b371 2), .v (.slice (ad N370) t368.length (nN370 / 1)), .v (vI x379), .v (vI (wr64 (x379 + 3))), .v (vP (bk N370) ((wr64 (x379 + 3)).toNat * 1 + 0)), .v (.int .u8 x387), .v (.agg #[.int .u8 x381, .int .u8 x383, .int .u8 x385, .int .u8 x387]), .a [.int .u8 0, .int .u8 0, .int .u8 0, .int .u8 0] ptrTo] (by kernel_rfl) ?_ ?_
         ·refine DI.sq 1 (by kernel_rfl) rfl ?_
          refine .cons (.ld1 rfl rfl rfl (.at 0 rfl rfl)) ?_
          refine DI.sq 1 (by kernel_rfl) rfl ?_
          refine .cons (.quietH rfl (by intro h_; cases h_) (ixl (E := E_u8) (j := 1) rfl rfl rfl (by decide) rfl hx382)) ?_
          refine .cons (.ld1 rfl rfl rfl (.lst 1 rfl (encL_at (lgt_in hx382).1 rfl))) ?_
          refine DI.sq 1 (by kernel_rfl) rfl ?_
          refine .cons (.ld1 rfl rfl rfl (.at 0 rfl rfl)) ?_
          refine DI.sq 2 (by kernel_rfl) rfl ?_
          refine .cons (.quietH rfl (by intro h_; cases h_) (ixl (E := E_u8) (j := 1) rfl rfl rfl (by decide) rfl hx384)) ?_
          refine .cons (.ld1 rfl rfl rfl (.lst 1 rfl (encL_at (lgt_in hx384).1 rfl))) ?_
          refine DI.sq 1 (by kernel_rfl) rfl ?_
          refine .cons (.ld1 rfl rfl rfl (.at 0 rfl rfl)) ?_
          refine DI.sq 2 (by kernel_rfl) rfl ?_
          refine .cons (.quietH rfl (by intro h_; cases h_) (ixl (E := E_u8) (j := 1) rfl rfl rfl (by decide) rfl hx386)) ?_
          refine .cons (.ld1 rfl rfl rfl (.lst 1 rfl (encL_at (lgt_in hx386).1 rfl))) ?_
          refine DI.sq 1 (by kernel_rfl) rfl ?_
          refine .cons (.ld1 rfl rfl rfl (.at 0 rfl rfl)) ?_
          refine DI.sq 2 (by kernel_rfl) rfl ?_
          refine .cons (.quietH rfl (by intro h_; cases h_) (ixl (E := E_u8) (j := 1) rfl rfl rfl (by decide) rfl hx388)) ?_
          refine .cons (.ld1 rfl rfl rfl (.lst 1 rfl (encL_at (lgt_in hx388).1 rfl))) ?_
          refine DI.sq 1 (by kernel_rfl) rfl ?_
          refine .cons (.new rfl rfl) ?_
          exact .nil
         refine fk_q 24 [3, 7, 8, 10, 87] (σ' := [(3, vP b1 0), (7, .bool t121), (8, vP b371 0), (10, vI x379), (87, .agg #[.int .u8 x381, .int .u8 x383, .int .u8 x385, .int .u8 x387])]) t_more (by kernel_rfl) ?_
         refine fk_a fun b389 fb389 sb389 => ?_
         refine fk_nil fun all => ?_
         refine t_sti 0 (cs := [.int .u8 x381, .int .u8 x383, .int .u8 x385, .int .u8 x387]) rfl rfl rfl rfl rfl rfl rfl rfl rfl ?_
         refine t_keep [3, 7, 8, 10, 11] (σ' := [(3, vP b1 0), (7, .bool t121), (8, vP b371 0), (10, vI x379), (11, vP b389 0)]) (by kernel_rfl) ?_
         refine t_end ?_
         show W _ _ _ _ _ _ _
         refine w_seq ?_
         refine w_reg fun all => ?_
         refine t_qz 1 [3, 7, 8, 10, 11, 88] (σ' := [(3, vP b1 0), (7, .bool t121), (8, vP b371 0), (10, vI x379), (11, vP b389 0), (88, vP b1 3)]) (by kernel_rfl) ?_
         refine t_v (.ld1 rfl rfl rfl (.at 7 rfl rfl)) ?_
         by_cases c390 : c0_A = 0
         ·rw [if_pos c390] at e377
          have c390b : (c0_A == 0) = true := beq_iff_eq.mpr c390
          refine t_v (dv_quiet rfl (congrArg (fun t => some (Value.bool t)) c390b)) ?_
          refine t_qz 1 [3, 7, 8, 10, 11, 91] (σ' := [(3, vP b1 0), (7, .bool t121), (8, vP b371 0), (10, vI x379), (11, vP b389 0), (91, vB true)]) (by kernel_rfl) ?_
          refine t_v (.ldn rfl rfl rfl (.at 0 rfl rfl)) ?_
          by_cases c391 : ((x381 == 0) && ((x383 == 0) && ((x385 == 0) && (x387 == 0)))) = true
          ·rw [if_pos c391] at e377
           have c391b : ((x381 == 0) && ((x383 == 0) && ((x385 == 0) && (x387 == 0)))) = true := c391
           refine t_qz 1 [3, 7, 8, 10, 11, 91, 92, 93] (σ' := [(3, vP b1 0), (7, .bool t121), (8, vP b371 0), (10, vI x379), (11, vP b389 0), (91, vB true), (92, .agg #[.int .u8 x381, .int .u8 x383, .int .u8 x385, .int .u8 x387]), (93, .agg #[.int .u8 0, .int .u8 0, .int .u8 0, .int .u8 0])]) (by kernel_rfl) ?_
           refine t_v (.eqt (a := .agg #[.int .u8 x381, .int .u8 x383, .int .u8 x385, .int .u8 x387]) (b := .agg #[.int .u8 0, .int .u8 0, .int .u8 0, .int .u8 0]) (r := (x381 == 0) && ((x383 == 0) && ((x385 == 0) && (x387 == 0)))) rfl rfl rfl rfl (by kernel_rfl) (bnk c391b rfl)) ?_
           refine t_qz 3 [3, 7, 8, 10, 11, 96, 97] (σ' := [(3, vP b1 0), (7, .bool t121), (8, vP b371 0), (10, vI x379), (11, vP b389 0), (96, vB false), (97, vP b1 3)]) (by kernel_rfl) ?_
           refine t_v (.ld1 rfl rfl rfl (.at 7 rfl rfl)) ?_
           by_cases c392 : c0_A > 0
           ·rw [if_pos c392] at e377
            have c392b : (decide (c0_A > 0)) = true := decide_eq_true c392
            refine t_v (dv_quiet rfl (congrArg (fun t => some (Value.bool t)) c392b)) ?_
            refine t_qz 1 [3, 7, 8, 10, 11, 96, 100] (σ' := [(3, vP b1 0), (7, .bool t121), (8, vP b371 0), (10, vI x379), (11, vP b389 0), (96, vB false), (100, vB true)]) (by kernel_rfl) ?_
            refine t_v (.ldn rfl rfl rfl (.at 0 rfl rfl)) ?_
            refine t_qz 1 [3, 7, 8, 10, 96, 100, 101, 102] (σ' := [(3, vP b1 0), (7, .bool t121), (8, vP b371 0), (10, vI x379), (96, vB false), (100, vB true), (101, .agg #[.int .u8 x381, .int .u8 x383, .int .u8 x385, .int .u8 x387]), (102, vP b1 0)]) (by kernel_rfl) ?_
            refine t_v (.ld1 rfl rfl rfl (.at 7 rfl rfl)) ?_
            refine t_qz 1 [3, 7, 8, 10, 96, 100, 101, 103, 104] (σ' := [(3, vP b1 0), (7, .bool t121), (8, vP b371 0), (10, vI x379), (96, vB false), (100, vB true), (101, .agg #[.int .u8 x381, .int .u8 x383, .int .u8 x385, .int .u8 x387]), (103, .int .u8 c0_R), (104, vP b1 1)]) (by kernel_rfl) ?_
            refine t_v (.ld1 rfl rfl rfl (.at 7 rfl rfl)) ?_
            refine t_qz 1 [3, 7, 8, 10, 96, 100, 101, 103, 105, 106] (σ' := [(3, vP b1 0), (7, .bool t121), (8, vP b371 0), (10, vI x379), (96, vB false), (100, vB true), (101, .agg #[.int .u8 x381, .int .u8 x383, .int .u8 x385, .int .u8 x387]), (103, .int .u8 c0_R), (105, .int .u8 c0_G), (106, vP b1 2)]) (by kernel_rfl) ?_
            refine t_v (.ld1 rfl rfl rfl (.at 7 rfl rfl)) ?_
            refine t_qz 1 [3, 7, 8, 10, 96, 100, 101, 103, 105, 107, 108] (σ' := [(3, vP b1 0), (7, .bool t121), (8, vP b371 0), (10, vI x379), (96, vB false), (100, vB true), (101, .agg #[.int .u8 x381, .int .u8 x383, .int .u8 x385, .int .u8 x387]), (103, .int .u8 c0_R), (105, .int .u8 c0_G), (107, .int .u8 c0_B), (108, vP b1 3)]) (by kernel_rfl) ?_
            refine t_v (.ld1 rfl rfl rfl (.at 7 rfl rfl)) ?_
            by_cases c393 : ((x381 == c0_R) && ((x383 == c0_G) && ((x385 == c0_B) && (x387 == c0_A)))) = true
            ·rw [if_pos c393] at e377
             have c393b : ((x381 == c0_R) && ((x383 == c0_G) && ((x385 == c0_B) && (x387 == c0_A)))) = true := c393
             refine t_qz 1 [3, 7, 8, 10, 96, 100, 101, 110] (σ' := [(3, vP b1 0), (7, .bool t121), (8, vP b371 0), (10, vI x379), (96, vB false), (100, vB true), (101, .agg #[.int .u8 x381, .int .u8 x383, .int .u8 x385, .int .u8 x387]), (110, .agg #[.int .u8 c0_R, .int .u8 c0_G, .int .u8 c0_B, .int .u8 c0_A])]) (by kernel_rfl) ?_
             refine t_v (.eqt (a := .agg #[.int .u8 x381, .int .u8 x383, .int .u8 x385, .int .u8 x387]) (b := .agg #[.int .u8 c0_R, .int .u8 c0_G, .int .u8 c0_B, .int .u8 c0_A]) (r := (x381 == c0_R) && ((x383 == c0_G) && ((x385 == c0_B) && (x387 == c0_A)))) rfl rfl rfl rfl (by kernel_rfl) (bnk c393b rfl)) ?_
             refine t_qz 2 [3, 7, 8, 10, 113] (σ' := [(3, vP b1 0), (7, .bool t121), (8, vP b371 0), (10, vI x379), (113, vB false)]) (by kernel_rfl) ?_
             refine t_end ?_
             show W _ _ _ _ _ _ _
             refine w_cond rfl (fun c_ => by cases c_) (fun _ => ?_)
             show W _ _ _ _ _ _ _
             refine w_skip ?_
             show W _ _ _ _ _ _ _
             refine w_reg fun all => ?_
             refine t_qz 3 [3, 7, 8, 10] (σ' := [(3, vP b1 0), (7, .bool t121), (8, vP b371 0), (10, vI (wr64 (x379 + 4)))]) (by kernel_rfl) ?_
             refine t_end ?_
             exact ⟨k_, Nat.lt_succ_self _, [(3, vP b1 0), (7, .bool t121), (8, vP b371 0), (10, vI (wr64 (x379 + 4)))], ([⟨b371, [vI t365, vI t366, .slice (ad N370) t368.length (nN370 / 1)], 3⟩, ⟨N370, encL E_u8 t368, nN370⟩, ⟨N142, [.int .u8 t133, .int .u8 t134, .int .u8 t135, .int .u8 t136], 4⟩, ⟨N143, [vI 1, vI 0, vI 0, vI 0, vI 0, vI 0, vI 0, vI 0, vI 0, vI 0, .slice (some ⟨N144, 0, none⟩) 1 1], 11⟩, ⟨N144, [vI 0, vI 0, .slice (some ⟨N145, 0, none⟩) 3 3, vB false], 4⟩, ⟨N145, [vI 1, vI t137, vI 0, vI 0, vI 0, vI 0, vI 0, vI 1, vI t138, vI t139, vI 0, vI 0, vI 0, vI 0, vI 1, vI 0, vI t140, vI 0, vI 0, vI 0, vI 0], 21⟩, ⟨b1, [.int .u8 c0_R, .int .u8 c0_G, .int .u8 c0_B, .int .u8 c0_A], 4⟩] : List Own), S, keep_sub [3, 7, 8, 10] (by kernel_rfl), VS.sel [1, 1, 1, 1, 1, 1, 1] (by kernel_rfl), wr64 (x379 + 4), rfl, rfl, rfl, e377⟩
            ·rw [if_neg c393] at e377
             have c393b : ((x381 == c0_R) && ((x383 == c0_G) && ((x385 == c0_B) && (x387 == c0_A)))) = false := Bool.eq_false_iff.mpr c393
             refine t_qz 1 [3, 7, 8, 10, 96, 100, 101, 110] (σ' := [(3, vP b1 0), (7, .bool t121), (8, vP b371 0), (10, vI x379), (96, vB false), (100, vB true), (101, .agg #[.int .u8 x381, .int .u8 x383, .int .u8 x385, .int .u8 x387]), (110, .agg #[.int .u8 c0_R, .int .u8 c0_G, .int .u8 c0_B, .int .u8 c0_A])]) (by kernel_rfl) ?_
             refine t_v (.eqt (a := .agg #[.int .u8 x381, .int .u8 x383, .int .u8 x385, .int .u8 x387]) (b := .agg #[.int .u8 c0_R, .int .u8 c0_G, .int .u8 c0_B, .int .u8 c0_A]) (r := (x381 == c0_R) && ((x383 == c0_G) && ((x385 == c0_B) && (x387 == c0_A)))) rfl rfl rfl rfl (by kernel_rfl) (bnk c393b rfl)) ?_
             refine t_qz 2 [3, 7, 8, 10, 113] (σ' := [(3, vP b1 0), (7, .bool t121), (8, vP b371 0), (10, vI x379), (113, vB true)]) (by kernel_rfl) ?_
             refine t_end ?_
             show W _ _ _ _ _ _ _
             refine w_cond rfl (fun _ => ?_) (fun c_ => by cases c_)
             show W _ _ _ _ _ _ _
             refine w_seq ?_
             refine w_reg fun all => ?_
             refine t_qz 1 [6] (σ' := [(6, vB false)]) (by kernel_rfl) ?_
             refine t_end ?_
             show W _ _ _ _ _ _ _
             refine w_ret ?_
             obtain rfl := Option.some.inj e377
             have hr_ := Option.some.inj e
             exact ⟨[vB false], [], S, ⟨rfl, trivial⟩, VS.none, congrArg Value.bool hr_, rfl, rfl⟩
           ·rw [if_neg c392] at e377
            have c392b : (decide (c0_A > 0)) = false := decide_eq_false c392
            refine t_v (dv_quiet rfl (congrArg (fun t => some (Value.bool t)) c392b)) ?_
            refine t_qz 14 [3, 7, 8, 10, 113] (σ' := [(3, vP b1 0), (7, .bool t121), (8, vP b371 0), (10, vI x379), (113, vB false)]) (by kernel_rfl) ?_
            refine t_end ?_
            show W _ _ _ _ _ _ _
            refine w_cond rfl (fun c_ => by cases c_) (fun _ => ?_)
            show W _ _ _ _ _ _ _
            refine w_skip ?_
            show W _ _ _ _ _ _ _
            refine w_reg fun all => ?_
            refine t_qz 3 [3, 7, 8, 10] (σ' := [(3, vP b1 0), (7, .bool t121), (8, vP b371 0), (10, vI (wr64 (x379 + 4)))]) (by kernel_rfl) ?_
            refine t_end ?_
            exact ⟨k_, Nat.lt_succ_self _, [(3, vP b1 0), (7, .bool t121), (8, vP b371 0), (10, vI (wr64 (x379 + 4)))], ([⟨b371, [vI t365, vI t366, .slice (ad N370) t368.length (nN370 / 1)], 3⟩, ⟨N370, encL E_u8 t368, nN370⟩, ⟨N142, [.int .u8 t133, .int .u8 t134, .int .u8 t135, .int .u8 t136], 4⟩, ⟨N143, [vI 1, vI 0, vI 0, vI 0, vI 0, vI 0, vI 0, vI 0, vI 0, vI 0, .slice (some ⟨N144, 0, none⟩) 1 1], 11⟩, ⟨N144, [vI 0, vI 0, .slice (some ⟨N145, 0, none⟩) 3 3, vB false], 4⟩, ⟨N145, [vI 1, vI t137, vI 0, vI 0, vI 0, vI 0, vI 0, vI 1, vI t138, vI t139, vI 0, vI 0, vI 0, vI 0, vI 1, vI 0, vI t140, vI 0, vI 0, vI 0, vI 0], 21⟩, ⟨b1, [.int .u8 c0_R, .int .u8 c0_G, .int .u8 c0_B, .int .u8 c0_A], 4⟩] : List Own), S, keep_sub [3, 7, 8, 10] (by kernel_rfl), VS.sel [1, 1, 1, 1, 1, 1, 1] (by kernel_rfl), wr64 (x379 + 4), rfl, rfl, rfl, e377⟩
          ·rw [if_neg c391] at e377
           have c391b : ((x381 == 0) && ((x383 == 0) && ((x385 == 0) && (x387 == 0)))) = false := Bool.eq_false_iff.mpr c391
           refine t_qz 1 [3, 7, 8, 10, 11, 91, 92, 93] (σ' := [(3, vP b1 0), (7, .bool t121), (8, vP b371 0), (10, vI x379), (11, vP b389 0), (91, vB true), (92, .agg #[.int .u8 x381, .int .u8 x383, .int .u8 x385, .int .u8 x387]), (93, .agg #[.int .u8 0, .int .u8 0, .int .u8 0, .int .u8 0])]) (by kernel_rfl) ?_
           refine t_v (.eqt (a := .agg #[.int .u8 x381, .int .u8 x383, .int .u8 x385, .int .u8 x387]) (b := .agg #[.int .u8 0, .int .u8 0, .int .u8 0, .int .u8 0]) (r := (x381 == 0) && ((x383 == 0) && ((x385 == 0) && (x387 == 0)))) rfl rfl rfl rfl (by kernel_rfl) (bnk c391b rfl)) ?_
           refine t_qz 19 [3, 7, 8, 10, 113] (σ' := [(3, vP b1 0), (7, .bool t121), (8, vP b371 0), (10, vI x379), (113, vB true)]) (by kernel_rfl) ?_
           refine t_end ?_
           show W _ _ _ _ _ _ _
           refine w_cond rfl (fun _ => ?_) (fun c_ => by cases c_)
           show W _ _ _ _ _ _ _
           refine w_seq ?_
           refine w_reg fun all => ?_
           refine t_qz 1 [6] (σ' := [(6, vB false)]) (by kernel_rfl) ?_
           refine t_end ?_
           show W _ _ _ _ _ _ _
           refine w_ret ?_
           obtain rfl := Option.some.inj e377
           have hr_ := Option.some.inj e
           exact ⟨[vB false], [], S, ⟨rfl, trivial⟩, VS.none, congrArg Value.bool hr_, rfl, rfl⟩
         ·rw [if_neg c390] at e377
          have c390b : (c0_A == 0) = false := beq_eq_false_iff_ne.mpr c390
          refine t_v (dv_quiet rfl (congrArg (fun t => some (Value.bool t)) c390b)) ?_
          refine t_qz 7 [3, 7, 8, 10, 11, 96, 97] (σ' := [(3, vP b1 0), (7, .bool t121), (8, vP b371 0), (10, vI x379), (11, vP b389 0), (96, vB false), (97, vP b1 3)]) (by kernel_rfl) ?_
          refine t_v (.ld1 rfl rfl rfl (.at 7 rfl rfl)) ?_
          by_cases c396 : c0_A > 0
          ·rw [if_pos c396] at e377
           have c396b : (decide (c0_A > 0)) = true := decide_eq_true c396
           refine t_v (dv_quiet rfl (congrArg (fun t => some (Value.bool t)) c396b)) ?_
           refine t_qz 1 [3, 7, 8, 10, 11, 96, 100] (σ' := [(3, vP b1 0), (7, .bool t121), (8, vP b371 0), (10, vI x379), (11, vP b389 0), (96, vB false), (100, vB true)]) (by kernel_rfl) ?_
           refine t_v (.ldn rfl rfl rfl (.at 0 rfl rfl)) ?_
           refine t_qz 1 [3, 7, 8, 10, 96, 100, 101, 102] (σ' := [(3, vP b1 0), (7, .bool t121), (8, vP b371 0), (10, vI x379), (96, vB false), (100, vB true), (101, .agg #[.int .u8 x381, .int .u8 x383, .int .u8 x385, .int .u8 x387]), (102, vP b1 0)]) (by kernel_rfl) ?_
           refine t_v (.ld1 rfl rfl rfl (.at 7 rfl rfl)) ?_
           refine t_qz 1 [3, 7, 8, 10, 96, 100, 101, 103, 104] (σ' := [(3, vP b1 0), (7, .bool t121), (8, vP b371 0), (10, vI x379), (96, vB false), (100, vB true), (101, .agg #[.int .u8 x381, .int .u8 x383, .int .u8 x385, .int .u8 x387]), (103, .int .u8 c0_R), (104, vP b1 1)]) (by kernel_rfl) ?_
           refine t_v (.ld1 rfl rfl rfl (.at 7 rfl rfl)) ?_
           refine t_qz 1 [3, 7, 8, 10, 96, 100, 101, 103, 105, 106] (σ' := [(3, vP b1 0), (7, .bool t121), (8, vP b371 0), (10, vI x379), (96, vB false), (100, vB true), (101, .agg #[.int .u8 x381, .int .u8 x383, .int .u8 x385, .int .u8 x387]), (103, .int .u8 c0_R), (105, .int .u8 c0_G), (106, vP b1 2)]) (by kernel_rfl) ?_
           refine t_v (.ld1 rfl rfl rfl (.at 7 rfl rfl)) ?_
           refine t_qz 1 [3, 7, 8, 10, 96, 100, 101, 103, 105, 107, 108] (σ' := [(3, vP b1 0), (7, .bool t121), (8, vP b371 0), (10, vI x379), (96, vB false), (100, vB true), (101, .agg #[.int .u8 x381, .int .u8 x383, .int .u8 x385, .int .u8 x387]), (103, .int .u8 c0_R), (105, .int .u8 c0_G), (107, .int .u8 c0_B), (108, vP b1 3)]) (by kernel_rfl) ?_
           refine t_v (.ld1 rfl rfl rfl (.at 7 rfl rfl)) ?_
           by_cases c397 : ((x381 == c0_R) && ((x383 == c0_G) && ((x385 == c0_B) && (x387 == c0_A)))) = true
           ·rw [if_pos c397] at e377
            have c397b : ((x381 == c0_R) && ((x383 == c0_G) && ((x385 == c0_B) && (x387 == c0_A)))) = true := c397
            refine t_qz 1 [3, 7, 8, 10, 96, 100, 101, 110] (σ' := [(3, vP b1 0), (7, .bool t121), (8, vP b371 0), (10, vI x379), (96, vB false), (100, vB true), (101, .agg #[.int .u8 x381, .int .u8 x383, .int .u8 x385, .int .u8 x387]), (110, .agg #[.int .u8 c0_R, .int .u8 c0_G, .int .u8 c0_B, .int .u8 c0_A])]) (by kernel_rfl) ?_
            refine t_v (.eqt (a := .agg #[.int .u8 x381, .int .u8 x383, .int .u8 x385, .int .u8 x387]) (b := .agg #[.int .u8 c0_R, .int .u8 c0_G, .int .u8 c0_B, .int .u8 c0_A]) (r := (x381 == c0_R) && ((x383 == c0_G) && ((x385 == c0_B) && (x387 == c0_A)))) rfl rfl rfl rfl (by kernel_rfl) (bnk c397b rfl)) ?_
            refine t_qz 2 [3, 7, 8, 10, 113] (σ' := [(3, vP b1 0), (7, .bool t121), (8, vP b371 0), (10, vI x379), (113, vB false)]) (by kernel_rfl) ?_
            refine t_end ?_
            show W _ _ _ _ _ _ _
            refine w_cond rfl (fun c_ => by cases c_) (fun _ => ?_)
            show W _ _ _ _ _ _ _
            refine w_skip ?_
            show W _ _ _ _ _ _ _
            refine w_reg fun all => ?_
            refine t_qz 3 [3, 7, 8, 10] (σ' := [(3, vP b1 0), (7, .bool t121), (8, vP b371 0), (10, vI (wr64 (x379 + 4)))]) (by kernel_rfl) ?_
            refine t_end ?_
            exact ⟨k_, Nat.lt_succ_self _, [(3, vP b1 0), (7, .bool t121), (8, vP b371 0), (10, vI (wr64 (x379 + 4)))], ([⟨b371, [vI t365, vI t366, .slice (ad N370) t368.length (nN370 / 1)], 3⟩, ⟨N370, encL E_u8 t368, nN370⟩, ⟨N142, [.int .u8 t133, .int .u8 t134, .int .u8 t135, .int .u8 t136], 4⟩, ⟨N143, [vI 1, vI 0, vI 0, vI 0, vI 0, vI 0, vI 0, vI 0, vI 0, vI 0, .slice (some ⟨N144, 0, none⟩) 1 1], 11⟩, ⟨N144, [vI 0, vI 0, .slice (some ⟨N145, 0, none⟩) 3 3, vB false], 4⟩, ⟨N145, [vI 1, vI t137, vI 0, vI 0, vI 0, vI 0, vI 0, vI 1, vI t138, vI t139, vI 0, vI 0, vI 0, vI 0, vI 1, vI 0, vI t140, vI 0, vI 0, vI 0, vI 0], 21⟩, ⟨b1, [.int .u8 c0_R, .int .u8 c0_G, .int .u8 c0_B, .int .u8 c0_A], 4⟩] : List Own), S, keep_sub [3, 7, 8, 10] (by kernel_rfl), VS.sel [1, 1, 1, 1, 1, 1, 1] (by kernel_rfl), wr64 (x379 + 4), rfl, rfl, rfl, e377⟩
           ·rw [if_neg c397] at e377
            have c397b : ((x381 == c0_R) && ((x383 == c0_G) && ((x385 == c0_B) && (x387 == c0_A)))) = false := Bool.eq_false_iff.mpr c397
            refine t_qz 1 [3, 7, 8, 10, 96, 100, 101, 110] (σ' := [(3, vP b1 0), (7, .bool t121), (8, vP b371 0), (10, vI x379), (96, vB false), (100, vB true), (101, .agg #[.int .u8 x381, .int .u8 x383, .int .u8 x385, .int .u8 x387]), (110, .agg #[.int .u8 c0_R, .int .u8 c0_G, .int .u8 c0_B, .int .u8 c0_A])]) (by kernel_rfl) ?_
            refine t_v (.eqt (a := .agg #[.int .u8 x381, .int .u8 x383, .int .u8 x385, .int .u8 x387]) (b := .agg #[.int .u8 c0_R, .int .u8 c0_G, .int .u8 c0_B, .int .u8 c0_A]) (r := (x381 == c0_R) && ((x383 == c0_G) && ((x385 == c0_B) && (x387 == c0_A)))) rfl rfl rfl rfl (by kernel_rfl) (bnk c397b rfl)) ?_
            refine t_qz 2 [3, 7, 8, 10, 113] (σ' := [(3, vP b1 0), (7, .bool t121), (8, vP b371 0), (10, vI x379), (113, vB true)]) (by kernel_rfl) ?_
            refine t_end ?_
            show W _ _ _ _ _ _ _
            refine w_cond rfl (fun _ => ?_) (fun c_ => by cases c_)
            show W _ _ _ _ _ _ _
            refine w_seq ?_
            refine w_reg fun all => ?_
            refine t_qz 1 [6] (σ' := [(6, vB false)]) (by kernel_rfl) ?_
            refine t_end ?_
            show W _ _ _ _ _ _ _
            refine w_ret ?_
            obtain rfl := Option.some.inj e377
            have hr_ := Option.some.inj e
            exact ⟨[vB false], [], S, ⟨rfl, trivial⟩, VS.none, congrArg Value.bool hr_, rfl, rfl⟩
          ·rw [if_neg c396] at e377
           have c396b : (decide (c0_A > 0)) = false := decide_eq_false c396
           refine t_v (dv_quiet rfl (congrArg (fun t => some (Value.bool t)) c396b)) ?_
           refine t_qz 14 [3, 7, 8, 10, 113] (σ' := [(3, vP b1 0), (7, .bool t121), (8, vP b371 0), (10, vI x379), (113, vB false)]) (by kernel_rfl) ?_
           refine t_end ?_
           show W _ _ _ _ _ _ _
           refine w_cond rfl (fun c_ => by cases c_) (fun _ => ?_)
           show W _ _ _ _ _ _ _
           refine w_skip ?_
           show W _ _ _ _ _ _ _
           refine w_reg fun all => ?_
           refine t_qz 3 [3, 7, 8, 10] (σ' := [(3, vP b1 0), (7, .bool t121), (8, vP b371 0), (10, vI (wr64 (x379 + 4)))]) (by kernel_rfl) ?_
           refine t_end ?_
           exact ⟨k_, Nat.lt_succ_self _, [(3, vP b1 0), (7, .bool t121), (8, vP b371 0), (10, vI (wr64 (x379 + 4)))], ([⟨b371, [vI t365, vI t366, .slice (ad N370) t368.length (nN370 / 1)], 3⟩, ⟨N370, encL E_u8 t368, nN370⟩, ⟨N142, [.int .u8 t133, .int .u8 t134, .int .u8 t135, .int .u8 t136], 4⟩, ⟨N143, [vI 1, vI 0, vI 0, vI 0, vI 0, vI 0, vI 0, vI 0, vI 0, vI 0, .slice (some ⟨N144, 0, none⟩) 1 1], 11⟩, ⟨N144, [vI 0, vI 0, .slice (some ⟨N145, 0, none⟩) 3 3, vB false], 4⟩, ⟨N145, [vI 1, vI t137, vI 0, vI 0, vI 0, vI 0, vI 0, vI 1, vI t138, vI t139, vI 0, vI 0, vI 0, vI 0, vI 1, vI 0, vI t140, vI 0, vI 0, vI 0, vI 0], 21⟩, ⟨b1, [.int .u8 c0_R, .int .u8 c0_G, .int .u8 c0_B, .int .u8 c0_A], 4⟩] : List Own), S, keep_sub [3, 7, 8, 10] (by kernel_rfl), VS.sel [1, 1, 1, 1, 1, 1, 1] (by kernel_rfl), wr64 (x379 + 4), rfl, rfl, rfl, e377⟩
        ·rw [if_neg c380] at e377
         have c380b : (decide (x379 < (t368.length : Int))) = false := decide_eq_false c380
         refine t_qz 1 [3, 7, 8, 10, 57, 60] (σ' := [(3, vP b1 0), (7, .bool t121), (8, vP b371 0), (10, vI x379), (57, vI x379), (60, vI (t368.length : Int))]) (by kernel_rfl) ?_
         refine t_v (dv_quiet rfl (congrArg (fun t => some (Value.bool t)) c380b)) ?_
         refine t_keep [3, 7, 8, 10, 61] (σ' := [(3, vP b1 0), (7, .bool t121), (8, vP b371 0), (10, vI x379), (61, vB false)]) (by kernel_rfl) ?_
         refine t_end ?_
         show W _ _ _ _ _ _ _
         refine w_cond rfl (fun c_ => by cases c_) (fun _ => ?_)
         show W _ _ _ _ _ _ _
         refine w_exit ?_
         obtain rfl := Option.some.inj e377
         exact ⟨([⟨b371, [vI t365, vI t366, .slice (ad N370) t368.length (nN370 / 1)], 3⟩, ⟨N142, [.int .u8 t133, .int .u8 t134, .int .u8 t135, .int .u8 t136], 4⟩, ⟨N143, [vI 1, vI 0, vI 0, vI 0, vI 0, vI 0, vI 0, vI 0, vI 0, vI 0, .slice (some ⟨N144, 0, none⟩) 1 1], 11⟩, ⟨N144, [vI 0, vI 0, .slice (some ⟨N145, 0, none⟩) 3 3, vB false], 4⟩, ⟨N145, [vI 1, vI t137, vI 0, vI 0, vI 0, vI 0, vI 0, vI 1, vI t138, vI t139, vI 0, vI 0, vI 0, vI 0, vI 1, vI 0, vI t140, vI 0, vI 0, vI 0, vI 0], 21⟩, ⟨b1, [.int .u8 c0_R, .int .u8 c0_G, .int .u8 c0_B, .int .u8 c0_A], 4⟩, ⟨N370, encL E_u8 t368, nN370⟩] : List Own), S, VS.sel [0, 1, 1, 1, 1, 1, 0] (by kernel_rfl), (), rfl, by kernel_rfl, rfl, rfl⟩
      ·rintro σ_ H_ S_ ⟨u_, rfl, rfl, rfl, rfl⟩
       dsimp only at e
       refine w_seq ?_
       refine w_reg fun all => ?_
       refine t_qz 2 [6] (σ' := [(6, .bool t121)]) (by kernel_rfl) ?_
       refine t_end ?_
       show W _ _ _ _ _ _ _
       refine w_ret ?_
       have hr_ := Option.some.inj e
       exact ⟨[.bool t121], [], S, ⟨rfl, trivial⟩, VS.none, congrArg Value.bool hr_, rfl, rfl⟩
     ·rw [if_neg c375] at e
      exact absurd (Option.some.inj e) (by decide)
    ·rw [if_neg c374] at e
     exact absurd (Option.some.inj e) (by decide)
   ·rw [if_neg c373] at e
    exact absurd (Option.some.inj e) (by decide)
  ·rw [if_neg c372] at e
   exact absurd (Option.some.inj e) (by decide)
 ·rw [if_neg c123] at e
  exact absurd (Option.some.inj e) (by decide)

def glyphiclaw27_RenderWhole.Pure : Prop := ∀ (c0_R : Int) (c0_G : Int) (c0_B : Int) (c0_A : Int) (n1 : Int) (w2 : Int), (Lit.int .u8 c0_R).wf = true → (Lit.int .u8 c0_G).wf = true → (Lit.int .u8 c0_B).wf = true → (Lit.int .u8 c0_A).wf = true → (Lit.int .i64 n1).wf = true → (Lit.int .i64 w2).wf = true → ∃ k, glyphiclaw27_RenderWhole.f k c0_R c0_G c0_B c0_A n1 w2 = some true
theorem glyphiclaw27_RenderWhole.walk (P : glyphiclaw27_RenderWhole.Pure) (c0_R : Int) (c0_G : Int) (c0_B : Int) (c0_A : Int) (n1 : Int) (w2 : Int) (w : World) {S : Seal} (hS : HOK [] S w) {A_ : Int → Addr} (hE_ : EO gsE S A_ 157) (hc0_R : (Lit.int .u8 c0_R).wf = true) (hc0_G : (Lit.int .u8 c0_G).wf = true) (hc0_B : (Lit.int .u8 c0_B).wf = true) (hc0_A : (Lit.int .u8 c0_A).wf = true) (hn1 : (Lit.int .i64 n1).wf = true) (hw2 : (Lit.int .i64 w2).wf = true) :
    Calls Tryd.prog 3 #[.agg #[.int .u8 c0_R, .int .u8 c0_G, .int .u8 c0_B, .int .u8 c0_A], .int .i64 n1, .int .i64 w2] w fun e w' => e = .returned (.bool true) ∧ Below w.heap.size w w' := let ⟨k, h⟩ := P c0_R c0_G c0_B c0_A n1 w2 hc0_R hc0_G hc0_B hc0_A hn1 hw2; law_w hS (glyphiclaw27_RenderWhole.ok hE_ (k := k) h)
end Go.Proofs.YtobjaddicodiaaaDoor.QRenderWhole
