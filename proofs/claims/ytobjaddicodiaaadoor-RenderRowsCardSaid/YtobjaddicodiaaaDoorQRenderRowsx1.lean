/- Functions of the program as Lean functions, each with the proof of its walk. Written by gen.py, a program of these sessions. -/
import Derived.Test.YtobjaddicodiaaaDoorQRenderRowsx0
namespace Go.Proofs.YtobjaddicodiaaaDoor.QRenderRows
open Go Go.RowKit Go.Proofs.YtobjaddicodiaaaDoorE Go.Proofs.YtobjaddicodiaaaDoorX
set_option linter.unusedVariables false
set_option maxRecDepth 100000
set_option maxHeartbeats 8000000
def sweep_masks_v2.l2 : Nat → Int → Int → Int → List (Int × Int × Int × Int) → Int → Int → List (Int) → Option (List (Int))
  | 0, _, _, _, _, _, _, _ => none
  | k + 1, y2, m0_0, x121, t130, x133, x140, y141 => if x140 < (wr64 ((wr64 (x121 + 1)) * 8)) then ((sweep_Sample.f x133 y2 x140).bind fun (t143, t144) => ((sweep_Line_1_v1.f k t130 t143 t144 m0_0).bind fun t146 => (if t146 = true then ((lgt y141 x133).bind fun x148 => (if x140 < 0 then none else ((lgt y141 x133).bind fun x151 => ((lput y141 x133 (bits .or .u64 x148 (wru64 (1 * 2 ^ (min (Int.toNat x140) 64))))).bind fun y153 => (sweep_masks_v2.l2 k y2 m0_0 x121 t130 x133 (wr64 (x140 + 1)) y153))))) else (sweep_masks_v2.l2 k y2 m0_0 x121 t130 x133 (wr64 (x140 + 1)) y141)))) else (some y141)
def sweep_masks_v2.l1 : Nat → Int → Int → Int → Int → List (Int × Int × Int × Int) → Int → List (Int) → Option (List (Int))
  | 0, _, _, _, _, _, _, _ => none
  | k + 1, y2, w3, m0_0, x121, t130, x133, y134 => if x133 < w3 then (if (t130.length : Int) > 0 then ((sweep_masks_v2.l2 k y2 m0_0 x121 t130 x133 (wr64 (x121 * 8)) y134 : Option (List (Int))).bind fun y159 => (sweep_masks_v2.l1 k y2 w3 m0_0 x121 t130 (wr64 (x133 + 1)) y159)) else (some y134)) else (some y134)
def sweep_masks_v2.l0 : Nat → List (Int × Int × Int × Int) → Int → Int → Int → Int → Int → List (Int) → Option (List (Int))
  | 0, _, _, _, _, _, _, _ => none
  | k + 1, l0, wide1, y2, w3, m0_0, x121, y122 => if x121 < 8 then (((sweep_Sample.f 0 y2 (wr64 (x121 * 8))).bind fun (t127, t128) => ((sweep_crossing_v1.f k l0 wide1 t128).bind fun t130 => (sweep_masks_v2.l1 k y2 w3 m0_0 x121 t130 0 y122)) : Option (List (Int))).bind fun y162 => (sweep_masks_v2.l0 k l0 wide1 y2 w3 m0_0 (wr64 (x121 + 1)) y162)) else (some y122)
def sweep_masks_v2.f (k : Nat) (l0 : List (Int × Int × Int × Int)) (wide1 : Int) (y2 : Int) (w3 : Int) (m0_0 : Int) : Option (List (Int)) := if w3 < 1 then (some ([] : List (Int))) else ((lmk (0 : Int) w3 w3).bind fun y115 => ((sweep_masks_v2.l0 k l0 wide1 y2 w3 m0_0 0 y115 : Option (List (Int))).bind fun y165 => (some y165)))
theorem sweep_masks_v2.ok {S : Seal} {B0 k : Nat} {l0 : List (Int × Int × Int × Int)} {wide1 y2 w3 m0_0 : Int} {r0_ : List (Int)}{A_ : Int → Addr} (hE_ : EO gsE S A_ 157) {a_l0 : Option Addr} {c_l0 : Nat} (h_l0 : SlE S E_i644 l0 a_l0) (e : sweep_masks_v2.f k l0 wide1 y2 w3 m0_0 = some r0_) :
    Cal Tryd.prog 65 [.slice a_l0 l0.length c_l0, vI wide1, vI y2, vI w3, .func (.func 68) #[] #[vP B0 0]] ([⟨B0, [vI m0_0], 1⟩] : List Own) S fun v H' S' => ∃ (N0_ : Option Nat) (nN0_ : Nat) , v = .slice (ad N0_) r0_.length (nN0_ / 1) ∧ H' = ([⟨N0_, encL E_u64 r0_, nN0_⟩, ⟨B0, [vI m0_0], 1⟩] : List Own) ∧ S' = S := by
 unfold sweep_masks_v2.f at e
 refine cal_of (c := c65) (N := 67) Tryd.func65 rfl rfl (by kernel_rfl) (rs := [.t 10]) (by kernel_rfl) (Nat.le_of_ble_eq_true rfl) ?_
 unfold c65
 refine wx mixed 1 [] 0 [] (zWL [] ?_)
 refine w_ (w_seq ?_)
 by_cases c114 : w3 < 1
 ·rw [if_pos c114] at e
  have c114b : (decide (w3 < 1)) = true := decide_eq_true c114
  refine wxM mixed 1 [] 0 [(1, spQ (.bin .lss 16 (.const (vI 1))) [vI w3, vI 1] (congrArg (fun t => some (Value.bool t)) c114b))] (zWL [] ?_)
  refine w_ (w_ct (w_ ?_))
  refine wxM mixed 1 [] 0 [] (zWL [] ?_)
  refine w_ (w_as [(10, .slice none 0 0)] ([⟨B0, [vI m0_0], 1⟩] : List Own) ?_)
  refine w_ret ?_
  obtain rfl := Option.some.inj e
  exact ⟨[_], _, S, ⟨(show gt _ _ = some _ from (by kernel_rfl)), trivial⟩, VS.trans VS.vac (VS.sel [0, 0] (by kernel_rfl)), none, 0, rfl, rfl, rfl⟩
 ·rw [if_neg c114] at e
  have c114b : (decide (w3 < 1)) = false := decide_eq_false c114
  refine wqM mixed [] 0 .nrm [(1, spQ (.bin .lss 16 (.const (vI 1))) [vI w3, vI 1] (congrArg (fun t => some (Value.bool t)) c114b))] (zQL [] ?_)
  refine w_ (w_seq (w_reg fun all => ?_))
  refine txM 1 [] 0 [] (zTL [] ?_)
  refine t_as [(0, .slice a_l0 l0.length c_l0), (1, vI wide1), (2, vI y2), (3, vI w3), (4, .func (.func 68) #[] #[vP B0 0]), (18, vI w3)] ([⟨B0, [vI m0_0], 1⟩] : List Own) ?_
  obtain ⟨y115, hl116, e⟩ := bind_of e
  refine t_mkl (E := E_u64) (x0 := 0) rfl rfl rfl rfl rfl (by decide) (by decide) rfl hl116 fun a117 na117 => ?_
  refine tx 1 [] 0 [] (zTL [] ?_)
  refine t_end (w_ ?_)
  obtain ⟨y165, e119, e⟩ := bind_of e
  refine w_cut [11] (fun σ_ H_ S_ => [(11, .slice (ad (some a117)) y165.length (na117 / 1))] = σ_ ∧ ([⟨B0, [vI m0_0], 1⟩, ⟨some a117, encL E_u64 y165, na117⟩] : List Own) = H_ ∧ S = S_) ?_ ?_
  ·refine w_ ?_
   refine wxM mixed 1 [] 0 [] (zWL [] ?_)
   refine w_ (w_block (wk [(0, .slice a_l0 l0.length c_l0), (1, vI wide1), (2, vI y2), (3, vI w3), (4, .func (.func 68) #[] #[vP B0 0]), (11, .slice (ad (some a117)) y115.length (na117 / 1)), (20, vI 0)] (w_vs (H' := ([⟨some a117, encL E_u64 y115, na117⟩, ⟨B0, [vI m0_0], 1⟩] : List Own)) (S' := S) (VS.lb [0, 0] (by kernel_rfl)) ?_)))
   refine w_loop (fun n_ σ_ H_ S_ => ∃ (x121 : Int) (y122 : List (Int)), [(0, .slice a_l0 l0.length c_l0), (1, vI wide1), (2, vI y2), (3, vI w3), (4, .func (.func 68) #[] #[vP B0 0]), (11, .slice (ad (some a117)) y122.length (na117 / 1)), (20, vI x121)] = σ_ ∧ ([⟨some a117, encL E_u64 y122, na117⟩, ⟨B0, [vI m0_0], 1⟩] : List Own) = H_ ∧ S = S_ ∧ sweep_masks_v2.l0 n_ l0 wide1 y2 w3 m0_0 x121 y122 = some y165) _ ⟨0, y115, rfl, rfl, rfl, e119⟩ ?_
   rintro n164 σ_ H_ S_ ⟨x121, y122, rfl, rfl, rfl, e119⟩
   cases n164 with
   | zero => rw [sweep_masks_v2.l0.eq_1] at e119; cases e119
   | succ k_ =>
    rw [sweep_masks_v2.l0.eq_2] at e119
    by_cases c123 : x121 < 8
    ·rw [if_pos c123] at e119
     have c123b : (decide (x121 < 8)) = true := decide_eq_true c123
     refine wx mixed 2 [] 0 [(0, spQ (.bin .lss 20 (.const (vI 8))) [vI x121, vI 8] (congrArg (fun t => some (Value.bool t)) c123b))] (zWL [] ?_)
     refine w_ ?_
     obtain ⟨y162, e125, e119⟩ := bind_of e119
     refine w_cut [0, 1, 2, 3, 4, 11, 20] (fun σ_ H_ S_ => [(0, .slice a_l0 l0.length c_l0), (1, vI wide1), (2, vI y2), (3, vI w3), (4, .func (.func 68) #[] #[vP B0 0]), (11, .slice (ad (some a117)) y162.length (na117 / 1)), (20, vI x121)] = σ_ ∧ ([⟨B0, [vI m0_0], 1⟩, ⟨some a117, encL E_u64 y162, na117⟩] : List Own) = H_ ∧ S = S_) ?_ ?_
     ·refine w_ (w_block ?_)
      obtain ⟨⟨t127, t128⟩, h129, e125⟩ := bind_of e125
      try dsimp only at e125
      obtain ⟨t130, h131, e125⟩ := bind_of e125
      refine wxM mixed 3 [] 0 [(7, spP 76 [(.const (vI 0)), 25, 27] (sweep_Sample.ok hE_ h129)), (9, spC 75 [23, 24, 29] [] [] [1, 0] 1 (fun l_ => .slice (ad (l_.O 0)) t130.length ((l_.N 0) / 4)) (fun l_ => [[⟨(l_.O 0), encL E_i644 t130, (l_.N 0)⟩]]) (vs := [.slice a_l0 l0.length c_l0, vI wide1, vI t128]) rfl (((sweep_crossing_v1.ok hE_ h_l0 h131)).mono fun _ _ _ ⟨N132, nN132, h1_, h2_, h3_⟩ => ⟨un ⟨[nN132], [N132], [], [], []⟩, h1_.trans (by kernel_rfl), h2_.trans (by kernel_rfl), h3_⟩))] fun N132 nN132 => zWL [] ?_
      refine w_ (w_block (wk [(0, .slice a_l0 l0.length c_l0), (1, vI wide1), (2, vI y2), (3, vI w3), (4, .func (.func 68) #[] #[vP B0 0]), (11, .slice (ad (some a117)) y122.length (na117 / 1)), (12, vI x121), (13, .slice (ad N132) t130.length (nN132 / 4)), (14, vI 0), (20, vI x121)] (w_vs (H' := ([⟨N132, encL E_i644 t130, nN132⟩, ⟨some a117, encL E_u64 y122, na117⟩, ⟨B0, [vI m0_0], 1⟩] : List Own)) (S' := S) (VS.lb [0, 0, 0] (by kernel_rfl)) ?_)))
      refine w_loop (fun n_ σ_ H_ S_ => ∃ (x133 : Int) (y134 : List (Int)), [(0, .slice a_l0 l0.length c_l0), (1, vI wide1), (2, vI y2), (3, vI w3), (4, .func (.func 68) #[] #[vP B0 0]), (11, .slice (ad (some a117)) y134.length (na117 / 1)), (12, vI x121), (13, .slice (ad N132) t130.length (nN132 / 4)), (14, vI x133), (20, vI x121)] = σ_ ∧ ([⟨N132, encL E_i644 t130, nN132⟩, ⟨some a117, encL E_u64 y134, na117⟩, ⟨B0, [vI m0_0], 1⟩] : List Own) = H_ ∧ S = S_ ∧ sweep_masks_v2.l1 n_ y2 w3 m0_0 x121 t130 x133 y134 = some y162) _ ⟨0, y122, rfl, rfl, rfl, e125⟩ ?_
      rintro n161 σ_ H_ S_ ⟨x133, y134, rfl, rfl, rfl, e125⟩
      cases n161 with
      | zero => rw [sweep_masks_v2.l1.eq_1] at e125; cases e125
      | succ k_ =>
       rw [sweep_masks_v2.l1.eq_2] at e125
       by_cases c135 : x133 < w3
       ·rw [if_pos c135] at e125
        have c135b : (decide (x133 < w3)) = true := decide_eq_true c135
        by_cases c136 : (t130.length : Int) > 0
        ·rw [if_pos c136] at e125
         have c136b : (decide ((t130.length : Int) > 0)) = true := decide_eq_true c136
         refine wx mixed 1 [] 0 [(2, spQ (.bin .lss 31 32) [vI x133, vI w3] (congrArg (fun t => some (Value.bool t)) c135b)), (6, spQ (.bin .gtr 36 (.const (vI 0))) [vI (t130.length : Int), vI 0] (congrArg (fun t => some (Value.bool t)) c136b))] (zWL [] ?_)
         refine w_ ?_
         obtain ⟨y159, e138, e125⟩ := bind_of e125
         refine w_cut [0, 1, 2, 3, 4, 11, 12, 13, 14, 20] (fun σ_ H_ S_ => [(0, .slice a_l0 l0.length c_l0), (1, vI wide1), (2, vI y2), (3, vI w3), (4, .func (.func 68) #[] #[vP B0 0]), (11, .slice (ad (some a117)) y159.length (na117 / 1)), (12, vI x121), (13, .slice (ad N132) t130.length (nN132 / 4)), (14, vI x133), (20, vI x121)] = σ_ ∧ ([⟨B0, [vI m0_0], 1⟩, ⟨some a117, encL E_u64 y159, na117⟩, ⟨N132, encL E_i644 t130, nN132⟩] : List Own) = H_ ∧ S = S_) ?_ ?_
         ·refine w_ (w_block ?_)
          refine wxM mixed 1 [] 0 [] (zWL [] ?_)
          refine w_ (w_block (wk [(0, .slice a_l0 l0.length c_l0), (1, vI wide1), (2, vI y2), (3, vI w3), (4, .func (.func 68) #[] #[vP B0 0]), (11, .slice (ad (some a117)) y134.length (na117 / 1)), (12, vI x121), (13, .slice (ad N132) t130.length (nN132 / 4)), (14, vI x133), (15, vI (wr64 (x121 * 8))), (20, vI x121)] (w_vs (H' := ([⟨N132, encL E_i644 t130, nN132⟩, ⟨some a117, encL E_u64 y134, na117⟩, ⟨B0, [vI m0_0], 1⟩] : List Own)) (S' := S) (VS.lb [0, 0, 0] (by kernel_rfl)) ?_)))
          refine w_loop (fun n_ σ_ H_ S_ => ∃ (x140 : Int) (y141 : List (Int)), [(0, .slice a_l0 l0.length c_l0), (1, vI wide1), (2, vI y2), (3, vI w3), (4, .func (.func 68) #[] #[vP B0 0]), (11, .slice (ad (some a117)) y141.length (na117 / 1)), (12, vI x121), (13, .slice (ad N132) t130.length (nN132 / 4)), (14, vI x133), (15, vI x140), (20, vI x121)] = σ_ ∧ ([⟨N132, encL E_i644 t130, nN132⟩, ⟨some a117, encL E_u64 y141, na117⟩, ⟨B0, [vI m0_0], 1⟩] : List Own) = H_ ∧ S = S_ ∧ sweep_masks_v2.l2 n_ y2 m0_0 x121 t130 x133 x140 y141 = some y159) _ ⟨wr64 (x121 * 8), y134, rfl, rfl, rfl, e138⟩ ?_
          rintro n158 σ_ H_ S_ ⟨x140, y141, rfl, rfl, rfl, e138⟩
          cases n158 with
          | zero => rw [sweep_masks_v2.l2.eq_1] at e138; cases e138
          | succ k_ =>
           rw [sweep_masks_v2.l2.eq_2] at e138
           by_cases c142 : x140 < (wr64 ((wr64 (x121 + 1)) * 8))
           ·rw [if_pos c142] at e138
            have c142b : (decide (x140 < (wr64 ((wr64 (x121 + 1)) * 8)))) = true := decide_eq_true c142
            refine wx mixed 1 [] 0 [(4, spQ (.bin .lss 43 46) [vI x140, vI (wr64 ((wr64 (x121 + 1)) * 8))] (congrArg (fun t => some (Value.bool t)) c142b))] (zWL [] ?_)
            refine w_ (w_seq (w_block ?_))
            obtain ⟨⟨t143, t144⟩, h145, e138⟩ := bind_of e138
            try dsimp only at e138
            obtain ⟨t146, h147, e138⟩ := bind_of e138
            cases t146 with
            | true =>
             rw [if_pos rfl] at e138
             refine wxM mixed 1 [0, 2] 0 [(5, spP 76 [52, 53, 54] (sweep_Sample.ok hE_ h145)), (6, spRc 68 #[vP B0 0] 50 [51, 55] [.slice (ad N132) t130.length (nN132 / 4), .agg #[vI t143, vI t144]] [[⟨N132, encL E_i644 t130, nN132⟩], [⟨B0, [vI m0_0], 1⟩]] (by kernel_rfl) (cal_lendFr ([⟨N132, encL E_i644 t130, nN132⟩] : List Own) fun S1_ le1_ hp1_ hs1_ hn1_ ex1_ => sweep_Line_1_v1.ok (EO.mono hE_ le1_ hp1_) (SlE.ofAd (E := E_i644) (L := t130) (hn1_ _ (mem_at 0 rfl)) (by decide)) h147) rfl)] (zWL [] ?_)
             refine w_ (w_ct (w_ (w_as [(0, .slice a_l0 l0.length c_l0), (1, vI wide1), (2, vI y2), (3, vI w3), (4, .func (.func 68) #[] #[vP B0 0]), (11, .slice (ad (some a117)) y141.length (na117 / 1)), (12, vI x121), (13, .slice (ad N132) t130.length (nN132 / 4)), (14, vI x133), (15, vI x140), (20, vI x121), (56, vB true)] ([⟨N132, encL E_i644 t130, nN132⟩, ⟨some a117, encL E_u64 y141, na117⟩, ⟨B0, [vI m0_0], 1⟩] : List Own) ?_)))
             obtain ⟨x148, hx149, e138⟩ := bind_of e138
             have c150 : ¬ x140 < 0 := by
              intro h_; rw [if_pos h_] at e138; cases e138
             rw [if_neg c150] at e138
             obtain ⟨x151, hx152, e138⟩ := bind_of e138
             refine w_drwE mixed 8 [.v (.slice (ad (some a117)) y141.length (na117 / 1)), .v (vI x133), .v (vP (bk (some a117)) ((x133).toNat * 1 + 0)), .v (.int .u64 x148), .v (vI x140), .v (.int .u64 (wru64 (1 * 2 ^ (min (Int.toNat x140) 64)))), .v (.int .u64 (bits .or .u64 x148 (wru64 (1 * 2 ^ (min (Int.toNat x140) 64))))), .v (vP (bk (some a117)) ((x133).toNat * 1 + 0))] (by kernel_rfl) ?_ ?_
             ·refine ds 2 (.cons (.quietH rfl (by intro h_; cases h_) (ixl (E := E_u64) (j := 1) rfl rfl rfl (by decide) rfl hx149)) ?_)
              refine .cons (.ld1 rfl rfl rfl (.lst 1 rfl (encL_at (lgt_in hx149).1 rfl))) ?_
              refine ds 1 (.cons (.quiet rfl (qv_shl rfl rfl c150)) ?_)
              refine ds 1 (.cons (.quietH rfl (by intro h_; cases h_) (ixl (E := E_u64) (j := 1) rfl rfl rfl (by decide) rfl hx152)) ?_)
              exact .nil
             refine fkq 8 [(0, .slice a_l0 l0.length c_l0), (1, vI wide1), (2, vI y2), (3, vI w3), (4, .func (.func 68) #[] #[vP B0 0]), (11, .slice (ad (some a117)) y141.length (na117 / 1)), (12, vI x121), (13, .slice (ad N132) t130.length (nN132 / 4)), (14, vI x133), (15, vI x140), (20, vI x121), (63, .int .u64 (bits .or .u64 x148 (wru64 (1 * 2 ^ (min (Int.toNat x140) 64))))), (64, vP (bk (some a117)) ((x133).toNat * 1 + 0))] ?_
             refine fk_nil fun all => ?_
             obtain ⟨y153, hl154, e138⟩ := bind_of e138
             refine t_stl 1 (E := E_u64) (L := y141) (L' := y153) (i := x133) (off := 0) (y0 := x151) (y1 := (bits .or .u64 x148 (wru64 (1 * 2 ^ (min (Int.toNat x140) 64))))) (H' := ([⟨N132, encL E_i644 t130, nN132⟩, ⟨some a117, encL E_u64 y153, na117⟩, ⟨B0, [vI m0_0], 1⟩] : List Own)) rfl rfl rfl rfl rfl rfl rfl (by decide) rfl hx152 (by kernel_rfl) hl154 rfl ?_
             refine tk [(0, .slice a_l0 l0.length c_l0), (1, vI wide1), (2, vI y2), (3, vI w3), (4, .func (.func 68) #[] #[vP B0 0]), (11, .slice (ad (some a117)) y141.length (na117 / 1)), (12, vI x121), (13, .slice (ad N132) t130.length (nN132 / 4)), (14, vI x133), (15, vI x140), (20, vI x121), (63, .int .u64 (bits .or .u64 x148 (wru64 (1 * 2 ^ (min (Int.toNat x140) 64))))), (64, vP (bk (some a117)) ((x133).toNat * 1 + 0))] (t_eq (σ' := [(0, .slice a_l0 l0.length c_l0), (1, vI wide1), (2, vI y2), (3, vI w3), (4, .func (.func 68) #[] #[vP B0 0]), (11, .slice (ad (some a117)) y153.length (na117 / 1)), (12, vI x121), (13, .slice (ad N132) t130.length (nN132 / 4)), (14, vI x133), (15, vI x140), (20, vI x121), (63, .int .u64 (bits .or .u64 x148 (wru64 (1 * 2 ^ (min (Int.toNat x140) 64))))), (64, vP (bk (some a117)) ((x133).toNat * 1 + 0))]) (H' := ([⟨N132, encL E_i644 t130, nN132⟩, ⟨some a117, encL E_u64 y153, na117⟩, ⟨B0, [vI m0_0], 1⟩] : List Own)) (by first | rfl | rw [(lput_is hl154).2]) (by first | rfl | rw [(lput_is hl154).2]) ?_)
             refine tk [(0, .slice a_l0 l0.length c_l0), (1, vI wide1), (2, vI y2), (3, vI w3), (4, .func (.func 68) #[] #[vP B0 0]), (11, .slice (ad (some a117)) y153.length (na117 / 1)), (12, vI x121), (13, .slice (ad N132) t130.length (nN132 / 4)), (14, vI x133), (15, vI x140), (20, vI x121)] (t_end (w_ ?_))
             refine wq mixed [] 0 .nrm [] (zQL [] ?_)
             exact ⟨k_, Nat.lt_succ_self _, _, _, S, keep_sub [0, 1, 2, 3, 4, 11, 12, 13, 14, 15, 20] (by kernel_rfl), VS.lb [0, 0, 0] (by kernel_rfl), wr64 (x140 + 1), y153, rfl, rfl, rfl, e138⟩
            | false =>
             rw [if_neg (by decide)] at e138
             refine wqM mixed [0, 2] 0 .nrm [(5, spP 76 [52, 53, 54] (sweep_Sample.ok hE_ h145)), (6, spRc 68 #[vP B0 0] 50 [51, 55] [.slice (ad N132) t130.length (nN132 / 4), .agg #[vI t143, vI t144]] [[⟨N132, encL E_i644 t130, nN132⟩], [⟨B0, [vI m0_0], 1⟩]] (by kernel_rfl) (cal_lendFr ([⟨N132, encL E_i644 t130, nN132⟩] : List Own) fun S1_ le1_ hp1_ hs1_ hn1_ ex1_ => sweep_Line_1_v1.ok (EO.mono hE_ le1_ hp1_) (SlE.ofAd (E := E_i644) (L := t130) (hn1_ _ (mem_at 0 rfl)) (by decide)) h147) rfl)] (zQL [] ?_)
             refine w_ ?_
             refine wqM mixed [] 0 .nrm [] (zQL [] ?_)
             exact ⟨k_, Nat.lt_succ_self _, _, _, S, keep_sub [0, 1, 2, 3, 4, 11, 12, 13, 14, 15, 20] (by kernel_rfl), VS.lb [0, 0, 0] (by kernel_rfl), wr64 (x140 + 1), y141, rfl, rfl, rfl, e138⟩
           ·rw [if_neg c142] at e138
            have c142b : (decide (x140 < (wr64 ((wr64 (x121 + 1)) * 8)))) = false := decide_eq_false c142
            refine wq mixed [] 0 (.ex 4) [(4, spQ (.bin .lss 43 46) [vI x140, vI (wr64 ((wr64 (x121 + 1)) * 8))] (congrArg (fun t => some (Value.bool t)) c142b))] (zQL [] ?_)
            obtain rfl := Option.some.inj e138
            exact ⟨_, S, VS.lb [2, 1, 0] (by kernel_rfl), by kernel_rfl, rfl, rfl⟩
         ·rintro σ_ H_ S_ ⟨rfl, rfl, rfl⟩
          refine wq mixed [] 0 .nrm [] (zQL [] ?_)
          exact ⟨k_, Nat.lt_succ_self _, _, _, S, keep_sub [0, 1, 2, 3, 4, 11, 12, 13, 14, 20] (by kernel_rfl), VS.lb [2, 1, 0] (by kernel_rfl), wr64 (x133 + 1), y159, rfl, rfl, rfl, e125⟩
        ·rw [if_neg c136] at e125
         have c136b : (decide ((t130.length : Int) > 0)) = false := decide_eq_false c136
         refine wq mixed [] 0 (.ex 2) [(2, spQ (.bin .lss 31 32) [vI x133, vI w3] (congrArg (fun t => some (Value.bool t)) c135b)), (6, spQ (.bin .gtr 36 (.const (vI 0))) [vI (t130.length : Int), vI 0] (congrArg (fun t => some (Value.bool t)) c136b))] (zQL [] ?_)
         obtain rfl := Option.some.inj e125
         exact ⟨_, S, VS.lb [2, 1] (by kernel_rfl), by kernel_rfl, rfl, rfl⟩
       ·rw [if_neg c135] at e125
        have c135b : (decide (x133 < w3)) = false := decide_eq_false c135
        refine wq mixed [] 0 (.ex 2) [(2, spQ (.bin .lss 31 32) [vI x133, vI w3] (congrArg (fun t => some (Value.bool t)) c135b))] (zQL [] ?_)
        obtain rfl := Option.some.inj e125
        exact ⟨_, S, VS.lb [2, 1] (by kernel_rfl), by kernel_rfl, rfl, rfl⟩
     ·rintro σ_ H_ S_ ⟨rfl, rfl, rfl⟩
      refine wq mixed [] 0 .nrm [] (zQL [] ?_)
      exact ⟨k_, Nat.lt_succ_self _, _, _, S, keep_sub [0, 1, 2, 3, 4, 11, 20] (by kernel_rfl), VS.lb [1, 0] (by kernel_rfl), wr64 (x121 + 1), y162, rfl, rfl, rfl, e119⟩
    ·rw [if_neg c123] at e119
     have c123b : (decide (x121 < 8)) = false := decide_eq_false c123
     refine wq mixed [] 0 (.ex 0) [(0, spQ (.bin .lss 20 (.const (vI 8))) [vI x121, vI 8] (congrArg (fun t => some (Value.bool t)) c123b))] (zQL [] ?_)
     obtain rfl := Option.some.inj e119
     exact ⟨_, S, VS.lb [1, 0] (by kernel_rfl), by kernel_rfl, rfl, rfl⟩
  ·rintro σ_ H_ S_ ⟨rfl, rfl, rfl⟩
   refine wx mixed 1 [] 0 [] (zWL [] ?_)
   refine w_ (w_as [(10, .slice (ad (some a117)) y165.length (na117 / 1))] ([⟨B0, [vI m0_0], 1⟩, ⟨some a117, encL E_u64 y165, na117⟩] : List Own) ?_)
   refine w_ret ?_
   obtain rfl := Option.some.inj e
   exact ⟨[_], _, S, ⟨(show gt _ _ = some _ from (by kernel_rfl)), trivial⟩, VS.sel [1, 0] (by kernel_rfl), some a117, na117, rfl, rfl, rfl⟩

/-- sweep.Line -/
def c58 : C := (.seq (.reg [oq 5 (.box 1), oq 8 (.mv (.const (.slice none 0 0)))]) (.seq (.reg [oq 9 (.mv 0), oq 10 (.ld none 5), oq 11 (.mv 2), oq 12 (.mv 3), oq 13 (.mkf 68 [5]), oq 14 (.call 65 [9, 10, 11, 12, 13]), oq 8 (.mv 14)]) .ret))
def sweep_Line_v1.f (k : Nat) (l0 : List (Int × Int × Int × Int)) (wide1 : Int) (y2 : Int) (w3 : Int) : Option (List (Int)) := (sweep_masks_v2.f k l0 wide1 y2 w3 wide1).bind fun t62 => (some t62)
theorem sweep_Line_v1.ok {S : Seal} {k : Nat} {l0 : List (Int × Int × Int × Int)} {wide1 y2 w3 : Int} {r0_ : List (Int)}{A_ : Int → Addr} (hE_ : EO gsE S A_ 157) {a_l0 : Option Addr} {c_l0 : Nat} (h_l0 : SlE S E_i644 l0 a_l0) (e : sweep_Line_v1.f k l0 wide1 y2 w3 = some r0_) :
    Cal Tryd.prog 58 [.slice a_l0 l0.length c_l0, vI wide1, vI y2, vI w3] [] S fun v H' S' => ∃ (N0_ : Option Nat) (nN0_ : Nat) , v = .slice (ad N0_) r0_.length (nN0_ / 1) ∧ H' = ([⟨N0_, encL E_u64 r0_, nN0_⟩] : List Own) ∧ S' = S := by
 unfold sweep_Line_v1.f at e
 refine cal_of (c := c58) (N := 15) Tryd.func58 rfl rfl (by kernel_rfl) (rs := [.t 8]) (by kernel_rfl) (Nat.le_of_ble_eq_true rfl) ?_
 unfold c58
 refine wx mixed 1 [] 1 [] fun b61 => zWL [] ?_
 refine w_ ?_
 obtain ⟨t62, h63, e⟩ := bind_of e
 refine wxM mixed 1 [0, 0] 0 [(5, spC 65 [9, 10, 11, 12, 13] [[⟨b61, [vI wide1], 1⟩]] [] [1, 0] 2 (fun l_ => .slice (ad (l_.O 0)) t62.length ((l_.N 0) / 1)) (fun l_ => [[⟨(l_.O 0), encL E_u64 t62, (l_.N 0)⟩], [⟨b61, [vI wide1], 1⟩]]) (vs := [.slice a_l0 l0.length c_l0, vI wide1, vI y2, vI w3, .func (.func 68) #[] #[vP b61 0]]) rfl (((sweep_masks_v2.ok hE_ h_l0 h63)).mono fun _ _ _ ⟨N64, nN64, h1_, h2_, h3_⟩ => ⟨un ⟨[nN64], [N64], [], [], []⟩, h1_.trans (by kernel_rfl), h2_.trans (by kernel_rfl), h3_⟩))] fun N64 nN64 => zWL [2] ?_
 refine w_ (w_ret ?_)
 obtain rfl := Option.some.inj e
 exact ⟨[_], _, S, ⟨(show gt _ _ = some _ from (by kernel_rfl)), trivial⟩, VS.lb [0] (by kernel_rfl), N64, nN64, rfl, rfl, rfl⟩

/-- (render.layer).masks -/
def c47 : C := (.seq (.reg [oq 3 (.box 0), oq 6 (.mv (.const (.slice none 0 0)))]) (.seq (.seq (.reg [oq 7 (.pad 0 3), oq 8 (.pad 0 7), oq 9 (.ld none 8), oq 10 (.bin .eql 9 (.const (vI 1)))]) (.cond 10 (.seq (.reg [oq 11 (.pad 11 3), oq 12 (.ld none 11), oq 13 (.pad 0 3), oq 14 (.pad 1 13), oq 15 (.ld none 14), oq 16 (.mv 1), oq 17 (.mv 2), oq 18 (.call 57 [12, 15, 16, 17]), oq 6 (.mv 18)]) .ret) .skip)) (.seq (.reg [oq 19 (.pad 11 3), oq 20 (.ld none 19), oq 21 (.pad 0 3), oq 22 (.pad 2 21), oq 23 (.ld none 22), oq 24 (.mv 1), oq 25 (.mv 2), oq 26 (.call 58 [20, 23, 24, 25]), oq 6 (.mv 26)]) .ret)))
def render_layer_masks_v1.f (k : Nat) (x0_0 : Int) (x0_1 : Int) (x0_2 : Int) (x0_3 : Int) (x0_4 : Int) (x0_5 : Int) (x0_6 : Int) (x0_7 : Int) (x0_8 : Int) (x0_9 : Int) (x0_11 : List (Int × Int × Int × Int)) (y1 : Int) (w2 : Int) : Option (List (Int)) := if x0_0 = 1 then ((sweep_Fill_v1.f k x0_11 x0_1 y1 w2).bind fun t58 => (some t58)) else ((sweep_Line_v1.f k x0_11 x0_2 y1 w2).bind fun t61 => (some t61))
theorem render_layer_masks_v1.ok {S : Seal} {k : Nat} {x0_0 x0_1 x0_2 x0_3 x0_4 x0_5 x0_6 x0_7 x0_8 x0_9 : Int} {x0_11 : List (Int × Int × Int × Int)} {y1 w2 : Int} {r0_ : List (Int)}{A_ : Int → Addr} (hE_ : EO gsE S A_ 157) {a_x0_10 : Option Addr} {n_x0_10 c_x0_10 : Nat} {a_x0_11 : Option Addr} {c_x0_11 : Nat} (h_x0_11 : SlE S E_i644 x0_11 a_x0_11) (e : render_layer_masks_v1.f k x0_0 x0_1 x0_2 x0_3 x0_4 x0_5 x0_6 x0_7 x0_8 x0_9 x0_11 y1 w2 = some r0_) :
    Cal Tryd.prog 47 [.agg #[vI x0_0, vI x0_1, vI x0_2, vI x0_3, vI x0_4, vI x0_5, vI x0_6, vI x0_7, vI x0_8, vI x0_9, .slice a_x0_10 n_x0_10 c_x0_10, .slice a_x0_11 x0_11.length c_x0_11], vI y1, vI w2] [] S fun v H' S' => ∃ (N0_ : Option Nat) (nN0_ : Nat) , v = .slice (ad N0_) r0_.length (nN0_ / 1) ∧ H' = ([⟨N0_, encL E_u64 r0_, nN0_⟩] : List Own) ∧ S' = S := by
 unfold render_layer_masks_v1.f at e
 refine cal_of (c := c47) (N := 27) Tryd.func47 rfl rfl (by kernel_rfl) (rs := [.t 6]) (by kernel_rfl) (Nat.le_of_ble_eq_true rfl) ?_
 unfold c47
 refine wx mixed 1 [] 1 [] fun b56 => zWL [] ?_
 refine w_ (w_seq ?_)
 by_cases c57 : x0_0 = 1
 ·rw [if_pos c57] at e
  have c57b : (x0_0 == 1) = true := beq_iff_eq.mpr c57
  refine wxM mixed 1 [0] 0 [(3, spQ (.bin .eql 9 (.const (vI 1))) [vI x0_0, vI 1] (congrArg (fun t => some (Value.bool t)) c57b))] (zWL [] ?_)
  refine w_ (w_ct (w_ ?_))
  obtain ⟨t58, h59, e⟩ := bind_of e
  refine wxM mixed 1 [0, 0] 0 [(7, spC 57 [12, 15, 16, 17] [] [] [1, 0] 1 (fun l_ => .slice (ad (l_.O 0)) t58.length ((l_.N 0) / 1)) (fun l_ => [[⟨(l_.O 0), encL E_u64 t58, (l_.N 0)⟩]]) (vs := [.slice a_x0_11 x0_11.length c_x0_11, vI x0_1, vI y1, vI w2]) rfl (((sweep_Fill_v1.ok hE_ h_x0_11 h59)).mono fun _ _ _ ⟨N60, nN60, h1_, h2_, h3_⟩ => ⟨un ⟨[nN60], [N60], [], [], []⟩, h1_.trans (by kernel_rfl), h2_.trans (by kernel_rfl), h3_⟩))] fun N60 nN60 => zWL [0] ?_
  refine w_ (w_ret ?_)
  obtain rfl := Option.some.inj e
  exact ⟨[_], _, S, ⟨(show gt _ _ = some _ from (by kernel_rfl)), trivial⟩, VS.lb [0] (by kernel_rfl), N60, nN60, rfl, rfl, rfl⟩
 ·rw [if_neg c57] at e
  have c57b : (x0_0 == 1) = false := beq_eq_false_iff_ne.mpr c57
  refine wqM mixed [0] 0 .nrm [(3, spQ (.bin .eql 9 (.const (vI 1))) [vI x0_0, vI 1] (congrArg (fun t => some (Value.bool t)) c57b))] (zQL [] ?_)
  refine w_ ?_
  obtain ⟨t61, h62, e⟩ := bind_of e
  refine wxM mixed 1 [0, 0] 0 [(7, spC 58 [20, 23, 24, 25] [] [] [1, 0] 1 (fun l_ => .slice (ad (l_.O 0)) t61.length ((l_.N 0) / 1)) (fun l_ => [[⟨(l_.O 0), encL E_u64 t61, (l_.N 0)⟩]]) (vs := [.slice a_x0_11 x0_11.length c_x0_11, vI x0_2, vI y1, vI w2]) rfl (((sweep_Line_v1.ok hE_ h_x0_11 h62)).mono fun _ _ _ ⟨N63, nN63, h1_, h2_, h3_⟩ => ⟨un ⟨[nN63], [N63], [], [], []⟩, h1_.trans (by kernel_rfl), h2_.trans (by kernel_rfl), h3_⟩))] fun N63 nN63 => zWL [0] ?_
  refine w_ (w_ret ?_)
  obtain rfl := Option.some.inj e
  exact ⟨[_], _, S, ⟨(show gt _ _ = some _ from (by kernel_rfl)), trivial⟩, VS.lb [0] (by kernel_rfl), N63, nN63, rfl, rfl, rfl⟩

/-- math/bits.OnesCount64 -/
def c59 : C := (.seq (.reg [oq 2 (.mv (.const (vI 0)))]) (.seq (.reg [oq 3 (.mv 0), oq 4 (.bin .shr 3 (.const (.int .u64 1))), oq 5 (.bin .and 4 (.const (.int .u64 6148914691236517205))), oq 6 (.mv 0), oq 7 (.bin .and 6 (.const (.int .u64 6148914691236517205))), oq 8 (.bin .add 5 7), oq 0 (.mv 8)]) (.seq (.reg [oq 9 (.mv 0), oq 10 (.bin .shr 9 (.const (.int .u64 2))), oq 11 (.bin .and 10 (.const (.int .u64 3689348814741910323))), oq 12 (.mv 0), oq 13 (.bin .and 12 (.const (.int .u64 3689348814741910323))), oq 14 (.bin .add 11 13), oq 0 (.mv 14)]) (.seq (.reg [oq 15 (.mv 0), oq 16 (.bin .shr 15 (.const (.int .u64 4))), oq 17 (.mv 0), oq 18 (.bin .add 16 17), oq 19 (.bin .and 18 (.const (.int .u64 1085102592571150095))), oq 0 (.mv 19)]) (.seq (.reg [oq 20 (.mv 0), oq 21 (.mv 0), oq 22 (.bin .shr 21 (.const (.int .u64 8))), oq 23 (.bin .add 20 22), oq 0 (.mv 23)]) (.seq (.reg [oq 24 (.mv 0), oq 25 (.mv 0), oq 26 (.bin .shr 25 (.const (.int .u64 16))), oq 27 (.bin .add 24 26), oq 0 (.mv 27)]) (.seq (.reg [oq 28 (.mv 0), oq 29 (.mv 0), oq 30 (.bin .shr 29 (.const (.int .u64 32))), oq 31 (.bin .add 28 30), oq 0 (.mv 31)]) (.seq (.reg [oq 32 (.mv 0), oq 33 (.cnv .i64 32), oq 34 (.bin .and 33 (.const (vI 127))), oq 2 (.mv 34)]) .ret))))))))
def bits_OnesCount64.f (x0 : Int) : Option (Int) := (some (wru64 ((bits .and .u64 (Int.fdiv x0 2) 6148914691236517205) + (bits .and .u64 x0 6148914691236517205)))).bind fun v63 => ((some (wru64 ((bits .and .u64 (Int.fdiv v63 4) 3689348814741910323) + (bits .and .u64 v63 3689348814741910323)))).bind fun v65 => ((some (bits .and .u64 (wru64 ((Int.fdiv v65 16) + v65)) 1085102592571150095)).bind fun v67 => ((some (wru64 ((wru64 (v67 + (Int.fdiv v67 256))) + (Int.fdiv (wru64 (v67 + (Int.fdiv v67 256))) 65536)))).bind fun v69 => ((some (bits .and .i64 (wr64 (wru64 (v69 + (Int.fdiv v69 4294967296)))) 127)).bind fun v71 => (some v71)))))
theorem bits_OnesCount64.ok {S : Seal} {x0 r0_ : Int}{A_ : Int → Addr} (hE_ : EO gsE S A_ 157) (e : bits_OnesCount64.f x0 = some r0_) :
    Cal Tryd.prog 59 [.int .u64 x0] [] S fun v H' S' => v = vI r0_ ∧ H' = [] ∧ S' = S := by
 unfold bits_OnesCount64.f at e
 refine cal_of (c := c59) (N := 35) Tryd.func59 rfl rfl (by kernel_rfl) (rs := [.t 2]) (by kernel_rfl) (Nat.le_of_ble_eq_true rfl) ?_
 unfold c59
 obtain ⟨v63, hv64, e⟩ := bind_of e
 have hv64b := Option.some.inj hv64
 obtain ⟨v65, hv66, e⟩ := bind_of e
 have hv66b := Option.some.inj hv66
 obtain ⟨v67, hv68, e⟩ := bind_of e
 have hv68b := Option.some.inj hv68
 obtain ⟨v69, hv70, e⟩ := bind_of e
 have hv70b := Option.some.inj hv70
 obtain ⟨v71, hv72, e⟩ := bind_of e
 have hv72b := Option.some.inj hv72
 refine wx mixed 8 [] 0 [(6, spQ (.bin .add 5 7) [.int .u64 (bits .and .u64 (Int.fdiv x0 2) 6148914691236517205), .int .u64 (bits .and .u64 x0 6148914691236517205)] (congrArg (fun t => some (Value.int .u64 t)) hv64b)), (13, spQ (.bin .add 11 13) [.int .u64 (bits .and .u64 (Int.fdiv v63 4) 3689348814741910323), .int .u64 (bits .and .u64 v63 3689348814741910323)] (congrArg (fun t => some (Value.int .u64 t)) hv66b)), (19, spQ (.bin .and 18 (.const (.int .u64 1085102592571150095))) [.int .u64 (wru64 ((Int.fdiv v65 16) + v65)), .int .u64 1085102592571150095] (congrArg (fun t => some (Value.int .u64 t)) hv68b)), (29, spQ (.bin .add 24 26) [.int .u64 (wru64 (v67 + (Int.fdiv v67 256))), .int .u64 (Int.fdiv (wru64 (v67 + (Int.fdiv v67 256))) 65536)] (congrArg (fun t => some (Value.int .u64 t)) hv70b)), (38, spQ (.bin .and 33 (.const (vI 127))) [vI (wr64 (wru64 (v69 + (Int.fdiv v69 4294967296)))), vI 127] (congrArg (fun t => some (Value.int .i64 t)) hv72b))] (zWL [] ?_)
 refine w_ (w_ret ?_)
 obtain rfl := Option.some.inj e
 exact ⟨[_], [], S, ⟨(show gt _ _ = some _ from (by kernel_rfl)), trivial⟩, VS.none, rfl, rfl, rfl⟩

/-- sweep.Count -/
def c48 : C := (.seq (.reg [oq 2 (.mv (.const (vI 0)))]) (.seq (.reg [oq 3 (.mv 0), oq 4 (.call 59 [3]), oq 2 (.mv 4)]) .ret))
def sweep_Count.f (mask0 : Int) : Option (Int) := (bits_OnesCount64.f mask0).bind fun t63 => (some t63)
theorem sweep_Count.ok {S : Seal} {mask0 r0_ : Int}{A_ : Int → Addr} (hE_ : EO gsE S A_ 157) (e : sweep_Count.f mask0 = some r0_) :
    Cal Tryd.prog 48 [.int .u64 mask0] [] S fun v H' S' => v = vI r0_ ∧ H' = [] ∧ S' = S := by
 unfold sweep_Count.f at e
 refine cal_of (c := c48) (N := 5) Tryd.func48 rfl rfl (by kernel_rfl) (rs := [.t 2]) (by kernel_rfl) (Nat.le_of_ble_eq_true rfl) ?_
 unfold c48
 obtain ⟨t63, h64, e⟩ := bind_of e
 refine wx mixed 2 [] 0 [(2, spP 59 [3] (bits_OnesCount64.ok hE_ h64))] (zWL [] ?_)
 refine w_ (w_ret ?_)
 obtain rfl := Option.some.inj e
 exact ⟨[_], [], S, ⟨(show gt _ _ = some _ from (by kernel_rfl)), trivial⟩, VS.none, rfl, rfl, rfl⟩

/-- paint.At$1 -/
def c60 : C := (.seq (.reg [oq 3 (.new [(.int .u8 0), (.int .u8 0), (.int .u8 0), (.int .u8 0)])]) (.seq (.seq (.reg [oq 4 (.mv 0), oq 5 (.bin .lss 4 (.const (vI 0))), oq 6 (.mv 5), ⟨(some 7), .mv 0, (some (6, false))⟩, ⟨(some 8), .ld none 1, (some (6, false))⟩, ⟨(some 9), .lns 8, (some (6, false))⟩, ⟨(some 10), .bin .geq 7 9, (some (6, false))⟩, oq 11 (.pk 6 (.const (vB true)) 10)]) (.cond 11 (.seq (.reg [oq 12 (.bld [(.int .u8 0), (.int .u8 0), (.int .u8 0), (.int .u8 0)] []), ⟨none, .st 4 3 12, none⟩]) .ret) .skip)) (.seq (.reg [oq 13 (.ld none 1), oq 14 (.mv 0), oq 15 (.ixs 4 13 14), oq 16 (.ld (some 4) 15), ⟨none, .st 4 3 16, none⟩]) .ret)))
def paint_At_1_v1.f (k0 : Int) (m0_0 : List (Int × Int × Int × Int)) : Option (Int × Int × Int × Int) := if k0 < 0 then (some (0, 0, 0, 0)) else (if k0 ≥ (m0_0.length : Int) then (some (0, 0, 0, 0)) else ((lgt m0_0 k0).bind fun (x84, x85, x86, x87) => (some (x84, x85, x86, x87))))
theorem paint_At_1_v1.ok {S : Seal} {B0 : Nat} {k0 : Int} {m0_0 : List (Int × Int × Int × Int)} {r0_ r1_ r2_ r3_ : Int}{A_ : Int → Addr} (hE_ : EO gsE S A_ 157) {a_m0_0 : Option Addr} {c_m0_0 : Nat} (h_m0_0 : SlE S E_u84 m0_0 a_m0_0) (e : paint_At_1_v1.f k0 m0_0 = some (r0_, r1_, r2_, r3_)) :
    Cal Tryd.prog 60 [vI k0, vP B0 0] ([⟨B0, [.slice a_m0_0 m0_0.length c_m0_0], 1⟩] : List Own) S fun v H' S' => v = .agg #[.int .u8 r0_, .int .u8 r1_, .int .u8 r2_, .int .u8 r3_] ∧ H' = ([⟨B0, [.slice a_m0_0 m0_0.length c_m0_0], 1⟩] : List Own) ∧ S' = S := by
 unfold paint_At_1_v1.f at e
 refine cal_of (c := c60) (N := 17) Tryd.func60 rfl rfl (by kernel_rfl) (rs := [.cn 4 3]) (by kernel_rfl) (Nat.le_of_ble_eq_true rfl) ?_
 unfold c60
 refine wx mixed 1 [] 1 [] fun b81 => zWL [] ?_
 refine w_ (w_seq ?_)
 by_cases c82 : k0 < 0
 ·rw [if_pos c82] at e
  have c82b : (decide (k0 < 0)) = true := decide_eq_true c82
  refine wxM mixed 1 [0] 0 [(1, spQ (.bin .lss 4 (.const (vI 0))) [vI k0, vI 0] (congrArg (fun t => some (Value.bool t)) c82b))] (zWL [] ?_)
  refine w_ (w_ct (w_ ?_))
  refine wxM mixed 1 [0] 0 [] (zWL [] ?_)
  refine w_ (w_as [(3, vP b81 0)] ([⟨b81, [.int .u8 0, .int .u8 0, .int .u8 0, .int .u8 0], 4⟩, ⟨B0, [.slice a_m0_0 m0_0.length c_m0_0], 1⟩] : List Own) ?_)
  refine w_ret ?_
  simp only [Option.some.injEq, Prod.mk.injEq] at e
  obtain ⟨rfl, rfl, rfl, rfl⟩ := e
  exact ⟨[_], _, S, ⟨⟨_, _, _, rfl, .at 0 rfl rfl, rfl⟩, trivial⟩, VS.sel [1] (by kernel_rfl), rfl, rfl, rfl⟩
 ·rw [if_neg c82] at e
  have c82b : (decide (k0 < 0)) = false := decide_eq_false c82
  by_cases c83 : k0 ≥ (m0_0.length : Int)
  ·rw [if_pos c83] at e
   have c83b : (decide (k0 ≥ (m0_0.length : Int))) = true := decide_eq_true c83
   refine wxM mixed 1 [1] 0 [(1, spQ (.bin .lss 4 (.const (vI 0))) [vI k0, vI 0] (congrArg (fun t => some (Value.bool t)) c82b)), (6, spQ (.bin .geq 7 9) [vI k0, vI (m0_0.length : Int)] (congrArg (fun t => some (Value.bool t)) c83b))] (zWL [] ?_)
   refine w_ (w_ct (w_ ?_))
   refine wxM mixed 1 [0] 0 [] (zWL [] ?_)
   refine w_ (w_as [(3, vP b81 0)] ([⟨b81, [.int .u8 0, .int .u8 0, .int .u8 0, .int .u8 0], 4⟩, ⟨B0, [.slice a_m0_0 m0_0.length c_m0_0], 1⟩] : List Own) ?_)
   refine w_ret ?_
   simp only [Option.some.injEq, Prod.mk.injEq] at e
   obtain ⟨rfl, rfl, rfl, rfl⟩ := e
   exact ⟨[_], _, S, ⟨⟨_, _, _, rfl, .at 0 rfl rfl, rfl⟩, trivial⟩, VS.sel [1] (by kernel_rfl), rfl, rfl, rfl⟩
  ·rw [if_neg c83] at e
   have c83b : (decide (k0 ≥ (m0_0.length : Int))) = false := decide_eq_false c83
   refine wqM mixed [1] 0 .nrm [(1, spQ (.bin .lss 4 (.const (vI 0))) [vI k0, vI 0] (congrArg (fun t => some (Value.bool t)) c82b)), (6, spQ (.bin .geq 7 9) [vI k0, vI (m0_0.length : Int)] (congrArg (fun t => some (Value.bool t)) c83b))] (zQL [] ?_)
   refine w_ ?_
   obtain ⟨⟨x84, x85, x86, x87⟩, hx88, e⟩ := bind_of e
   try dsimp only at e
   obtain ⟨lb89, lo90, ll91, la92, lS93, lv94, lz95, lu96⟩ := sle_get (E := E_u84) h_m0_0 hx88
   refine wxM mixed 1 [1, 0] 0 [(2, spQ (.ixs 4 13 14) [.slice a_m0_0 m0_0.length c_m0_0, vI k0] (ixs_sle rfl rfl la92 lz95 lu96)), (3, spLn 15 lb89 (lo90 + (k0).toNat * 4 + 0) 4 [] (vs := [.int .u8 x84, .int .u8 x85, .int .u8 x86, .int .u8 x87]) (fun _ => .sealed lS93 (subl_sub lv94 (by kernel_rfl))))] (zWL [] ?_)
   refine w_ (w_as [(3, vP b81 0)] ([⟨b81, [.int .u8 x84, .int .u8 x85, .int .u8 x86, .int .u8 x87], 4⟩, ⟨B0, [.slice a_m0_0 m0_0.length c_m0_0], 1⟩] : List Own) ?_)
   refine w_ret ?_
   simp only [Option.some.injEq, Prod.mk.injEq] at e
   obtain ⟨rfl, rfl, rfl, rfl⟩ := e
   exact ⟨[_], _, S, ⟨⟨_, _, _, rfl, .at 0 rfl rfl, rfl⟩, trivial⟩, VS.sel [1] (by kernel_rfl), rfl, rfl, rfl⟩

/-- paint.linear -/
def c71 : C := (.seq (.reg [oq 2 (.box 0), oq 3 (.box 1), oq 4 (.mv (.const (vI 0)))]) (.seq (.drw [oq 11 (.pad 3 2), oq 12 (.ld (some 2) 11), oq 13 (.pad 5 2), oq 14 (.ld (some 2) 13), oq 15 (.ld (some 2) 3), oq 16 (.call 81 [12, 14, 15]), oq 17 (.pad 3 2), oq 18 (.ld (some 2) 17), oq 19 (.pad 5 2), oq 20 (.ld (some 2) 19), oq 21 (.call 73 [18, 20]), oq 5 (.mv 16), oq 6 (.mv 21)] [[], [0], [], [2], [], [1, 3, 4], [], [6], [], [8], [7, 9, 5], [5, 10, 0, 1, 2, 3, 4, 5], [10, 11, 0, 1, 2, 3, 4, 5, 6, 7, 8, 9, 10, 11]]) (.seq (.block 0 (.seq (.reg [oq 23 (.mv 5), oq 24 (.bin .leq 23 (.const (vI 0))), oq 25 (.mv 24), ⟨(some 26), .mv 6, (some (25, false))⟩, ⟨(some 27), .bin .leq 26 (.const (vI 0)), (some (25, false))⟩, oq 28 (.pk 25 (.const (vB true)) 27), oq 22 (.mv 28)]) (.cond 22 (.seq (.reg [oq 4 (.mv (.const (vI 0)))]) .ret) (.seq (.reg [oq 30 (.mv 5), oq 31 (.mv 6), oq 32 (.bin .geq 30 31), oq 29 (.mv 32)]) (.cond 29 (.seq (.reg [oq 4 (.mv (.const (vI 65536)))]) .ret) .skip))))) (.seq (.reg [oq 34 (.mv 5), oq 35 (.cnv .u64 34), oq 36 (.call 82 [35, (.const (.int .u64 65536))]), oq 33 (.mv 36), oq 37 (.xt 0 33), oq 38 (.xt 1 33), oq 7 (.mv 37), oq 8 (.mv 38)]) (.seq (.reg [oq 40 (.mv 7), oq 41 (.mv 8), oq 42 (.mv 6), oq 43 (.cnv .u64 42), oq 44 (.call 83 [40, 41, 43]), oq 39 (.mv 44), oq 45 (.xt 0 39), oq 46 (.xt 1 39), oq 9 (.mv 45), oq 10 (.mv 46)]) (.seq (.reg [oq 47 (.mv 9), oq 48 (.cnv .i64 47), oq 4 (.mv 48)]) .ret))))))
def paint_linear.f (p0_Kind : Int) (p0_A : Int) (p0_B : Int) (p0_P_X : Int) (p0_P_Y : Int) (p0_Q_X : Int) (p0_Q_Y : Int) (at1_X : Int) (at1_Y : Int) : Option (Int) := (plane_Dot.f p0_P_X p0_P_Y p0_Q_X p0_Q_Y at1_X at1_Y).bind fun t112 => ((plane_Len2.f p0_P_X p0_P_Y p0_Q_X p0_Q_Y).bind fun t114 => (if t112 ≤ 0 then (some 0) else (if t114 ≤ 0 then (some 0) else (if t112 ≥ t114 then (some 65536) else ((bits_Mul64.f (wru64 t112) 65536).bind fun (t119, t120) => ((bits_Div64.f t119 t120 (wru64 t114)).bind fun (t122, t123) => (some (wr64 t122))))))))
theorem paint_linear.ok {S : Seal} {p0_Kind p0_A p0_B p0_P_X p0_P_Y p0_Q_X p0_Q_Y at1_X at1_Y r0_ : Int}{A_ : Int → Addr} (hE_ : EO gsE S A_ 157) (e : paint_linear.f p0_Kind p0_A p0_B p0_P_X p0_P_Y p0_Q_X p0_Q_Y at1_X at1_Y = some r0_) :
    Cal Tryd.prog 71 [.agg #[vI p0_Kind, vI p0_A, vI p0_B, vI p0_P_X, vI p0_P_Y, vI p0_Q_X, vI p0_Q_Y], .agg #[vI at1_X, vI at1_Y]] [] S fun v H' S' => v = vI r0_ ∧ H' = [] ∧ S' = S := by
 unfold paint_linear.f at e
 refine cal_of (c := c71) (N := 49) Tryd.func71 rfl rfl (by kernel_rfl) (rs := [.t 4]) (by kernel_rfl) (Nat.le_of_ble_eq_true rfl) ?_
 unfold c71
 obtain ⟨t112, h113, e⟩ := bind_of e
 obtain ⟨t114, h115, e⟩ := bind_of e
 refine wx mixed 2 [0, 0, 1, 0, 0] 2 [(8, spP 81 [12, 14, 15] (plane_Dot.ok hE_ h113)), (13, spP 73 [18, 20] (plane_Len2.ok hE_ h115))] fun b110 b111 => zWL [1, 0] ?_
 refine w_ (w_seq (w_block ?_))
 by_cases c116 : t112 ≤ 0
 ·rw [if_pos c116] at e
  have c116b : (decide (t112 ≤ 0)) = true := decide_eq_true c116
  refine wxM mixed 1 [] 0 [(1, spQ (.bin .leq 23 (.const (vI 0))) [vI t112, vI 0] (congrArg (fun t => some (Value.bool t)) c116b))] (zWL [] ?_)
  refine w_ (w_ct (w_ ?_))
  refine wxM mixed 1 [] 0 [] (zWL [] ?_)
  refine w_ (w_ret ?_)
  obtain rfl := Option.some.inj e
  exact ⟨[_], [], S, ⟨(show gt _ _ = some _ from (by kernel_rfl)), trivial⟩, VS.none, rfl, rfl, rfl⟩
 ·rw [if_neg c116] at e
  have c116b : (decide (t112 ≤ 0)) = false := decide_eq_false c116
  by_cases c117 : t114 ≤ 0
  ·rw [if_pos c117] at e
   have c117b : (decide (t114 ≤ 0)) = true := decide_eq_true c117
   refine wxM mixed 1 [] 0 [(1, spQ (.bin .leq 23 (.const (vI 0))) [vI t112, vI 0] (congrArg (fun t => some (Value.bool t)) c116b)), (4, spQ (.bin .leq 26 (.const (vI 0))) [vI t114, vI 0] (congrArg (fun t => some (Value.bool t)) c117b))] (zWL [] ?_)
   refine w_ (w_ct (w_ ?_))
   refine wxM mixed 1 [] 0 [] (zWL [] ?_)
   refine w_ (w_ret ?_)
   obtain rfl := Option.some.inj e
   exact ⟨[_], [], S, ⟨(show gt _ _ = some _ from (by kernel_rfl)), trivial⟩, VS.none, rfl, rfl, rfl⟩
  ·rw [if_neg c117] at e
   have c117b : (decide (t114 ≤ 0)) = false := decide_eq_false c117
   refine wxM mixed 1 [] 0 [(1, spQ (.bin .leq 23 (.const (vI 0))) [vI t112, vI 0] (congrArg (fun t => some (Value.bool t)) c116b)), (4, spQ (.bin .leq 26 (.const (vI 0))) [vI t114, vI 0] (congrArg (fun t => some (Value.bool t)) c117b))] (zWL [] ?_)
   refine w_ (w_cf (w_ ?_))
   by_cases c118 : t112 ≥ t114
   ·rw [if_pos c118] at e
    have c118b : (decide (t112 ≥ t114)) = true := decide_eq_true c118
    refine wxM mixed 1 [] 0 [(2, spQ (.bin .geq 30 31) [vI t112, vI t114] (congrArg (fun t => some (Value.bool t)) c118b))] (zWL [] ?_)
    refine w_ (w_ct (w_ ?_))
    refine wxM mixed 1 [] 0 [] (zWL [] ?_)
    refine w_ (w_ret ?_)
    obtain rfl := Option.some.inj e
    exact ⟨[_], [], S, ⟨(show gt _ _ = some _ from (by kernel_rfl)), trivial⟩, VS.none, rfl, rfl, rfl⟩
   ·rw [if_neg c118] at e
    have c118b : (decide (t112 ≥ t114)) = false := decide_eq_false c118
    refine wqM mixed [] 0 .nrm [(2, spQ (.bin .geq 30 31) [vI t112, vI t114] (congrArg (fun t => some (Value.bool t)) c118b))] (zQL [] ?_)
    refine w_ ?_
    obtain ⟨⟨t119, t120⟩, h121, e⟩ := bind_of e
    try dsimp only at e
    obtain ⟨⟨t122, t123⟩, h124, e⟩ := bind_of e
    try dsimp only at e
    refine wxM mixed 3 [] 0 [(2, spP 82 [35, (.const (.int .u64 65536))] (bits_Mul64.ok h121)), (12, spP 83 [40, 41, 43] (bits_Div64.ok h124))] (zWL [] ?_)
    refine w_ (w_ret ?_)
    obtain rfl := Option.some.inj e
    exact ⟨[_], [], S, ⟨(show gt _ _ = some _ from (by kernel_rfl)), trivial⟩, VS.none, rfl, rfl, rfl⟩

/-- fixed.Sqrt -/
def c72 : C := (.seq (.reg [oq 2 (.mv (.const (vI 0)))]) (.seq (.seq (.reg [oq 6 (.mv 0), oq 7 (.bin .lss 6 (.const (vI 1)))]) (.cond 7 (.seq (.reg [oq 2 (.mv (.const (vI 0)))]) .ret) .skip)) (.seq (.reg [oq 3 (.mv (.const (vI 0))), oq 4 (.mv (.const (vI 4294967296)))]) (.seq (.block 0 (.loop (.seq (.seq (.reg [oq 8 (.mv 4), oq 9 (.mv 3), oq 10 (.bin .sub 8 9), oq 11 (.bin .gtr 10 (.const (vI 1)))]) (.cond 11 .skip (.exit 0))) (.block 1 (.seq (.reg [oq 12 (.mv 3), oq 13 (.mv 4), oq 14 (.mv 3), oq 15 (.bin .sub 13 14), oq 16 (.bin .quo 15 (.const (vI 2))), oq 17 (.bin .add 12 16), oq 5 (.mv 17)]) (.seq (.reg [oq 18 (.mv 5), oq 19 (.mv 0), oq 20 (.mv 5), oq 21 (.bin .quo 19 20), oq 22 (.bin .leq 18 21)]) (.cond 22 (.reg [oq 23 (.mv 5), oq 3 (.mv 23)]) (.reg [oq 24 (.mv 5), oq 4 (.mv 24)])))))))) (.seq (.reg [oq 25 (.mv 3), oq 2 (.mv 25)]) .ret)))))
def fixed_Sqrt.l0 : Nat → Int → Int → Int → Option (Int)
  | 0, _, _, _ => none
  | k + 1, n0, x120, x121 => if (wr64 (x121 - x120)) > 1 then (if (wr64 (x120 + (wr64 (Int.tdiv (wr64 (x121 - x120)) 2)))) = 0 then none else (if (wr64 (x120 + (wr64 (Int.tdiv (wr64 (x121 - x120)) 2)))) ≤ (wr64 (Int.tdiv n0 (wr64 (x120 + (wr64 (Int.tdiv (wr64 (x121 - x120)) 2)))))) then (fixed_Sqrt.l0 k n0 (wr64 (x120 + (wr64 (Int.tdiv (wr64 (x121 - x120)) 2)))) x121) else (fixed_Sqrt.l0 k n0 x120 (wr64 (x120 + (wr64 (Int.tdiv (wr64 (x121 - x120)) 2))))))) else (some x120)
def fixed_Sqrt.f (k : Nat) (n0 : Int) : Option (Int) := if n0 < 1 then (some 0) else ((fixed_Sqrt.l0 k n0 0 4294967296 : Option (Int)).bind fun x128 => (some x128))
theorem fixed_Sqrt.ok {S : Seal} {k : Nat} {n0 r0_ : Int}{A_ : Int → Addr} (hE_ : EO gsE S A_ 157) (e : fixed_Sqrt.f k n0 = some r0_) :
    Cal Tryd.prog 72 [vI n0] [] S fun v H' S' => v = vI r0_ ∧ H' = [] ∧ S' = S := by
 unfold fixed_Sqrt.f at e
 refine cal_of (c := c72) (N := 26) Tryd.func72 rfl rfl (by kernel_rfl) (rs := [.t 2]) (by kernel_rfl) (Nat.le_of_ble_eq_true rfl) ?_
 unfold c72
 refine wx mixed 1 [] 0 [] (zWL [] ?_)
 refine w_ (w_seq ?_)
 by_cases c116 : n0 < 1
 ·rw [if_pos c116] at e
  have c116b : (decide (n0 < 1)) = true := decide_eq_true c116
  refine wxM mixed 1 [] 0 [(1, spQ (.bin .lss 6 (.const (vI 1))) [vI n0, vI 1] (congrArg (fun t => some (Value.bool t)) c116b))] (zWL [] ?_)
  refine w_ (w_ct (w_ ?_))
  refine wxM mixed 1 [] 0 [] (zWL [] ?_)
  refine w_ (w_ret ?_)
  obtain rfl := Option.some.inj e
  exact ⟨[_], [], S, ⟨(show gt _ _ = some _ from (by kernel_rfl)), trivial⟩, VS.none, rfl, rfl, rfl⟩
 ·rw [if_neg c116] at e
  have c116b : (decide (n0 < 1)) = false := decide_eq_false c116
  refine wqM mixed [] 0 .nrm [(1, spQ (.bin .lss 6 (.const (vI 1))) [vI n0, vI 1] (congrArg (fun t => some (Value.bool t)) c116b))] (zQL [] ?_)
  refine w_ ?_
  refine wxM mixed 1 [] 0 [] (zWL [] ?_)
  refine w_ ?_
  obtain ⟨x128, e118, e⟩ := bind_of e
  refine w_cut [3] (fun σ_ H_ S_ => [(3, vI x128)] = σ_ ∧ ([] : List Own) = H_ ∧ S = S_) ?_ ?_
  ·refine w_ (w_block (wk [(0, vI n0), (3, vI 0), (4, vI 4294967296)] (w_vs (H' := ([] : List Own)) (S' := S) (VS.lb [] (by kernel_rfl)) ?_)))
   refine w_loop (fun n_ σ_ H_ S_ => ∃ (x120 : Int) (x121 : Int), [(0, vI n0), (3, vI x120), (4, vI x121)] = σ_ ∧ ([] : List Own) = H_ ∧ S = S_ ∧ fixed_Sqrt.l0 n_ n0 x120 x121 = some x128) _ ⟨0, 4294967296, rfl, rfl, rfl, e118⟩ ?_
   rintro n127 σ_ H_ S_ ⟨x120, x121, rfl, rfl, rfl, e118⟩
   cases n127 with
   | zero => rw [fixed_Sqrt.l0.eq_1] at e118; cases e118
   | succ k_ =>
    rw [fixed_Sqrt.l0.eq_2] at e118
    by_cases c122 : (wr64 (x121 - x120)) > 1
    ·rw [if_pos c122] at e118
     have c122b : (decide ((wr64 (x121 - x120)) > 1)) = true := decide_eq_true c122
     have c123 : ¬ (wr64 (x120 + (wr64 (Int.tdiv (wr64 (x121 - x120)) 2)))) = 0 := by
      intro h_; rw [if_pos h_] at e118; cases e118
     rw [if_neg c123] at e118
     by_cases c124 : (wr64 (x120 + (wr64 (Int.tdiv (wr64 (x121 - x120)) 2)))) ≤ (wr64 (Int.tdiv n0 (wr64 (x120 + (wr64 (Int.tdiv (wr64 (x121 - x120)) 2))))))
     ·rw [if_pos c124] at e118
      have c124b : (decide ((wr64 (x120 + (wr64 (Int.tdiv (wr64 (x121 - x120)) 2)))) ≤ (wr64 (Int.tdiv n0 (wr64 (x120 + (wr64 (Int.tdiv (wr64 (x121 - x120)) 2)))))))) = true := decide_eq_true c124
      refine wq mixed [] 0 .nrm [(3, spQ (.bin .gtr 10 (.const (vI 1))) [vI (wr64 (x121 - x120)), vI 1] (congrArg (fun t => some (Value.bool t)) c122b)), (14, spQ (.bin .quo 19 20) [vI n0, vI (wr64 (x120 + (wr64 (Int.tdiv (wr64 (x121 - x120)) 2))))] (qv_quo rfl rfl c123)), (15, spQ (.bin .leq 18 21) [vI (wr64 (x120 + (wr64 (Int.tdiv (wr64 (x121 - x120)) 2)))), vI (wr64 (Int.tdiv n0 (wr64 (x120 + (wr64 (Int.tdiv (wr64 (x121 - x120)) 2))))))] (congrArg (fun t => some (Value.bool t)) c124b))] (zQL [] ?_)
      exact ⟨k_, Nat.lt_succ_self _, _, _, S, keep_sub [0, 3, 4] (by kernel_rfl), VS.lb [] (by kernel_rfl), wr64 (x120 + (wr64 (Int.tdiv (wr64 (x121 - x120)) 2))), x121, rfl, rfl, rfl, e118⟩
     ·rw [if_neg c124] at e118
      have c124b : (decide ((wr64 (x120 + (wr64 (Int.tdiv (wr64 (x121 - x120)) 2)))) ≤ (wr64 (Int.tdiv n0 (wr64 (x120 + (wr64 (Int.tdiv (wr64 (x121 - x120)) 2)))))))) = false := decide_eq_false c124
      refine wq mixed [] 0 .nrm [(3, spQ (.bin .gtr 10 (.const (vI 1))) [vI (wr64 (x121 - x120)), vI 1] (congrArg (fun t => some (Value.bool t)) c122b)), (14, spQ (.bin .quo 19 20) [vI n0, vI (wr64 (x120 + (wr64 (Int.tdiv (wr64 (x121 - x120)) 2))))] (qv_quo rfl rfl c123)), (15, spQ (.bin .leq 18 21) [vI (wr64 (x120 + (wr64 (Int.tdiv (wr64 (x121 - x120)) 2)))), vI (wr64 (Int.tdiv n0 (wr64 (x120 + (wr64 (Int.tdiv (wr64 (x121 - x120)) 2))))))] (congrArg (fun t => some (Value.bool t)) c124b))] (zQL [] ?_)
      exact ⟨k_, Nat.lt_succ_self _, _, _, S, keep_sub [0, 3, 4] (by kernel_rfl), VS.lb [] (by kernel_rfl), x120, wr64 (x120 + (wr64 (Int.tdiv (wr64 (x121 - x120)) 2))), rfl, rfl, rfl, e118⟩
    ·rw [if_neg c122] at e118
     have c122b : (decide ((wr64 (x121 - x120)) > 1)) = false := decide_eq_false c122
     refine wq mixed [] 0 (.ex 0) [(3, spQ (.bin .gtr 10 (.const (vI 1))) [vI (wr64 (x121 - x120)), vI 1] (congrArg (fun t => some (Value.bool t)) c122b))] (zQL [] ?_)
     obtain rfl := Option.some.inj e118
     exact ⟨_, S, VS.lb [] (by kernel_rfl), by kernel_rfl, rfl, rfl⟩
  ·rintro σ_ H_ S_ ⟨rfl, rfl, rfl⟩
   refine wx mixed 1 [] 0 [] (zWL [] ?_)
   refine w_ (w_ret ?_)
   obtain rfl := Option.some.inj e
   exact ⟨[_], [], S, ⟨(show gt _ _ = some _ from (by kernel_rfl)), trivial⟩, VS.none, rfl, rfl, rfl⟩

/-- fixed.Clamp -/
def c74 : C := (.seq (.reg [oq 6 (.mv (.const (vI 0)))]) (.seq (.reg [oq 7 (.mv 0), oq 8 (.mv 2), oq 9 (.mm false [7, 8]), oq 10 (.mv 1), oq 11 (.mm true [9, 10]), oq 6 (.mv 11)]) .ret))
def fixed_Clamp.f (x0 : Int) (lo1 : Int) (hi2 : Int) : Option (Int) := some (mx (mn x0 hi2) lo1)
theorem fixed_Clamp.ok {S : Seal} {x0 lo1 hi2 r0_ : Int}{A_ : Int → Addr} (hE_ : EO gsE S A_ 157) (e : fixed_Clamp.f x0 lo1 hi2 = some r0_) :
    Cal Tryd.prog 74 [vI x0, vI lo1, vI hi2] [] S fun v H' S' => v = vI r0_ ∧ H' = [] ∧ S' = S := by
 unfold fixed_Clamp.f at e
 refine cal_of (c := c74) (N := 12) Tryd.func74 rfl rfl (by kernel_rfl) (rs := [.t 6]) (by kernel_rfl) (Nat.le_of_ble_eq_true rfl) ?_
 unfold c74
 refine wx mixed 2 [] 0 [] (zWL [] ?_)
 refine w_ (w_ret ?_)
 obtain rfl := Option.some.inj e
 exact ⟨[_], [], S, ⟨(show gt _ _ = some _ from (by kernel_rfl)), trivial⟩, VS.none, rfl, rfl, rfl⟩

/-- paint.Part -/
def c62 : C := (.seq (.reg [oq 2 (.box 0), oq 3 (.box 1), oq 4 (.mv (.const (vI 0)))]) (.seq (.seq (.reg [oq 6 (.pad 0 2), oq 7 (.ld none 6)]) (.block 0 (.seq (.reg [oq 9 (.bin .eql 7 (.const (vI 1))), oq 8 (.mv 9)]) (.cond 8 (.seq (.reg [oq 10 (.ld (some 7) 2), oq 11 (.ld (some 2) 3), oq 12 (.call 71 [10, 11]), oq 4 (.mv 12)]) .ret) (.seq (.reg [oq 14 (.bin .eql 7 (.const (vI 2))), oq 13 (.mv 14)]) (.cond 13 (.seq (.seq (.reg [oq 15 (.pad 5 2), oq 16 (.pad 0 15), oq 17 (.ld none 16), oq 18 (.bin .lss 17 (.const (vI 1)))]) (.cond 18 (.seq (.reg [oq 4 (.mv (.const (vI 65536)))]) .ret) .skip)) (.seq (.reg [oq 19 (.pad 3 2), oq 20 (.ld (some 2) 19), oq 21 (.ld (some 2) 3), oq 22 (.call 73 [20, 21]), oq 23 (.bin .mul 22 (.const (vI 256))), oq 24 (.call 72 [23]), oq 5 (.mv 24)]) (.seq (.reg [oq 25 (.mv 5), oq 26 (.bin .mul (.const (vI 4096)) 25), oq 27 (.pad 5 2), oq 28 (.pad 0 27), oq 29 (.ld none 28), oq 30 (.call 51 [26, 29]), oq 31 (.call 74 [30, (.const (vI 0)), (.const (vI 65536))]), oq 4 (.mv 31)]) .ret))) .skip)))))) (.seq (.reg [oq 4 (.mv (.const (vI 0)))]) .ret)))
def paint_Part.f (k : Nat) (p0_Kind : Int) (p0_A : Int) (p0_B : Int) (p0_P_X : Int) (p0_P_Y : Int) (p0_Q_X : Int) (p0_Q_Y : Int) (at1_X : Int) (at1_Y : Int) : Option (Int) := if p0_Kind = 1 then ((paint_linear.f p0_Kind p0_A p0_B p0_P_X p0_P_Y p0_Q_X p0_Q_Y at1_X at1_Y).bind fun t110 => (some t110)) else (if p0_Kind = 2 then (if p0_Q_X < 1 then (some 65536) else ((plane_Len2.f p0_P_X p0_P_Y at1_X at1_Y).bind fun t114 => ((fixed_Sqrt.f k (wr64 (t114 * 256))).bind fun t116 => ((fixed_Round.f (wr64 (4096 * t116)) p0_Q_X).bind fun t118 => ((fixed_Clamp.f t118 0 65536).bind fun t120 => (some t120)))))) else (some 0))
theorem paint_Part.ok {S : Seal} {k : Nat} {p0_Kind p0_A p0_B p0_P_X p0_P_Y p0_Q_X p0_Q_Y at1_X at1_Y r0_ : Int}{A_ : Int → Addr} (hE_ : EO gsE S A_ 157) (e : paint_Part.f k p0_Kind p0_A p0_B p0_P_X p0_P_Y p0_Q_X p0_Q_Y at1_X at1_Y = some r0_) :
    Cal Tryd.prog 62 [.agg #[vI p0_Kind, vI p0_A, vI p0_B, vI p0_P_X, vI p0_P_Y, vI p0_Q_X, vI p0_Q_Y], .agg #[vI at1_X, vI at1_Y]] [] S fun v H' S' => v = vI r0_ ∧ H' = [] ∧ S' = S := by
 unfold paint_Part.f at e
 refine cal_of (c := c62) (N := 32) Tryd.func62 rfl rfl (by kernel_rfl) (rs := [.t 4]) (by kernel_rfl) (Nat.le_of_ble_eq_true rfl) ?_
 unfold c62
 refine wx mixed 1 [] 2 [] fun b107 b108 => zWL [] ?_
 refine w_ (w_seq ?_)
 refine wxM mixed 1 [1] 0 [] (zWL [] ?_)
 refine w_ (w_block ?_)
 by_cases c109 : p0_Kind = 1
 ·rw [if_pos c109] at e
  have c109b : (p0_Kind == 1) = true := beq_iff_eq.mpr c109
  refine wxM mixed 1 [] 0 [(0, spQ (.bin .eql 7 (.const (vI 1))) [vI p0_Kind, vI 1] (congrArg (fun t => some (Value.bool t)) c109b))] (zWL [] ?_)
  refine w_ (w_ct (w_ ?_))
  obtain ⟨t110, h111, e⟩ := bind_of e
  refine wxM mixed 1 [1, 0] 0 [(2, spP 71 [10, 11] (paint_linear.ok hE_ h111))] (zWL [0, 1] ?_)
  refine w_ (w_ret ?_)
  obtain rfl := Option.some.inj e
  exact ⟨[_], [], S, ⟨(show gt _ _ = some _ from (by kernel_rfl)), trivial⟩, VS.none, rfl, rfl, rfl⟩
 ·rw [if_neg c109] at e
  have c109b : (p0_Kind == 1) = false := beq_eq_false_iff_ne.mpr c109
  refine wxM mixed 1 [] 0 [(0, spQ (.bin .eql 7 (.const (vI 1))) [vI p0_Kind, vI 1] (congrArg (fun t => some (Value.bool t)) c109b))] (zWL [] ?_)
  refine w_ (w_cf (w_ ?_))
  by_cases c112 : p0_Kind = 2
  ·rw [if_pos c112] at e
   have c112b : (p0_Kind == 2) = true := beq_iff_eq.mpr c112
   refine wxM mixed 1 [] 0 [(0, spQ (.bin .eql 7 (.const (vI 2))) [vI p0_Kind, vI 2] (congrArg (fun t => some (Value.bool t)) c112b))] (zWL [] ?_)
   refine w_ (w_ct (w_ (w_seq ?_)))
   by_cases c113 : p0_Q_X < 1
   ·rw [if_pos c113] at e
    have c113b : (decide (p0_Q_X < 1)) = true := decide_eq_true c113
    refine wxM mixed 1 [1] 0 [(3, spQ (.bin .lss 17 (.const (vI 1))) [vI p0_Q_X, vI 1] (congrArg (fun t => some (Value.bool t)) c113b))] (zWL [] ?_)
    refine w_ (w_ct (w_ ?_))
    refine wxM mixed 1 [] 0 [] (zW [(4, vI 65536)] [0, 1] [] ([] : List Own) ?_)
    refine w_ (w_ret ?_)
    obtain rfl := Option.some.inj e
    exact ⟨[_], [], S, ⟨rfl, trivial⟩, VS.none, rfl, rfl, rfl⟩
   ·rw [if_neg c113] at e
    have c113b : (decide (p0_Q_X < 1)) = false := decide_eq_false c113
    refine wqM mixed [1] 0 .nrm [(3, spQ (.bin .lss 17 (.const (vI 1))) [vI p0_Q_X, vI 1] (congrArg (fun t => some (Value.bool t)) c113b))] (zQL [] ?_)
    refine w_ ?_
    obtain ⟨t114, h115, e⟩ := bind_of e
    obtain ⟨t116, h117, e⟩ := bind_of e
    obtain ⟨t118, h119, e⟩ := bind_of e
    obtain ⟨t120, h121, e⟩ := bind_of e
    refine wxM mixed 2 [1, 0, 1] 0 [(3, spP 73 [20, 21] (plane_Len2.ok hE_ h115)), (5, spP 72 [23] (fixed_Sqrt.ok hE_ h117)), (12, spP 51 [26, 29] (fixed_Round.ok hE_ h119)), (13, spP 74 [30, (.const (vI 0)), (.const (vI 65536))] (fixed_Clamp.ok hE_ h121))] (zW [(4, vI t120)] [0, 1] [] ([] : List Own) ?_)
    refine w_ (w_ret ?_)
    obtain rfl := Option.some.inj e
    exact ⟨[_], [], S, ⟨rfl, trivial⟩, VS.none, rfl, rfl, rfl⟩
  ·rw [if_neg c112] at e
   have c112b : (p0_Kind == 2) = false := beq_eq_false_iff_ne.mpr c112
   refine wqM mixed [] 0 .nrm [(0, spQ (.bin .eql 7 (.const (vI 2))) [vI p0_Kind, vI 2] (congrArg (fun t => some (Value.bool t)) c112b))] (zQL [0, 1] ?_)
   refine w_ ?_
   refine wxM mixed 1 [] 0 [] (zWL [] ?_)
   refine w_ (w_ret ?_)
   obtain rfl := Option.some.inj e
   exact ⟨[_], [], S, ⟨(show gt _ _ = some _ from (by kernel_rfl)), trivial⟩, VS.none, rfl, rfl, rfl⟩

/-- color.Wide -/
def c70 : C := (.seq (.reg [oq 1 (.box 0), oq 2 (.new [(vI 0), (vI 0), (vI 0), (vI 0)])]) (.seq (.reg [oq 3 (.pad 0 1), oq 4 (.ld none 3), oq 5 (.cnv .i64 4), oq 6 (.bin .mul (.const (vI 257)) 5), oq 7 (.pad 1 1), oq 8 (.ld none 7), oq 9 (.cnv .i64 8), oq 10 (.bin .mul (.const (vI 257)) 9), oq 11 (.pad 2 1), oq 12 (.ld none 11), oq 13 (.cnv .i64 12), oq 14 (.bin .mul (.const (vI 257)) 13), oq 15 (.pad 3 1), oq 16 (.ld none 15), oq 17 (.cnv .i64 16), oq 18 (.bin .mul (.const (vI 257)) 17), oq 19 (.bld [(vI 0), (vI 0), (vI 0), (vI 0)] [(0, 1, 6), (1, 1, 10), (2, 1, 14), (3, 1, 18)]), ⟨none, .st 4 2 19, none⟩]) .ret))
def color_Wide.f (c0_R : Int) (c0_G : Int) (c0_B : Int) (c0_A : Int) : Option (Int × Int × Int × Int) := some (wr64 (257 * (wr64 c0_R)), wr64 (257 * (wr64 c0_G)), wr64 (257 * (wr64 c0_B)), wr64 (257 * (wr64 c0_A)))
theorem color_Wide.ok {S : Seal} {c0_R c0_G c0_B c0_A r0_ r1_ r2_ r3_ : Int}{A_ : Int → Addr} (hE_ : EO gsE S A_ 157) (e : color_Wide.f c0_R c0_G c0_B c0_A = some (r0_, r1_, r2_, r3_)) :
    Cal Tryd.prog 70 [.agg #[.int .u8 c0_R, .int .u8 c0_G, .int .u8 c0_B, .int .u8 c0_A]] [] S fun v H' S' => v = .agg #[vI r0_, vI r1_, vI r2_, vI r3_] ∧ H' = [] ∧ S' = S := by
 unfold color_Wide.f at e
 refine cal_of (c := c70) (N := 20) Tryd.func70 rfl rfl (by kernel_rfl) (rs := [.cn 4 2]) (by kernel_rfl) (Nat.le_of_ble_eq_true rfl) ?_
 unfold c70
 refine wx mixed 2 [0, 0, 0, 0, 1] 2 [] fun b127 b128 => zWL [0] ?_
 refine w_ (w_as [(2, vP b128 0)] ([⟨b128, [vI (wr64 (257 * (wr64 c0_R))), vI (wr64 (257 * (wr64 c0_G))), vI (wr64 (257 * (wr64 c0_B))), vI (wr64 (257 * (wr64 c0_A)))], 4⟩] : List Own) ?_)
 refine w_ret ?_
 simp only [Option.some.injEq, Prod.mk.injEq] at e
 obtain ⟨rfl, rfl, rfl, rfl⟩ := e
 exact ⟨[_], [], S, ⟨⟨_, _, _, rfl, .at 0 rfl rfl, rfl⟩, trivial⟩, VS.none, rfl, rfl, rfl⟩

/-- paint.Mix -/
def c61 : C := (.seq (.reg [oq 3 (.box 0), oq 4 (.box 1), oq 6 (.new [(vI 0), (vI 0), (vI 0), (vI 0)])]) (.seq (.drw [oq 11 (.ld (some 4) 3), oq 12 (.call 70 [11]), oq 13 (.ld (some 4) 4), oq 14 (.call 70 [13]), oq 7 (.new [(vI 0), (vI 0), (vI 0), (vI 0)]), oq 8 (.new [(vI 0), (vI 0), (vI 0), (vI 0)]), ⟨none, .st 4 7 12, none⟩, ⟨none, .st 4 8 14, none⟩] [[], [0], [], [2, 1], [], [], [4, 1, 3, 0, 1, 4, 5], [5, 3, 6, 0, 1, 2, 3, 4, 5, 6]]) (.seq (.reg [oq 9 (.new [(vI 0), (vI 0), (vI 0), (vI 0)])]) (.seq (.seq (.reg [oq 15 (.mv (.const (vI 0)))]) (.block 0 (.loop (.seq (.reg [oq 16 (.bin .lss 15 (.const (vI 4)))]) (.seq (.cond 16 .skip (.exit 0)) (.seq (.block 1 (.seq (.reg [oq 17 (.mv 15), oq 10 (.mv 17)]) (.drw [oq 18 (.mv 10), oq 19 (.mv 10), oq 20 (.ixa 1 4 7 19), oq 21 (.ld none 20), oq 22 (.mv 2), oq 23 (.bin .sub (.const (vI 65536)) 22), oq 24 (.bin .mul 21 23), oq 25 (.mv 10), oq 26 (.ixa 1 4 8 25), oq 27 (.ld none 26), oq 28 (.mv 2), oq 29 (.bin .mul 27 28), oq 30 (.bin .add 24 29), oq 31 (.call 51 [30, (.const (vI 65536))]), oq 32 (.ixa 1 4 9 18), ⟨none, .st 1 32 31, none⟩] [[], [], [1], [2], [], [4], [3, 5], [], [7], [8], [], [9, 10], [6, 11], [12], [0, 0, 1, 2, 3, 4, 5, 6, 7, 8, 9, 10, 11, 12, 13], [14, 13, 13, 0, 1, 2, 3, 4, 5, 6, 7, 8, 9, 10, 11, 12, 13]]))) (.reg [oq 33 (.bin .add 15 (.const (vI 1))), oq 15 (.mv 33)]))))))) (.seq (.reg [oq 34 (.ld (some 4) 9), ⟨none, .st 4 6 34, none⟩]) .ret)))))
def paint_Mix.f (a0_R : Int) (a0_G : Int) (a0_B : Int) (a0_A : Int) (b1_R : Int) (b1_G : Int) (b1_B : Int) (b1_A : Int) (t2 : Int) : Option (Int × Int × Int × Int) := (color_Wide.f a0_R a0_G a0_B a0_A).bind fun (t127, t128, t129, t130) => ((color_Wide.f b1_R b1_G b1_B b1_A).bind fun (t132, t133, t134, t135) => ((fixed_Round.f (wr64 ((wr64 (t127 * (wr64 (65536 - t2)))) + (wr64 (t132 * t2)))) 65536).bind fun t140 => ((fixed_Round.f (wr64 ((wr64 (t128 * (wr64 (65536 - t2)))) + (wr64 (t133 * t2)))) 65536).bind fun t142 => ((fixed_Round.f (wr64 ((wr64 (t129 * (wr64 (65536 - t2)))) + (wr64 (t134 * t2)))) 65536).bind fun t144 => ((fixed_Round.f (wr64 ((wr64 (t130 * (wr64 (65536 - t2)))) + (wr64 (t135 * t2)))) 65536).bind fun t146 => (some (t140, t142, t144, t146)))))))
theorem paint_Mix.ok {S : Seal} {a0_R a0_G a0_B a0_A b1_R b1_G b1_B b1_A t2 r0_ r1_ r2_ r3_ : Int}{A_ : Int → Addr} (hE_ : EO gsE S A_ 157) (e : paint_Mix.f a0_R a0_G a0_B a0_A b1_R b1_G b1_B b1_A t2 = some (r0_, r1_, r2_, r3_)) :
    Cal Tryd.prog 61 [.agg #[.int .u8 a0_R, .int .u8 a0_G, .int .u8 a0_B, .int .u8 a0_A], .agg #[.int .u8 b1_R, .int .u8 b1_G, .int .u8 b1_B, .int .u8 b1_A], vI t2] [] S fun v H' S' => v = .agg #[vI r0_, vI r1_, vI r2_, vI r3_] ∧ H' = [] ∧ S' = S := by
 unfold paint_Mix.f at e
 refine cal_of (c := c61) (N := 35) Tryd.func61 rfl rfl (by kernel_rfl) (rs := [.cn 4 6]) (by kernel_rfl) (Nat.le_of_ble_eq_true rfl) ?_
 unfold c61
 obtain ⟨⟨t127, t128, t129, t130⟩, h131, e⟩ := bind_of e
 try dsimp only at e
 obtain ⟨⟨t132, t133, t134, t135⟩, h136, e⟩ := bind_of e
 try dsimp only at e
 obtain ⟨t140, h141, e⟩ := bind_of e
 obtain ⟨t142, h143, e⟩ := bind_of e
 obtain ⟨t144, h145, e⟩ := bind_of e
 obtain ⟨t146, h147, e⟩ := bind_of e
 refine wx mixed 5 [0, 1, 3, 4, 3, 4, 5, 3, 4, 5, 3, 4, 5, 3, 4, 5, 5, 2] 6 [(4, spP 70 [11] (color_Wide.ok hE_ h131)), (6, spP 70 [13] (color_Wide.ok hE_ h136)), (29, spP 51 [30, (.const (vI 65536))] (fixed_Round.ok hE_ h141)), (50, spP 51 [30, (.const (vI 65536))] (fixed_Round.ok hE_ h143)), (71, spP 51 [30, (.const (vI 65536))] (fixed_Round.ok hE_ h145)), (92, spP 51 [30, (.const (vI 65536))] (fixed_Round.ok hE_ h147))] fun b124 b125 b126 b137 b138 b139 => zWL [5, 4, 3, 1, 0] ?_
 refine w_ (w_as [(6, vP b126 0)] ([⟨b126, [vI t140, vI t142, vI t144, vI t146], 4⟩] : List Own) ?_)
 refine w_ret ?_
 simp only [Option.some.injEq, Prod.mk.injEq] at e
 obtain ⟨rfl, rfl, rfl, rfl⟩ := e
 exact ⟨[_], [], S, ⟨⟨_, _, _, rfl, .at 0 rfl rfl, rfl⟩, trivial⟩, VS.none, rfl, rfl, rfl⟩

/-- paint.At -/
def c50 : C := (.seq (.reg [oq 3 (.box 0), oq 4 (.box 1), oq 5 (.box 2), oq 6 (.new [(vI 0), (vI 0), (vI 0), (vI 0)])]) (.seq (.reg [oq 8 (.mkf 60 [4]), oq 7 (.mv 8)]) (.seq (.seq (.reg [oq 9 (.pad 0 3), oq 10 (.ld none 9), oq 11 (.bin .eql 10 (.const (vI 0)))]) (.cond 11 (.reg [oq 12 (.pad 1 3), oq 13 (.ld none 12), oq 14 (.pad 2 3), ⟨none, .st 1 14 13, none⟩]) .skip)) (.seq (.drw [oq 15 (.mv 7), oq 16 (.pad 1 3), oq 17 (.ld none 16), oq 18 (.clo 15 [17]), oq 19 (.mv 7), oq 20 (.pad 2 3), oq 21 (.ld none 20), oq 22 (.clo 19 [21]), oq 23 (.ld (some 7) 3), oq 24 (.ld (some 2) 5), oq 25 (.call 62 [23, 24]), oq 26 (.call 61 [18, 22, 25]), ⟨none, .st 4 6 26, none⟩] [[], [], [1], [0, 2], [], [], [5], [4, 6, 3], [], [], [8, 9, 7], [3, 7, 10, 10], [11, 11, 0, 1, 2, 3, 4, 5, 6, 7, 8, 9, 10, 11]]) .ret))))
def paint_At_v1.f (k : Nat) (p0_0 : Int) (p0_1 : Int) (p0_2 : Int) (p0_3 : Int) (p0_4 : Int) (p0_5 : Int) (p0_6 : Int) (c1 : List (Int × Int × Int × Int)) (at2_0 : Int) (at2_1 : Int) : Option (Int × Int × Int × Int) := (if p0_0 = 0 then (some p0_1) else (some p0_2) : Option (Int)).bind fun x80 => ((paint_At_1_v1.f p0_1 c1).bind fun (t81, t82, t83, t84) => ((paint_At_1_v1.f x80 c1).bind fun (t86, t87, t88, t89) => ((paint_Part.f k p0_0 p0_1 x80 p0_3 p0_4 p0_5 p0_6 at2_0 at2_1).bind fun t91 => ((paint_Mix.f t81 t82 t83 t84 t86 t87 t88 t89 t91).bind fun (t93, t94, t95, t96) => (some (t93, t94, t95, t96))))))
theorem paint_At_v1.ok {S : Seal} {k : Nat} {p0_0 p0_1 p0_2 p0_3 p0_4 p0_5 p0_6 : Int} {c1 : List (Int × Int × Int × Int)} {at2_0 at2_1 r0_ r1_ r2_ r3_ : Int}{A_ : Int → Addr} (hE_ : EO gsE S A_ 157) {a_c1 : Option Addr} {c_c1 : Nat} (h_c1 : SlE S E_u84 c1 a_c1) (e : paint_At_v1.f k p0_0 p0_1 p0_2 p0_3 p0_4 p0_5 p0_6 c1 at2_0 at2_1 = some (r0_, r1_, r2_, r3_)) :
    Cal Tryd.prog 50 [.agg #[vI p0_0, vI p0_1, vI p0_2, vI p0_3, vI p0_4, vI p0_5, vI p0_6], .slice a_c1 c1.length c_c1, .agg #[vI at2_0, vI at2_1]] [] S fun v H' S' => v = .agg #[vI r0_, vI r1_, vI r2_, vI r3_] ∧ H' = [] ∧ S' = S := by
 unfold paint_At_v1.f at e
 refine cal_of (c := c50) (N := 27) Tryd.func50 rfl rfl (by kernel_rfl) (rs := [.cn 4 6]) (by kernel_rfl) (Nat.le_of_ble_eq_true rfl) ?_
 unfold c50
 refine wx mixed 2 [] 4 [] fun b72 b73 b74 b75 => zWL [] ?_
 refine w_ ?_
 obtain ⟨x80, e77, e⟩ := bind_of e
 refine w_cut [3, 5, 6, 7] (fun σ_ H_ S_ => [(3, vP b72 0), (5, vP b74 0), (6, vP b75 0), (7, .func (.func 60) #[] #[vP b73 0])] = σ_ ∧ ([⟨b75, [vI 0, vI 0, vI 0, vI 0], 4⟩, ⟨b74, [vI at2_0, vI at2_1], 2⟩, ⟨b73, [.slice a_c1 c1.length c_c1], 1⟩, ⟨b72, [vI p0_0, vI p0_1, vI x80, vI p0_3, vI p0_4, vI p0_5, vI p0_6], 7⟩] : List Own) = H_ ∧ S = S_) ?_ ?_
 ·refine w_ ?_
  by_cases c79 : p0_0 = 0
  ·rw [if_pos c79] at e77
   have c79b : (p0_0 == 0) = true := beq_iff_eq.mpr c79
   refine wqM mixed [3, 3, 3] 0 .nrm [(2, spQ (.bin .eql 10 (.const (vI 0))) [vI p0_0, vI 0] (congrArg (fun t => some (Value.bool t)) c79b))] (zQL [] ?_)
   obtain rfl := Option.some.inj e77
   exact ⟨_, S, VS.lb [1, 1, 1, 0] (by kernel_rfl), by kernel_rfl, rfl, rfl⟩
  ·rw [if_neg c79] at e77
   have c79b : (p0_0 == 0) = false := beq_eq_false_iff_ne.mpr c79
   refine wqM mixed [3] 0 .nrm [(2, spQ (.bin .eql 10 (.const (vI 0))) [vI p0_0, vI 0] (congrArg (fun t => some (Value.bool t)) c79b))] (zQL [] ?_)
   obtain rfl := Option.some.inj e77
   exact ⟨_, S, VS.lb [0, 0, 0, 0] (by kernel_rfl), by kernel_rfl, rfl, rfl⟩
 ·rintro σ_ H_ S_ ⟨rfl, rfl, rfl⟩
  obtain ⟨⟨t81, t82, t83, t84⟩, h85, e⟩ := bind_of e
  try dsimp only at e
  obtain ⟨⟨t86, t87, t88, t89⟩, h90, e⟩ := bind_of e
  try dsimp only at e
  obtain ⟨t91, h92, e⟩ := bind_of e
  obtain ⟨⟨t93, t94, t95, t96⟩, h97, e⟩ := bind_of e
  try dsimp only at e
  refine wx mixed 1 [3, 2, 3, 2, 3, 1, 0] 0 [(3, spRc 60 #[vP b73 0] 15 [17] [vI p0_1] [[⟨b73, [.slice a_c1 c1.length c_c1], 1⟩]] (by kernel_rfl) (paint_At_1_v1.ok hE_ h_c1 h85) rfl), (7, spRc 60 #[vP b73 0] 19 [21] [vI x80] [[⟨b73, [.slice a_c1 c1.length c_c1], 1⟩]] (by kernel_rfl) (paint_At_1_v1.ok hE_ h_c1 h90) rfl), (10, spP 62 [23, 24] (paint_Part.ok hE_ h92)), (11, spP 61 [18, 22, 25] (paint_Mix.ok hE_ h97))] (zWL [1, 2, 3] ?_)
  refine w_ (w_as [(6, vP b75 0)] ([⟨b75, [vI t93, vI t94, vI t95, vI t96], 4⟩] : List Own) ?_)
  refine w_ret ?_
  simp only [Option.some.injEq, Prod.mk.injEq] at e
  obtain ⟨rfl, rfl, rfl, rfl⟩ := e
  exact ⟨[_], [], S, ⟨⟨_, _, _, rfl, .at 0 rfl rfl, rfl⟩, trivial⟩, VS.none, rfl, rfl, rfl⟩

/-- blend.Over -/
def c49 : C := (.seq (.reg [oq 3 (.box 0), oq 4 (.box 1), oq 6 (.new [(vI 0), (vI 0), (vI 0), (vI 0)])]) (.seq (.reg [oq 10 (.ixa 1 4 4 (.const (vI 3))), oq 11 (.ld none 10), oq 12 (.mv 2), oq 13 (.bin .mul 11 12), oq 14 (.call 51 [13, (.const (vI 64))]), oq 7 (.mv 14)]) (.seq (.reg [oq 15 (.ixa 1 4 4 (.const (vI 3))), ⟨none, .st 1 15 (.const (vI 65535)), none⟩]) (.seq (.reg [oq 8 (.new [(vI 0), (vI 0), (vI 0), (vI 0)])]) (.seq (.seq (.reg [oq 16 (.mv (.const (vI 0)))]) (.block 0 (.loop (.seq (.reg [oq 17 (.bin .lss 16 (.const (vI 4)))]) (.seq (.cond 17 .skip (.exit 0)) (.seq (.block 1 (.seq (.reg [oq 18 (.mv 16), oq 9 (.mv 18)]) (.drw [oq 19 (.mv 9), oq 20 (.mv 9), oq 21 (.ixa 1 4 4 20), oq 22 (.ld none 21), oq 23 (.mv 7), oq 24 (.bin .mul 22 23), oq 25 (.call 51 [24, (.const (vI 65535))]), oq 26 (.mv 9), oq 27 (.ixa 1 4 3 26), oq 28 (.ld none 27), oq 29 (.mv 7), oq 30 (.bin .sub (.const (vI 65535)) 29), oq 31 (.bin .mul 28 30), oq 32 (.call 51 [31, (.const (vI 65535))]), oq 33 (.bin .add 25 32), oq 34 (.mm false [33, (.const (vI 65535))]), oq 35 (.ixa 1 4 8 19), ⟨none, .st 1 35 34, none⟩] [[], [], [1], [2], [], [3, 4], [5], [], [7], [8], [], [10], [9, 11], [12, 6], [6, 13], [14], [0, 0, 1, 2, 3, 4, 5, 6, 7, 8, 9, 10, 11, 12, 13, 14, 15], [16, 15, 13, 0, 1, 2, 3, 4, 5, 6, 7, 8, 9, 10, 11, 12, 13, 14, 15]]))) (.reg [oq 36 (.bin .add 16 (.const (vI 1))), oq 16 (.mv 36)]))))))) (.seq (.reg [oq 37 (.ld (some 4) 8), ⟨none, .st 4 6 37, none⟩]) .ret))))))
def blend_Over.f (under0_0 : Int) (under0_1 : Int) (under0_2 : Int) (under0_3 : Int) (c1_0 : Int) (c1_1 : Int) (c1_2 : Int) (c1_3 : Int) (cover2 : Int) : Option (Int × Int × Int × Int) := (fixed_Round.f (wr64 (c1_3 * cover2)) 64).bind fun t106 => ((fixed_Round.f (wr64 (c1_0 * t106)) 65535).bind fun t109 => ((fixed_Round.f (wr64 (under0_0 * (wr64 (65535 - t106)))) 65535).bind fun t111 => ((fixed_Round.f (wr64 (c1_1 * t106)) 65535).bind fun t113 => ((fixed_Round.f (wr64 (under0_1 * (wr64 (65535 - t106)))) 65535).bind fun t115 => ((fixed_Round.f (wr64 (c1_2 * t106)) 65535).bind fun t117 => ((fixed_Round.f (wr64 (under0_2 * (wr64 (65535 - t106)))) 65535).bind fun t119 => ((fixed_Round.f (wr64 (65535 * t106)) 65535).bind fun t121 => ((fixed_Round.f (wr64 (under0_3 * (wr64 (65535 - t106)))) 65535).bind fun t123 => (some (mn (wr64 (t109 + t111)) 65535, mn (wr64 (t113 + t115)) 65535, mn (wr64 (t117 + t119)) 65535, mn (wr64 (t121 + t123)) 65535))))))))))
theorem blend_Over.ok {S : Seal} {under0_0 under0_1 under0_2 under0_3 c1_0 c1_1 c1_2 c1_3 cover2 r0_ r1_ r2_ r3_ : Int}{A_ : Int → Addr} (hE_ : EO gsE S A_ 157) (e : blend_Over.f under0_0 under0_1 under0_2 under0_3 c1_0 c1_1 c1_2 c1_3 cover2 = some (r0_, r1_, r2_, r3_)) :
    Cal Tryd.prog 49 [.agg #[vI under0_0, vI under0_1, vI under0_2, vI under0_3], .agg #[vI c1_0, vI c1_1, vI c1_2, vI c1_3], vI cover2] [] S fun v H' S' => v = .agg #[vI r0_, vI r1_, vI r2_, vI r3_] ∧ H' = [] ∧ S' = S := by
 unfold blend_Over.f at e
 refine cal_of (c := c49) (N := 38) Tryd.func49 rfl rfl (by kernel_rfl) (rs := [.cn 4 6]) (by kernel_rfl) (Nat.le_of_ble_eq_true rfl) ?_
 unfold c49
 obtain ⟨t106, h107, e⟩ := bind_of e
 obtain ⟨t109, h110, e⟩ := bind_of e
 obtain ⟨t111, h112, e⟩ := bind_of e
 obtain ⟨t113, h114, e⟩ := bind_of e
 obtain ⟨t115, h116, e⟩ := bind_of e
 obtain ⟨t117, h118, e⟩ := bind_of e
 obtain ⟨t119, h120, e⟩ := bind_of e
 obtain ⟨t121, h122, e⟩ := bind_of e
 obtain ⟨t123, h124, e⟩ := bind_of e
 refine wx mixed 6 [1, 1, 1, 0, 3, 1, 0, 3, 1, 0, 3, 1, 0, 3, 3, 2] 4 [(7, spP 51 [13, (.const (vI 64))] (fixed_Round.ok hE_ h107)), (22, spP 51 [24, (.const (vI 65535))] (fixed_Round.ok hE_ h110)), (29, spP 51 [31, (.const (vI 65535))] (fixed_Round.ok hE_ h112)), (45, spP 51 [24, (.const (vI 65535))] (fixed_Round.ok hE_ h114)), (52, spP 51 [31, (.const (vI 65535))] (fixed_Round.ok hE_ h116)), (68, spP 51 [24, (.const (vI 65535))] (fixed_Round.ok hE_ h118)), (75, spP 51 [31, (.const (vI 65535))] (fixed_Round.ok hE_ h120)), (91, spP 51 [24, (.const (vI 65535))] (fixed_Round.ok hE_ h122)), (98, spP 51 [31, (.const (vI 65535))] (fixed_Round.ok hE_ h124))] fun b103 b104 b105 b108 => zWL [3, 1, 0] ?_
 refine w_ (w_as [(6, vP b105 0)] ([⟨b105, [vI (mn (wr64 (t109 + t111)) 65535), vI (mn (wr64 (t113 + t115)) 65535), vI (mn (wr64 (t117 + t119)) 65535), vI (mn (wr64 (t121 + t123)) 65535)], 4⟩] : List Own) ?_)
 refine w_ret ?_
 simp only [Option.some.injEq, Prod.mk.injEq] at e
 obtain ⟨rfl, rfl, rfl, rfl⟩ := e
 exact ⟨[_], [], S, ⟨⟨_, _, _, rfl, .at 0 rfl rfl, rfl⟩, trivial⟩, VS.none, rfl, rfl, rfl⟩

/-- (render.layer).over -/
def c35 : C := (.seq (.reg [oq 4 (.box 0)]) (.seq (.reg [oq 12 (.ld (some 12) 4), oq 13 (.mv 3), oq 14 (.mv 1), oq 15 (.lns 14), oq 16 (.call 47 [12, 13, 15]), oq 17 (.lns 16), oq 18 (.mv (.const (vI 0)))]) (.block 0 (.loop (.seq (.reg [oq 19 (.bin .lss 18 17)]) (.seq (.cond 19 .skip (.exit 0)) (.seq (.block 1 (.seq (.reg [oq 20 (.mv 18), oq 21 (.ixs 1 16 18), oq 22 (.ld none 21), oq 8 (.mv 20), oq 9 (.mv 22)]) (.seq (.reg [oq 23 (.mv 9), oq 24 (.call 48 [23]), oq 10 (.mv 24)]) (.seq (.reg [oq 25 (.mv 10), oq 26 (.bin .gtr 25 (.const (vI 0)))]) (.cond 26 (.seq (.reg [oq 27 (.mv 8), oq 28 (.bin .mul 27 (.const (vI 256))), oq 29 (.bin .add 28 (.const (vI 128))), oq 30 (.mv 3), oq 31 (.bin .mul 30 (.const (vI 256))), oq 32 (.bin .add 31 (.const (vI 128))), oq 33 (.bld [(vI 0), (vI 0)] [(0, 1, 29), (1, 1, 32)]), oq 11 (.new [(vI 0), (vI 0)]), ⟨none, .st 2 11 33, none⟩]) (.drw [oq 34 (.mv 1), oq 35 (.mv 8), oq 36 (.mv 1), oq 37 (.mv 8), oq 38 (.ixs 4 36 37), oq 39 (.ld (some 4) 38), oq 40 (.pad 0 4), oq 41 (.pad 3 40), oq 42 (.ld (some 7) 41), oq 43 (.mv 2), oq 44 (.ld (some 2) 11), oq 45 (.call 50 [42, 43, 44]), oq 46 (.mv 10), oq 47 (.call 49 [39, 45, 46]), oq 48 (.ixs 4 34 35), ⟨none, .st 4 48 47, none⟩] [[], [], [], [], [2, 3], [4], [], [6], [7], [], [], [8, 9, 10], [], [5, 11, 12, 11], [0, 1, 0, 1, 2, 3, 4, 5, 6, 7, 8, 9, 10, 11, 12, 13], [14, 13, 13, 0, 1, 2, 3, 4, 5, 6, 7, 8, 9, 10, 11, 12, 13]])) .skip))))) (.reg [oq 49 (.bin .add 18 (.const (vI 1))), oq 18 (.mv 49)]))))))))
def render_layer_over_v1.l0 : Nat → Int → Int → Int → Int → Int → Int → Int → List (Int × Int × Int × Int) → Int → List (Int) → Int → List (Int × Int × Int × Int) → Option (List (Int × Int × Int × Int))
  | 0, _, _, _, _, _, _, _, _, _, _, _, _ => none
  | k + 1, x0_3, x0_4, x0_5, x0_6, x0_7, x0_8, x0_9, colors2, y3, t94, x97, y98 => if x97 < (t94.length : Int) then ((lgt t94 x97).bind fun x100 => ((sweep_Count.f x100).bind fun t102 => (if t102 > 0 then ((lgt y98 x97).bind fun (x106, x107, x108, x109) => ((paint_At_v1.f k x0_3 x0_4 x0_5 x0_6 x0_7 x0_8 x0_9 colors2 (wr64 ((wr64 (x97 * 256)) + 128)) (wr64 ((wr64 (y3 * 256)) + 128))).bind fun (t111, t112, t113, t114) => ((blend_Over.f x106 x107 x108 x109 t111 t112 t113 t114 t102).bind fun (t116, t117, t118, t119) => ((lgt y98 x97).bind fun (x121, x122, x123, x124) => ((lput y98 x97 (t116, t117, t118, t119)).bind fun y126 => (render_layer_over_v1.l0 k x0_3 x0_4 x0_5 x0_6 x0_7 x0_8 x0_9 colors2 y3 t94 (wr64 (x97 + 1)) y126)))))) else (render_layer_over_v1.l0 k x0_3 x0_4 x0_5 x0_6 x0_7 x0_8 x0_9 colors2 y3 t94 (wr64 (x97 + 1)) y98)))) else (some y98)
def render_layer_over_v1.f (k : Nat) (x0_0 : Int) (x0_1 : Int) (x0_2 : Int) (x0_3 : Int) (x0_4 : Int) (x0_5 : Int) (x0_6 : Int) (x0_7 : Int) (x0_8 : Int) (x0_9 : Int) (x0_11 : List (Int × Int × Int × Int)) (colors2 : List (Int × Int × Int × Int)) (y3 : Int) (m0_L : List (Int × Int × Int × Int)) : Option (List (Int × Int × Int × Int)) := (render_layer_masks_v1.f k x0_0 x0_1 x0_2 x0_3 x0_4 x0_5 x0_6 x0_7 x0_8 x0_9 x0_11 y3 (m0_L.length : Int)).bind fun t94 => (render_layer_over_v1.l0 k x0_3 x0_4 x0_5 x0_6 x0_7 x0_8 x0_9 colors2 y3 t94 0 m0_L)
theorem render_layer_over_v1.ok {S : Seal} {B0 : Option Nat} {nB0 k : Nat} {x0_0 x0_1 x0_2 x0_3 x0_4 x0_5 x0_6 x0_7 x0_8 x0_9 : Int} {x0_11 : List (Int × Int × Int × Int)} {colors2 : List (Int × Int × Int × Int)} {y3 : Int} {m0_L : List (Int × Int × Int × Int)} {r0_ : List (Int × Int × Int × Int)}{A_ : Int → Addr} (hE_ : EO gsE S A_ 157) {a_x0_10 : Option Addr} {n_x0_10 c_x0_10 : Nat} {a_x0_11 : Option Addr} {c_x0_11 : Nat} (h_x0_11 : SlE S E_i644 x0_11 a_x0_11) {a_colors2 : Option Addr} {c_colors2 : Nat} (h_colors2 : SlE S E_u84 colors2 a_colors2) (e : render_layer_over_v1.f k x0_0 x0_1 x0_2 x0_3 x0_4 x0_5 x0_6 x0_7 x0_8 x0_9 x0_11 colors2 y3 m0_L = some r0_) :
    Cal Tryd.prog 35 [.agg #[vI x0_0, vI x0_1, vI x0_2, vI x0_3, vI x0_4, vI x0_5, vI x0_6, vI x0_7, vI x0_8, vI x0_9, .slice a_x0_10 n_x0_10 c_x0_10, .slice a_x0_11 x0_11.length c_x0_11], .slice (ad B0) m0_L.length (nB0 / 4), .slice a_colors2 colors2.length c_colors2, vI y3] ([⟨B0, encL E_i644 m0_L, nB0⟩] : List Own) S fun v H' S' => v = .tuple #[] ∧ H' = ([⟨B0, encL E_i644 r0_, nB0⟩] : List Own) ∧ S' = S := by
 unfold render_layer_over_v1.f at e
 refine cal_of (c := c35) (N := 50) Tryd.func35 rfl rfl (by kernel_rfl) (rs := []) (by kernel_rfl) (Nat.le_of_ble_eq_true rfl) ?_
 unfold c35
 obtain ⟨t94, h95, e⟩ := bind_of e
 refine wx mixed 2 [1] 1 [(5, spC 47 [12, 13, 15] [] [] [1, 0] 1 (fun l_ => .slice (ad (l_.O 0)) t94.length ((l_.N 0) / 1)) (fun l_ => [[⟨(l_.O 0), encL E_u64 t94, (l_.N 0)⟩]]) (vs := [.agg #[vI x0_0, vI x0_1, vI x0_2, vI x0_3, vI x0_4, vI x0_5, vI x0_6, vI x0_7, vI x0_8, vI x0_9, .slice a_x0_10 n_x0_10 c_x0_10, .slice a_x0_11 x0_11.length c_x0_11], vI y3, vI (m0_L.length : Int)]) rfl (((render_layer_masks_v1.ok hE_ h_x0_11 h95)).mono fun _ _ _ ⟨N96, nN96, h1_, h2_, h3_⟩ => ⟨un ⟨[nN96], [N96], [], [], []⟩, h1_.trans (by kernel_rfl), h2_.trans (by kernel_rfl), h3_⟩))] fun b93 N96 nN96 => zWL [] ?_
 refine w_ (w_block (wk [(1, .slice (ad B0) m0_L.length (nB0 / 4)), (2, .slice a_colors2 colors2.length c_colors2), (3, vI y3), (4, vP b93 0), (16, .slice (ad N96) t94.length (nN96 / 1)), (17, vI (t94.length : Int)), (18, vI 0)] (w_vs (H' := ([⟨N96, encL E_u64 t94, nN96⟩, ⟨b93, [vI x0_0, vI x0_1, vI x0_2, vI x0_3, vI x0_4, vI x0_5, vI x0_6, vI x0_7, vI x0_8, vI x0_9, .slice a_x0_10 n_x0_10 c_x0_10, .slice a_x0_11 x0_11.length c_x0_11], 12⟩, ⟨B0, encL E_i644 m0_L, nB0⟩] : List Own)) (S' := S) (VS.lb [0, 0, 0] (by kernel_rfl)) ?_)))
 refine w_loop (fun n_ σ_ H_ S_ => ∃ (x97 : Int) (y98 : List (Int × Int × Int × Int)), [(1, .slice (ad B0) y98.length (nB0 / 4)), (2, .slice a_colors2 colors2.length c_colors2), (3, vI y3), (4, vP b93 0), (16, .slice (ad N96) t94.length (nN96 / 1)), (17, vI (t94.length : Int)), (18, vI x97)] = σ_ ∧ ([⟨N96, encL E_u64 t94, nN96⟩, ⟨b93, [vI x0_0, vI x0_1, vI x0_2, vI x0_3, vI x0_4, vI x0_5, vI x0_6, vI x0_7, vI x0_8, vI x0_9, .slice a_x0_10 n_x0_10 c_x0_10, .slice a_x0_11 x0_11.length c_x0_11], 12⟩, ⟨B0, encL E_i644 y98, nB0⟩] : List Own) = H_ ∧ S = S_ ∧ render_layer_over_v1.l0 n_ x0_3 x0_4 x0_5 x0_6 x0_7 x0_8 x0_9 colors2 y3 t94 x97 y98 = some r0_) _ ⟨0, m0_L, rfl, rfl, rfl, e⟩ ?_
 rintro n131 σ_ H_ S_ ⟨x97, y98, rfl, rfl, rfl, e⟩
 cases n131 with
 | zero => rw [render_layer_over_v1.l0.eq_1] at e; cases e
 | succ k_ =>
  rw [render_layer_over_v1.l0.eq_2] at e
  by_cases c99 : x97 < (t94.length : Int)
  ·rw [if_pos c99] at e
   have c99b : (decide (x97 < (t94.length : Int))) = true := decide_eq_true c99
   refine wx mixed 2 [] 0 [(0, spQ (.bin .lss 18 17) [vI x97, vI (t94.length : Int)] (congrArg (fun t => some (Value.bool t)) c99b))] (zWL [] ?_)
   refine w_ (w_seq (w_block ?_))
   obtain ⟨x100, hx101, e⟩ := bind_of e
   obtain ⟨t102, h103, e⟩ := bind_of e
   refine wxM mixed 2 [0, 0] 0 [(1, spH (.ixs 1 16 18) [.slice (ad N96) t94.length (nN96 / 1), vI x97] [[⟨N96, encL E_u64 t94, nN96⟩]] (fun _ => ixl (E := E_u64) (j := 0) rfl rfl rfl (by decide) rfl hx101) (by intro h_; cases h_)), (2, spL1 21 (bk N96) ((x97).toNat * 1 + 0) [[⟨N96, encL E_u64 t94, nN96⟩]] (fun _ => .lst 0 rfl (encL_at (lgt_in hx101).1 rfl))), (6, spP 48 [23] (sweep_Count.ok hE_ h103))] (zWL [] ?_)
   refine w_ ?_
   by_cases c104 : t102 > 0
   ·rw [if_pos c104] at e
    have c104b : (decide (t102 > 0)) = true := decide_eq_true c104
    refine wxM mixed 1 [] 0 [(1, spQ (.bin .gtr 25 (.const (vI 0))) [vI t102, vI 0] (congrArg (fun t => some (Value.bool t)) c104b))] (zWL [] ?_)
    refine w_ (w_ct (w_ (wxM mixed 1 [3] 1 [] fun b105 => zWL [] ?_)))
    refine w_ (w_as [(1, .slice (ad B0) y98.length (nB0 / 4)), (2, .slice a_colors2 colors2.length c_colors2), (3, vI y3), (4, vP b93 0), (8, vI x97), (10, vI t102), (11, vP b105 0), (16, .slice (ad N96) t94.length (nN96 / 1)), (17, vI (t94.length : Int)), (18, vI x97)] ([⟨b105, [vI (wr64 ((wr64 (x97 * 256)) + 128)), vI (wr64 ((wr64 (y3 * 256)) + 128))], 2⟩, ⟨N96, encL E_u64 t94, nN96⟩, ⟨b93, [vI x0_0, vI x0_1, vI x0_2, vI x0_3, vI x0_4, vI x0_5, vI x0_6, vI x0_7, vI x0_8, vI x0_9, .slice a_x0_10 n_x0_10 c_x0_10, .slice a_x0_11 x0_11.length c_x0_11], 12⟩, ⟨B0, encL E_i644 y98, nB0⟩] : List Own) ?_)
    obtain ⟨⟨x106, x107, x108, x109⟩, hx110, e⟩ := bind_of e
    try dsimp only at e
    obtain ⟨⟨t111, t112, t113, t114⟩, h115, e⟩ := bind_of e
    try dsimp only at e
    obtain ⟨⟨t116, t117, t118, t119⟩, h120, e⟩ := bind_of e
    try dsimp only at e
    obtain ⟨⟨x121, x122, x123, x124⟩, hx125, e⟩ := bind_of e
    try dsimp only at e
    refine w_drwE mixed 15 [.v (.slice (ad B0) y98.length (nB0 / 4)), .v (vI x97), .v (.slice (ad B0) y98.length (nB0 / 4)), .v (vI x97), .v (vP (bk B0) ((x97).toNat * 4 + 0)), .v (.agg #[vI x106, vI x107, vI x108, vI x109]), .v (vP b93 0), .v (vP b93 3), .v (.agg #[vI x0_3, vI x0_4, vI x0_5, vI x0_6, vI x0_7, vI x0_8, vI x0_9]), .v (.slice a_colors2 colors2.length c_colors2), .v (.agg #[vI (wr64 ((wr64 (x97 * 256)) + 128)), vI (wr64 ((wr64 (y3 * 256)) + 128))]), .v (.agg #[vI t111, vI t112, vI t113, vI t114]), .v (vI t102), .v (.agg #[vI t116, vI t117, vI t118, vI t119]), .v (vP (bk B0) ((x97).toNat * 4 + 0))] (by kernel_rfl) ?_ ?_
    ·refine ds 4 (.cons (.quietH rfl (by intro h_; cases h_) (ixl (E := E_i644) (j := 3) rfl rfl rfl (by decide) rfl hx110)) ?_)
     refine .cons (.ldn (vs := [vI x106, vI x107, vI x108, vI x109]) rfl rfl rfl (.lst 3 rfl (encL_sub (lgt_in hx110).1 (by kernel_rfl)))) ?_
     refine ds 2 (.cons (.ldn rfl rfl rfl (.at 2 rfl rfl)) ?_)
     refine ds 1 (.cons (.ldn rfl rfl rfl (.at 0 rfl rfl)) ?_)
     refine .cons (.call (vs := [.agg #[vI x0_3, vI x0_4, vI x0_5, vI x0_6, vI x0_7, vI x0_8, vI x0_9], .slice a_colors2 colors2.length c_colors2, .agg #[vI (wr64 ((wr64 (x97 * 256)) + 128)), vI (wr64 ((wr64 (y3 * 256)) + 128))]]) rfl rfl (by kernel_rfl) (paint_At_v1.ok hE_ h_colors2 h115)) ?_
     refine ds 1 (.cons (.call rfl rfl (by kernel_rfl) (blend_Over.ok hE_ h120)) ?_)
     refine .cons (.quietH rfl (by intro h_; cases h_) (ixl (E := E_i644) (j := 3) rfl rfl rfl (by decide) rfl hx125)) ?_
     exact .nil
    refine fkq 15 [(1, .slice (ad B0) y98.length (nB0 / 4)), (2, .slice a_colors2 colors2.length c_colors2), (3, vI y3), (4, vP b93 0), (16, .slice (ad N96) t94.length (nN96 / 1)), (17, vI (t94.length : Int)), (18, vI x97), (47, .agg #[vI t116, vI t117, vI t118, vI t119]), (48, vP (bk B0) ((x97).toNat * 4 + 0))] ?_
    refine fk_nil fun all => ?_
    obtain ⟨y126, hl127, e⟩ := bind_of e
    refine t_stl 3 (E := E_i644) (L := y98) (L' := y126) (i := x97) (off := 0) (y0 := (x121, x122, x123, x124)) (y1 := (t116, t117, t118, t119)) (H' := ([⟨b105, [vI (wr64 ((wr64 (x97 * 256)) + 128)), vI (wr64 ((wr64 (y3 * 256)) + 128))], 2⟩, ⟨N96, encL E_u64 t94, nN96⟩, ⟨b93, [vI x0_0, vI x0_1, vI x0_2, vI x0_3, vI x0_4, vI x0_5, vI x0_6, vI x0_7, vI x0_8, vI x0_9, .slice a_x0_10 n_x0_10 c_x0_10, .slice a_x0_11 x0_11.length c_x0_11], 12⟩, ⟨B0, encL E_i644 y126, nB0⟩] : List Own)) rfl rfl rfl rfl rfl rfl rfl (by decide) rfl hx125 (by kernel_rfl) hl127 rfl ?_
    refine tk [(1, .slice (ad B0) y98.length (nB0 / 4)), (2, .slice a_colors2 colors2.length c_colors2), (3, vI y3), (4, vP b93 0), (16, .slice (ad N96) t94.length (nN96 / 1)), (17, vI (t94.length : Int)), (18, vI x97), (47, .agg #[vI t116, vI t117, vI t118, vI t119]), (48, vP (bk B0) ((x97).toNat * 4 + 0))] (t_eq (σ' := [(1, .slice (ad B0) y126.length (nB0 / 4)), (2, .slice a_colors2 colors2.length c_colors2), (3, vI y3), (4, vP b93 0), (16, .slice (ad N96) t94.length (nN96 / 1)), (17, vI (t94.length : Int)), (18, vI x97), (47, .agg #[vI t116, vI t117, vI t118, vI t119]), (48, vP (bk B0) ((x97).toNat * 4 + 0))]) (H' := ([⟨b105, [vI (wr64 ((wr64 (x97 * 256)) + 128)), vI (wr64 ((wr64 (y3 * 256)) + 128))], 2⟩, ⟨N96, encL E_u64 t94, nN96⟩, ⟨b93, [vI x0_0, vI x0_1, vI x0_2, vI x0_3, vI x0_4, vI x0_5, vI x0_6, vI x0_7, vI x0_8, vI x0_9, .slice a_x0_10 n_x0_10 c_x0_10, .slice a_x0_11 x0_11.length c_x0_11], 12⟩, ⟨B0, encL E_i644 y126, nB0⟩] : List Own)) (by first | rfl | rw [(lput_is hl127).2]) (by first | rfl | rw [(lput_is hl127).2]) ?_)
    refine tk [(1, .slice (ad B0) y126.length (nB0 / 4)), (2, .slice a_colors2 colors2.length c_colors2), (3, vI y3), (4, vP b93 0), (16, .slice (ad N96) t94.length (nN96 / 1)), (17, vI (t94.length : Int)), (18, vI x97)] (t_end (w_ ?_))
    refine wq mixed [] 0 .nrm [] (zQL [0] ?_)
    exact ⟨k_, Nat.lt_succ_self _, _, _, S, keep_sub [1, 2, 3, 4, 16, 17, 18] (by kernel_rfl), VS.lb [0, 0, 0] (by kernel_rfl), wr64 (x97 + 1), y126, rfl, rfl, rfl, e⟩
   ·rw [if_neg c104] at e
    have c104b : (decide (t102 > 0)) = false := decide_eq_false c104
    refine wqM mixed [] 0 .nrm [(1, spQ (.bin .gtr 25 (.const (vI 0))) [vI t102, vI 0] (congrArg (fun t => some (Value.bool t)) c104b))] (zQL [] ?_)
    refine w_ ?_
    refine wqM mixed [] 0 .nrm [] (zQL [] ?_)
    exact ⟨k_, Nat.lt_succ_self _, _, _, S, keep_sub [1, 2, 3, 4, 16, 17, 18] (by kernel_rfl), VS.lb [0, 0, 0] (by kernel_rfl), wr64 (x97 + 1), y98, rfl, rfl, rfl, e⟩
  ·rw [if_neg c99] at e
   have c99b : (decide (x97 < (t94.length : Int))) = false := decide_eq_false c99
   refine wq mixed [] 0 (.ex 0) [(0, spQ (.bin .lss 18 17) [vI x97, vI (t94.length : Int)] (congrArg (fun t => some (Value.bool t)) c99b))] (zQ1 [(1, .slice (ad B0) y98.length (nB0 / 4)), (2, .slice a_colors2 colors2.length c_colors2), (3, vI y3), (4, vP b93 0), (16, .slice (ad N96) t94.length (nN96 / 1)), (17, vI (t94.length : Int)), (18, vI x97)] ([⟨N96, encL E_u64 t94, nN96⟩, ⟨b93, [vI x0_0, vI x0_1, vI x0_2, vI x0_3, vI x0_4, vI x0_5, vI x0_6, vI x0_7, vI x0_8, vI x0_9, .slice a_x0_10 n_x0_10 c_x0_10, .slice a_x0_11 x0_11.length c_x0_11], 12⟩, ⟨B0, encL E_i644 y98, nB0⟩] : List Own) ?_)
   obtain rfl := Option.some.inj e
   exact ⟨[], _, S, trivial, VS.sel [2] (by kernel_rfl), rfl, rfl, rfl⟩

/-- blend.Final -/
def c36 : C := (.seq (.reg [oq 1 (.box 0), oq 2 (.new [(.int .u8 0), (.int .u8 0), (.int .u8 0), (.int .u8 0)])]) (.seq (.reg [oq 5 (.ixa 1 4 1 (.const (vI 3))), oq 6 (.ld none 5), oq 7 (.call 51 [6, (.const (vI 257))]), oq 8 (.cnv .u8 7), oq 9 (.bld [(.int .u8 0), (.int .u8 0), (.int .u8 0), (.int .u8 0)] [(3, 1, 8)]), oq 3 (.new [(.int .u8 0), (.int .u8 0), (.int .u8 0), (.int .u8 0)]), ⟨none, .st 4 3 9, none⟩]) (.seq (.seq (.reg [oq 10 (.mv (.const (vI 0)))]) (.block 0 (.loop (.seq (.reg [oq 11 (.bin .lss 10 (.const (vI 3)))]) (.seq (.cond 11 .skip (.exit 0)) (.seq (.block 1 (.seq (.reg [oq 12 (.mv 10), oq 4 (.mv 12)]) (.drw [oq 13 (.mv 4), oq 14 (.mv 4), oq 15 (.ixa 1 4 1 14), oq 16 (.ld none 15), oq 17 (.bin .mul 16 (.const (vI 255))), oq 18 (.ixa 1 4 1 (.const (vI 3))), oq 19 (.ld none 18), oq 20 (.call 51 [17, 19]), oq 21 (.mm false [20, (.const (vI 255))]), oq 22 (.cnv .u8 21), oq 23 (.ixa 1 4 3 13), ⟨none, .st 1 23 22, none⟩] [[], [], [1], [2], [3], [], [5], [4, 6], [7], [8], [0, 0, 1, 2, 3, 4, 5, 6, 7, 8, 9], [10, 9, 7, 0, 1, 2, 3, 4, 5, 6, 7, 8, 9]]))) (.reg [oq 24 (.bin .add 10 (.const (vI 1))), oq 10 (.mv 24)]))))))) (.seq (.reg [oq 25 (.ld (some 4) 3), ⟨none, .st 4 2 25, none⟩]) .ret))))
def blend_Final.f (v0_0 : Int) (v0_1 : Int) (v0_2 : Int) (v0_3 : Int) : Option (Int × Int × Int × Int) := (fixed_Round.f v0_3 257).bind fun t81 => ((fixed_Round.f (wr64 (v0_0 * 255)) v0_3).bind fun t84 => ((fixed_Round.f (wr64 (v0_1 * 255)) v0_3).bind fun t86 => ((fixed_Round.f (wr64 (v0_2 * 255)) v0_3).bind fun t88 => (some (wru8 (mn t84 255), wru8 (mn t86 255), wru8 (mn t88 255), wru8 t81)))))
theorem blend_Final.ok {S : Seal} {v0_0 v0_1 v0_2 v0_3 r0_ r1_ r2_ r3_ : Int}{A_ : Int → Addr} (hE_ : EO gsE S A_ 157) (e : blend_Final.f v0_0 v0_1 v0_2 v0_3 = some (r0_, r1_, r2_, r3_)) :
    Cal Tryd.prog 36 [.agg #[vI v0_0, vI v0_1, vI v0_2, vI v0_3]] [] S fun v H' S' => v = .agg #[.int .u8 r0_, .int .u8 r1_, .int .u8 r2_, .int .u8 r3_] ∧ H' = [] ∧ S' = S := by
 unfold blend_Final.f at e
 refine cal_of (c := c36) (N := 26) Tryd.func36 rfl rfl (by kernel_rfl) (rs := [.cn 4 2]) (by kernel_rfl) (Nat.le_of_ble_eq_true rfl) ?_
 unfold c36
 obtain ⟨t81, h82, e⟩ := bind_of e
 obtain ⟨t84, h85, e⟩ := bind_of e
 obtain ⟨t86, h87, e⟩ := bind_of e
 obtain ⟨t88, h89, e⟩ := bind_of e
 refine wx mixed 4 [0, 2, 0, 0, 2, 0, 0, 2, 0, 0, 2, 2, 1] 3 [(4, spP 51 [6, (.const (vI 257))] (fixed_Round.ok hE_ h82)), (20, spP 51 [17, 19] (fixed_Round.ok hE_ h85)), (37, spP 51 [17, 19] (fixed_Round.ok hE_ h87)), (54, spP 51 [17, 19] (fixed_Round.ok hE_ h89))] fun b79 b80 b83 => zWL [2, 0] ?_
 refine w_ (w_as [(2, vP b80 0)] ([⟨b80, [.int .u8 (wru8 (mn t84 255)), .int .u8 (wru8 (mn t86 255)), .int .u8 (wru8 (mn t88 255)), .int .u8 (wru8 t81)], 4⟩] : List Own) ?_)
 refine w_ret ?_
 simp only [Option.some.injEq, Prod.mk.injEq] at e
 obtain ⟨rfl, rfl, rfl, rfl⟩ := e
 exact ⟨[_], [], S, ⟨⟨_, _, _, rfl, .at 0 rfl rfl, rfl⟩, trivial⟩, VS.none, rfl, rfl, rfl⟩

/-- render.row -/
def c20 : C := (.seq (.reg [oq 4 (.box 0), oq 8 (.mv (.const (.slice none 0 0)))]) (.seq (.reg [oq 16 (.mv 2), oq 17 (.mks 4 32 [(vI 0), (vI 0), (vI 0), (vI 0)] 16 16), oq 9 (.mv 17)]) (.seq (.seq (.reg [oq 18 (.mv 1), oq 19 (.lns 18), oq 20 (.mv (.const (vI 0)))]) (.block 0 (.loop (.seq (.reg [oq 21 (.bin .lss 20 19)]) (.seq (.cond 21 .skip (.exit 0)) (.seq (.block 1 (.seq (.reg [oq 22 (.ixs 12 18 20), oq 23 (.ld (some 12) 22), oq 11 (.new [(vI 0), (vI 0), (vI 0), (vI 0), (vI 0), (vI 0), (vI 0), (vI 0), (vI 0), (vI 0), (.slice none 0 0), (.slice none 0 0)]), ⟨none, .st 12 11 23, none⟩]) (.reg [oq 24 (.ld (some 12) 11), oq 25 (.mv 9), oq 26 (.pad 3 4), oq 27 (.ld none 26), oq 28 (.mv 3), oq 29 (.call 35 [24, 25, 27, 28])]))) (.reg [oq 30 (.bin .add 20 (.const (vI 1))), oq 20 (.mv 30)]))))))) (.seq (.reg [oq 31 (.mv 2), oq 32 (.bin .mul (.const (vI 4)) 31), oq 33 (.mks 1 1 [(.int .u8 0)] (.const (vI 0)) 32), oq 12 (.mv 33)]) (.seq (.seq (.reg [oq 34 (.mv 9), oq 35 (.lns 34), oq 36 (.mv (.const (vI 0)))]) (.block 2 (.loop (.seq (.reg [oq 37 (.bin .lss 36 35)]) (.seq (.cond 37 .skip (.exit 2)) (.seq (.block 3 (.seq (.reg [oq 38 (.ixs 4 34 36), oq 39 (.ld (some 4) 38), oq 14 (.new [(vI 0), (vI 0), (vI 0), (vI 0)]), ⟨none, .st 4 14 39, none⟩]) (.seq (.reg [oq 40 (.ld (some 4) 14), oq 41 (.call 36 [40]), oq 15 (.new [(.int .u8 0), (.int .u8 0), (.int .u8 0), (.int .u8 0)]), ⟨none, .st 4 15 41, none⟩]) (.reg [oq 42 (.mv 12), oq 43 (.sla 1 4 15 none none), oq 44 (.app 5 1 1 [(.int .u8 0)] 42 43), oq 12 (.mv 44)])))) (.reg [oq 45 (.bin .add 36 (.const (vI 1))), oq 36 (.mv 45)]))))))) (.seq (.reg [oq 46 (.mv 12), oq 8 (.mv 46)]) .ret))))))
def render_row_v1.l0 : Nat → List (Int × Int × Int × Int) → List (Int × Int × Int × Int × Int × Int × Int × Int × Int × Int × List (Int × Int × List (Int × Int × Int × Int × Int × Int × Int) × Bool) × List (Int × Int × Int × Int)) → Int → Int → List (Int × Int × Int × Int) → Option (List (Int × Int × Int × Int))
  | 0, _, _, _, _, _ => none
  | k + 1, i0_3, l1, y3, x25, y26 => if x25 < (l1.length : Int) then ((lgt l1 x25).bind fun (x28, x29, x30, x31, x32, x33, x34, x35, x36, x37, x38, x39) => ((render_layer_over_v1.f k x28 x29 x30 x31 x32 x33 x34 x35 x36 x37 x39 i0_3 y3 y26).bind fun t56 => ((if t56.length = y26.length then some () else none : Option Unit).bind fun _ => (render_row_v1.l0 k i0_3 l1 y3 (wr64 (x25 + 1)) t56)))) else (some y26)
def render_row_v1.l1 : Nat → List (Int × Int × Int × Int × Int × Int × Int × Int × Int × Int × List (Int × Int × List (Int × Int × Int × Int × Int × Int × Int) × Bool) × List (Int × Int × Int × Int)) → List (Int × Int × Int × Int) → Int → List (Int) → Option (List (Int))
  | 0, _, _, _, _ => none
  | k + 1, l1, y62, x69, y71 => if x69 < (y62.length : Int) then ((lgt y62 x69).bind fun (x73, x74, x75, x76) => ((blend_Final.f x73 x74 x75 x76).bind fun (t79, t80, t81, t82) => ((lapp y71 ([t79, t80, t81, t82] : List (Int))).bind fun y85 => (render_row_v1.l1 k l1 y62 (wr64 (x69 + 1)) y85)))) else (some y71)
def render_row_v1.f (k : Nat) (i0_0 : Int) (i0_1 : Int) (i0_2 : Int) (i0_3 : List (Int × Int × Int × Int)) (l1 : List (Int × Int × Int × Int × Int × Int × Int × Int × Int × Int × List (Int × Int × List (Int × Int × Int × Int × Int × Int × Int) × Bool) × List (Int × Int × Int × Int))) (w2 : Int) (y3 : Int) : Option (List (Int)) := (lmk ((0, 0, 0, 0) : Int × Int × Int × Int) w2 w2).bind fun y19 => ((render_row_v1.l0 k i0_3 l1 y3 0 y19 : Option (List (Int × Int × Int × Int))).bind fun y62 => ((lmk (0 : Int) 0 (wr64 (4 * w2))).bind fun y63 => ((render_row_v1.l1 k l1 y62 0 y63 : Option (List (Int))).bind fun y91 => (some y91))))
theorem render_row_v1.ok {S : Seal} {k : Nat} {i0_0 i0_1 i0_2 : Int} {i0_3 : List (Int × Int × Int × Int)} {l1 : List (Int × Int × Int × Int × Int × Int × Int × Int × Int × Int × List (Int × Int × List (Int × Int × Int × Int × Int × Int × Int) × Bool) × List (Int × Int × Int × Int))} {w2 y3 : Int} {r0_ : List (Int)}{A_ : Int → Addr} (hE_ : EO gsE S A_ 157) {a_i0_4 : Option Addr} {n_i0_4 c_i0_4 : Nat} {a_i0_3 : Option Addr} {c_i0_3 : Nat} (h_i0_3 : SlE S E_u84 i0_3 a_i0_3) {a_l1 : Option Addr} {c_l1 : Nat} (h_l1 : SlN (rdOf [] S) N_2 l1 a_l1) (e : render_row_v1.f k i0_0 i0_1 i0_2 i0_3 l1 w2 y3 = some r0_) :
    Cal Tryd.prog 20 [.agg #[vI i0_0, vI i0_1, vI i0_2, .slice a_i0_3 i0_3.length c_i0_3, .slice a_i0_4 n_i0_4 c_i0_4], .slice a_l1 l1.length c_l1, vI w2, vI y3] [] S fun v H' S' => ∃ (N0_ : Option Nat) (nN0_ : Nat) , v = .slice (ad N0_) r0_.length (nN0_ / 1) ∧ H' = ([⟨N0_, encL E_u8 r0_, nN0_⟩] : List Own) ∧ S' = S := by
 unfold render_row_v1.f at e
 refine cal_of (c := c20) (N := 47) Tryd.func20 rfl rfl (by kernel_rfl) (rs := [.t 8]) (by kernel_rfl) (Nat.le_of_ble_eq_true rfl) ?_
 unfold c20
 refine wx mixed 1 [] 1 [] fun b18 => zWL [] ?_
 refine w_ (w_seq (w_reg fun all => ?_))
 refine txM 1 [] 0 [] (zTL [] ?_)
 refine t_as [(1, .slice a_l1 l1.length c_l1), (2, vI w2), (3, vI y3), (4, vP b18 0), (16, vI w2)] ([⟨b18, [vI i0_0, vI i0_1, vI i0_2, .slice a_i0_3 i0_3.length c_i0_3, .slice a_i0_4 n_i0_4 c_i0_4], 5⟩] : List Own) ?_
 obtain ⟨y19, hl20, e⟩ := bind_of e
 refine t_mkl (E := E_i644) (x0 := (0, 0, 0, 0)) rfl rfl rfl rfl rfl (by decide) (by decide) rfl hl20 fun a21 na21 => ?_
 refine tx 1 [] 0 [] (zTL [] ?_)
 refine t_end (w_ ?_)
 obtain ⟨y62, e23, e⟩ := bind_of e
 refine w_cut [2, 9] (fun σ_ H_ S_ => [(2, vI w2), (9, .slice (ad (some a21)) y62.length (na21 / 4))] = σ_ ∧ ([⟨b18, [vI i0_0, vI i0_1, vI i0_2, .slice a_i0_3 i0_3.length c_i0_3, .slice a_i0_4 n_i0_4 c_i0_4], 5⟩, ⟨some a21, encL E_i644 y62, na21⟩] : List Own) = H_ ∧ S = S_) ?_ ?_
 ·refine w_ ?_
  refine wxM mixed 1 [] 0 [] (zWL [] ?_)
  refine w_ (w_block (wk [(2, vI w2), (3, vI y3), (4, vP b18 0), (9, .slice (ad (some a21)) y19.length (na21 / 4)), (18, .slice a_l1 l1.length c_l1), (19, vI (l1.length : Int)), (20, vI 0)] (w_vs (H' := ([⟨some a21, encL E_i644 y19, na21⟩, ⟨b18, [vI i0_0, vI i0_1, vI i0_2, .slice a_i0_3 i0_3.length c_i0_3, .slice a_i0_4 n_i0_4 c_i0_4], 5⟩] : List Own)) (S' := S) (VS.lb [0, 0] (by kernel_rfl)) ?_)))
  refine w_loop (fun n_ σ_ H_ S_ => ∃ (x25 : Int) (y26 : List (Int × Int × Int × Int)), [(2, vI w2), (3, vI y3), (4, vP b18 0), (9, .slice (ad (some a21)) y26.length (na21 / 4)), (18, .slice a_l1 l1.length c_l1), (19, vI (l1.length : Int)), (20, vI x25)] = σ_ ∧ ([⟨some a21, encL E_i644 y26, na21⟩, ⟨b18, [vI i0_0, vI i0_1, vI i0_2, .slice a_i0_3 i0_3.length c_i0_3, .slice a_i0_4 n_i0_4 c_i0_4], 5⟩] : List Own) = H_ ∧ S = S_ ∧ render_row_v1.l0 n_ i0_3 l1 y3 x25 y26 = some y62) _ ⟨0, y19, rfl, rfl, rfl, e23⟩ ?_
  rintro n61 σ_ H_ S_ ⟨x25, y26, rfl, rfl, rfl, e23⟩
  cases n61 with
  | zero => rw [render_row_v1.l0.eq_1] at e23; cases e23
  | succ k_ =>
   rw [render_row_v1.l0.eq_2] at e23
   by_cases c27 : x25 < (l1.length : Int)
   ·rw [if_pos c27] at e23
    have c27b : (decide (x25 < (l1.length : Int))) = true := decide_eq_true c27
    refine wx mixed 2 [] 0 [(0, spQ (.bin .lss 20 19) [vI x25, vI (l1.length : Int)] (congrArg (fun t => some (Value.bool t)) c27b))] (zWL [] ?_)
    refine w_ (w_seq (w_block ?_))
    obtain ⟨⟨x28, x29, x30, x31, x32, x33, x34, x35, x36, x37, x38, x39⟩, hx40, e23⟩ := bind_of e23
    try dsimp only at e23
    obtain ⟨lb41, lo42, ll43, vs_, la44, lR45, lv46, hrep_, lz47, lu48⟩ := sln_get (E := N_2) h_l1 hx40
    obtain ⟨na49, nc50, na52, nc53, rfl, nh51, nh54⟩ := hrep_
    refine wxM mixed 1 [2] 1 [(0, spQ (.ixs 12 18 20) [.slice a_l1 l1.length c_l1, vI x25] (ixs_sle rfl rfl la44 lz47 lu48)), (1, spLn 22 lb41 (lo42 + (x25).toNat * 12 + 0) 12 [] (vs := [vI x28, vI x29, vI x30, vI x31, vI x32, vI x33, vI x34, vI x35, vI x36, vI x37, .slice na49 x38.length nc50, .slice na52 x39.length nc53]) (fun _ => rd_n lR45 sub_nil (subl_sub lv46 (by kernel_rfl))))] fun b55 => zWL [] ?_
    refine w_ (w_reg fun all => ?_)
    refine txM 5 [0, 2] 0 [] (zTL [0] ?_)
    refine t_as [(2, vI w2), (3, vI y3), (4, vP b18 0), (9, .slice (ad (some a21)) y26.length (na21 / 4)), (18, .slice a_l1 l1.length c_l1), (19, vI (l1.length : Int)), (20, vI x25), (24, .agg #[vI x28, vI x29, vI x30, vI x31, vI x32, vI x33, vI x34, vI x35, vI x36, vI x37, .slice na49 x38.length nc50, .slice na52 x39.length nc53]), (25, .slice (ad (some a21)) y26.length (na21 / 4)), (27, .slice a_i0_3 i0_3.length c_i0_3), (28, vI y3)] ([⟨some a21, encL E_i644 y26, na21⟩, ⟨b18, [vI i0_0, vI i0_1, vI i0_2, .slice a_i0_3 i0_3.length c_i0_3, .slice a_i0_4 n_i0_4 c_i0_4], 5⟩] : List Own) ?_
    obtain ⟨t56, h57, e23⟩ := bind_of e23
    obtain ⟨_, h58, e23⟩ := bind_of e23
    have h59 := lsame_ h58
    refine t_call (vs := [.agg #[vI x28, vI x29, vI x30, vI x31, vI x32, vI x33, vI x34, vI x35, vI x36, vI x37, .slice na49 x38.length nc50, .slice na52 x39.length nc53], .slice (ad (some a21)) y26.length (na21 / 4), .slice a_i0_3 i0_3.length c_i0_3, vI y3]) (H1 := ([⟨some a21, encL E_i644 y26, na21⟩] : List Own)) (F := ([⟨b18, [vI i0_0, vI i0_1, vI i0_2, .slice a_i0_3 i0_3.length c_i0_3, .slice a_i0_4 n_i0_4 c_i0_4], 5⟩] : List Own)) rfl rfl (by kernel_rfl) (sel_perm (is := [0]) (by kernel_rfl)) (render_layer_over_v1.ok hE_ (SlE.ofN nh54) h_i0_3 h57) ?_
    rintro _ _ S_ ⟨rfl, rfl, hS_⟩
    obtain rfl := hS_.symm
    rw [h59]
    refine tk [(2, vI w2), (3, vI y3), (4, vP b18 0), (9, .slice (ad (some a21)) t56.length (na21 / 4)), (18, .slice a_l1 l1.length c_l1), (19, vI (l1.length : Int)), (20, vI x25)] (t_end (w_ ?_))
    refine wq mixed [] 0 .nrm [] (zQL [] ?_)
    exact ⟨k_, Nat.lt_succ_self _, _, _, S, keep_sub [2, 3, 4, 9, 18, 19, 20] (by kernel_rfl), VS.lb [0, 0] (by kernel_rfl), wr64 (x25 + 1), t56, rfl, rfl, rfl, e23⟩
   ·rw [if_neg c27] at e23
    have c27b : (decide (x25 < (l1.length : Int))) = false := decide_eq_false c27
    refine wq mixed [] 0 (.ex 0) [(0, spQ (.bin .lss 20 19) [vI x25, vI (l1.length : Int)] (congrArg (fun t => some (Value.bool t)) c27b))] (zQL [] ?_)
    obtain rfl := Option.some.inj e23
    exact ⟨_, S, VS.lb [1, 0] (by kernel_rfl), by kernel_rfl, rfl, rfl⟩
 ·rintro σ_ H_ S_ ⟨rfl, rfl, rfl⟩
  refine w_seq (w_reg fun all => ?_)
  refine tx 2 [] 0 [] (zTL [0] ?_)
  refine t_as [(9, .slice (ad (some a21)) y62.length (na21 / 4)), (32, vI (wr64 (4 * w2)))] ([⟨some a21, encL E_i644 y62, na21⟩] : List Own) ?_
  obtain ⟨y63, hl64, e⟩ := bind_of e
  refine t_mkl (E := E_u8) (x0 := 0) rfl rfl rfl rfl rfl (by decide) (by decide) rfl hl64 fun a65 na65 => ?_
  refine tx 1 [] 0 [] (zTL [] ?_)
  refine t_end (w_ ?_)
  obtain ⟨y91, e67, e⟩ := bind_of e
  refine w_cut [12] (fun σ_ H_ S_ => ∃ (a90 : Option Nat) (na90 : Nat), [(12, .slice (ad a90) y91.length (na90 / 1))] = σ_ ∧ ([⟨a90, encL E_u8 y91, na90⟩, ⟨some a21, encL E_i644 y62, na21⟩] : List Own) = H_ ∧ S = S_) ?_ ?_
  ·refine w_ ?_
   refine wxM mixed 1 [] 0 [] (zWL [] ?_)
   refine w_ (w_block (wk [(12, .slice (ad (some a65)) y63.length (na65 / 1)), (34, .slice (ad (some a21)) y62.length (na21 / 4)), (35, vI (y62.length : Int)), (36, vI 0)] (w_vs (H' := ([⟨some a65, encL E_u8 y63, na65⟩, ⟨some a21, encL E_i644 y62, na21⟩] : List Own)) (S' := S) (VS.lb [0, 0] (by kernel_rfl)) ?_)))
   refine w_loop (fun n_ σ_ H_ S_ => ∃ (x69 : Int) (y71 : List (Int)), ∃ (a70 : Option Nat) (na70 : Nat), [(12, .slice (ad a70) y71.length (na70 / 1)), (34, .slice (ad (some a21)) y62.length (na21 / 4)), (35, vI (y62.length : Int)), (36, vI x69)] = σ_ ∧ ([⟨a70, encL E_u8 y71, na70⟩, ⟨some a21, encL E_i644 y62, na21⟩] : List Own) = H_ ∧ S = S_ ∧ render_row_v1.l1 n_ l1 y62 x69 y71 = some y91) _ ⟨0, y63, some a65, na65, rfl, rfl, rfl, e67⟩ ?_
   rintro n89 σ_ H_ S_ ⟨x69, y71, a70, na70, rfl, rfl, rfl, e67⟩
   cases n89 with
   | zero => rw [render_row_v1.l1.eq_1] at e67; cases e67
   | succ k_ =>
    rw [render_row_v1.l1.eq_2] at e67
    by_cases c72 : x69 < (y62.length : Int)
    ·rw [if_pos c72] at e67
     have c72b : (decide (x69 < (y62.length : Int))) = true := decide_eq_true c72
     refine wx mixed 2 [] 0 [(0, spQ (.bin .lss 36 35) [vI x69, vI (y62.length : Int)] (congrArg (fun t => some (Value.bool t)) c72b))] (zWL [] ?_)
     refine w_ (w_seq (w_block ?_))
     obtain ⟨⟨x73, x74, x75, x76⟩, hx77, e67⟩ := bind_of e67
     try dsimp only at e67
     obtain ⟨⟨t79, t80, t81, t82⟩, h83, e67⟩ := bind_of e67
     try dsimp only at e67
     refine wxM mixed 2 [1, 1, 2, 2, 3] 2 [(0, spH (.ixs 4 34 36) [.slice (ad (some a21)) y62.length (na21 / 4), vI x69] [[⟨some a21, encL E_i644 y62, na21⟩]] (fun _ => ixl (E := E_i644) (j := 0) rfl rfl rfl (by decide) rfl hx77) (by intro h_; cases h_)), (1, spLn 38 (bk (some a21)) ((x69).toNat * 4 + 0) 4 [[⟨some a21, encL E_i644 y62, na21⟩]] (vs := [vI x73, vI x74, vI x75, vI x76]) (fun _ => .lst 0 rfl (encL_sub (lgt_in hx77).1 (by kernel_rfl)))), (5, spP 36 [40] (blend_Final.ok hE_ h83))] fun b78 b84 => zWL [2] ?_
     refine w_ ?_
     obtain ⟨y85, hl86, e67⟩ := bind_of e67
     refine wqM mixed [1, 0] 0 .nrm [(2, spX 5 1 1 [(.int .u8 0)] 42 43 (E := E_u8) (L := y71) (X := ([t79, t80, t81, t82] : List (Int))) a70 na70 (some ⟨b84, 0, none⟩) 4 4 [[⟨b84, [.int .u8 t79, .int .u8 t80, .int .u8 t81, .int .u8 t82], 4⟩]] (fun _ => Or.inr ⟨_, _, rfl, .at 1 rfl (by kernel_rfl)⟩) hl86)] fun a87 na87 => zQL [0] ?_
     refine w_ ?_
     refine wqM mixed [] 0 .nrm [] (zQL [] ?_)
     exact ⟨k_, Nat.lt_succ_self _, _, _, S, keep_sub [12, 34, 35, 36] (by kernel_rfl), VS.lb [0, 0] (by kernel_rfl), wr64 (x69 + 1), y85, a87, na87, rfl, rfl, rfl, e67⟩
    ·rw [if_neg c72] at e67
     have c72b : (decide (x69 < (y62.length : Int))) = false := decide_eq_false c72
     refine wq mixed [] 0 (.ex 2) [(0, spQ (.bin .lss 36 35) [vI x69, vI (y62.length : Int)] (congrArg (fun t => some (Value.bool t)) c72b))] (zQL [] ?_)
     obtain rfl := Option.some.inj e67
     exact ⟨_, S, VS.lb [0, 0] (by kernel_rfl), a70, na70, by kernel_rfl, rfl, rfl⟩
  ·rintro σ_ H_ S_ ⟨a90, na90, rfl, rfl, rfl⟩
   refine wx mixed 1 [] 0 [] (zWL [] ?_)
   refine w_ (w_ret ?_)
   obtain rfl := Option.some.inj e
   exact ⟨[_], _, S, ⟨(show gt _ _ = some _ from (by kernel_rfl)), trivial⟩, VS.lb [0] (by kernel_rfl), a90, na90, rfl, rfl, rfl⟩

/-- render.Frame -/
def c7 : C := (.seq (.reg [oq 2 (.box 0), oq 4 (.new [(vI 0), (vI 0), (.slice none 0 0)]), oq 5 (.mv (.const .nilIface))]) (.seq (.seq (.reg [oq 12 (.ld (some 5) 2), oq 13 (.mv 1), oq 14 (.call 17 [12, 13]), oq 11 (.mv 14), oq 15 (.xt 0 11), oq 16 (.xt 1 11), oq 6 (.mv 15), oq 7 (.mv 16)]) (.seq (.reg [oq 17 (.mv 7), oq 18 (.eqt true 29 17 (.const .nilIface))]) (.cond 18 (.seq (.reg [oq 19 (.bld [(vI 0), (vI 0), (.slice none 0 0)] []), oq 20 (.mv 7), ⟨none, .st 3 4 19, none⟩, oq 5 (.mv 20)]) .ret) .skip))) (.seq (.reg [oq 21 (.ld (some 5) 2), oq 22 (.mv 1), oq 23 (.call 18 [21, 22]), oq 8 (.mv 23)]) (.seq (.reg [oq 24 (.mv 1), oq 25 (.ld (some 5) 2), oq 26 (.mv 1), oq 27 (.call 19 [25, 26]), oq 28 (.bld [(vI 0), (vI 0), (.slice none 0 0)] [(0, 1, 24), (1, 1, 27)]), oq 9 (.new [(vI 0), (vI 0), (.slice none 0 0)]), ⟨none, .st 3 9 28, none⟩]) (.seq (.seq (.reg [oq 29 (.pad 1 9), oq 30 (.ld none 29), oq 31 (.mv (.const (vI 0)))]) (.block 0 (.loop (.seq (.reg [oq 32 (.bin .lss 31 30)]) (.seq (.cond 32 .skip (.exit 0)) (.seq (.block 1 (.seq (.reg [oq 33 (.mv 31), oq 10 (.mv 33)]) (.drw [oq 34 (.pad 2 9), oq 35 (.ld none 34), oq 36 (.ld (some 5) 2), oq 37 (.mv 8), oq 38 (.mv 1), oq 39 (.mv 10), oq 40 (.call 20 [36, 37, 38, 39]), oq 41 (.app 5 1 1 [(.int .u8 0)] 35 40), oq 42 (.pad 2 9), ⟨none, .st 1 42 41, none⟩] [[], [0], [], [], [], [], [2, 3, 4, 5], [1, 6, 6], [0, 1, 2, 3, 4, 5, 6, 7], [8, 7, 7, 0, 1, 2, 3, 4, 5, 6, 7]]))) (.reg [oq 43 (.bin .add 31 (.const (vI 1))), oq 31 (.mv 43)]))))))) (.seq (.reg [oq 44 (.ld (some 3) 9), ⟨none, .st 3 4 44, none⟩, oq 5 (.mv (.const .nilIface))]) .ret))))))
def render_Frame_v1.l0 : Nat → Int → Int → Int → List (Int × Int × Int × Int) → Int → List (Int × Int × Int × Int × Int × Int × Int × Int × Int × Int × List (Int × Int × List (Int × Int × Int × Int × Int × Int × Int) × Bool) × List (Int × Int × Int × Int)) → Int → Int → List (Int) → List (Int) → Option (List (Int) × List (Int))
  | 0, _, _, _, _, _, _, _, _, _, _ => none
  | k + 1, i0_0, i0_1, i0_2, i0_3, w1, t40, t43, x49, y51, y53 => if x49 < t43 then ((render_row_v1.f k i0_0 i0_1 i0_2 i0_3 t40 w1 x49).bind fun t55 => ((lapp y51 t55).bind fun y58 => (render_Frame_v1.l0 k i0_0 i0_1 i0_2 i0_3 w1 t40 t43 (wr64 (x49 + 1)) y58 y53))) else (some (y51, y53))
def render_Frame_v1.f (k : Nat) (i0_0 : Int) (i0_1 : Int) (i0_2 : Int) (i0_3 : List (Int × Int × Int × Int)) (i0_4 : List (Int × Int × Int × Int × Int × Int × Int × Int × Int × Int × List (Int × Int × List (Int × Int × Int × Int × Int × Int × Int) × Bool))) (w1 : Int) : Option (Int × Int × Int × List (Int)) := (render_Edges_v1.f k i0_0 i0_1 i0_2 i0_4 w1).bind fun (t36, t37) => (if t37 = 0 then ((render_layers_v1.f k i0_0 i0_1 i0_2 i0_4 w1).bind fun t40 => ((scale_Height_v1.f i0_0 i0_1 i0_2 w1).bind fun t43 => ((render_Frame_v1.l0 k i0_0 i0_1 i0_2 i0_3 w1 t40 t43 0 ([] : List (Int)) ([] : List (Int)) : Option (List (Int) × List (Int))).bind fun (y64, y66) => (some (w1, t43, 0, y64))))) else (some (0, 0, t37, ([] : List (Int)))))
theorem render_Frame_v1.ok {S : Seal} {k : Nat} {i0_0 i0_1 i0_2 : Int} {i0_3 : List (Int × Int × Int × Int)} {i0_4 : List (Int × Int × Int × Int × Int × Int × Int × Int × Int × Int × List (Int × Int × List (Int × Int × Int × Int × Int × Int × Int) × Bool))} {w1 r0_ r1_ r2_ : Int} {r3_ : List (Int)}{A_ : Int → Addr} (hE_ : EO gsE S A_ 157) {a_i0_3 : Option Addr} {c_i0_3 : Nat} (h_i0_3 : SlE S E_u84 i0_3 a_i0_3) {a_i0_4 : Option Addr} {c_i0_4 : Nat} (h_i0_4 : SlN (rdOf [] S) N_1 i0_4 a_i0_4) (e : render_Frame_v1.f k i0_0 i0_1 i0_2 i0_3 i0_4 w1 = some (r0_, r1_, r2_, r3_)) :
    Cal Tryd.prog 7 [.agg #[vI i0_0, vI i0_1, vI i0_2, .slice a_i0_3 i0_3.length c_i0_3, .slice a_i0_4 i0_4.length c_i0_4], vI w1] [] S fun v H' S' => ∃ (N0_ : Option Nat) (nN0_ : Nat) , v = .tuple #[.agg #[vI r0_, vI r1_, .slice (ad N0_) r3_.length (nN0_ / 1)], errV 157 A_ r2_] ∧ H' = ([⟨N0_, encL E_u8 r3_, nN0_⟩] : List Own) ∧ S' = S := by
 unfold render_Frame_v1.f at e
 refine cal_of (c := c7) (N := 45) Tryd.func7 rfl rfl (by kernel_rfl) (rs := [.cn 3 4, .t 5]) (by kernel_rfl) (Nat.le_of_ble_eq_true rfl) ?_
 unfold c7
 refine wx mixed 1 [] 2 [] fun b34 b35 => zWL [] ?_
 refine w_ (w_seq ?_)
 obtain ⟨⟨t36, t37⟩, h38, e⟩ := bind_of e
 try dsimp only at e
 refine wxM mixed 1 [1] 0 [(2, spP 17 [12, 13] (vs := [.agg #[vI i0_0, vI i0_1, vI i0_2, .slice a_i0_3 i0_3.length c_i0_3, .slice a_i0_4 i0_4.length c_i0_4], vI w1]) (render_Edges_v1.ok hE_ h_i0_4 h38))] (zWL [] ?_)
 refine w_ ?_
 by_cases c39 : t37 = 0
 ·rw [if_pos c39] at e
  have c39b : (t37 == 0) = true := beq_iff_eq.mpr c39
  refine wqM mixed [] 0 .nrm [(1, spE true 29 17 (.const .nilIface) (a := errV 157 A_ t37) (b := .nilIface) (r := t37 == 0) (eqErr (by kernel_rfl) rfl) (bnk c39b rfl))] (zQL [] ?_)
  refine w_ (w_seq (w_reg fun all => ?_))
  refine txM 2 [1] 0 [] (zTL [] ?_)
  refine t_as [(1, vI w1), (2, vP b34 0), (4, vP b35 0), (21, .agg #[vI i0_0, vI i0_1, vI i0_2, .slice a_i0_3 i0_3.length c_i0_3, .slice a_i0_4 i0_4.length c_i0_4]), (22, vI w1)] ([⟨b35, [vI 0, vI 0, .slice none 0 0], 3⟩, ⟨b34, [vI i0_0, vI i0_1, vI i0_2, .slice a_i0_3 i0_3.length c_i0_3, .slice a_i0_4 i0_4.length c_i0_4], 5⟩] : List Own) ?_
  obtain ⟨t40, h41, e⟩ := bind_of e
  refine t_call (vs := [.agg #[vI i0_0, vI i0_1, vI i0_2, .slice a_i0_3 i0_3.length c_i0_3, .slice a_i0_4 i0_4.length c_i0_4], vI w1]) (H1 := []) (F := ([⟨b35, [vI 0, vI 0, .slice none 0 0], 3⟩, ⟨b34, [vI i0_0, vI i0_1, vI i0_2, .slice a_i0_3 i0_3.length c_i0_3, .slice a_i0_4 i0_4.length c_i0_4], 5⟩] : List Own)) rfl rfl (by kernel_rfl) (sel_perm (is := []) (by kernel_rfl)) (render_layers_v1.ok hE_ h_i0_4 h41) ?_
  rintro _ _ S_ ⟨Q42a0, Q42c0, Q42F, rfl, rfl, hS_, Q42h0⟩
  obtain rfl := hS_.symm
  refine t_vs (H' := (([⟨b35, [vI 0, vI 0, .slice none 0 0], 3⟩, ⟨b34, [vI i0_0, vI i0_1, vI i0_2, .slice a_i0_3 i0_3.length c_i0_3, .slice a_i0_4 i0_4.length c_i0_4], 5⟩] : List Own) ++ (Q42F ++ []))) (S' := S) (VS.treeA (.a (.a (.f Q42F) (.l [])) (.l ([⟨b35, [vI 0, vI 0, .slice none 0 0], 3⟩, ⟨b34, [vI i0_0, vI i0_1, vI i0_2, .slice a_i0_3 i0_3.length c_i0_3, .slice a_i0_4 i0_4.length c_i0_4], 5⟩] : List Own))) (.a (.l ([⟨b35, [vI 0, vI 0, .slice none 0 0], 3⟩, ⟨b34, [vI i0_0, vI i0_1, vI i0_2, .slice a_i0_3 i0_3.length c_i0_3, .slice a_i0_4 i0_4.length c_i0_4], 5⟩] : List Own)) (.a (.f Q42F) (.l []))) [1, 1, 0] (by kernel_rfl)) ?_
  refine txF [Q42F] 1 [] 0 [] (zTL [] ?_)
  refine t_end (w_ ?_)
  obtain ⟨t43, h44, e⟩ := bind_of e
  refine wxM mixed 1 [1, 3] 1 [(3, spP 19 [25, 26] (vs := [.agg #[vI i0_0, vI i0_1, vI i0_2, .slice a_i0_3 i0_3.length c_i0_3, .slice a_i0_4 i0_4.length c_i0_4], vI w1]) (scale_Height_v1.ok hE_ h44))] fun b45 => zWL [] ?_
  refine w_ ?_
  obtain ⟨⟨y64, y66⟩, e47, e⟩ := bind_of e
  try dsimp only at e
  refine w_cut [4, 9] (fun σ_ H_ S_ => ∃ (a63 : Option Nat) (na63 : Nat) (a65 : Option Nat) (na65 : Nat), [(4, vP b35 0), (9, vP b45 0)] = σ_ ∧ (([⟨b45, [vI w1, vI t43, .slice (ad a63) y64.length (na63 / 1)], 3⟩, ⟨b35, [vI 0, vI 0, .slice (ad a65) y66.length (na65 / 1)], 3⟩, ⟨b34, [vI i0_0, vI i0_1, vI i0_2, .slice a_i0_3 i0_3.length c_i0_3, .slice a_i0_4 i0_4.length c_i0_4], 5⟩, ⟨a63, encL E_u8 y64, na63⟩, ⟨a65, encL E_u8 y66, na65⟩] : List Own) ++ (Q42F ++ [])) = H_ ∧ S = S_) ?_ ?_
  ·refine w_ ?_
   refine wxM mixed 1 [0] 0 [] (zWL [] ?_)
   refine w_ (w_block (w_vs VS.vac ?_))
   refine w_vs VS.vac ?_
   refine wk [(1, vI w1), (2, vP b34 0), (4, vP b35 0), (8, .slice Q42a0 t40.length Q42c0), (9, vP b45 0), (30, vI t43), (31, vI 0)] (w_vs (H' := (([⟨none, encL E_u8 ([] : List (Int)), 0⟩, ⟨none, encL E_u8 ([] : List (Int)), 0⟩, ⟨b45, [vI w1, vI t43, .slice (ad none) ([] : List (Int)).length (0 / 1)], 3⟩, ⟨b35, [vI 0, vI 0, .slice (ad none) ([] : List (Int)).length (0 / 1)], 3⟩, ⟨b34, [vI i0_0, vI i0_1, vI i0_2, .slice a_i0_3 i0_3.length c_i0_3, .slice a_i0_4 i0_4.length c_i0_4], 5⟩] : List Own) ++ (Q42F ++ []))) (S' := S) (VS.as (([⟨none, encL E_u8 ([] : List (Int)), 0⟩, ⟨none, encL E_u8 ([] : List (Int)), 0⟩, ⟨b45, [vI w1, vI t43, .slice (ad none) ([] : List (Int)).length (0 / 1)], 3⟩, ⟨b35, [vI 0, vI 0, .slice (ad none) ([] : List (Int)).length (0 / 1)], 3⟩, ⟨b34, [vI i0_0, vI i0_1, vI i0_2, .slice a_i0_3 i0_3.length c_i0_3, .slice a_i0_4 i0_4.length c_i0_4], 5⟩] : List Own) ++ (Q42F ++ [])) (VS.selT 5 [0, 0, 0, 0, 0] (by kernel_rfl))) ?_)
   refine w_loop (fun n_ σ_ H_ S_ => ∃ (x49 : Int) (y51 : List (Int)) (y53 : List (Int)), ∃ (a50 : Option Nat) (na50 : Nat) (a52 : Option Nat) (na52 : Nat), [(1, vI w1), (2, vP b34 0), (4, vP b35 0), (8, .slice Q42a0 t40.length Q42c0), (9, vP b45 0), (30, vI t43), (31, vI x49)] = σ_ ∧ (([⟨a50, encL E_u8 y51, na50⟩, ⟨a52, encL E_u8 y53, na52⟩, ⟨b45, [vI w1, vI t43, .slice (ad a50) y51.length (na50 / 1)], 3⟩, ⟨b35, [vI 0, vI 0, .slice (ad a52) y53.length (na52 / 1)], 3⟩, ⟨b34, [vI i0_0, vI i0_1, vI i0_2, .slice a_i0_3 i0_3.length c_i0_3, .slice a_i0_4 i0_4.length c_i0_4], 5⟩] : List Own) ++ (Q42F ++ [])) = H_ ∧ S = S_ ∧ render_Frame_v1.l0 n_ i0_0 i0_1 i0_2 i0_3 w1 t40 t43 x49 y51 y53 = some (y64, y66)) _ ⟨0, ([] : List (Int)), ([] : List (Int)), none, 0, none, 0, rfl, rfl, rfl, e47⟩ ?_
   rintro n62 σ_ H_ S_ ⟨x49, y51, y53, a50, na50, a52, na52, rfl, rfl, rfl, e47⟩
   cases n62 with
   | zero => rw [render_Frame_v1.l0.eq_1] at e47; cases e47
   | succ k_ =>
    rw [render_Frame_v1.l0.eq_2] at e47
    by_cases c54 : x49 < t43
    ·rw [if_pos c54] at e47
     have c54b : (decide (x49 < t43)) = true := decide_eq_true c54
     refine wxF mixed [Q42F] 2 [] 0 [(0, spQ (.bin .lss 31 30) [vI x49, vI t43] (congrArg (fun t => some (Value.bool t)) c54b))] (zWL [] ?_)
     refine w_ (w_seq (w_block ?_))
     refine wxM mixed 1 [] 0 [] (zWL [] ?_)
     refine w_ (w_as [(1, vI w1), (2, vP b34 0), (4, vP b35 0), (8, .slice Q42a0 t40.length Q42c0), (9, vP b45 0), (10, vI x49), (30, vI t43), (31, vI x49)] (([⟨a50, encL E_u8 y51, na50⟩, ⟨a52, encL E_u8 y53, na52⟩, ⟨b45, [vI w1, vI t43, .slice (ad a50) y51.length (na50 / 1)], 3⟩, ⟨b35, [vI 0, vI 0, .slice (ad a52) y53.length (na52 / 1)], 3⟩, ⟨b34, [vI i0_0, vI i0_1, vI i0_2, .slice a_i0_3 i0_3.length c_i0_3, .slice a_i0_4 i0_4.length c_i0_4], 5⟩] : List Own) ++ (Q42F ++ [])) ?_)
     obtain ⟨t55, h56, e47⟩ := bind_of e47
     obtain ⟨y58, hl59, e47⟩ := bind_of e47
     refine wk [(1, vI w1), (2, vP b34 0), (4, vP b35 0), (8, .slice Q42a0 t40.length Q42c0), (9, vP b45 0), (10, vI x49), (30, vI t43), (31, vI x49)] (w_gameQ mixed (by kernel_rfl) fun all G hend hstep hqf => ?_)
     have hg_3ff : ∀ (g60 : Option Nat) (ng60 : Nat) (N57 : Option Nat) (nN57 : Nat), G [true, true, true, true, true, true, true, true, true, true] [(1, vI w1), (2, vP b34 0), (4, vP b35 0), (8, .slice Q42a0 t40.length Q42c0), (9, vP b45 0), (30, vI t43), (31, vI x49)] (([⟨g60, encL E_u8 y58, ng60⟩, ⟨N57, encL E_u8 t55, nN57⟩, ⟨a52, encL E_u8 y53, na52⟩, ⟨b45, [vI w1, vI t43, .slice (ad g60) y58.length (ng60 / 1)], 3⟩, ⟨b35, [vI 0, vI 0, .slice (ad a52) y53.length (na52 / 1)], 3⟩, ⟨b34, [vI i0_0, vI i0_1, vI i0_2, .slice a_i0_3 i0_3.length c_i0_3, .slice a_i0_4 i0_4.length c_i0_4], 5⟩] : List Own) ++ (Q42F ++ [])) := by
      intro g60 ng60 N57 nN57
      refine hend _ _ _ (by kernel_rfl) ?_
      refine w_ ?_
      refine wqF mixed [Q42F] [] 0 .nrm [] (zQL [] ?_)
      exact ⟨k_, Nat.lt_succ_self _, _, _, S, keep_sub [1, 2, 4, 8, 9, 30, 31] (by kernel_rfl), VS.lb [0, 1, 1, 1, 1, 1] (by kernel_rfl), wr64 (x49 + 1), y58, y53, g60, ng60, a52, na52, rfl, rfl, rfl, e47⟩
     have hg_1ff : ∀ (g60 : Option Nat) (ng60 : Nat) (N57 : Option Nat) (nN57 : Nat), G [true, true, true, true, true, true, true, true, true, false] [(1, vI w1), (2, vP b34 0), (4, vP b35 0), (8, .slice Q42a0 t40.length Q42c0), (9, vP b45 0), (30, vI t43), (31, vI x49), (41, .slice (ad g60) y58.length (ng60 / 1)), (42, vP b45 2)] (([⟨g60, encL E_u8 y58, ng60⟩, ⟨N57, encL E_u8 t55, nN57⟩, ⟨a52, encL E_u8 y53, na52⟩, ⟨b45, [vI w1, vI t43, .slice (ad a50) y51.length (na50 / 1)], 3⟩, ⟨b35, [vI 0, vI 0, .slice (ad a52) y53.length (na52 / 1)], 3⟩, ⟨b34, [vI i0_0, vI i0_1, vI i0_2, .slice a_i0_3 i0_3.length c_i0_3, .slice a_i0_4 i0_4.length c_i0_4], 5⟩] : List Own) ++ (Q42F ++ [])) := by
      intro g60 ng60 N57 nN57
      refine hstep [9] _ _ _ (by kernel_rfl) (List.cons_ne_nil _ _) ⟨?_, trivial⟩
      ·refine tT (t_sti 3 (cs := [vI w1, vI t43, .slice (ad g60) y58.length (ng60 / 1)]) rfl rfl rfl rfl rfl rfl rfl rfl rfl ?_)
       exact tfx (hg_3ff g60 ng60 N57 nN57)
     have hg_7f : ∀ (N57 : Option Nat) (nN57 : Nat), G [true, true, true, true, true, true, true, false, false, false] [(1, vI w1), (2, vP b34 0), (4, vP b35 0), (8, .slice Q42a0 t40.length Q42c0), (9, vP b45 0), (30, vI t43), (31, vI x49), (35, .slice (ad a50) y51.length (na50 / 1)), (40, .slice (ad N57) t55.length (nN57 / 1))] (([⟨N57, encL E_u8 t55, nN57⟩, ⟨a50, encL E_u8 y51, na50⟩, ⟨a52, encL E_u8 y53, na52⟩, ⟨b45, [vI w1, vI t43, .slice (ad a50) y51.length (na50 / 1)], 3⟩, ⟨b35, [vI 0, vI 0, .slice (ad a52) y53.length (na52 / 1)], 3⟩, ⟨b34, [vI i0_0, vI i0_1, vI i0_2, .slice a_i0_3 i0_3.length c_i0_3, .slice a_i0_4 i0_4.length c_i0_4], 5⟩] : List Own) ++ (Q42F ++ [])) := by
      intro N57 nN57
      refine hstep [7] _ _ _ (by kernel_rfl) (List.cons_ne_nil _ _) ⟨?_, trivial⟩
      ·refine tT (t_pure (fun w_ h_ => apO (E := E_u8) (z := 1) h_ (j := 0) rfl rfl (by decide)) fun hy_ => ?_)
       refine t_appX (E := E_u8) (L := y51) (X := t55) (F := (([⟨N57, encL E_u8 t55, nN57⟩, ⟨a52, encL E_u8 y53, na52⟩, ⟨b45, [vI w1, vI t43, .slice (ad a50) y51.length (na50 / 1)], 3⟩, ⟨b35, [vI 0, vI 0, .slice (ad a52) y53.length (na52 / 1)], 3⟩, ⟨b34, [vI i0_0, vI i0_1, vI i0_2, .slice a_i0_3 i0_3.length c_i0_3, .slice a_i0_4 i0_4.length c_i0_4], 5⟩] : List Own) ++ (Q42F ++ []))) rfl rfl rfl rfl (sel_perm (is := [1]) (by kernel_rfl)) rfl hy_ rfl (by decide) (by decide) rfl hl59 fun g60 ng60 => ?_
       exact t_fin0 (hqf 8 [1, 2, 4, 8, 9, 30, 31, 41, 42] _ _ _ _ (by kernel_rfl) (by kernel_rfl) (hg_1ff g60 ng60 N57 nN57))
     have hg_3f : G [true, true, true, true, true, true, false, false, false, false] [(1, vI w1), (2, vP b34 0), (4, vP b35 0), (8, .slice Q42a0 t40.length Q42c0), (9, vP b45 0), (30, vI t43), (31, vI x49), (35, .slice (ad a50) y51.length (na50 / 1)), (36, .agg #[vI i0_0, vI i0_1, vI i0_2, .slice a_i0_3 i0_3.length c_i0_3, .slice a_i0_4 i0_4.length c_i0_4]), (37, .slice Q42a0 t40.length Q42c0), (38, vI w1), (39, vI x49)] (([⟨a50, encL E_u8 y51, na50⟩, ⟨a52, encL E_u8 y53, na52⟩, ⟨b45, [vI w1, vI t43, .slice (ad a50) y51.length (na50 / 1)], 3⟩, ⟨b35, [vI 0, vI 0, .slice (ad a52) y53.length (na52 / 1)], 3⟩, ⟨b34, [vI i0_0, vI i0_1, vI i0_2, .slice a_i0_3 i0_3.length c_i0_3, .slice a_i0_4 i0_4.length c_i0_4], 5⟩] : List Own) ++ (Q42F ++ [])) := by
      refine hstep [6] _ _ _ (by kernel_rfl) (List.cons_ne_nil _ _) ⟨?_, trivial⟩
      ·refine tT (t_call (vs := [.agg #[vI i0_0, vI i0_1, vI i0_2, .slice a_i0_3 i0_3.length c_i0_3, .slice a_i0_4 i0_4.length c_i0_4], .slice Q42a0 t40.length Q42c0, vI w1, vI x49]) (H1 := ((Q42F ++ []) ++ [])) (F := ([⟨a50, encL E_u8 y51, na50⟩, ⟨a52, encL E_u8 y53, na52⟩, ⟨b45, [vI w1, vI t43, .slice (ad a50) y51.length (na50 / 1)], 3⟩, ⟨b35, [vI 0, vI 0, .slice (ad a52) y53.length (na52 / 1)], 3⟩, ⟨b34, [vI i0_0, vI i0_1, vI i0_2, .slice a_i0_3 i0_3.length c_i0_3, .slice a_i0_4 i0_4.length c_i0_4], 5⟩] : List Own)) rfl rfl (by kernel_rfl) (tree_perm (.a (.l ([⟨a50, encL E_u8 y51, na50⟩, ⟨a52, encL E_u8 y53, na52⟩, ⟨b45, [vI w1, vI t43, .slice (ad a50) y51.length (na50 / 1)], 3⟩, ⟨b35, [vI 0, vI 0, .slice (ad a52) y53.length (na52 / 1)], 3⟩, ⟨b34, [vI i0_0, vI i0_1, vI i0_2, .slice a_i0_3 i0_3.length c_i0_3, .slice a_i0_4 i0_4.length c_i0_4], 5⟩] : List Own)) (.a (.f Q42F) (.l []))) (.a (.a (.f Q42F) (.l [])) (.l ([] : List Own))) (.l ([⟨a50, encL E_u8 y51, na50⟩, ⟨a52, encL E_u8 y53, na52⟩, ⟨b45, [vI w1, vI t43, .slice (ad a50) y51.length (na50 / 1)], 3⟩, ⟨b35, [vI 0, vI 0, .slice (ad a52) y53.length (na52 / 1)], 3⟩, ⟨b34, [vI i0_0, vI i0_1, vI i0_2, .slice a_i0_3 i0_3.length c_i0_3, .slice a_i0_4 i0_4.length c_i0_4], 5⟩] : List Own)) [5] (by kernel_rfl)) (cal_lendF (Qc := fun v_ H_ => ∃ (N57 : Option Nat) (nN57 : Nat), v_ = (.slice (ad N57) t55.length (nN57 / 1)) ∧ H_ = ([⟨N57, encL E_u8 t55, nN57⟩] : List Own)) (Q42F ++ []) fun S1_ le1_ hp1_ hs1_ hn1_ ex1_ => (render_row_v1.ok (EO.mono hE_ le1_ hp1_) (SlE.mono h_i0_3 le1_) (SlN.mono Q42h0 (rd_lend hs1_ le1_ (sub_app (seg_in 0 (X := (Q42F ++ [])) rfl seg_hd) sub_nil))) h56).mono fun _ _ _ ⟨N57, nN57, h1_, h2_, h3_⟩ => ⟨⟨N57, nN57, h1_, h2_⟩, h3_⟩) ?_)
       rintro _ _ S_ ⟨⟨_, rfl, N57, nN57, rfl, rfl⟩, hS_⟩
       obtain rfl := hS_.symm
       refine t_vs (H' := (([⟨N57, encL E_u8 t55, nN57⟩, ⟨a50, encL E_u8 y51, na50⟩, ⟨a52, encL E_u8 y53, na52⟩, ⟨b45, [vI w1, vI t43, .slice (ad a50) y51.length (na50 / 1)], 3⟩, ⟨b35, [vI 0, vI 0, .slice (ad a52) y53.length (na52 / 1)], 3⟩, ⟨b34, [vI i0_0, vI i0_1, vI i0_2, .slice a_i0_3 i0_3.length c_i0_3, .slice a_i0_4 i0_4.length c_i0_4], 5⟩] : List Own) ++ (Q42F ++ []))) (S' := S) (VS.treeA (.a (.a (.a (.f Q42F) (.l [])) (.l ([⟨N57, encL E_u8 t55, nN57⟩] : List Own))) (.l ([⟨a50, encL E_u8 y51, na50⟩, ⟨a52, encL E_u8 y53, na52⟩, ⟨b45, [vI w1, vI t43, .slice (ad a50) y51.length (na50 / 1)], 3⟩, ⟨b35, [vI 0, vI 0, .slice (ad a52) y53.length (na52 / 1)], 3⟩, ⟨b34, [vI i0_0, vI i0_1, vI i0_2, .slice a_i0_3 i0_3.length c_i0_3, .slice a_i0_4 i0_4.length c_i0_4], 5⟩] : List Own))) (.a (.l ([⟨N57, encL E_u8 t55, nN57⟩, ⟨a50, encL E_u8 y51, na50⟩, ⟨a52, encL E_u8 y53, na52⟩, ⟨b45, [vI w1, vI t43, .slice (ad a50) y51.length (na50 / 1)], 3⟩, ⟨b35, [vI 0, vI 0, .slice (ad a52) y53.length (na52 / 1)], 3⟩, ⟨b34, [vI i0_0, vI i0_1, vI i0_2, .slice a_i0_3 i0_3.length c_i0_3, .slice a_i0_4 i0_4.length c_i0_4], 5⟩] : List Own)) (.a (.f Q42F) (.l []))) [1, 1, 1, 1, 1, 1, 0] (by kernel_rfl)) ?_
       exact tfx (hg_7f N57 nN57)
     have hg_39 : G [true, false, false, true, true, true, false, false, false, false] [(1, vI w1), (2, vP b34 0), (4, vP b35 0), (8, .slice Q42a0 t40.length Q42c0), (9, vP b45 0), (30, vI t43), (31, vI x49), (34, vP b45 2), (37, .slice Q42a0 t40.length Q42c0), (38, vI w1), (39, vI x49)] (([⟨a50, encL E_u8 y51, na50⟩, ⟨a52, encL E_u8 y53, na52⟩, ⟨b45, [vI w1, vI t43, .slice (ad a50) y51.length (na50 / 1)], 3⟩, ⟨b35, [vI 0, vI 0, .slice (ad a52) y53.length (na52 / 1)], 3⟩, ⟨b34, [vI i0_0, vI i0_1, vI i0_2, .slice a_i0_3 i0_3.length c_i0_3, .slice a_i0_4 i0_4.length c_i0_4], 5⟩] : List Own) ++ (Q42F ++ [])) := by
      refine hstep [1, 2] _ _ _ (by kernel_rfl) (List.cons_ne_nil _ _) ⟨?_, ?_, trivial⟩
      ·refine tT (t_v (.ld1 rfl rfl rfl (.at 2 rfl rfl)) (tf [(1, vI w1), (2, vP b34 0), (4, vP b35 0), (8, .slice Q42a0 t40.length Q42c0), (9, vP b45 0), (30, vI t43), (31, vI x49), (35, .slice (ad a50) y51.length (na50 / 1)), (37, .slice Q42a0 t40.length Q42c0), (38, vI w1), (39, vI x49)] ?_))
       refine hstep [2] _ _ _ (by kernel_rfl) (List.cons_ne_nil _ _) ⟨?_, trivial⟩
       ·refine tT (t_v (.ldn rfl rfl rfl (.at 4 rfl rfl)) ?_)
        exact tfx hg_3f
      ·refine tT (t_v (.ldn rfl rfl rfl (.at 4 rfl rfl)) (tf [(1, vI w1), (2, vP b34 0), (4, vP b35 0), (8, .slice Q42a0 t40.length Q42c0), (9, vP b45 0), (30, vI t43), (31, vI x49), (34, vP b45 2), (36, .agg #[vI i0_0, vI i0_1, vI i0_2, .slice a_i0_3 i0_3.length c_i0_3, .slice a_i0_4 i0_4.length c_i0_4]), (37, .slice Q42a0 t40.length Q42c0), (38, vI w1), (39, vI x49)] ?_))
       refine hstep [1, 6] _ _ _ (by kernel_rfl) (List.cons_ne_nil _ _) ⟨?_, ?_, trivial⟩
       ·refine tT (t_v (.ld1 rfl rfl rfl (.at 2 rfl rfl)) ?_)
        exact tfx hg_3f
       ·refine tT (t_call (vs := [.agg #[vI i0_0, vI i0_1, vI i0_2, .slice a_i0_3 i0_3.length c_i0_3, .slice a_i0_4 i0_4.length c_i0_4], .slice Q42a0 t40.length Q42c0, vI w1, vI x49]) (H1 := ((Q42F ++ []) ++ [])) (F := ([⟨a50, encL E_u8 y51, na50⟩, ⟨a52, encL E_u8 y53, na52⟩, ⟨b45, [vI w1, vI t43, .slice (ad a50) y51.length (na50 / 1)], 3⟩, ⟨b35, [vI 0, vI 0, .slice (ad a52) y53.length (na52 / 1)], 3⟩, ⟨b34, [vI i0_0, vI i0_1, vI i0_2, .slice a_i0_3 i0_3.length c_i0_3, .slice a_i0_4 i0_4.length c_i0_4], 5⟩] : List Own)) rfl rfl (by kernel_rfl) (tree_perm (.a (.l ([⟨a50, encL E_u8 y51, na50⟩, ⟨a52, encL E_u8 y53, na52⟩, ⟨b45, [vI w1, vI t43, .slice (ad a50) y51.length (na50 / 1)], 3⟩, ⟨b35, [vI 0, vI 0, .slice (ad a52) y53.length (na52 / 1)], 3⟩, ⟨b34, [vI i0_0, vI i0_1, vI i0_2, .slice a_i0_3 i0_3.length c_i0_3, .slice a_i0_4 i0_4.length c_i0_4], 5⟩] : List Own)) (.a (.f Q42F) (.l []))) (.a (.a (.f Q42F) (.l [])) (.l ([] : List Own))) (.l ([⟨a50, encL E_u8 y51, na50⟩, ⟨a52, encL E_u8 y53, na52⟩, ⟨b45, [vI w1, vI t43, .slice (ad a50) y51.length (na50 / 1)], 3⟩, ⟨b35, [vI 0, vI 0, .slice (ad a52) y53.length (na52 / 1)], 3⟩, ⟨b34, [vI i0_0, vI i0_1, vI i0_2, .slice a_i0_3 i0_3.length c_i0_3, .slice a_i0_4 i0_4.length c_i0_4], 5⟩] : List Own)) [5] (by kernel_rfl)) (cal_lendF (Qc := fun v_ H_ => ∃ (N57 : Option Nat) (nN57 : Nat), v_ = (.slice (ad N57) t55.length (nN57 / 1)) ∧ H_ = ([⟨N57, encL E_u8 t55, nN57⟩] : List Own)) (Q42F ++ []) fun S1_ le1_ hp1_ hs1_ hn1_ ex1_ => (render_row_v1.ok (EO.mono hE_ le1_ hp1_) (SlE.mono h_i0_3 le1_) (SlN.mono Q42h0 (rd_lend hs1_ le1_ (sub_app (seg_in 0 (X := (Q42F ++ [])) rfl seg_hd) sub_nil))) h56).mono fun _ _ _ ⟨N57, nN57, h1_, h2_, h3_⟩ => ⟨⟨N57, nN57, h1_, h2_⟩, h3_⟩) ?_)
        rintro _ _ S_ ⟨⟨_, rfl, N57, nN57, rfl, rfl⟩, hS_⟩
        obtain rfl := hS_.symm
        refine t_vs (H' := (([⟨N57, encL E_u8 t55, nN57⟩, ⟨a50, encL E_u8 y51, na50⟩, ⟨a52, encL E_u8 y53, na52⟩, ⟨b45, [vI w1, vI t43, .slice (ad a50) y51.length (na50 / 1)], 3⟩, ⟨b35, [vI 0, vI 0, .slice (ad a52) y53.length (na52 / 1)], 3⟩, ⟨b34, [vI i0_0, vI i0_1, vI i0_2, .slice a_i0_3 i0_3.length c_i0_3, .slice a_i0_4 i0_4.length c_i0_4], 5⟩] : List Own) ++ (Q42F ++ []))) (S' := S) (VS.treeA (.a (.a (.a (.f Q42F) (.l [])) (.l ([⟨N57, encL E_u8 t55, nN57⟩] : List Own))) (.l ([⟨a50, encL E_u8 y51, na50⟩, ⟨a52, encL E_u8 y53, na52⟩, ⟨b45, [vI w1, vI t43, .slice (ad a50) y51.length (na50 / 1)], 3⟩, ⟨b35, [vI 0, vI 0, .slice (ad a52) y53.length (na52 / 1)], 3⟩, ⟨b34, [vI i0_0, vI i0_1, vI i0_2, .slice a_i0_3 i0_3.length c_i0_3, .slice a_i0_4 i0_4.length c_i0_4], 5⟩] : List Own))) (.a (.l ([⟨N57, encL E_u8 t55, nN57⟩, ⟨a50, encL E_u8 y51, na50⟩, ⟨a52, encL E_u8 y53, na52⟩, ⟨b45, [vI w1, vI t43, .slice (ad a50) y51.length (na50 / 1)], 3⟩, ⟨b35, [vI 0, vI 0, .slice (ad a52) y53.length (na52 / 1)], 3⟩, ⟨b34, [vI i0_0, vI i0_1, vI i0_2, .slice a_i0_3 i0_3.length c_i0_3, .slice a_i0_4 i0_4.length c_i0_4], 5⟩] : List Own)) (.a (.f Q42F) (.l []))) [1, 1, 1, 1, 1, 1, 0] (by kernel_rfl)) ?_
        refine tf [(1, vI w1), (2, vP b34 0), (4, vP b35 0), (8, .slice Q42a0 t40.length Q42c0), (9, vP b45 0), (30, vI t43), (31, vI x49), (34, vP b45 2), (40, .slice (ad N57) t55.length (nN57 / 1))] ?_
        refine hstep [1] _ _ _ (by kernel_rfl) (List.cons_ne_nil _ _) ⟨?_, trivial⟩
        ·refine tT (t_v (.ld1 rfl rfl rfl (.at 3 rfl rfl)) ?_)
         exact tfx (hg_7f N57 nN57)
     have hg_0 : G [false, false, false, false, false, false, false, false, false, false] [(1, vI w1), (2, vP b34 0), (4, vP b35 0), (8, .slice Q42a0 t40.length Q42c0), (9, vP b45 0), (10, vI x49), (30, vI t43), (31, vI x49)] (([⟨a50, encL E_u8 y51, na50⟩, ⟨a52, encL E_u8 y53, na52⟩, ⟨b45, [vI w1, vI t43, .slice (ad a50) y51.length (na50 / 1)], 3⟩, ⟨b35, [vI 0, vI 0, .slice (ad a52) y53.length (na52 / 1)], 3⟩, ⟨b34, [vI i0_0, vI i0_1, vI i0_2, .slice a_i0_3 i0_3.length c_i0_3, .slice a_i0_4 i0_4.length c_i0_4], 5⟩] : List Own) ++ (Q42F ++ [])) := by
      exact hqf 0 [1, 2, 4, 8, 9, 10, 30, 31, 34] _ _ _ _ (by kernel_rfl) (by kernel_rfl) (hqf 3 [1, 2, 4, 8, 9, 10, 30, 31, 34, 37] _ [(1, vI w1), (2, vP b34 0), (4, vP b35 0), (8, .slice Q42a0 t40.length Q42c0), (9, vP b45 0), (10, vI x49), (30, vI t43), (31, vI x49), (34, vP b45 2)] _ _ (by kernel_rfl) (by kernel_rfl) (hqf 4 [1, 2, 4, 8, 9, 10, 30, 31, 34, 37, 38] _ [(1, vI w1), (2, vP b34 0), (4, vP b35 0), (8, .slice Q42a0 t40.length Q42c0), (9, vP b45 0), (10, vI x49), (30, vI t43), (31, vI x49), (34, vP b45 2), (37, .slice Q42a0 t40.length Q42c0)] _ _ (by kernel_rfl) (by kernel_rfl) (hqf 5 [1, 2, 4, 8, 9, 30, 31, 34, 37, 38, 39] _ [(1, vI w1), (2, vP b34 0), (4, vP b35 0), (8, .slice Q42a0 t40.length Q42c0), (9, vP b45 0), (10, vI x49), (30, vI t43), (31, vI x49), (34, vP b45 2), (37, .slice Q42a0 t40.length Q42c0), (38, vI w1)] _ _ (by kernel_rfl) (by kernel_rfl) hg_39)))
     exact hg_0
    ·rw [if_neg c54] at e47
     have c54b : (decide (x49 < t43)) = false := decide_eq_false c54
     refine wqF mixed [Q42F] [] 0 (.ex 0) [(0, spQ (.bin .lss 31 30) [vI x49, vI t43] (congrArg (fun t => some (Value.bool t)) c54b))] (zQL [] ?_)
     simp only [Option.some.injEq, Prod.mk.injEq] at e47
     obtain ⟨rfl, rfl⟩ := e47
     exact ⟨_, S, VS.lb [2, 2, 2, 0, 0, 0] (by kernel_rfl), a50, na50, a52, na52, by kernel_rfl, rfl, rfl⟩
  ·rintro σ_ H_ S_ ⟨a63, na63, a65, na65, rfl, rfl, rfl⟩
   refine wxF mixed [Q42F] 1 [0, 1] 0 [] (zWL [0, 2] ?_)
   refine w_ (w_as [(4, vP b35 0), (5, .nilIface)] (([⟨b35, [vI w1, vI t43, .slice (ad a63) y64.length (na63 / 1)], 3⟩, ⟨a63, encL E_u8 y64, na63⟩, ⟨a65, encL E_u8 y66, na65⟩] : List Own) ++ (Q42F ++ [])) ?_)
   refine w_ret ?_
   simp only [Option.some.injEq, Prod.mk.injEq] at e
   obtain ⟨rfl, rfl, rfl, rfl⟩ := e
   exact ⟨[_, _], _, S, ⟨⟨_, _, _, rfl, .at 0 rfl rfl, rfl⟩, (show gt _ _ = some _ from (by kernel_rfl)), trivial⟩, VS.treeA (.a (.l ([⟨b35, [vI w1, vI t43, .slice (ad a63) y64.length (na63 / 1)], 3⟩, ⟨a63, encL E_u8 y64, na63⟩, ⟨a65, encL E_u8 y66, na65⟩] : List Own)) (.a (.f Q42F) (.l []))) (.l ([⟨a63, encL E_u8 y64, na63⟩] : List Own)) [1] (by kernel_rfl), a63, na63, rfl, rfl, rfl⟩
 ·rw [if_neg c39] at e
  have c39b : (t37 == 0) = false := beq_eq_false_iff_ne.mpr c39
  refine wxM mixed 1 [] 0 [(1, spE true 29 17 (.const .nilIface) (a := errV 157 A_ t37) (b := .nilIface) (r := t37 == 0) (eqErr (by kernel_rfl) rfl) (bnk c39b rfl))] (zWL [] ?_)
  refine w_ (w_ct (w_ ?_))
  refine wxM mixed 1 [0] 0 [] (zWL [1] ?_)
  refine w_ (w_as [(4, vP b35 0), (5, errV 157 A_ t37)] ([⟨b35, [vI 0, vI 0, .slice none 0 0], 3⟩] : List Own) ?_)
  refine w_ret ?_
  simp only [Option.some.injEq, Prod.mk.injEq] at e
  obtain ⟨rfl, rfl, rfl, rfl⟩ := e
  exact ⟨[_, _], _, S, ⟨⟨_, _, _, rfl, .at 0 rfl rfl, rfl⟩, (show gt _ _ = some _ from (by kernel_rfl)), trivial⟩, VS.trans VS.vac (VS.sel [0] (by kernel_rfl)), none, 0, rfl, rfl, rfl⟩

/-- glyphiclaw27.first -/
def c6 : C := (.seq (.reg [oq 0 (.mv (.const (vB false)))]) (.seq (.reg [oq 4 (.bld [(vI 0), (vI 0), (vI 0), (.slice none 0 0), (.slice none 0 0)] [(0, 1, (.const (vI 1))), (1, 1, (.const (vI 2)))]), oq 5 (.call 7 [4, (.const (vI 1))]), oq 3 (.mv 5), oq 6 (.xt 0 3), oq 7 (.xt 1 3), oq 1 (.new [(vI 0), (vI 0), (.slice none 0 0)]), ⟨none, .st 3 1 6, none⟩, oq 2 (.mv 7)]) (.seq (.reg [oq 8 (.mv 2), oq 9 (.eqt false 29 8 (.const .nilIface)), oq 10 (.mv 9), ⟨(some 11), .pad 0 1, (some (10, true))⟩, ⟨(some 12), .ld none 11, (some (10, true))⟩, ⟨(some 13), .bin .eql 12 (.const (vI 1)), (some (10, true))⟩, oq 14 (.pk 10 13 (.const (vB false))), oq 15 (.mv 14), ⟨(some 16), .pad 1 1, (some (15, true))⟩, ⟨(some 17), .ld none 16, (some (15, true))⟩, ⟨(some 18), .bin .eql 17 (.const (vI 2)), (some (15, true))⟩, oq 19 (.pk 15 18 (.const (vB false))), oq 20 (.mv 19), ⟨(some 21), .pad 2 1, (some (20, true))⟩, ⟨(some 22), .ld none 21, (some (20, true))⟩, ⟨(some 23), .lns 22, (some (20, true))⟩, ⟨(some 24), .bin .eql 23 (.const (vI 8)), (some (20, true))⟩, oq 25 (.pk 20 24 (.const (vB false))), oq 26 (.mv 25), ⟨(some 27), .pad 2 1, (some (26, true))⟩, ⟨(some 28), .ld none 27, (some (26, true))⟩, ⟨(some 29), .ixs 1 28 (.const (vI 0)), (some (26, true))⟩, ⟨(some 30), .ld none 29, (some (26, true))⟩, ⟨(some 31), .bin .eql 30 (.const (.int .u8 0)), (some (26, true))⟩, oq 32 (.pk 26 31 (.const (vB false))), oq 0 (.mv 32)]) .ret)))
def glyphiclaw27_first.f (k : Nat)  : Option (Bool) := (render_Frame_v1.f k 1 2 0 ([] : List (Int × Int × Int × Int)) ([] : List (Int × Int × Int × Int × Int × Int × Int × Int × Int × Int × List (Int × Int × List (Int × Int × Int × Int × Int × Int × Int) × Bool))) 1).bind fun (t1, t2, t3, t4) => (if t3 = 0 then (if t1 = 1 then (if t2 = 2 then (if (t4.length : Int) = 8 then ((lgt t4 0).bind fun x12 => (some (x12 == 0))) else (some false)) else (some false)) else (some false)) else (some false))
theorem glyphiclaw27_first.ok {S : Seal} {k : Nat}  {r0_ : Bool}{A_ : Int → Addr} (hE_ : EO gsE S A_ 157) (e : glyphiclaw27_first.f k  = some r0_) :
    Cal Tryd.prog 6 [] [] S fun v H' S' => v = .bool r0_ ∧ H' = [] ∧ S' = S := by
 unfold glyphiclaw27_first.f at e
 refine cal_of (c := c6) (N := 33) Tryd.func6 rfl rfl (by kernel_rfl) (rs := [.t 0]) (by kernel_rfl) (Nat.le_of_ble_eq_true rfl) ?_
 unfold c6
 obtain ⟨⟨t1, t2, t3, t4⟩, h5, e⟩ := bind_of e
 try dsimp only at e
 refine wx mixed 2 [1] 1 [(2, spC 7 [4, (.const (vI 1))] [] [] [1, 0] 1 (fun l_ => .tuple #[.agg #[vI t1, vI t2, .slice (ad (l_.O 0)) t4.length ((l_.N 0) / 1)], errV 157 A_ t3]) (fun l_ => [[⟨(l_.O 0), encL E_u8 t4, (l_.N 0)⟩]]) (vs := [.agg #[vI 1, vI 2, vI 0, .slice none ([] : List (Int × Int × Int × Int)).length 0, .slice none ([] : List (Int × Int × Int × Int × Int × Int × Int × Int × Int × Int × List (Int × Int × List (Int × Int × Int × Int × Int × Int × Int) × Bool))).length 0], vI 1]) rfl (((render_Frame_v1.ok hE_ (SlE.ofN SlN.nil) SlN.nil h5)).mono fun _ _ _ ⟨N6, nN6, h1_, h2_, h3_⟩ => ⟨un ⟨[nN6], [N6], [], [], []⟩, h1_.trans (by kernel_rfl), h2_.trans (by kernel_rfl), h3_⟩))] fun b7 N6 nN6 => zWL [] ?_
 refine w_ ?_
 by_cases c8 : t3 = 0
 ·rw [if_pos c8] at e
  have c8b : (t3 == 0) = true := beq_iff_eq.mpr c8
  by_cases c9 : t1 = 1
  ·rw [if_pos c9] at e
   have c9b : (t1 == 1) = true := beq_iff_eq.mpr c9
   by_cases c10 : t2 = 2
   ·rw [if_pos c10] at e
    have c10b : (t2 == 2) = true := beq_iff_eq.mpr c10
    by_cases c11 : (t4.length : Int) = 8
    ·rw [if_pos c11] at e
     have c11b : ((t4.length : Int) == 8) = true := beq_iff_eq.mpr c11
     obtain ⟨x12, hx13, e⟩ := bind_of e
     refine wxM mixed 1 [0, 0, 0, 0, 1, 1] 0 [(1, spE false 29 8 (.const .nilIface) (a := errV 157 A_ t3) (b := .nilIface) (r := t3 == 0) (eqErr (by kernel_rfl) rfl) (bnk c8b rfl)), (5, spQ (.bin .eql 12 (.const (vI 1))) [vI t1, vI 1] (congrArg (fun t => some (Value.bool t)) c9b)), (10, spQ (.bin .eql 17 (.const (vI 2))) [vI t2, vI 2] (congrArg (fun t => some (Value.bool t)) c10b)), (16, spQ (.bin .eql 23 (.const (vI 8))) [vI (t4.length : Int), vI 8] (congrArg (fun t => some (Value.bool t)) c11b)), (21, spH (.ixs 1 28 (.const (vI 0))) [.slice (ad N6) t4.length (nN6 / 1), vI 0] [[⟨N6, encL E_u8 t4, nN6⟩]] (fun _ => ixl (E := E_u8) (j := 0) rfl rfl rfl (by decide) rfl hx13) (by intro h_; cases h_)), (22, spL1 29 (bk N6) ((0 : Int).toNat * 1 + 0) [[⟨N6, encL E_u8 t4, nN6⟩]] (fun _ => .lst 0 rfl (encL_at (lgt_in hx13).1 rfl)))] (zWL [0] ?_)
     refine w_ (w_ret ?_)
     obtain rfl := Option.some.inj e
     exact ⟨[_], [], S, ⟨(show gt _ _ = some _ from (by kernel_rfl)), trivial⟩, VS.none, rfl, rfl, rfl⟩
    ·rw [if_neg c11] at e
     have c11b : ((t4.length : Int) == 8) = false := beq_eq_false_iff_ne.mpr c11
     refine wxM mixed 1 [0, 0, 0, 0, 0] 0 [(1, spE false 29 8 (.const .nilIface) (a := errV 157 A_ t3) (b := .nilIface) (r := t3 == 0) (eqErr (by kernel_rfl) rfl) (bnk c8b rfl)), (5, spQ (.bin .eql 12 (.const (vI 1))) [vI t1, vI 1] (congrArg (fun t => some (Value.bool t)) c9b)), (10, spQ (.bin .eql 17 (.const (vI 2))) [vI t2, vI 2] (congrArg (fun t => some (Value.bool t)) c10b)), (16, spQ (.bin .eql 23 (.const (vI 8))) [vI (t4.length : Int), vI 8] (congrArg (fun t => some (Value.bool t)) c11b))] (zWL [0] ?_)
     refine w_ (w_ret ?_)
     obtain rfl := Option.some.inj e
     exact ⟨[_], [], S, ⟨(show gt _ _ = some _ from (by kernel_rfl)), trivial⟩, VS.none, rfl, rfl, rfl⟩
   ·rw [if_neg c10] at e
    have c10b : (t2 == 2) = false := beq_eq_false_iff_ne.mpr c10
    refine wxM mixed 1 [0, 0, 0, 0, 0] 0 [(1, spE false 29 8 (.const .nilIface) (a := errV 157 A_ t3) (b := .nilIface) (r := t3 == 0) (eqErr (by kernel_rfl) rfl) (bnk c8b rfl)), (5, spQ (.bin .eql 12 (.const (vI 1))) [vI t1, vI 1] (congrArg (fun t => some (Value.bool t)) c9b)), (10, spQ (.bin .eql 17 (.const (vI 2))) [vI t2, vI 2] (congrArg (fun t => some (Value.bool t)) c10b))] (zWL [0] ?_)
    refine w_ (w_ret ?_)
    obtain rfl := Option.some.inj e
    exact ⟨[_], [], S, ⟨(show gt _ _ = some _ from (by kernel_rfl)), trivial⟩, VS.none, rfl, rfl, rfl⟩
  ·rw [if_neg c9] at e
   have c9b : (t1 == 1) = false := beq_eq_false_iff_ne.mpr c9
   refine wxM mixed 1 [0, 0, 0, 0, 0] 0 [(1, spE false 29 8 (.const .nilIface) (a := errV 157 A_ t3) (b := .nilIface) (r := t3 == 0) (eqErr (by kernel_rfl) rfl) (bnk c8b rfl)), (5, spQ (.bin .eql 12 (.const (vI 1))) [vI t1, vI 1] (congrArg (fun t => some (Value.bool t)) c9b))] (zWL [0] ?_)
   refine w_ (w_ret ?_)
   obtain rfl := Option.some.inj e
   exact ⟨[_], [], S, ⟨(show gt _ _ = some _ from (by kernel_rfl)), trivial⟩, VS.none, rfl, rfl, rfl⟩
 ·rw [if_neg c8] at e
  have c8b : (t3 == 0) = false := beq_eq_false_iff_ne.mpr c8
  refine wxM mixed 1 [0, 0, 0, 0, 0] 0 [(1, spE false 29 8 (.const .nilIface) (a := errV 157 A_ t3) (b := .nilIface) (r := t3 == 0) (eqErr (by kernel_rfl) rfl) (bnk c8b rfl))] (zWL [0] ?_)
  refine w_ (w_ret ?_)
  obtain rfl := Option.some.inj e
  exact ⟨[_], [], S, ⟨(show gt _ _ = some _ from (by kernel_rfl)), trivial⟩, VS.none, rfl, rfl, rfl⟩

/-- glyphicworld.Number -/
def c15 : C := (.seq (.reg [oq 4 (.mv (.const (vI 0)))]) (.seq (.reg [oq 6 (.mv 0), oq 7 (.mv 1), oq 8 (.bin .rem 6 7), oq 5 (.mv 8)]) (.seq (.seq (.reg [oq 9 (.mv 5), oq 10 (.bin .lss 9 (.const (vI 0)))]) (.cond 10 (.reg [oq 11 (.mv 5), oq 12 (.mv 1), oq 13 (.bin .add 11 12), oq 5 (.mv 13)]) .skip)) (.seq (.reg [oq 14 (.mv 5), oq 4 (.mv 14)]) .ret))))
def glyphicworld_Number.f (n0 : Int) (below1 : Int) : Option (Int) := if below1 = 0 then none else (if (Int.tmod n0 below1) < 0 then (some (wr64 ((Int.tmod n0 below1) + below1))) else (some (Int.tmod n0 below1)))
theorem glyphicworld_Number.ok {S : Seal} {n0 below1 r0_ : Int}{A_ : Int → Addr} (hE_ : EO gsE S A_ 157) (e : glyphicworld_Number.f n0 below1 = some r0_) :
    Cal Tryd.prog 15 [vI n0, vI below1] [] S fun v H' S' => v = vI r0_ ∧ H' = [] ∧ S' = S := by
 unfold glyphicworld_Number.f at e
 refine cal_of (c := c15) (N := 15) Tryd.func15 rfl rfl (by kernel_rfl) (rs := [.t 4]) (by kernel_rfl) (Nat.le_of_ble_eq_true rfl) ?_
 unfold c15
 have c21 : ¬ below1 = 0 := by
  intro h_; rw [if_pos h_] at e; cases e
 rw [if_neg c21] at e
 refine wx mixed 2 [] 0 [(3, spQ (.bin .rem 6 7) [vI n0, vI below1] (qv_rem rfl rfl c21))] (zWL [] ?_)
 refine w_ ?_
 by_cases c22 : (Int.tmod n0 below1) < 0
 ·rw [if_pos c22] at e
  have c22b : (decide ((Int.tmod n0 below1) < 0)) = true := decide_eq_true c22
  refine wxM mixed 2 [] 0 [(1, spQ (.bin .lss 9 (.const (vI 0))) [vI (Int.tmod n0 below1), vI 0] (congrArg (fun t => some (Value.bool t)) c22b))] (zWL [] ?_)
  refine w_ (w_ret ?_)
  obtain rfl := Option.some.inj e
  exact ⟨[_], [], S, ⟨(show gt _ _ = some _ from (by kernel_rfl)), trivial⟩, VS.none, rfl, rfl, rfl⟩
 ·rw [if_neg c22] at e
  have c22b : (decide ((Int.tmod n0 below1) < 0)) = false := decide_eq_false c22
  refine wxM mixed 2 [] 0 [(1, spQ (.bin .lss 9 (.const (vI 0))) [vI (Int.tmod n0 below1), vI 0] (congrArg (fun t => some (Value.bool t)) c22b))] (zWL [] ?_)
  refine w_ (w_ret ?_)
  obtain rfl := Option.some.inj e
  exact ⟨[_], [], S, ⟨(show gt _ _ = some _ from (by kernel_rfl)), trivial⟩, VS.none, rfl, rfl, rfl⟩

/-- (*glyphicmake.Seq).Next -/
def c21 : C := (.seq (.reg [oq 4 (.mv (.const (vI 0)))]) (.seq (.reg [oq 5 (.mv (.const (vI 0)))]) (.seq (.seq (.drw [oq 6 (.mv 0), oq 7 (.nck 6), oq 8 (.pad 1 7), oq 9 (.ld none 8), oq 10 (.mv 0), oq 11 (.nck 10), oq 12 (.pad 0 11), oq 13 (.ld none 12), oq 14 (.lns 13), oq 15 (.bin .lss 9 14)] [[], [0], [1], [2], [], [4], [5], [6], [7], [3, 8]]) (.cond 15 (.drw [oq 16 (.mv 0), oq 17 (.nck 16), oq 18 (.pad 0 17), oq 19 (.ld none 18), oq 20 (.mv 0), oq 21 (.nck 20), oq 22 (.pad 1 21), oq 23 (.ld none 22), oq 24 (.ixs 1 19 23), oq 25 (.ld none 24), oq 5 (.mv 25)] [[], [0], [1], [2], [], [4], [5], [6], [3, 7], [8], [9, 0, 1, 2, 3, 4, 5, 6, 7, 8, 9]]) .skip)) (.seq (.reg [oq 26 (.mv 0), oq 27 (.mv 0), oq 28 (.nck 27), oq 29 (.pad 1 28), oq 30 (.ld none 29), oq 31 (.bin .add 30 (.const (vI 1))), oq 32 (.nck 26), oq 33 (.pad 1 32), ⟨none, .st 1 33 31, none⟩]) (.seq (.reg [oq 34 (.mv 5), oq 35 (.mv 1), oq 36 (.call 15 [34, 35]), oq 4 (.mv 36)]) .ret)))))
def glyphicmake_Seq_Next_v1.f (below1 : Int) (m0_0 : List (Int)) (m0_1 : Int) : Option (Int × Int) := (if m0_1 < (m0_0.length : Int) then ((lgt m0_0 m0_1).bind fun x27 => (some x27)) else (some 0) : Option (Int)).bind fun x37 => ((glyphicworld_Number.f x37 below1).bind fun t38 => (some (t38, wr64 (m0_1 + 1))))
theorem glyphicmake_Seq_Next_v1.ok {S : Seal} {B0 : Nat} {below1 : Int} {m0_0 : List (Int)} {m0_1 r0_ r1_ : Int}{A_ : Int → Addr} (hE_ : EO gsE S A_ 157) {a_m0_0 : Option Addr} {c_m0_0 : Nat} (h_m0_0 : SlE S E_i64 m0_0 a_m0_0) (e : glyphicmake_Seq_Next_v1.f below1 m0_0 m0_1 = some (r0_, r1_)) :
    Cal Tryd.prog 21 [vP B0 0, vI below1] ([⟨B0, [.slice a_m0_0 m0_0.length c_m0_0, vI m0_1], 2⟩] : List Own) S fun v H' S' => v = vI r0_ ∧ H' = ([⟨B0, [.slice a_m0_0 m0_0.length c_m0_0, vI r1_], 2⟩] : List Own) ∧ S' = S := by
 unfold glyphicmake_Seq_Next_v1.f at e
 refine cal_of (c := c21) (N := 37) Tryd.func21 rfl rfl (by kernel_rfl) (rs := [.t 4]) (by kernel_rfl) (Nat.le_of_ble_eq_true rfl) ?_
 unfold c21
 refine wx mixed 2 [] 0 [] (zWL [] ?_)
 refine w_ ?_
 obtain ⟨x37, e24, e⟩ := bind_of e
 refine w_cut [0, 1, 5] (fun σ_ H_ S_ => [(0, vP B0 0), (1, vI below1), (5, vI x37)] = σ_ ∧ ([⟨B0, [.slice a_m0_0 m0_0.length c_m0_0, vI m0_1], 2⟩] : List Own) = H_ ∧ S = S_) ?_ ?_
 ·refine w_ ?_
  by_cases c26 : m0_1 < (m0_0.length : Int)
  ·rw [if_pos c26] at e24
   have c26b : (decide (m0_1 < (m0_0.length : Int))) = true := decide_eq_true c26
   obtain ⟨x27, hx28, e24⟩ := bind_of e24
   obtain ⟨lb29, lo30, ll31, la32, lS33, lv34, lz35, lu36⟩ := sle_get (E := E_i64) h_m0_0 hx28
   refine wqM mixed [0, 0, 0, 0] 0 .nrm [(9, spQ (.bin .lss 9 14) [vI m0_1, vI (m0_0.length : Int)] (congrArg (fun t => some (Value.bool t)) c26b)), (18, spQ (.ixs 1 19 23) [.slice a_m0_0 m0_0.length c_m0_0, vI m0_1] (ixs_sle rfl rfl la32 lz35 lu36)), (19, spL1 24 lb29 (lo30 + (m0_1).toNat * 1 + 0) [] (fun _ => .sealed lS33 (subl_at lv34 rfl)))] (zQL [] ?_)
   obtain rfl := Option.some.inj e24
   exact ⟨_, S, VS.lb [0] (by kernel_rfl), by kernel_rfl, rfl, rfl⟩
  ·rw [if_neg c26] at e24
   have c26b : (decide (m0_1 < (m0_0.length : Int))) = false := decide_eq_false c26
   refine wqM mixed [0, 0] 0 .nrm [(9, spQ (.bin .lss 9 14) [vI m0_1, vI (m0_0.length : Int)] (congrArg (fun t => some (Value.bool t)) c26b))] (zQL [] ?_)
   obtain rfl := Option.some.inj e24
   exact ⟨_, S, VS.lb [0] (by kernel_rfl), by kernel_rfl, rfl, rfl⟩
 ·rintro σ_ H_ S_ ⟨rfl, rfl, rfl⟩
  obtain ⟨t38, h39, e⟩ := bind_of e
  refine wx mixed 2 [0, 0] 0 [(11, spP 15 [34, 35] (glyphicworld_Number.ok hE_ h39))] (zWL [] ?_)
  refine w_ (w_ret ?_)
  simp only [Option.some.injEq, Prod.mk.injEq] at e
  obtain ⟨rfl, rfl⟩ := e
  exact ⟨[_], _, S, ⟨(show gt _ _ = some _ from (by kernel_rfl)), trivial⟩, VS.lb [0] (by kernel_rfl), rfl, rfl, rfl⟩

/-- (*glyphicmake.Seq).more -/
def c22 : C := (.seq (.reg [oq 2 (.mv (.const (vB false)))]) (.seq (.drw [oq 3 (.mv 0), oq 4 (.nck 3), oq 5 (.pad 1 4), oq 6 (.ld none 5), oq 7 (.mv 0), oq 8 (.nck 7), oq 9 (.pad 0 8), oq 10 (.ld none 9), oq 11 (.lns 10), oq 12 (.bin .lss 6 11), oq 2 (.mv 12)] [[], [0], [1], [2], [], [4], [5], [6], [7], [3, 8], [9, 0, 1, 2, 3, 4, 5, 6, 7, 8, 9]]) .ret))
def glyphicmake_Seq_more_v1.f (m0_0 : List (Int)) (m0_1 : Int) : Option (Bool) := some (decide (m0_1 < (m0_0.length : Int)))
theorem glyphicmake_Seq_more_v1.ok {S : Seal} {B0 : Nat} {m0_0 : List (Int)} {m0_1 : Int} {r0_ : Bool}{A_ : Int → Addr} (hE_ : EO gsE S A_ 157) {a_m0_0 : Option Addr} {c_m0_0 : Nat} (h_m0_0 : SlE S E_i64 m0_0 a_m0_0) (e : glyphicmake_Seq_more_v1.f m0_0 m0_1 = some r0_) :
    Cal Tryd.prog 22 [vP B0 0] ([⟨B0, [.slice a_m0_0 m0_0.length c_m0_0, vI m0_1], 2⟩] : List Own) S fun v H' S' => v = .bool r0_ ∧ H' = ([⟨B0, [.slice a_m0_0 m0_0.length c_m0_0, vI m0_1], 2⟩] : List Own) ∧ S' = S := by
 unfold glyphicmake_Seq_more_v1.f at e
 refine cal_of (c := c22) (N := 13) Tryd.func22 rfl rfl (by kernel_rfl) (rs := [.t 2]) (by kernel_rfl) (Nat.le_of_ble_eq_true rfl) ?_
 unfold c22
 refine wx mixed 2 [0, 0] 0 [] (zWL [] ?_)
 refine w_ (w_ret ?_)
 obtain rfl := Option.some.inj e
 exact ⟨[_], _, S, ⟨(show gt _ _ = some _ from (by kernel_rfl)), trivial⟩, VS.lb [0] (by kernel_rfl), rfl, rfl, rfl⟩

/-- glyphicmake.Color -/
def c24 : C := (.seq (.reg [oq 2 (.new [(.int .u8 0), (.int .u8 0), (.int .u8 0), (.int .u8 0)])]) (.seq (.reg [oq 3 (.bld [(.int .u8 0), (.int .u8 0), (.int .u8 0), (.int .u8 0)] [(0, 1, (.const (.int .u8 255))), (3, 1, (.const (.int .u8 255)))]), oq 4 (.bld [(.int .u8 0), (.int .u8 0), (.int .u8 0), (.int .u8 0)] [(1, 1, (.const (.int .u8 128))), (3, 1, (.const (.int .u8 255)))]), oq 5 (.bld [(.int .u8 0), (.int .u8 0), (.int .u8 0), (.int .u8 0)] [(2, 1, (.const (.int .u8 200))), (3, 1, (.const (.int .u8 100)))]), oq 6 (.bld [(.int .u8 0), (.int .u8 0), (.int .u8 0), (.int .u8 0)] [(0, 1, (.const (.int .u8 10))), (1, 1, (.const (.int .u8 20))), (2, 1, (.const (.int .u8 30))), (3, 1, (.const (.int .u8 1)))]), oq 7 (.bld [(.int .u8 0), (.int .u8 0), (.int .u8 0), (.int .u8 0)] [(0, 1, (.const (.int .u8 255))), (1, 1, (.const (.int .u8 255))), (2, 1, (.const (.int .u8 255))), (3, 1, (.const (.int .u8 255)))]), oq 8 (.bld [(.int .u8 0), (.int .u8 0), (.int .u8 0), (.int .u8 0)] [(3, 1, (.const (.int .u8 0)))]), oq 9 (.bld [(.int .u8 0), (.int .u8 0), (.int .u8 0), (.int .u8 0)] [(0, 1, (.const (.int .u8 7))), (3, 1, (.const (.int .u8 254)))]), oq 10 (.bsl [(.int .u8 0), (.int .u8 0), (.int .u8 0), (.int .u8 0), (.int .u8 0), (.int .u8 0), (.int .u8 0), (.int .u8 0), (.int .u8 0), (.int .u8 0), (.int .u8 0), (.int .u8 0), (.int .u8 0), (.int .u8 0), (.int .u8 0), (.int .u8 0), (.int .u8 0), (.int .u8 0), (.int .u8 0), (.int .u8 0), (.int .u8 0), (.int .u8 0), (.int .u8 0), (.int .u8 0), (.int .u8 0), (.int .u8 0), (.int .u8 0), (.int .u8 0)] 7 [(0, 4, 3), (4, 4, 4), (8, 4, 5), (12, 4, 6), (16, 4, 7), (20, 4, 8), (24, 4, 9)]), oq 11 (.mv 0), oq 12 (.call 21 [11, (.const (vI 7))]), oq 13 (.ixs 4 10 12), oq 14 (.ld (some 4) 13), ⟨none, .st 4 2 14, none⟩]) .ret))
def glyphicmake_Color_v1.f (m0_0 : List (Int)) (m0_1 : Int) : Option (Int × Int × Int × Int × Int) := (glyphicmake_Seq_Next_v1.f 7 m0_0 m0_1).bind fun (t64, t65) => (if t64 = 0 then (some (255, 0, 0, 255, t65)) else (if t64 = 1 then (some (0, 128, 0, 255, t65)) else (if t64 = 2 then (some (0, 0, 200, 100, t65)) else (if t64 = 3 then (some (10, 20, 30, 1, t65)) else (if t64 = 4 then (some (255, 255, 255, 255, t65)) else (if t64 = 5 then (some (0, 0, 0, 0, t65)) else (if t64 = 6 then (some (7, 0, 0, 254, t65)) else (none))))))))
theorem glyphicmake_Color_v1.ok {S : Seal} {B0 : Nat} {m0_0 : List (Int)} {m0_1 r0_ r1_ r2_ r3_ r4_ : Int}{A_ : Int → Addr} (hE_ : EO gsE S A_ 157) {a_m0_0 : Option Addr} {c_m0_0 : Nat} (h_m0_0 : SlE S E_i64 m0_0 a_m0_0) (e : glyphicmake_Color_v1.f m0_0 m0_1 = some (r0_, r1_, r2_, r3_, r4_)) :
    Cal Tryd.prog 24 [vP B0 0] ([⟨B0, [.slice a_m0_0 m0_0.length c_m0_0, vI m0_1], 2⟩] : List Own) S fun v H' S' => v = .agg #[.int .u8 r0_, .int .u8 r1_, .int .u8 r2_, .int .u8 r3_] ∧ H' = ([⟨B0, [.slice a_m0_0 m0_0.length c_m0_0, vI r4_], 2⟩] : List Own) ∧ S' = S := by
 unfold glyphicmake_Color_v1.f at e
 refine cal_of (c := c24) (N := 15) Tryd.func24 rfl rfl (by kernel_rfl) (rs := [.cn 4 2]) (by kernel_rfl) (Nat.le_of_ble_eq_true rfl) ?_
 unfold c24
 refine wx mixed 1 [] 1 [] fun b62 => zWL [] ?_
 refine w_ (w_seq (w_reg fun all => ?_))
 obtain ⟨⟨t64, t65⟩, h66, e⟩ := bind_of e
 try dsimp only at e
 refine txM 10 [1] 1 [(9, spC 21 [11, (.const (vI 7))] [[⟨B0, [.slice a_m0_0 m0_0.length c_m0_0, vI m0_1], 2⟩]] [] [] 1 (fun l_ => vI t64) (fun l_ => [[⟨B0, [.slice a_m0_0 m0_0.length c_m0_0, vI t65], 2⟩]]) (vs := [vP B0 0, vI 7]) rfl (((glyphicmake_Seq_Next_v1.ok hE_ h_m0_0 h66)).mono fun _ _ _ ⟨h1_, h2_, h3_⟩ => ⟨un ⟨[], [], [], [], []⟩, h1_.trans (by kernel_rfl), h2_.trans (by kernel_rfl), h3_⟩))] fun b63 => zTL [] ?_
 by_cases c67 : t64 = 0
 ·rw [if_pos c67] at e
  have c67b : (t64 == 0) = true := beq_iff_eq.mpr c67
  refine txM 3 [1, 2] 0 [(0, spQ (.ixs 4 10 12) [.slice (some ⟨b63, 0, none⟩) 7 7, vI t64] (ixs_at (j := 0) (u := vP b63 0) rfl c67b (by kernel_rfl)))] (zTL [1] ?_)
  refine t_end (w_ (w_as [(2, vP b62 0)] ([⟨b62, [.int .u8 255, .int .u8 0, .int .u8 0, .int .u8 255], 4⟩, ⟨B0, [.slice a_m0_0 m0_0.length c_m0_0, vI t65], 2⟩] : List Own) ?_))
  refine w_ret ?_
  simp only [Option.some.injEq, Prod.mk.injEq] at e
  obtain ⟨rfl, rfl, rfl, rfl, rfl⟩ := e
  exact ⟨[_], _, S, ⟨⟨_, _, _, rfl, .at 0 rfl rfl, rfl⟩, trivial⟩, VS.sel [1] (by kernel_rfl), rfl, rfl, rfl⟩
 ·rw [if_neg c67] at e
  have c67b : (t64 == 0) = false := beq_eq_false_iff_ne.mpr c67
  by_cases c68 : t64 = 1
  ·rw [if_pos c68] at e
   have c68b : (t64 == 1) = true := beq_iff_eq.mpr c68
   refine txM 3 [1, 2] 0 [(0, spQ (.ixs 4 10 12) [.slice (some ⟨b63, 0, none⟩) 7 7, vI t64] (ixs_at (j := 1) (u := vP b63 4) rfl c68b (by kernel_rfl)))] (zTL [1] ?_)
   refine t_end (w_ (w_as [(2, vP b62 0)] ([⟨b62, [.int .u8 0, .int .u8 128, .int .u8 0, .int .u8 255], 4⟩, ⟨B0, [.slice a_m0_0 m0_0.length c_m0_0, vI t65], 2⟩] : List Own) ?_))
   refine w_ret ?_
   simp only [Option.some.injEq, Prod.mk.injEq] at e
   obtain ⟨rfl, rfl, rfl, rfl, rfl⟩ := e
   exact ⟨[_], _, S, ⟨⟨_, _, _, rfl, .at 0 rfl rfl, rfl⟩, trivial⟩, VS.sel [1] (by kernel_rfl), rfl, rfl, rfl⟩
  ·rw [if_neg c68] at e
   have c68b : (t64 == 1) = false := beq_eq_false_iff_ne.mpr c68
   by_cases c69 : t64 = 2
   ·rw [if_pos c69] at e
    have c69b : (t64 == 2) = true := beq_iff_eq.mpr c69
    refine txM 3 [1, 2] 0 [(0, spQ (.ixs 4 10 12) [.slice (some ⟨b63, 0, none⟩) 7 7, vI t64] (ixs_at (j := 2) (u := vP b63 8) rfl c69b (by kernel_rfl)))] (zTL [1] ?_)
    refine t_end (w_ (w_as [(2, vP b62 0)] ([⟨b62, [.int .u8 0, .int .u8 0, .int .u8 200, .int .u8 100], 4⟩, ⟨B0, [.slice a_m0_0 m0_0.length c_m0_0, vI t65], 2⟩] : List Own) ?_))
    refine w_ret ?_
    simp only [Option.some.injEq, Prod.mk.injEq] at e
    obtain ⟨rfl, rfl, rfl, rfl, rfl⟩ := e
    exact ⟨[_], _, S, ⟨⟨_, _, _, rfl, .at 0 rfl rfl, rfl⟩, trivial⟩, VS.sel [1] (by kernel_rfl), rfl, rfl, rfl⟩
   ·rw [if_neg c69] at e
    have c69b : (t64 == 2) = false := beq_eq_false_iff_ne.mpr c69
    by_cases c70 : t64 = 3
    ·rw [if_pos c70] at e
     have c70b : (t64 == 3) = true := beq_iff_eq.mpr c70
     refine txM 3 [1, 2] 0 [(0, spQ (.ixs 4 10 12) [.slice (some ⟨b63, 0, none⟩) 7 7, vI t64] (ixs_at (j := 3) (u := vP b63 12) rfl c70b (by kernel_rfl)))] (zTL [1] ?_)
     refine t_end (w_ (w_as [(2, vP b62 0)] ([⟨b62, [.int .u8 10, .int .u8 20, .int .u8 30, .int .u8 1], 4⟩, ⟨B0, [.slice a_m0_0 m0_0.length c_m0_0, vI t65], 2⟩] : List Own) ?_))
     refine w_ret ?_
     simp only [Option.some.injEq, Prod.mk.injEq] at e
     obtain ⟨rfl, rfl, rfl, rfl, rfl⟩ := e
     exact ⟨[_], _, S, ⟨⟨_, _, _, rfl, .at 0 rfl rfl, rfl⟩, trivial⟩, VS.sel [1] (by kernel_rfl), rfl, rfl, rfl⟩
    ·rw [if_neg c70] at e
     have c70b : (t64 == 3) = false := beq_eq_false_iff_ne.mpr c70
     by_cases c71 : t64 = 4
     ·rw [if_pos c71] at e
      have c71b : (t64 == 4) = true := beq_iff_eq.mpr c71
      refine txM 3 [1, 2] 0 [(0, spQ (.ixs 4 10 12) [.slice (some ⟨b63, 0, none⟩) 7 7, vI t64] (ixs_at (j := 4) (u := vP b63 16) rfl c71b (by kernel_rfl)))] (zTL [1] ?_)
      refine t_end (w_ (w_as [(2, vP b62 0)] ([⟨b62, [.int .u8 255, .int .u8 255, .int .u8 255, .int .u8 255], 4⟩, ⟨B0, [.slice a_m0_0 m0_0.length c_m0_0, vI t65], 2⟩] : List Own) ?_))
      refine w_ret ?_
      simp only [Option.some.injEq, Prod.mk.injEq] at e
      obtain ⟨rfl, rfl, rfl, rfl, rfl⟩ := e
      exact ⟨[_], _, S, ⟨⟨_, _, _, rfl, .at 0 rfl rfl, rfl⟩, trivial⟩, VS.sel [1] (by kernel_rfl), rfl, rfl, rfl⟩
     ·rw [if_neg c71] at e
      have c71b : (t64 == 4) = false := beq_eq_false_iff_ne.mpr c71
      by_cases c72 : t64 = 5
      ·rw [if_pos c72] at e
       have c72b : (t64 == 5) = true := beq_iff_eq.mpr c72
       refine txM 3 [1, 2] 0 [(0, spQ (.ixs 4 10 12) [.slice (some ⟨b63, 0, none⟩) 7 7, vI t64] (ixs_at (j := 5) (u := vP b63 20) rfl c72b (by kernel_rfl)))] (zTL [1] ?_)
       refine t_end (w_ (w_as [(2, vP b62 0)] ([⟨b62, [.int .u8 0, .int .u8 0, .int .u8 0, .int .u8 0], 4⟩, ⟨B0, [.slice a_m0_0 m0_0.length c_m0_0, vI t65], 2⟩] : List Own) ?_))
       refine w_ret ?_
       simp only [Option.some.injEq, Prod.mk.injEq] at e
       obtain ⟨rfl, rfl, rfl, rfl, rfl⟩ := e
       exact ⟨[_], _, S, ⟨⟨_, _, _, rfl, .at 0 rfl rfl, rfl⟩, trivial⟩, VS.sel [1] (by kernel_rfl), rfl, rfl, rfl⟩
      ·rw [if_neg c72] at e
       have c72b : (t64 == 5) = false := beq_eq_false_iff_ne.mpr c72
       by_cases c73 : t64 = 6
       ·rw [if_pos c73] at e
        have c73b : (t64 == 6) = true := beq_iff_eq.mpr c73
        refine txM 3 [1, 2] 0 [(0, spQ (.ixs 4 10 12) [.slice (some ⟨b63, 0, none⟩) 7 7, vI t64] (ixs_at (j := 6) (u := vP b63 24) rfl c73b (by kernel_rfl)))] (zTL [1] ?_)
        refine t_end (w_ (w_as [(2, vP b62 0)] ([⟨b62, [.int .u8 7, .int .u8 0, .int .u8 0, .int .u8 254], 4⟩, ⟨B0, [.slice a_m0_0 m0_0.length c_m0_0, vI t65], 2⟩] : List Own) ?_))
        refine w_ret ?_
        simp only [Option.some.injEq, Prod.mk.injEq] at e
        obtain ⟨rfl, rfl, rfl, rfl, rfl⟩ := e
        exact ⟨[_], _, S, ⟨⟨_, _, _, rfl, .at 0 rfl rfl, rfl⟩, trivial⟩, VS.sel [1] (by kernel_rfl), rfl, rfl, rfl⟩
       ·rw [if_neg c73] at e
        have c73b : (t64 == 6) = false := beq_eq_false_iff_ne.mpr c73
        cases e

/-- glyphicref.SameColor -/
def c11 : C := (.seq (.reg [oq 2 (.box 0), oq 3 (.box 1), oq 4 (.mv (.const (vB false)))]) (.seq (.reg [oq 5 (.pad 0 2), oq 6 (.ld none 5), oq 7 (.pad 0 3), oq 8 (.ld none 7), oq 9 (.bin .eql 6 8), oq 10 (.mv 9), ⟨(some 11), .pad 1 2, (some (10, true))⟩, ⟨(some 12), .ld none 11, (some (10, true))⟩, ⟨(some 13), .pad 1 3, (some (10, true))⟩, ⟨(some 14), .ld none 13, (some (10, true))⟩, ⟨(some 15), .bin .eql 12 14, (some (10, true))⟩, oq 16 (.pk 10 15 (.const (vB false))), oq 17 (.mv 16), ⟨(some 18), .pad 2 2, (some (17, true))⟩, ⟨(some 19), .ld none 18, (some (17, true))⟩, ⟨(some 20), .pad 2 3, (some (17, true))⟩, ⟨(some 21), .ld none 20, (some (17, true))⟩, ⟨(some 22), .bin .eql 19 21, (some (17, true))⟩, oq 23 (.pk 17 22 (.const (vB false))), oq 24 (.mv 23), ⟨(some 25), .pad 3 2, (some (24, true))⟩, ⟨(some 26), .ld none 25, (some (24, true))⟩, ⟨(some 27), .pad 3 3, (some (24, true))⟩, ⟨(some 28), .ld none 27, (some (24, true))⟩, ⟨(some 29), .bin .eql 26 28, (some (24, true))⟩, oq 30 (.pk 24 29 (.const (vB false))), oq 4 (.mv 30)]) .ret))
def glyphicref_SameColor.f (a0_R : Int) (a0_G : Int) (a0_B : Int) (a0_A : Int) (b1_R : Int) (b1_G : Int) (b1_B : Int) (b1_A : Int) : Option (Bool) := if a0_R = b1_R then (if a0_G = b1_G then (if a0_B = b1_B then (some (a0_A == b1_A)) else (some false)) else (some false)) else (some false)
theorem glyphicref_SameColor.ok {S : Seal} {a0_R a0_G a0_B a0_A b1_R b1_G b1_B b1_A : Int} {r0_ : Bool}{A_ : Int → Addr} (hE_ : EO gsE S A_ 157) (e : glyphicref_SameColor.f a0_R a0_G a0_B a0_A b1_R b1_G b1_B b1_A = some r0_) :
    Cal Tryd.prog 11 [.agg #[.int .u8 a0_R, .int .u8 a0_G, .int .u8 a0_B, .int .u8 a0_A], .agg #[.int .u8 b1_R, .int .u8 b1_G, .int .u8 b1_B, .int .u8 b1_A]] [] S fun v H' S' => v = .bool r0_ ∧ H' = [] ∧ S' = S := by
 unfold glyphicref_SameColor.f at e
 refine cal_of (c := c11) (N := 31) Tryd.func11 rfl rfl (by kernel_rfl) (rs := [.t 4]) (by kernel_rfl) (Nat.le_of_ble_eq_true rfl) ?_
 unfold c11
 refine wx mixed 1 [] 2 [] fun b84 b85 => zWL [] ?_
 refine w_ ?_
 by_cases c86 : a0_R = b1_R
 ·rw [if_pos c86] at e
  have c86b : (a0_R == b1_R) = true := beq_iff_eq.mpr c86
  by_cases c87 : a0_G = b1_G
  ·rw [if_pos c87] at e
   have c87b : (a0_G == b1_G) = true := beq_iff_eq.mpr c87
   by_cases c88 : a0_B = b1_B
   ·rw [if_pos c88] at e
    have c88b : (a0_B == b1_B) = true := beq_iff_eq.mpr c88
    refine wxM mixed 1 [1, 0, 1, 0, 1, 0, 1, 0] 0 [(4, spQ (.bin .eql 6 8) [.int .u8 a0_R, .int .u8 b1_R] (congrArg (fun t => some (Value.bool t)) c86b)), (10, spQ (.bin .eql 12 14) [.int .u8 a0_G, .int .u8 b1_G] (congrArg (fun t => some (Value.bool t)) c87b)), (17, spQ (.bin .eql 19 21) [.int .u8 a0_B, .int .u8 b1_B] (congrArg (fun t => some (Value.bool t)) c88b))] (zWL [0, 1] ?_)
    refine w_ (w_ret ?_)
    obtain rfl := Option.some.inj e
    exact ⟨[_], [], S, ⟨(show gt _ _ = some _ from (by kernel_rfl)), trivial⟩, VS.none, rfl, rfl, rfl⟩
   ·rw [if_neg c88] at e
    have c88b : (a0_B == b1_B) = false := beq_eq_false_iff_ne.mpr c88
    refine wxM mixed 1 [1, 0, 1, 0, 1, 0, 0, 0] 0 [(4, spQ (.bin .eql 6 8) [.int .u8 a0_R, .int .u8 b1_R] (congrArg (fun t => some (Value.bool t)) c86b)), (10, spQ (.bin .eql 12 14) [.int .u8 a0_G, .int .u8 b1_G] (congrArg (fun t => some (Value.bool t)) c87b)), (17, spQ (.bin .eql 19 21) [.int .u8 a0_B, .int .u8 b1_B] (congrArg (fun t => some (Value.bool t)) c88b))] (zWL [0, 1] ?_)
    refine w_ (w_ret ?_)
    obtain rfl := Option.some.inj e
    exact ⟨[_], [], S, ⟨(show gt _ _ = some _ from (by kernel_rfl)), trivial⟩, VS.none, rfl, rfl, rfl⟩
  ·rw [if_neg c87] at e
   have c87b : (a0_G == b1_G) = false := beq_eq_false_iff_ne.mpr c87
   refine wxM mixed 1 [1, 0, 1, 0, 0, 0, 0, 0] 0 [(4, spQ (.bin .eql 6 8) [.int .u8 a0_R, .int .u8 b1_R] (congrArg (fun t => some (Value.bool t)) c86b)), (10, spQ (.bin .eql 12 14) [.int .u8 a0_G, .int .u8 b1_G] (congrArg (fun t => some (Value.bool t)) c87b))] (zWL [0, 1] ?_)
   refine w_ (w_ret ?_)
   obtain rfl := Option.some.inj e
   exact ⟨[_], [], S, ⟨(show gt _ _ = some _ from (by kernel_rfl)), trivial⟩, VS.none, rfl, rfl, rfl⟩
 ·rw [if_neg c86] at e
  have c86b : (a0_R == b1_R) = false := beq_eq_false_iff_ne.mpr c86
  refine wxM mixed 1 [1, 0, 0, 0, 0, 0, 0, 0] 0 [(4, spQ (.bin .eql 6 8) [.int .u8 a0_R, .int .u8 b1_R] (congrArg (fun t => some (Value.bool t)) c86b))] (zWL [0, 1] ?_)
  refine w_ (w_ret ?_)
  obtain rfl := Option.some.inj e
  exact ⟨[_], [], S, ⟨(show gt _ _ = some _ from (by kernel_rfl)), trivial⟩, VS.none, rfl, rfl, rfl⟩

/-- glyphicref12.Find -/
def c37 : C := (.seq (.reg [oq 3 (.box 1), oq 4 (.mv (.const (vI 0)))]) (.seq (.seq (.reg [oq 5 (.mv (.const (vI 0)))]) (.block 0 (.loop (.seq (.seq (.reg [oq 6 (.mv 5), oq 7 (.mv 0), oq 8 (.lns 7), oq 9 (.bin .lss 6 8)]) (.cond 9 .skip (.exit 0))) (.seq (.block 1 (.seq (.drw [oq 12 (.mv 0), oq 13 (.mv 5), oq 14 (.ixs 4 12 13), oq 15 (.ld (some 4) 14), oq 16 (.ld (some 4) 3), oq 17 (.call 11 [15, 16])] [[], [], [0, 1], [2], [], [3, 4]]) (.cond 17 (.seq (.reg [oq 18 (.mv 5), oq 4 (.mv 18)]) .ret) .skip))) (.reg [oq 10 (.mv 5), oq 11 (.bin .add 10 (.const (vI 1))), oq 5 (.mv 11)])))))) (.seq (.reg [oq 4 (.mv (.const (vI (-1))))]) .ret)))
def glyphicref12_Find_v1.l0 : Nat → List (Int × Int × Int × Int) → Int → Int → Int → Int → Int → Option ((Int) ⊕ (Unit))
  | 0, _, _, _, _, _, _ => none
  | k + 1, l0, c1_0, c1_1, c1_2, c1_3, x69 => if x69 < (l0.length : Int) then ((lgt l0 x69).bind fun (x71, x72, x73, x74) => ((glyphicref_SameColor.f x71 x72 x73 x74 c1_0 c1_1 c1_2 c1_3).bind fun t84 => (if t84 = true then (some (.inl x69)) else (glyphicref12_Find_v1.l0 k l0 c1_0 c1_1 c1_2 c1_3 (wr64 (x69 + 1)))))) else (some (.inr ()))
def glyphicref12_Find_v1.f (k : Nat) (l0 : List (Int × Int × Int × Int)) (c1_0 : Int) (c1_1 : Int) (c1_2 : Int) (c1_3 : Int) : Option (Int) := (glyphicref12_Find_v1.l0 k l0 c1_0 c1_1 c1_2 c1_3 0 : Option ((Int) ⊕ (Unit))).bind fun s_ => match s_ with | .inl q88 => some q88 | .inr _ => (some (-1))
theorem glyphicref12_Find_v1.ok {S : Seal} {k : Nat} {l0 : List (Int × Int × Int × Int)} {c1_0 c1_1 c1_2 c1_3 r0_ : Int}{A_ : Int → Addr} (hE_ : EO gsE S A_ 157) {a_l0 : Option Addr} {c_l0 : Nat} (h_l0 : SlE S E_u84 l0 a_l0) (e : glyphicref12_Find_v1.f k l0 c1_0 c1_1 c1_2 c1_3 = some r0_) :
    Cal Tryd.prog 37 [.slice a_l0 l0.length c_l0, .agg #[.int .u8 c1_0, .int .u8 c1_1, .int .u8 c1_2, .int .u8 c1_3]] [] S fun v H' S' => v = vI r0_ ∧ H' = [] ∧ S' = S := by
 unfold glyphicref12_Find_v1.f at e
 refine cal_of (c := c37) (N := 19) Tryd.func37 rfl rfl (by kernel_rfl) (rs := [.t 4]) (by kernel_rfl) (Nat.le_of_ble_eq_true rfl) ?_
 unfold c37
 refine wx mixed 1 [] 1 [] fun b65 => zWL [] ?_
 refine w_ ?_
 obtain ⟨s68, e67, e⟩ := bind_of e
 refine w_cut [] (fun σ_ H_ S_ => ∃ u_ : Unit, s68 = .inr u_ ∧ [] = σ_ ∧ ([⟨b65, [.int .u8 c1_0, .int .u8 c1_1, .int .u8 c1_2, .int .u8 c1_3], 4⟩] : List Own) = H_ ∧ S = S_) ?_ ?_
 ·refine w_ ?_
  refine wxM mixed 1 [] 0 [] (zWL [] ?_)
  refine w_ (w_block (wk [(0, .slice a_l0 l0.length c_l0), (3, vP b65 0), (5, vI 0)] (w_vs (H' := ([⟨b65, [.int .u8 c1_0, .int .u8 c1_1, .int .u8 c1_2, .int .u8 c1_3], 4⟩] : List Own)) (S' := S) (VS.lb [0] (by kernel_rfl)) ?_)))
  refine w_loop (fun n_ σ_ H_ S_ => ∃ (x69 : Int), [(0, .slice a_l0 l0.length c_l0), (3, vP b65 0), (5, vI x69)] = σ_ ∧ ([⟨b65, [.int .u8 c1_0, .int .u8 c1_1, .int .u8 c1_2, .int .u8 c1_3], 4⟩] : List Own) = H_ ∧ S = S_ ∧ glyphicref12_Find_v1.l0 n_ l0 c1_0 c1_1 c1_2 c1_3 x69 = some s68) _ ⟨0, rfl, rfl, rfl, e67⟩ ?_
  rintro n87 σ_ H_ S_ ⟨x69, rfl, rfl, rfl, e67⟩
  cases n87 with
  | zero => rw [glyphicref12_Find_v1.l0.eq_1] at e67; cases e67
  | succ k_ =>
   rw [glyphicref12_Find_v1.l0.eq_2] at e67
   by_cases c70 : x69 < (l0.length : Int)
   ·rw [if_pos c70] at e67
    have c70b : (decide (x69 < (l0.length : Int))) = true := decide_eq_true c70
    refine wx mixed 1 [] 0 [(3, spQ (.bin .lss 6 8) [vI x69, vI (l0.length : Int)] (congrArg (fun t => some (Value.bool t)) c70b))] (zWL [] ?_)
    refine w_ (w_seq (w_block ?_))
    obtain ⟨⟨x71, x72, x73, x74⟩, hx75, e67⟩ := bind_of e67
    try dsimp only at e67
    obtain ⟨lb76, lo77, ll78, la79, lS80, lv81, lz82, lu83⟩ := sle_get (E := E_u84) h_l0 hx75
    obtain ⟨t84, h85, e67⟩ := bind_of e67
    cases t84 with
    | true =>
     rw [if_pos rfl] at e67
     refine wxM mixed 1 [0] 0 [(2, spQ (.ixs 4 12 13) [.slice a_l0 l0.length c_l0, vI x69] (ixs_sle rfl rfl la79 lz82 lu83)), (3, spLn 14 lb76 (lo77 + (x69).toNat * 4 + 0) 4 [] (vs := [.int .u8 x71, .int .u8 x72, .int .u8 x73, .int .u8 x74]) (fun _ => .sealed lS80 (subl_sub lv81 (by kernel_rfl)))), (5, spP 11 [15, 16] (glyphicref_SameColor.ok hE_ h85))] (zWL [] ?_)
     refine w_ (w_ct (w_ ?_))
     refine wxM mixed 1 [] 0 [] (zWL [] ?_)
     refine w_ (w_ret ?_)
     obtain rfl := Option.some.inj e67
     obtain rfl := Option.some.inj e
     exact ⟨[_], [], S, ⟨(show gt _ _ = some _ from (by kernel_rfl)), trivial⟩, VS.none, rfl, rfl, rfl⟩
    | false =>
     rw [if_neg (by decide)] at e67
     refine wqM mixed [0] 0 .nrm [(2, spQ (.ixs 4 12 13) [.slice a_l0 l0.length c_l0, vI x69] (ixs_sle rfl rfl la79 lz82 lu83)), (3, spLn 14 lb76 (lo77 + (x69).toNat * 4 + 0) 4 [] (vs := [.int .u8 x71, .int .u8 x72, .int .u8 x73, .int .u8 x74]) (fun _ => .sealed lS80 (subl_sub lv81 (by kernel_rfl)))), (5, spP 11 [15, 16] (glyphicref_SameColor.ok hE_ h85))] (zQL [] ?_)
     refine w_ ?_
     refine wqM mixed [] 0 .nrm [] (zQL [] ?_)
     exact ⟨k_, Nat.lt_succ_self _, _, _, S, keep_sub [0, 3, 5] (by kernel_rfl), VS.lb [0] (by kernel_rfl), wr64 (x69 + 1), rfl, rfl, rfl, e67⟩
   ·rw [if_neg c70] at e67
    have c70b : (decide (x69 < (l0.length : Int))) = false := decide_eq_false c70
    refine wq mixed [] 0 (.ex 0) [(3, spQ (.bin .lss 6 8) [vI x69, vI (l0.length : Int)] (congrArg (fun t => some (Value.bool t)) c70b))] (zQL [] ?_)
    obtain rfl := Option.some.inj e67
    exact ⟨_, S, VS.lb [0] (by kernel_rfl), (), rfl, by kernel_rfl, rfl, rfl⟩
 ·rintro σ_ H_ S_ ⟨u_, rfl, rfl, rfl, rfl⟩
  dsimp only at e
  refine wx mixed 1 [] 0 [] (zWL [0] ?_)
  refine w_ (w_ret ?_)
  obtain rfl := Option.some.inj e
  exact ⟨[_], [], S, ⟨(show gt _ _ = some _ from (by kernel_rfl)), trivial⟩, VS.none, rfl, rfl, rfl⟩

/-- glyphicmake.add -/
def c23 : C := (.seq (.reg [oq 3 (.box 1), oq 4 (.mv (.const (vI 0)))]) (.seq (.drw [oq 6 (.mv 0), oq 7 (.nck 6), oq 8 (.pad 3 7), oq 9 (.ld none 8), oq 10 (.ld (some 4) 3), oq 11 (.call 37 [9, 10]), oq 5 (.mv 11)] [[], [0], [1], [2], [], [3, 4], [5, 5, 0, 1, 2, 3, 4, 5]]) (.seq (.seq (.reg [oq 12 (.mv 5), oq 13 (.bin .geq 12 (.const (vI 0)))]) (.cond 13 (.seq (.reg [oq 14 (.mv 5), oq 4 (.mv 14)]) .ret) .skip)) (.seq (.drw [oq 15 (.mv 0), oq 16 (.mv 0), oq 17 (.nck 16), oq 18 (.pad 3 17), oq 19 (.ld none 18), oq 20 (.ld (some 4) 3), oq 21 (.bsl [(.int .u8 0), (.int .u8 0), (.int .u8 0), (.int .u8 0)] 1 [(0, 4, 20)]), oq 22 (.app 23 4 4 [(.int .u8 0), (.int .u8 0), (.int .u8 0), (.int .u8 0)] 19 21), oq 23 (.nck 15), oq 24 (.pad 3 23), ⟨none, .st 1 24 22, none⟩] [[], [], [1], [2], [3], [], [5], [4, 6], [0, 0, 1, 2, 3, 4, 5, 6, 7], [8, 0, 1, 2, 3, 4, 5, 6, 7], [9, 7, 7, 0, 1, 2, 3, 4, 5, 6, 7]]) (.seq (.reg [oq 25 (.mv 0), oq 26 (.nck 25), oq 27 (.pad 3 26), oq 28 (.ld none 27), oq 29 (.lns 28), oq 30 (.bin .sub 29 (.const (vI 1))), oq 4 (.mv 30)]) .ret)))))
def glyphicmake_add_v1.f (k : Nat) (c1_0 : Int) (c1_1 : Int) (c1_2 : Int) (c1_3 : Int) (m0_0 : Int) (m0_1 : Int) (m0_2 : Int) (m1_L : List (Int × Int × Int × Int)) : Option (Int × List (Int × Int × Int × Int)) := (glyphicref12_Find_v1.f k m1_L c1_0 c1_1 c1_2 c1_3).bind fun t73 => (if t73 ≥ 0 then (some (t73, m1_L)) else ((lapp m1_L ([(c1_0, c1_1, c1_2, c1_3)] : List (Int × Int × Int × Int))).bind fun y77 => (some (wr64 ((y77.length : Int) - 1), y77))))
theorem glyphicmake_add_v1.ok {S : Seal} {B0 : Nat} {B1 : Option Nat} {nB1 k : Nat} {c1_0 c1_1 c1_2 c1_3 m0_0 m0_1 m0_2 : Int} {m1_L : List (Int × Int × Int × Int)} {r0_ : Int} {r1_ : List (Int × Int × Int × Int)}{A_ : Int → Addr} (hE_ : EO gsE S A_ 157) {a_m0_4 : Option Addr} {n_m0_4 c_m0_4 : Nat} (e : glyphicmake_add_v1.f k c1_0 c1_1 c1_2 c1_3 m0_0 m0_1 m0_2 m1_L = some (r0_, r1_)) :
    Cal Tryd.prog 23 [vP B0 0, .agg #[.int .u8 c1_0, .int .u8 c1_1, .int .u8 c1_2, .int .u8 c1_3]] ([⟨B0, [vI m0_0, vI m0_1, vI m0_2, .slice (ad B1) m1_L.length (nB1 / 4), .slice a_m0_4 n_m0_4 c_m0_4], 5⟩, ⟨B1, encL E_u84 m1_L, nB1⟩] : List Own) S fun v H' S' => ∃ (N0_ : Option Nat) (nN0_ : Nat) , v = vI r0_ ∧ H' = ([⟨N0_, encL E_u84 r1_, nN0_⟩, ⟨B0, [vI m0_0, vI m0_1, vI m0_2, .slice (ad N0_) r1_.length (nN0_ / 4), .slice a_m0_4 n_m0_4 c_m0_4], 5⟩] : List Own) ∧ S' = S := by
 unfold glyphicmake_add_v1.f at e
 refine cal_of (c := c23) (N := 31) Tryd.func23 rfl rfl (by kernel_rfl) (rs := [.t 4]) (by kernel_rfl) (Nat.le_of_ble_eq_true rfl) ?_
 unfold c23
 obtain ⟨t73, h74, e⟩ := bind_of e
 refine wx mixed 2 [0, 2, 1] 1 [(7, spR 37 [9, 10] [[⟨B1, encL E_u84 m1_L, nB1⟩]] (vs := [.slice (ad B1) m1_L.length (nB1 / 4), .agg #[.int .u8 c1_0, .int .u8 c1_1, .int .u8 c1_2, .int .u8 c1_3]]) (cal_lendFr ([⟨B1, encL E_u84 m1_L, nB1⟩] : List Own) fun S1_ le1_ hp1_ hs1_ hn1_ ex1_ => glyphicref12_Find_v1.ok (EO.mono hE_ le1_ hp1_) (SlE.ofAd (E := E_u84) (L := m1_L) (hn1_ _ (mem_at 0 rfl)) (by decide)) h74) rfl)] fun b72 => zWL [] ?_
 refine w_ (w_seq ?_)
 by_cases c75 : t73 ≥ 0
 ·rw [if_pos c75] at e
  have c75b : (decide (t73 ≥ 0)) = true := decide_eq_true c75
  refine wxM mixed 1 [] 0 [(1, spQ (.bin .geq 12 (.const (vI 0))) [vI t73, vI 0] (congrArg (fun t => some (Value.bool t)) c75b))] (zWL [] ?_)
  refine w_ (w_ct (w_ ?_))
  refine wxM mixed 1 [] 0 [] (zWL [0] ?_)
  refine w_ (w_ret ?_)
  simp only [Option.some.injEq, Prod.mk.injEq] at e
  obtain ⟨rfl, rfl⟩ := e
  exact ⟨[_], _, S, ⟨(show gt _ _ = some _ from (by kernel_rfl)), trivial⟩, VS.lb [1, 0] (by kernel_rfl), B1, nB1, rfl, rfl, rfl⟩
 ·rw [if_neg c75] at e
  have c75b : (decide (t73 ≥ 0)) = false := decide_eq_false c75
  refine wqM mixed [] 0 .nrm [(1, spQ (.bin .geq 12 (.const (vI 0))) [vI t73, vI 0] (congrArg (fun t => some (Value.bool t)) c75b))] (zQL [] ?_)
  refine w_ (w_seq (w_as [(0, vP B0 0), (3, vP b72 0)] ([⟨b72, [.int .u8 c1_0, .int .u8 c1_1, .int .u8 c1_2, .int .u8 c1_3], 4⟩, ⟨B0, [vI m0_0, vI m0_1, vI m0_2, .slice (ad B1) m1_L.length (nB1 / 4), .slice a_m0_4 n_m0_4 c_m0_4], 5⟩, ⟨B1, encL E_u84 m1_L, nB1⟩] : List Own) ?_))
  obtain ⟨y77, hl78, e⟩ := bind_of e
  refine wk [(0, vP B0 0), (3, vP b72 0)] (w_gameQ mixed (by kernel_rfl) fun all G hend hstep hqf => ?_)
  have hg_7ff : ∀ (g79 : Option Nat) (ng79 : Nat) (g76 : Nat), G [true, true, true, true, true, true, true, true, true, true, true] [(0, vP B0 0)] ([⟨g79, encL E_u84 y77, ng79⟩, ⟨g76, [.int .u8 c1_0, .int .u8 c1_1, .int .u8 c1_2, .int .u8 c1_3], 4⟩, ⟨b72, [.int .u8 c1_0, .int .u8 c1_1, .int .u8 c1_2, .int .u8 c1_3], 4⟩, ⟨B0, [vI m0_0, vI m0_1, vI m0_2, .slice (ad g79) y77.length (ng79 / 4), .slice a_m0_4 n_m0_4 c_m0_4], 5⟩] : List Own) := by
   intro g79 ng79 g76
   refine hend _ _ _ (by kernel_rfl) ?_
   refine w_ ?_
   refine wx mixed 1 [3] 0 [] (zWL [1, 2] ?_)
   refine w_ (w_ret ?_)
   simp only [Option.some.injEq, Prod.mk.injEq] at e
   obtain ⟨rfl, rfl⟩ := e
   exact ⟨[_], _, S, ⟨(show gt _ _ = some _ from (by kernel_rfl)), trivial⟩, VS.lb [0, 0] (by kernel_rfl), g79, ng79, rfl, rfl, rfl⟩
  have hg_3ff : ∀ (g79 : Option Nat) (ng79 : Nat) (g76 : Nat), G [true, true, true, true, true, true, true, true, true, true, false] [(0, vP B0 0), (22, .slice (ad g79) y77.length (ng79 / 4)), (24, vP B0 3)] ([⟨g79, encL E_u84 y77, ng79⟩, ⟨g76, [.int .u8 c1_0, .int .u8 c1_1, .int .u8 c1_2, .int .u8 c1_3], 4⟩, ⟨b72, [.int .u8 c1_0, .int .u8 c1_1, .int .u8 c1_2, .int .u8 c1_3], 4⟩, ⟨B0, [vI m0_0, vI m0_1, vI m0_2, .slice (ad B1) m1_L.length (nB1 / 4), .slice a_m0_4 n_m0_4 c_m0_4], 5⟩] : List Own) := by
   intro g79 ng79 g76
   refine hstep [10] _ _ _ (by kernel_rfl) (List.cons_ne_nil _ _) ⟨?_, trivial⟩
   ·refine tT (t_sti 3 (cs := [vI m0_0, vI m0_1, vI m0_2, .slice (ad g79) y77.length (ng79 / 4), .slice a_m0_4 n_m0_4 c_m0_4]) rfl rfl rfl rfl rfl rfl rfl rfl rfl ?_)
    exact tfx (hg_7ff g79 ng79 g76)
  have hg_7f : ∀ (g76 : Nat), G [true, true, true, true, true, true, true, false, false, false, false] [(0, vP B0 0), (15, vP B0 0), (19, .slice (ad B1) m1_L.length (nB1 / 4)), (21, .slice (some ⟨g76, 0, none⟩) 1 1)] ([⟨g76, [.int .u8 c1_0, .int .u8 c1_1, .int .u8 c1_2, .int .u8 c1_3], 4⟩, ⟨b72, [.int .u8 c1_0, .int .u8 c1_1, .int .u8 c1_2, .int .u8 c1_3], 4⟩, ⟨B0, [vI m0_0, vI m0_1, vI m0_2, .slice (ad B1) m1_L.length (nB1 / 4), .slice a_m0_4 n_m0_4 c_m0_4], 5⟩, ⟨B1, encL E_u84 m1_L, nB1⟩] : List Own) := by
   intro g76
   refine hstep [7] _ _ _ (by kernel_rfl) (List.cons_ne_nil _ _) ⟨?_, trivial⟩
   ·refine tT (t_appX (E := E_u84) (L := m1_L) (X := ([(c1_0, c1_1, c1_2, c1_3)] : List (Int × Int × Int × Int))) (F := ([⟨g76, [.int .u8 c1_0, .int .u8 c1_1, .int .u8 c1_2, .int .u8 c1_3], 4⟩, ⟨b72, [.int .u8 c1_0, .int .u8 c1_1, .int .u8 c1_2, .int .u8 c1_3], 4⟩, ⟨B0, [vI m0_0, vI m0_1, vI m0_2, .slice (ad B1) m1_L.length (nB1 / 4), .slice a_m0_4 n_m0_4 c_m0_4], 5⟩] : List Own)) rfl rfl rfl rfl (sel_perm (is := [3]) (by kernel_rfl)) rfl (Or.inr ⟨_, _, rfl, .at 0 rfl (by kernel_rfl)⟩) rfl (by decide) (by decide) rfl hl78 fun g79 ng79 => ?_)
    exact t_fin0 (hqf 8 [0, 22, 23] _ _ _ _ (by kernel_rfl) (by kernel_rfl) (hqf 9 [0, 22, 24] _ [(0, vP B0 0), (22, .slice (ad g79) y77.length (ng79 / 4)), (23, vP B0 0)] _ _ (by kernel_rfl) (by kernel_rfl) (hg_3ff g79 ng79 g76)))
  have hg_3f : G [true, true, true, true, true, true, false, false, false, false, false] [(0, vP B0 0), (15, vP B0 0), (19, .slice (ad B1) m1_L.length (nB1 / 4)), (20, .agg #[.int .u8 c1_0, .int .u8 c1_1, .int .u8 c1_2, .int .u8 c1_3])] ([⟨b72, [.int .u8 c1_0, .int .u8 c1_1, .int .u8 c1_2, .int .u8 c1_3], 4⟩, ⟨B0, [vI m0_0, vI m0_1, vI m0_2, .slice (ad B1) m1_L.length (nB1 / 4), .slice a_m0_4 n_m0_4 c_m0_4], 5⟩, ⟨B1, encL E_u84 m1_L, nB1⟩] : List Own) := by
   refine hstep [6] _ _ _ (by kernel_rfl) (List.cons_ne_nil _ _) ⟨?_, trivial⟩
   ·refine tT (t_a (dv_bsl (cs := [.int .u8 c1_0, .int .u8 c1_1, .int .u8 c1_2, .int .u8 c1_3]) rfl rfl (by kernel_rfl)) fun g76 fg76 sg76 => ?_)
    exact tfx (hg_7f g76)
  have hg_f : G [true, true, true, true, false, false, false, false, false, false, false] [(0, vP B0 0), (3, vP b72 0), (15, vP B0 0), (18, vP B0 3)] ([⟨b72, [.int .u8 c1_0, .int .u8 c1_1, .int .u8 c1_2, .int .u8 c1_3], 4⟩, ⟨B0, [vI m0_0, vI m0_1, vI m0_2, .slice (ad B1) m1_L.length (nB1 / 4), .slice a_m0_4 n_m0_4 c_m0_4], 5⟩, ⟨B1, encL E_u84 m1_L, nB1⟩] : List Own) := by
   refine hstep [4, 5] _ _ _ (by kernel_rfl) (List.cons_ne_nil _ _) ⟨?_, ?_, trivial⟩
   ·refine tT (t_v (.ld1 rfl rfl rfl (.at 1 rfl rfl)) (tf [(0, vP B0 0), (3, vP b72 0), (15, vP B0 0), (19, .slice (ad B1) m1_L.length (nB1 / 4))] ?_))
    refine hstep [5] _ _ _ (by kernel_rfl) (List.cons_ne_nil _ _) ⟨?_, trivial⟩
    ·refine tT (t_v (.ldn rfl rfl rfl (.at 0 rfl rfl)) ?_)
     exact tfx hg_3f
   ·refine tT (t_v (.ldn rfl rfl rfl (.at 0 rfl rfl)) (tf [(0, vP B0 0), (15, vP B0 0), (18, vP B0 3), (20, .agg #[.int .u8 c1_0, .int .u8 c1_1, .int .u8 c1_2, .int .u8 c1_3])] ?_))
    refine hstep [4, 6] _ _ _ (by kernel_rfl) (List.cons_ne_nil _ _) ⟨?_, ?_, trivial⟩
    ·refine tT (t_v (.ld1 rfl rfl rfl (.at 1 rfl rfl)) ?_)
     exact tfx hg_3f
    ·refine tT (t_a (dv_bsl (cs := [.int .u8 c1_0, .int .u8 c1_1, .int .u8 c1_2, .int .u8 c1_3]) rfl rfl (by kernel_rfl)) fun g76 fg76 sg76 => tf [(0, vP B0 0), (15, vP B0 0), (18, vP B0 3), (21, .slice (some ⟨g76, 0, none⟩) 1 1)] ?_)
     refine hstep [4] _ _ _ (by kernel_rfl) (List.cons_ne_nil _ _) ⟨?_, trivial⟩
     ·refine tT (t_v (.ld1 rfl rfl rfl (.at 2 rfl rfl)) ?_)
      exact tfx (hg_7f g76)
  have hg_0 : G [false, false, false, false, false, false, false, false, false, false, false] [(0, vP B0 0), (3, vP b72 0)] ([⟨b72, [.int .u8 c1_0, .int .u8 c1_1, .int .u8 c1_2, .int .u8 c1_3], 4⟩, ⟨B0, [vI m0_0, vI m0_1, vI m0_2, .slice (ad B1) m1_L.length (nB1 / 4), .slice a_m0_4 n_m0_4 c_m0_4], 5⟩, ⟨B1, encL E_u84 m1_L, nB1⟩] : List Own) := by
   exact hqf 0 [0, 3, 15] _ _ _ _ (by kernel_rfl) (by kernel_rfl) (hqf 1 [0, 3, 15, 16] _ [(0, vP B0 0), (3, vP b72 0), (15, vP B0 0)] _ _ (by kernel_rfl) (by kernel_rfl) (hqf 2 [0, 3, 15, 17] _ [(0, vP B0 0), (3, vP b72 0), (15, vP B0 0), (16, vP B0 0)] _ _ (by kernel_rfl) (by kernel_rfl) (hqf 3 [0, 3, 15, 18] _ [(0, vP B0 0), (3, vP b72 0), (15, vP B0 0), (17, vP B0 0)] _ _ (by kernel_rfl) (by kernel_rfl) hg_f)))
  exact hg_0

/-- glyphicmake.Point -/
def c25 : C := (.seq (.reg [oq 4 (.new [(vI 0), (vI 0)])]) (.seq (.reg [oq 6 (.mv 0), oq 7 (.mv 1), oq 8 (.bin .mul (.const (vI 2)) 7), oq 9 (.bin .add 8 (.const (vI 1))), oq 10 (.call 21 [6, 9]), oq 11 (.mv 1), oq 12 (.bin .sub 10 11), oq 5 (.mv 12)]) (.seq (.reg [oq 13 (.mv 5), oq 14 (.mv 0), oq 15 (.mv 1), oq 16 (.bin .mul (.const (vI 2)) 15), oq 17 (.bin .add 16 (.const (vI 1))), oq 18 (.call 21 [14, 17]), oq 19 (.mv 1), oq 20 (.bin .sub 18 19), oq 21 (.bld [(vI 0), (vI 0)] [(0, 1, 13), (1, 1, 20)]), ⟨none, .st 2 4 21, none⟩]) .ret)))
def glyphicmake_Point_v1.f (far1 : Int) (m0_0 : List (Int)) (m0_1 : Int) : Option (Int × Int × Int) := (glyphicmake_Seq_Next_v1.f (wr64 ((wr64 (2 * far1)) + 1)) m0_0 m0_1).bind fun (t87, t88) => ((glyphicmake_Seq_Next_v1.f (wr64 ((wr64 (2 * far1)) + 1)) m0_0 t88).bind fun (t90, t91) => (some (wr64 (t87 - far1), wr64 (t90 - far1), t91)))
theorem glyphicmake_Point_v1.ok {S : Seal} {B0 : Nat} {far1 : Int} {m0_0 : List (Int)} {m0_1 r0_ r1_ r2_ : Int}{A_ : Int → Addr} (hE_ : EO gsE S A_ 157) {a_m0_0 : Option Addr} {c_m0_0 : Nat} (h_m0_0 : SlE S E_i64 m0_0 a_m0_0) (e : glyphicmake_Point_v1.f far1 m0_0 m0_1 = some (r0_, r1_, r2_)) :
    Cal Tryd.prog 25 [vP B0 0, vI far1] ([⟨B0, [.slice a_m0_0 m0_0.length c_m0_0, vI m0_1], 2⟩] : List Own) S fun v H' S' => v = .agg #[vI r0_, vI r1_] ∧ H' = ([⟨B0, [.slice a_m0_0 m0_0.length c_m0_0, vI r2_], 2⟩] : List Own) ∧ S' = S := by
 unfold glyphicmake_Point_v1.f at e
 refine cal_of (c := c25) (N := 22) Tryd.func25 rfl rfl (by kernel_rfl) (rs := [.cn 2 4]) (by kernel_rfl) (Nat.le_of_ble_eq_true rfl) ?_
 unfold c25
 obtain ⟨⟨t87, t88⟩, h89, e⟩ := bind_of e
 try dsimp only at e
 obtain ⟨⟨t90, t91⟩, h92, e⟩ := bind_of e
 try dsimp only at e
 refine wx mixed 3 [0, 2, 1] 1 [(5, spC 21 [6, 9] [[⟨B0, [.slice a_m0_0 m0_0.length c_m0_0, vI m0_1], 2⟩]] [] [] 1 (fun l_ => vI t87) (fun l_ => [[⟨B0, [.slice a_m0_0 m0_0.length c_m0_0, vI t88], 2⟩]]) (vs := [vP B0 0, vI (wr64 ((wr64 (2 * far1)) + 1))]) rfl (((glyphicmake_Seq_Next_v1.ok hE_ h_m0_0 h89)).mono fun _ _ _ ⟨h1_, h2_, h3_⟩ => ⟨un ⟨[], [], [], [], []⟩, h1_.trans (by kernel_rfl), h2_.trans (by kernel_rfl), h3_⟩)), (14, spC 21 [14, 17] [[⟨B0, [.slice a_m0_0 m0_0.length c_m0_0, vI t88], 2⟩]] [] [] 1 (fun l_ => vI t90) (fun l_ => [[⟨B0, [.slice a_m0_0 m0_0.length c_m0_0, vI t91], 2⟩]]) (vs := [vP B0 0, vI (wr64 ((wr64 (2 * far1)) + 1))]) rfl (((glyphicmake_Seq_Next_v1.ok hE_ h_m0_0 h92)).mono fun _ _ _ ⟨h1_, h2_, h3_⟩ => ⟨un ⟨[], [], [], [], []⟩, h1_.trans (by kernel_rfl), h2_.trans (by kernel_rfl), h3_⟩))] fun b86 => zWL [] ?_
 refine w_ (w_as [(4, vP b86 0)] ([⟨b86, [vI (wr64 (t87 - far1)), vI (wr64 (t90 - far1))], 2⟩, ⟨B0, [.slice a_m0_0 m0_0.length c_m0_0, vI t91], 2⟩] : List Own) ?_)
 refine w_ret ?_
 simp only [Option.some.injEq, Prod.mk.injEq] at e
 obtain ⟨rfl, rfl, rfl⟩ := e
 exact ⟨[_], _, S, ⟨⟨_, _, _, rfl, .at 0 rfl rfl, rfl⟩, trivial⟩, VS.sel [1] (by kernel_rfl), rfl, rfl, rfl⟩

/-- glyphicref.SamePoint -/
def c26 : C := (.seq (.reg [oq 2 (.box 0), oq 3 (.box 1), oq 4 (.mv (.const (vB false)))]) (.seq (.reg [oq 5 (.pad 0 2), oq 6 (.ld none 5), oq 7 (.pad 0 3), oq 8 (.ld none 7), oq 9 (.bin .eql 6 8), oq 10 (.mv 9), ⟨(some 11), .pad 1 2, (some (10, true))⟩, ⟨(some 12), .ld none 11, (some (10, true))⟩, ⟨(some 13), .pad 1 3, (some (10, true))⟩, ⟨(some 14), .ld none 13, (some (10, true))⟩, ⟨(some 15), .bin .eql 12 14, (some (10, true))⟩, oq 16 (.pk 10 15 (.const (vB false))), oq 4 (.mv 16)]) .ret))
def glyphicref_SamePoint.f (a0_X : Int) (a0_Y : Int) (b1_X : Int) (b1_Y : Int) : Option (Bool) := if a0_X = b1_X then (some (a0_Y == b1_Y)) else (some false)
theorem glyphicref_SamePoint.ok {S : Seal} {a0_X a0_Y b1_X b1_Y : Int} {r0_ : Bool}{A_ : Int → Addr} (hE_ : EO gsE S A_ 157) (e : glyphicref_SamePoint.f a0_X a0_Y b1_X b1_Y = some r0_) :
    Cal Tryd.prog 26 [.agg #[vI a0_X, vI a0_Y], .agg #[vI b1_X, vI b1_Y]] [] S fun v H' S' => v = .bool r0_ ∧ H' = [] ∧ S' = S := by
 unfold glyphicref_SamePoint.f at e
 refine cal_of (c := c26) (N := 17) Tryd.func26 rfl rfl (by kernel_rfl) (rs := [.t 4]) (by kernel_rfl) (Nat.le_of_ble_eq_true rfl) ?_
 unfold c26
 refine wx mixed 1 [] 2 [] fun b97 b98 => zWL [] ?_
 refine w_ ?_
 by_cases c99 : a0_X = b1_X
 ·rw [if_pos c99] at e
  have c99b : (a0_X == b1_X) = true := beq_iff_eq.mpr c99
  refine wxM mixed 1 [1, 0, 1, 0] 0 [(4, spQ (.bin .eql 6 8) [vI a0_X, vI b1_X] (congrArg (fun t => some (Value.bool t)) c99b))] (zWL [0, 1] ?_)
  refine w_ (w_ret ?_)
  obtain rfl := Option.some.inj e
  exact ⟨[_], [], S, ⟨(show gt _ _ = some _ from (by kernel_rfl)), trivial⟩, VS.none, rfl, rfl, rfl⟩
 ·rw [if_neg c99] at e
  have c99b : (a0_X == b1_X) = false := beq_eq_false_iff_ne.mpr c99
  refine wxM mixed 1 [1, 0, 0, 0] 0 [(4, spQ (.bin .eql 6 8) [vI a0_X, vI b1_X] (congrArg (fun t => some (Value.bool t)) c99b))] (zWL [0, 1] ?_)
  refine w_ (w_ret ?_)
  obtain rfl := Option.some.inj e
  exact ⟨[_], [], S, ⟨(show gt _ _ = some _ from (by kernel_rfl)), trivial⟩, VS.none, rfl, rfl, rfl⟩

/-- glyphicmake.inside -/
def c38 : C := (.seq (.reg [oq 4 (.new [(vI 0), (vI 0)])]) (.seq (.seq (.reg [oq 6 (.mv 0), oq 7 (.call 21 [6, (.const (vI 12))]), oq 8 (.bin .eql 7 (.const (vI 0)))]) (.cond 8 (.seq (.reg [oq 9 (.mv 0), oq 10 (.mv 1), oq 11 (.call 25 [9, 10]), ⟨none, .st 2 4 11, none⟩]) .ret) .skip)) (.seq (.reg [oq 12 (.mv 0), oq 13 (.mv 1), oq 14 (.bin .add 13 (.const (vI 1))), oq 15 (.call 21 [12, 14]), oq 5 (.mv 15)]) (.seq (.reg [oq 16 (.mv 5), oq 17 (.mv 0), oq 18 (.mv 1), oq 19 (.bin .add 18 (.const (vI 1))), oq 20 (.call 21 [17, 19]), oq 21 (.bld [(vI 0), (vI 0)] [(0, 1, 16), (1, 1, 20)]), ⟨none, .st 2 4 21, none⟩]) .ret))))
def glyphicmake_inside_v1.f (far1 : Int) (m0_0 : List (Int)) (m0_1 : Int) : Option (Int × Int × Int) := (glyphicmake_Seq_Next_v1.f 12 m0_0 m0_1).bind fun (t143, t144) => (if t143 = 0 then ((glyphicmake_Point_v1.f far1 m0_0 t144).bind fun (t147, t148, t149) => (some (t147, t148, t149))) else ((glyphicmake_Seq_Next_v1.f (wr64 (far1 + 1)) m0_0 t144).bind fun (t151, t152) => ((glyphicmake_Seq_Next_v1.f (wr64 (far1 + 1)) m0_0 t152).bind fun (t154, t155) => (some (t151, t154, t155)))))
theorem glyphicmake_inside_v1.ok {S : Seal} {B0 : Nat} {far1 : Int} {m0_0 : List (Int)} {m0_1 r0_ r1_ r2_ : Int}{A_ : Int → Addr} (hE_ : EO gsE S A_ 157) {a_m0_0 : Option Addr} {c_m0_0 : Nat} (h_m0_0 : SlE S E_i64 m0_0 a_m0_0) (e : glyphicmake_inside_v1.f far1 m0_0 m0_1 = some (r0_, r1_, r2_)) :
    Cal Tryd.prog 38 [vP B0 0, vI far1] ([⟨B0, [.slice a_m0_0 m0_0.length c_m0_0, vI m0_1], 2⟩] : List Own) S fun v H' S' => v = .agg #[vI r0_, vI r1_] ∧ H' = ([⟨B0, [.slice a_m0_0 m0_0.length c_m0_0, vI r2_], 2⟩] : List Own) ∧ S' = S := by
 unfold glyphicmake_inside_v1.f at e
 refine cal_of (c := c38) (N := 22) Tryd.func38 rfl rfl (by kernel_rfl) (rs := [.cn 2 4]) (by kernel_rfl) (Nat.le_of_ble_eq_true rfl) ?_
 unfold c38
 refine wx mixed 1 [] 1 [] fun b142 => zWL [] ?_
 refine w_ (w_seq ?_)
 obtain ⟨⟨t143, t144⟩, h145, e⟩ := bind_of e
 try dsimp only at e
 by_cases c146 : t143 = 0
 ·rw [if_pos c146] at e
  have c146b : (t143 == 0) = true := beq_iff_eq.mpr c146
  refine wxM mixed 1 [1] 0 [(1, spC 21 [6, (.const (vI 12))] [[⟨B0, [.slice a_m0_0 m0_0.length c_m0_0, vI m0_1], 2⟩]] [] [] 1 (fun l_ => vI t143) (fun l_ => [[⟨B0, [.slice a_m0_0 m0_0.length c_m0_0, vI t144], 2⟩]]) (vs := [vP B0 0, vI 12]) rfl (((glyphicmake_Seq_Next_v1.ok hE_ h_m0_0 h145)).mono fun _ _ _ ⟨h1_, h2_, h3_⟩ => ⟨un ⟨[], [], [], [], []⟩, h1_.trans (by kernel_rfl), h2_.trans (by kernel_rfl), h3_⟩)), (2, spQ (.bin .eql 7 (.const (vI 0))) [vI t143, vI 0] (congrArg (fun t => some (Value.bool t)) c146b))] (zWL [] ?_)
  refine w_ (w_ct (w_ ?_))
  obtain ⟨⟨t147, t148, t149⟩, h150, e⟩ := bind_of e
  try dsimp only at e
  refine wxM mixed 1 [0, 1] 0 [(2, spC 25 [9, 10] [[⟨B0, [.slice a_m0_0 m0_0.length c_m0_0, vI t144], 2⟩]] [] [] 1 (fun l_ => .agg #[vI t147, vI t148]) (fun l_ => [[⟨B0, [.slice a_m0_0 m0_0.length c_m0_0, vI t149], 2⟩]]) (vs := [vP B0 0, vI far1]) rfl (((glyphicmake_Point_v1.ok hE_ h_m0_0 h150)).mono fun _ _ _ ⟨h1_, h2_, h3_⟩ => ⟨un ⟨[], [], [], [], []⟩, h1_.trans (by kernel_rfl), h2_.trans (by kernel_rfl), h3_⟩))] (zWL [] ?_)
  refine w_ (w_as [(4, vP b142 0)] ([⟨b142, [vI t147, vI t148], 2⟩, ⟨B0, [.slice a_m0_0 m0_0.length c_m0_0, vI t149], 2⟩] : List Own) ?_)
  refine w_ret ?_
  simp only [Option.some.injEq, Prod.mk.injEq] at e
  obtain ⟨rfl, rfl, rfl⟩ := e
  exact ⟨[_], _, S, ⟨⟨_, _, _, rfl, .at 0 rfl rfl, rfl⟩, trivial⟩, VS.sel [1] (by kernel_rfl), rfl, rfl, rfl⟩
 ·rw [if_neg c146] at e
  have c146b : (t143 == 0) = false := beq_eq_false_iff_ne.mpr c146
  refine wqM mixed [1] 0 .nrm [(1, spC 21 [6, (.const (vI 12))] [[⟨B0, [.slice a_m0_0 m0_0.length c_m0_0, vI m0_1], 2⟩]] [] [] 1 (fun l_ => vI t143) (fun l_ => [[⟨B0, [.slice a_m0_0 m0_0.length c_m0_0, vI t144], 2⟩]]) (vs := [vP B0 0, vI 12]) rfl (((glyphicmake_Seq_Next_v1.ok hE_ h_m0_0 h145)).mono fun _ _ _ ⟨h1_, h2_, h3_⟩ => ⟨un ⟨[], [], [], [], []⟩, h1_.trans (by kernel_rfl), h2_.trans (by kernel_rfl), h3_⟩)), (2, spQ (.bin .eql 7 (.const (vI 0))) [vI t143, vI 0] (congrArg (fun t => some (Value.bool t)) c146b))] (zQL [] ?_)
  refine w_ ?_
  obtain ⟨⟨t151, t152⟩, h153, e⟩ := bind_of e
  try dsimp only at e
  obtain ⟨⟨t154, t155⟩, h156, e⟩ := bind_of e
  try dsimp only at e
  refine wxM mixed 2 [0, 2, 1] 0 [(3, spC 21 [12, 14] [[⟨B0, [.slice a_m0_0 m0_0.length c_m0_0, vI t144], 2⟩]] [] [] 1 (fun l_ => vI t151) (fun l_ => [[⟨B0, [.slice a_m0_0 m0_0.length c_m0_0, vI t152], 2⟩]]) (vs := [vP B0 0, vI (wr64 (far1 + 1))]) rfl (((glyphicmake_Seq_Next_v1.ok hE_ h_m0_0 h153)).mono fun _ _ _ ⟨h1_, h2_, h3_⟩ => ⟨un ⟨[], [], [], [], []⟩, h1_.trans (by kernel_rfl), h2_.trans (by kernel_rfl), h3_⟩)), (9, spC 21 [17, 19] [[⟨B0, [.slice a_m0_0 m0_0.length c_m0_0, vI t152], 2⟩]] [] [] 1 (fun l_ => vI t154) (fun l_ => [[⟨B0, [.slice a_m0_0 m0_0.length c_m0_0, vI t155], 2⟩]]) (vs := [vP B0 0, vI (wr64 (far1 + 1))]) rfl (((glyphicmake_Seq_Next_v1.ok hE_ h_m0_0 h156)).mono fun _ _ _ ⟨h1_, h2_, h3_⟩ => ⟨un ⟨[], [], [], [], []⟩, h1_.trans (by kernel_rfl), h2_.trans (by kernel_rfl), h3_⟩))] (zWL [] ?_)
  refine w_ (w_as [(4, vP b142 0)] ([⟨b142, [vI t151, vI t154], 2⟩, ⟨B0, [.slice a_m0_0 m0_0.length c_m0_0, vI t155], 2⟩] : List Own) ?_)
  refine w_ret ?_
  simp only [Option.some.injEq, Prod.mk.injEq] at e
  obtain ⟨rfl, rfl, rfl⟩ := e
  exact ⟨[_], _, S, ⟨⟨_, _, _, rfl, .at 0 rfl rfl, rfl⟩, trivial⟩, VS.sel [1] (by kernel_rfl), rfl, rfl, rfl⟩

/-- glyphicmake.Path -/
def c27 : C := (.seq (.reg [oq 6 (.new [(vI 0), (vI 0), (.slice none 0 0), (vB false)])]) (.seq (.reg [oq 11 (.mv 0), oq 12 (.mv 1), oq 13 (.call 38 [11, 12]), oq 14 (.mv 2), oq 15 (.bld [(vI 0), (vI 0), (.slice none 0 0), (vB false)] [(0, 2, 13), (3, 1, 14)]), oq 7 (.new [(vI 0), (vI 0), (.slice none 0 0), (vB false)]), ⟨none, .st 4 7 15, none⟩]) (.seq (.seq (.reg [oq 16 (.mv 0), oq 17 (.call 21 [16, (.const (vI 4))]), oq 18 (.bin .add (.const (vI 1)) 17), oq 8 (.mv 18)]) (.block 0 (.loop (.seq (.seq (.reg [oq 19 (.mv 8), oq 20 (.bin .gtr 19 (.const (vI 0)))]) (.cond 20 .skip (.exit 0))) (.seq (.block 1 (.seq (.reg [oq 23 (.mv 0), oq 24 (.call 21 [23, (.const (vI 3))]), oq 25 (.bin .add (.const (vI 1)) 24), oq 26 (.bld [(vI 0), (vI 0), (vI 0), (vI 0), (vI 0), (vI 0), (vI 0)] [(0, 1, 25)]), oq 9 (.new [(vI 0), (vI 0), (vI 0), (vI 0), (vI 0), (vI 0), (vI 0)]), ⟨none, .st 7 9 26, none⟩]) (.seq (.seq (.reg [oq 10 (.mv (.const (vI 0)))]) (.block 2 (.loop (.seq (.seq (.reg [oq 27 (.mv 10), oq 28 (.pad 0 9), oq 29 (.ld none 28), oq 30 (.bin .lss 27 29)]) (.cond 30 .skip (.exit 2))) (.seq (.block 3 (.reg [oq 33 (.mv 10), oq 34 (.mv 0), oq 35 (.mv 1), oq 36 (.call 38 [34, 35]), oq 37 (.pad 1 9), oq 38 (.ixa 2 3 37 33), ⟨none, .st 2 38 36, none⟩])) (.reg [oq 31 (.mv 10), oq 32 (.bin .add 31 (.const (vI 1))), oq 10 (.mv 32)])))))) (.reg [oq 39 (.pad 2 7), oq 40 (.ld none 39), oq 41 (.ld (some 7) 9), oq 42 (.bsl [(vI 0), (vI 0), (vI 0), (vI 0), (vI 0), (vI 0), (vI 0)] 1 [(0, 7, 41)]), oq 43 (.app 69 7 56 [(vI 0), (vI 0), (vI 0), (vI 0), (vI 0), (vI 0), (vI 0)] 40 42), oq 44 (.pad 2 7), ⟨none, .st 1 44 43, none⟩])))) (.reg [oq 21 (.mv 8), oq 22 (.bin .sub 21 (.const (vI 1))), oq 8 (.mv 22)])))))) (.seq (.reg [oq 45 (.ld (some 4) 7), ⟨none, .st 4 6 45, none⟩]) .ret))))
def glyphicmake_Path_v1.l1 : Nat → Int → List (Int) → Int → Int → Int → Int → Int → Int → Int → Int → Int → Option (Int × Int × Int × Int × Int × Int × Int)
  | 0, _, _, _, _, _, _, _, _, _, _, _ => none
  | k + 1, far1, m0_0, t212, x219, x220, x221, x222, x223, x224, x225, x226 => if x219 < (wr64 (1 + t212)) then ((glyphicmake_inside_v1.f far1 m0_0 x226).bind fun (t228, t229, t230) => (if x219 = 0 then (glyphicmake_Path_v1.l1 k far1 m0_0 t212 (wr64 (x219 + 1)) t228 t229 x222 x223 x224 x225 t230) else (if x219 = 1 then (glyphicmake_Path_v1.l1 k far1 m0_0 t212 (wr64 (x219 + 1)) x220 x221 t228 t229 x224 x225 t230) else (if x219 = 2 then (glyphicmake_Path_v1.l1 k far1 m0_0 t212 (wr64 (x219 + 1)) x220 x221 x222 x223 t228 t229 t230) else (none))))) else (some (x220, x221, x222, x223, x224, x225, x226))
def glyphicmake_Path_v1.l0 : Nat → Int → List (Int) → Int → List (Int × Int × Int × Int × Int × Int × Int) → Int → Option (List (Int × Int × Int × Int × Int × Int × Int) × Int)
  | 0, _, _, _, _, _ => none
  | k + 1, far1, m0_0, x204, y206, x207 => if x204 > 0 then (((glyphicmake_Seq_Next_v1.f 3 m0_0 x207).bind fun (t212, t213) => ((glyphicmake_Path_v1.l1 k far1 m0_0 t212 0 0 0 0 0 0 0 t213 : Option (Int × Int × Int × Int × Int × Int × Int)).bind fun (x239, x240, x241, x242, x243, x244, x245) => ((lapp y206 ([(wr64 (1 + t212), x239, x240, x241, x242, x243, x244)] : List (Int × Int × Int × Int × Int × Int × Int))).bind fun y247 => (some (x245, y247)))) : Option (Int × List (Int × Int × Int × Int × Int × Int × Int))).bind fun (x250, y252) => (glyphicmake_Path_v1.l0 k far1 m0_0 (wr64 (x204 - 1)) y252 x250)) else (some (y206, x207))
def glyphicmake_Path_v1.f (k : Nat) (far1 : Int) (closed2 : Bool) (m0_0 : List (Int)) (m0_1 : Int) : Option (Int × Int × Bool × List (Int × Int × Int × Int × Int × Int × Int) × Int) := (glyphicmake_inside_v1.f far1 m0_0 m0_1).bind fun (t193, t194, t195) => (((glyphicmake_Seq_Next_v1.f 4 m0_0 t195).bind fun (t201, t202) => (glyphicmake_Path_v1.l0 k far1 m0_0 (wr64 (1 + t201)) ([] : List (Int × Int × Int × Int × Int × Int × Int)) t202) : Option (List (Int × Int × Int × Int × Int × Int × Int) × Int)).bind fun (y256, x257) => (some (t193, t194, closed2, y256, x257)))
theorem glyphicmake_Path_v1.ok {S : Seal} {B0 k : Nat} {far1 : Int} {closed2 : Bool} {m0_0 : List (Int)} {m0_1 r0_ r1_ : Int} {r2_ : Bool} {r3_ : List (Int × Int × Int × Int × Int × Int × Int)} {r4_ : Int}{A_ : Int → Addr} (hE_ : EO gsE S A_ 157) {a_m0_0 : Option Addr} {c_m0_0 : Nat} (h_m0_0 : SlE S E_i64 m0_0 a_m0_0) (e : glyphicmake_Path_v1.f k far1 closed2 m0_0 m0_1 = some (r0_, r1_, r2_, r3_, r4_)) :
    Cal Tryd.prog 27 [vP B0 0, vI far1, .bool closed2] ([⟨B0, [.slice a_m0_0 m0_0.length c_m0_0, vI m0_1], 2⟩] : List Own) S fun v H' S' => ∃ (N0_ : Option Nat) (nN0_ : Nat) , v = .agg #[vI r0_, vI r1_, .slice (ad N0_) r3_.length (nN0_ / 7), .bool r2_] ∧ H' = ([⟨N0_, encL E_i647 r3_, nN0_⟩, ⟨B0, [.slice a_m0_0 m0_0.length c_m0_0, vI r4_], 2⟩] : List Own) ∧ S' = S := by
 unfold glyphicmake_Path_v1.f at e
 refine cal_of (c := c27) (N := 46) Tryd.func27 rfl rfl (by kernel_rfl) (rs := [.cn 4 6]) (by kernel_rfl) (Nat.le_of_ble_eq_true rfl) ?_
 unfold c27
 obtain ⟨⟨t193, t194, t195⟩, h196, e⟩ := bind_of e
 try dsimp only at e
 refine wx mixed 2 [0, 3] 2 [(3, spC 38 [11, 12] [[⟨B0, [.slice a_m0_0 m0_0.length c_m0_0, vI m0_1], 2⟩]] [] [] 1 (fun l_ => .agg #[vI t193, vI t194]) (fun l_ => [[⟨B0, [.slice a_m0_0 m0_0.length c_m0_0, vI t195], 2⟩]]) (vs := [vP B0 0, vI far1]) rfl (((glyphicmake_inside_v1.ok hE_ h_m0_0 h196)).mono fun _ _ _ ⟨h1_, h2_, h3_⟩ => ⟨un ⟨[], [], [], [], []⟩, h1_.trans (by kernel_rfl), h2_.trans (by kernel_rfl), h3_⟩))] fun b192 b197 => zWL [] ?_
 refine w_ ?_
 obtain ⟨⟨y256, x257⟩, e199, e⟩ := bind_of e
 try dsimp only at e
 refine w_cut [6, 7] (fun σ_ H_ S_ => ∃ (a255 : Option Nat) (na255 : Nat), [(6, vP b192 0), (7, vP b197 0)] = σ_ ∧ ([⟨b197, [vI t193, vI t194, .slice (ad a255) y256.length (na255 / 7), .bool closed2], 4⟩, ⟨B0, [.slice a_m0_0 m0_0.length c_m0_0, vI x257], 2⟩, ⟨b192, [vI 0, vI 0, .slice none 0 0, vB false], 4⟩, ⟨a255, encL E_i647 y256, na255⟩] : List Own) = H_ ∧ S = S_) ?_ ?_
 ·refine w_ ?_
  obtain ⟨⟨t201, t202⟩, h203, e199⟩ := bind_of e199
  try dsimp only at e199
  refine wxM mixed 1 [1] 0 [(1, spC 21 [16, (.const (vI 4))] [[⟨B0, [.slice a_m0_0 m0_0.length c_m0_0, vI t195], 2⟩]] [] [] 1 (fun l_ => vI t201) (fun l_ => [[⟨B0, [.slice a_m0_0 m0_0.length c_m0_0, vI t202], 2⟩]]) (vs := [vP B0 0, vI 4]) rfl (((glyphicmake_Seq_Next_v1.ok hE_ h_m0_0 h203)).mono fun _ _ _ ⟨h1_, h2_, h3_⟩ => ⟨un ⟨[], [], [], [], []⟩, h1_.trans (by kernel_rfl), h2_.trans (by kernel_rfl), h3_⟩))] (zWL [] ?_)
  refine w_ (w_block (w_vs VS.vac ?_))
  refine wk [(0, vP B0 0), (1, vI far1), (6, vP b192 0), (7, vP b197 0), (8, vI (wr64 (1 + t201)))] (w_vs (H' := ([⟨none, encL E_i647 ([] : List (Int × Int × Int × Int × Int × Int × Int)), 0⟩, ⟨B0, [.slice a_m0_0 m0_0.length c_m0_0, vI t202], 2⟩, ⟨b197, [vI t193, vI t194, .slice (ad none) ([] : List (Int × Int × Int × Int × Int × Int × Int)).length (0 / 7), .bool closed2], 4⟩, ⟨b192, [vI 0, vI 0, .slice none 0 0, vB false], 4⟩] : List Own)) (S' := S) (VS.as ([⟨none, encL E_i647 ([] : List (Int × Int × Int × Int × Int × Int × Int)), 0⟩, ⟨B0, [.slice a_m0_0 m0_0.length c_m0_0, vI t202], 2⟩, ⟨b197, [vI t193, vI t194, .slice (ad none) ([] : List (Int × Int × Int × Int × Int × Int × Int)).length (0 / 7), .bool closed2], 4⟩, ⟨b192, [vI 0, vI 0, .slice none 0 0, vB false], 4⟩] : List Own) (VS.sel [0, 0, 0, 0] (by kernel_rfl))) ?_)
  refine w_loop (fun n_ σ_ H_ S_ => ∃ (x204 : Int) (y206 : List (Int × Int × Int × Int × Int × Int × Int)) (x207 : Int), ∃ (a205 : Option Nat) (na205 : Nat), [(0, vP B0 0), (1, vI far1), (6, vP b192 0), (7, vP b197 0), (8, vI x204)] = σ_ ∧ ([⟨a205, encL E_i647 y206, na205⟩, ⟨B0, [.slice a_m0_0 m0_0.length c_m0_0, vI x207], 2⟩, ⟨b197, [vI t193, vI t194, .slice (ad a205) y206.length (na205 / 7), .bool closed2], 4⟩, ⟨b192, [vI 0, vI 0, .slice none 0 0, vB false], 4⟩] : List Own) = H_ ∧ S = S_ ∧ glyphicmake_Path_v1.l0 n_ far1 m0_0 x204 y206 x207 = some (y256, x257)) _ ⟨wr64 (1 + t201), ([] : List (Int × Int × Int × Int × Int × Int × Int)), t202, none, 0, rfl, rfl, rfl, e199⟩ ?_
  rintro n254 σ_ H_ S_ ⟨x204, y206, x207, a205, na205, rfl, rfl, rfl, e199⟩
  cases n254 with
  | zero => rw [glyphicmake_Path_v1.l0.eq_1] at e199; cases e199
  | succ k_ =>
   rw [glyphicmake_Path_v1.l0.eq_2] at e199
   by_cases c208 : x204 > 0
   ·rw [if_pos c208] at e199
    have c208b : (decide (x204 > 0)) = true := decide_eq_true c208
    refine wx mixed 1 [] 0 [(1, spQ (.bin .gtr 19 (.const (vI 0))) [vI x204, vI 0] (congrArg (fun t => some (Value.bool t)) c208b))] (zWL [] ?_)
    refine w_ ?_
    obtain ⟨⟨x250, y252⟩, e210, e199⟩ := bind_of e199
    try dsimp only at e199
    refine w_cut [0, 1, 6, 7, 8] (fun σ_ H_ S_ => ∃ (a251 : Option Nat) (na251 : Nat), [(0, vP B0 0), (1, vI far1), (6, vP b192 0), (7, vP b197 0), (8, vI x204)] = σ_ ∧ ([⟨B0, [.slice a_m0_0 m0_0.length c_m0_0, vI x250], 2⟩, ⟨b197, [vI t193, vI t194, .slice (ad a251) y252.length (na251 / 7), .bool closed2], 4⟩, ⟨b192, [vI 0, vI 0, .slice none 0 0, vB false], 4⟩, ⟨a251, encL E_i647 y252, na251⟩] : List Own) = H_ ∧ S = S_) ?_ ?_
    ·refine w_ (w_block ?_)
     obtain ⟨⟨t212, t213⟩, h214, e210⟩ := bind_of e210
     try dsimp only at e210
     refine wxM mixed 1 [1, 5] 1 [(1, spC 21 [23, (.const (vI 3))] [[⟨B0, [.slice a_m0_0 m0_0.length c_m0_0, vI x207], 2⟩]] [] [] 1 (fun l_ => vI t212) (fun l_ => [[⟨B0, [.slice a_m0_0 m0_0.length c_m0_0, vI t213], 2⟩]]) (vs := [vP B0 0, vI 3]) rfl (((glyphicmake_Seq_Next_v1.ok hE_ h_m0_0 h214)).mono fun _ _ _ ⟨h1_, h2_, h3_⟩ => ⟨un ⟨[], [], [], [], []⟩, h1_.trans (by kernel_rfl), h2_.trans (by kernel_rfl), h3_⟩))] fun b215 => zWL [] ?_
     refine w_ ?_
     obtain ⟨⟨x239, x240, x241, x242, x243, x244, x245⟩, e217, e210⟩ := bind_of e210
     try dsimp only at e210
     refine w_cut [0, 1, 6, 7, 8, 9] (fun σ_ H_ S_ => [(0, vP B0 0), (1, vI far1), (6, vP b192 0), (7, vP b197 0), (8, vI x204), (9, vP b215 0)] = σ_ ∧ ([⟨b215, [vI (wr64 (1 + t212)), vI x239, vI x240, vI x241, vI x242, vI x243, vI x244], 7⟩, ⟨B0, [.slice a_m0_0 m0_0.length c_m0_0, vI x245], 2⟩, ⟨b197, [vI t193, vI t194, .slice (ad a205) y206.length (na205 / 7), .bool closed2], 4⟩, ⟨b192, [vI 0, vI 0, .slice none 0 0, vB false], 4⟩, ⟨a205, encL E_i647 y206, na205⟩] : List Own) = H_ ∧ S = S_) ?_ ?_
     ·refine w_ ?_
      refine wxM mixed 1 [] 0 [] (zWL [] ?_)
      refine w_ (w_block (wk [(0, vP B0 0), (1, vI far1), (6, vP b192 0), (7, vP b197 0), (8, vI x204), (9, vP b215 0), (10, vI 0)] (w_vs (H' := ([⟨b215, [vI (wr64 (1 + t212)), vI 0, vI 0, vI 0, vI 0, vI 0, vI 0], 7⟩, ⟨B0, [.slice a_m0_0 m0_0.length c_m0_0, vI t213], 2⟩, ⟨a205, encL E_i647 y206, na205⟩, ⟨b197, [vI t193, vI t194, .slice (ad a205) y206.length (na205 / 7), .bool closed2], 4⟩, ⟨b192, [vI 0, vI 0, .slice none 0 0, vB false], 4⟩] : List Own)) (S' := S) (VS.lb [0, 0, 0, 0, 0] (by kernel_rfl)) ?_)))
      refine w_loop (fun n_ σ_ H_ S_ => ∃ (x219 : Int) (x220 : Int) (x221 : Int) (x222 : Int) (x223 : Int) (x224 : Int) (x225 : Int) (x226 : Int), [(0, vP B0 0), (1, vI far1), (6, vP b192 0), (7, vP b197 0), (8, vI x204), (9, vP b215 0), (10, vI x219)] = σ_ ∧ ([⟨b215, [vI (wr64 (1 + t212)), vI x220, vI x221, vI x222, vI x223, vI x224, vI x225], 7⟩, ⟨B0, [.slice a_m0_0 m0_0.length c_m0_0, vI x226], 2⟩, ⟨a205, encL E_i647 y206, na205⟩, ⟨b197, [vI t193, vI t194, .slice (ad a205) y206.length (na205 / 7), .bool closed2], 4⟩, ⟨b192, [vI 0, vI 0, .slice none 0 0, vB false], 4⟩] : List Own) = H_ ∧ S = S_ ∧ glyphicmake_Path_v1.l1 n_ far1 m0_0 t212 x219 x220 x221 x222 x223 x224 x225 x226 = some (x239, x240, x241, x242, x243, x244, x245)) _ ⟨0, 0, 0, 0, 0, 0, 0, t213, rfl, rfl, rfl, e217⟩ ?_
      rintro n238 σ_ H_ S_ ⟨x219, x220, x221, x222, x223, x224, x225, x226, rfl, rfl, rfl, e217⟩
      cases n238 with
      | zero => rw [glyphicmake_Path_v1.l1.eq_1] at e217; cases e217
      | succ k_ =>
       rw [glyphicmake_Path_v1.l1.eq_2] at e217
       by_cases c227 : x219 < (wr64 (1 + t212))
       ·rw [if_pos c227] at e217
        have c227b : (decide (x219 < (wr64 (1 + t212)))) = true := decide_eq_true c227
        obtain ⟨⟨t228, t229, t230⟩, h231, e217⟩ := bind_of e217
        try dsimp only at e217
        by_cases c232 : x219 = 0
        ·rw [if_pos c232] at e217
         have c232b : (x219 == 0) = true := beq_iff_eq.mpr c232
         refine wq mixed [0, 1, 0] 0 .nrm [(3, spQ (.bin .lss 27 29) [vI x219, vI (wr64 (1 + t212))] (congrArg (fun t => some (Value.bool t)) c227b)), (7, spC 38 [34, 35] [[⟨B0, [.slice a_m0_0 m0_0.length c_m0_0, vI x226], 2⟩]] [] [] 1 (fun l_ => .agg #[vI t228, vI t229]) (fun l_ => [[⟨B0, [.slice a_m0_0 m0_0.length c_m0_0, vI t230], 2⟩]]) (vs := [vP B0 0, vI far1]) rfl (((glyphicmake_inside_v1.ok hE_ h_m0_0 h231)).mono fun _ _ _ ⟨h1_, h2_, h3_⟩ => ⟨un ⟨[], [], [], [], []⟩, h1_.trans (by kernel_rfl), h2_.trans (by kernel_rfl), h3_⟩)), (9, spQ (.ixa 2 3 37 33) [vP b215 1, vI x219] (ixa_at (j := 0) (u := vP b215 1) rfl c232b (by kernel_rfl)))] (zQL [] ?_)
         exact ⟨k_, Nat.lt_succ_self _, _, _, S, keep_sub [0, 1, 6, 7, 8, 9, 10] (by kernel_rfl), VS.lb [0, 0, 0, 0, 0] (by kernel_rfl), wr64 (x219 + 1), t228, t229, x222, x223, x224, x225, t230, rfl, rfl, rfl, e217⟩
        ·rw [if_neg c232] at e217
         have c232b : (x219 == 0) = false := beq_eq_false_iff_ne.mpr c232
         by_cases c234 : x219 = 1
         ·rw [if_pos c234] at e217
          have c234b : (x219 == 1) = true := beq_iff_eq.mpr c234
          refine wq mixed [0, 1, 0] 0 .nrm [(3, spQ (.bin .lss 27 29) [vI x219, vI (wr64 (1 + t212))] (congrArg (fun t => some (Value.bool t)) c227b)), (7, spC 38 [34, 35] [[⟨B0, [.slice a_m0_0 m0_0.length c_m0_0, vI x226], 2⟩]] [] [] 1 (fun l_ => .agg #[vI t228, vI t229]) (fun l_ => [[⟨B0, [.slice a_m0_0 m0_0.length c_m0_0, vI t230], 2⟩]]) (vs := [vP B0 0, vI far1]) rfl (((glyphicmake_inside_v1.ok hE_ h_m0_0 h231)).mono fun _ _ _ ⟨h1_, h2_, h3_⟩ => ⟨un ⟨[], [], [], [], []⟩, h1_.trans (by kernel_rfl), h2_.trans (by kernel_rfl), h3_⟩)), (9, spQ (.ixa 2 3 37 33) [vP b215 1, vI x219] (ixa_at (j := 1) (u := vP b215 3) rfl c234b (by kernel_rfl)))] (zQL [] ?_)
          exact ⟨k_, Nat.lt_succ_self _, _, _, S, keep_sub [0, 1, 6, 7, 8, 9, 10] (by kernel_rfl), VS.lb [0, 0, 0, 0, 0] (by kernel_rfl), wr64 (x219 + 1), x220, x221, t228, t229, x224, x225, t230, rfl, rfl, rfl, e217⟩
         ·rw [if_neg c234] at e217
          have c234b : (x219 == 1) = false := beq_eq_false_iff_ne.mpr c234
          by_cases c236 : x219 = 2
          ·rw [if_pos c236] at e217
           have c236b : (x219 == 2) = true := beq_iff_eq.mpr c236
           refine wq mixed [0, 1, 0] 0 .nrm [(3, spQ (.bin .lss 27 29) [vI x219, vI (wr64 (1 + t212))] (congrArg (fun t => some (Value.bool t)) c227b)), (7, spC 38 [34, 35] [[⟨B0, [.slice a_m0_0 m0_0.length c_m0_0, vI x226], 2⟩]] [] [] 1 (fun l_ => .agg #[vI t228, vI t229]) (fun l_ => [[⟨B0, [.slice a_m0_0 m0_0.length c_m0_0, vI t230], 2⟩]]) (vs := [vP B0 0, vI far1]) rfl (((glyphicmake_inside_v1.ok hE_ h_m0_0 h231)).mono fun _ _ _ ⟨h1_, h2_, h3_⟩ => ⟨un ⟨[], [], [], [], []⟩, h1_.trans (by kernel_rfl), h2_.trans (by kernel_rfl), h3_⟩)), (9, spQ (.ixa 2 3 37 33) [vP b215 1, vI x219] (ixa_at (j := 2) (u := vP b215 5) rfl c236b (by kernel_rfl)))] (zQL [] ?_)
           exact ⟨k_, Nat.lt_succ_self _, _, _, S, keep_sub [0, 1, 6, 7, 8, 9, 10] (by kernel_rfl), VS.lb [0, 0, 0, 0, 0] (by kernel_rfl), wr64 (x219 + 1), x220, x221, x222, x223, t228, t229, t230, rfl, rfl, rfl, e217⟩
          ·rw [if_neg c236] at e217
           have c236b : (x219 == 2) = false := beq_eq_false_iff_ne.mpr c236
           cases e217
       ·rw [if_neg c227] at e217
        have c227b : (decide (x219 < (wr64 (1 + t212)))) = false := decide_eq_false c227
        refine wq mixed [0] 0 (.ex 2) [(3, spQ (.bin .lss 27 29) [vI x219, vI (wr64 (1 + t212))] (congrArg (fun t => some (Value.bool t)) c227b))] (zQL [] ?_)
        simp only [Option.some.injEq, Prod.mk.injEq] at e217
        obtain ⟨rfl, rfl, rfl, rfl, rfl, rfl, rfl⟩ := e217
        exact ⟨_, S, VS.lb [0, 0, 1, 1, 0] (by kernel_rfl), by kernel_rfl, rfl, rfl⟩
     ·rintro σ_ H_ S_ ⟨rfl, rfl, rfl⟩
      refine w_reg fun all => tx 4 [2, 0] 1 [] fun b246 => zTL [0] ?_
      obtain ⟨y247, hl248, e210⟩ := bind_of e210
      refine txM 3 [4, 0, 2] 0 [(0, spX 69 7 56 [(vI 0), (vI 0), (vI 0), (vI 0), (vI 0), (vI 0), (vI 0)] 40 42 (E := E_i647) (L := y206) (X := ([(wr64 (1 + t212), x239, x240, x241, x242, x243, x244)] : List (Int × Int × Int × Int × Int × Int × Int))) a205 na205 (some ⟨b246, 0, none⟩) 1 1 [[⟨b246, [vI (wr64 (1 + t212)), vI x239, vI x240, vI x241, vI x242, vI x243, vI x244], 7⟩]] (fun _ => Or.inr ⟨_, _, rfl, .at 1 rfl (by kernel_rfl)⟩) hl248)] fun a249 na249 => zTL [0] ?_
      refine t_end ?_
      simp only [Option.some.injEq, Prod.mk.injEq] at e210
      obtain ⟨rfl, rfl⟩ := e210
      exact ⟨_, S, VS.lb [2, 0, 1, 0] (by kernel_rfl), a249, na249, by kernel_rfl, rfl, rfl⟩
    ·rintro σ_ H_ S_ ⟨a251, na251, rfl, rfl, rfl⟩
     refine wq mixed [] 0 .nrm [] (zQL [] ?_)
     exact ⟨k_, Nat.lt_succ_self _, _, _, S, keep_sub [0, 1, 6, 7, 8] (by kernel_rfl), VS.lb [3, 0, 0, 0] (by kernel_rfl), wr64 (x204 - 1), y252, x250, a251, na251, rfl, rfl, rfl, e199⟩
   ·rw [if_neg c208] at e199
    have c208b : (decide (x204 > 0)) = false := decide_eq_false c208
    refine wq mixed [] 0 (.ex 0) [(1, spQ (.bin .gtr 19 (.const (vI 0))) [vI x204, vI 0] (congrArg (fun t => some (Value.bool t)) c208b))] (zQL [] ?_)
    simp only [Option.some.injEq, Prod.mk.injEq] at e199
    obtain ⟨rfl, rfl⟩ := e199
    exact ⟨_, S, VS.lb [2, 1, 1, 0] (by kernel_rfl), a205, na205, by kernel_rfl, rfl, rfl⟩
 ·rintro σ_ H_ S_ ⟨a255, na255, rfl, rfl, rfl⟩
  refine wx mixed 1 [0, 2] 0 [] (zWL [0] ?_)
  refine w_ (w_as [(6, vP b192 0)] ([⟨b192, [vI t193, vI t194, .slice (ad a255) y256.length (na255 / 7), .bool closed2], 4⟩, ⟨B0, [.slice a_m0_0 m0_0.length c_m0_0, vI x257], 2⟩, ⟨a255, encL E_i647 y256, na255⟩] : List Own) ?_)
  refine w_ret ?_
  simp only [Option.some.injEq, Prod.mk.injEq] at e
  obtain ⟨rfl, rfl, rfl, rfl, rfl⟩ := e
  exact ⟨[_], _, S, ⟨⟨_, _, _, rfl, .at 0 rfl rfl, rfl⟩, trivial⟩, VS.sel [2, 1] (by kernel_rfl), a255, na255, rfl, rfl, rfl⟩
end Go.Proofs.YtobjaddicodiaaaDoor.QRenderRows
