/- Functions of the program as Lean functions, each with the proof of its walk. Written by gen.py, a program of these sessions. -/
import Derived.Test.YtpimfacaalkmdaaQSweepPartsx1
namespace Go.Proofs.Ytpimfacaalkmdaa.QSweepParts
open Go Go.RowKit Go.Proofs.YtpimfacaalkmdaaE Go.Proofs.YtpimfacaalkmdaaX
set_option linter.unusedVariables false
set_option maxRecDepth 100000
set_option maxHeartbeats 8000000
/-- glyphiclaw24.SweepParts -/
def c13 : C :=
  (.seq (.reg [⟨(some 6), .mv (.const (.bool false)), none⟩])
  (.seq (.reg [⟨(some 19), .call 40 [], none⟩,
     ⟨(some 7), .mv (.tmp 19), none⟩])
  (.seq (.seq (.reg [⟨(some 20), .mv (.tmp 7), none⟩,
      ⟨(some 21), .un .not (.tmp 20), none⟩])
   (.cond (.tmp 21)
    (.seq (.reg [⟨(some 6), .mv (.const (.bool false)), none⟩])
     .ret)
    .skip))
  (.seq (.seq (.reg [⟨(some 22), .mv (.tmp 0), none⟩,
      ⟨(some 23), .lns (.tmp 22), none⟩,
      ⟨(some 24), .bin .gtr (.tmp 23) (.const (.int .i64 150)), none⟩])
   (.cond (.tmp 24)
    (.seq (.reg [⟨(some 25), .mv (.tmp 7), none⟩,
        ⟨(some 6), .mv (.tmp 25), none⟩])
     .ret)
    .skip))
  (.seq (.reg [⟨(some 26), .mv (.tmp 1), none⟩,
     ⟨(some 27), .bin .rem (.tmp 26) (.const (.int .i64 4)), none⟩,
     ⟨(some 28), .bin .add (.tmp 27) (.const (.int .i64 4)), none⟩,
     ⟨(some 29), .bin .rem (.tmp 28) (.const (.int .i64 4)), none⟩,
     ⟨(some 1), .mv (.tmp 29), none⟩])
  (.seq (.reg [⟨(some 30), .mv (.tmp 2), none⟩,
     ⟨(some 31), .bin .rem (.tmp 30) (.const (.int .i64 500)), none⟩,
     ⟨(some 32), .bin .add (.tmp 31) (.const (.int .i64 500)), none⟩,
     ⟨(some 33), .bin .rem (.tmp 32) (.const (.int .i64 500)), none⟩,
     ⟨(some 2), .mv (.tmp 33), none⟩])
  (.seq (.reg [⟨(some 34), .mv (.tmp 0), none⟩,
     ⟨(some 35), .bld [(.slice none 0 0), (.int .i64 0)] [(0, 1, (.tmp 34))], none⟩,
     ⟨(some 36), .box (.tmp 35), none⟩,
     ⟨(some 8), .mv (.tmp 36), none⟩])
  (.seq (.reg [⟨(some 37), .mv (.tmp 8), none⟩,
     ⟨(some 38), .call 43 [(.tmp 37), (.const (.int .i64 8)), (.const (.int .i64 700))], none⟩,
     ⟨(some 9), .mv (.tmp 38), none⟩])
  (.seq (.reg [⟨(some 39), .mv (.tmp 8), none⟩,
     ⟨(some 40), .call 43 [(.tmp 39), (.const (.int .i64 8)), (.const (.int .i64 700))], none⟩,
     ⟨(some 10), .mv (.tmp 40), none⟩])
  (.seq (.reg [⟨(some 41), .mv (.tmp 9), none⟩,
     ⟨(some 42), .call 20 [(.tmp 41)], none⟩,
     ⟨(some 43), .mv (.tmp 10), none⟩,
     ⟨(some 44), .app 36 4 32 [(.int .i64 0), (.int .i64 0), (.int .i64 0), (.int .i64 0)] (.tmp 42) (.tmp 43), none⟩,
     ⟨(some 11), .mv (.tmp 44), none⟩])
  (.seq (.reg [⟨(some 45), .mv (.tmp 9), none⟩,
     ⟨(some 46), .mv (.tmp 1), none⟩,
     ⟨(some 47), .call 41 [(.tmp 45), (.const (.int .i64 0)), (.tmp 46), (.const (.int .i64 3))], none⟩,
     ⟨(some 12), .mv (.tmp 47), none⟩])
  (.seq (.reg [⟨(some 48), .mv (.tmp 10), none⟩,
     ⟨(some 49), .mv (.tmp 1), none⟩,
     ⟨(some 50), .call 41 [(.tmp 48), (.const (.int .i64 0)), (.tmp 49), (.const (.int .i64 3))], none⟩,
     ⟨(some 13), .mv (.tmp 50), none⟩])
  (.seq (.reg [⟨(some 51), .mv (.tmp 11), none⟩,
     ⟨(some 52), .mv (.tmp 1), none⟩,
     ⟨(some 53), .call 41 [(.tmp 51), (.const (.int .i64 0)), (.tmp 52), (.const (.int .i64 3))], none⟩,
     ⟨(some 14), .mv (.tmp 53), none⟩])
  (.seq (.reg [⟨(some 54), .mv (.tmp 9), none⟩,
     ⟨(some 55), .mv (.tmp 2), none⟩,
     ⟨(some 56), .mv (.tmp 1), none⟩,
     ⟨(some 57), .call 45 [(.tmp 54), (.tmp 55), (.tmp 56), (.const (.int .i64 3))], none⟩,
     ⟨(some 15), .mv (.tmp 57), none⟩])
  (.seq (.reg [⟨(some 58), .mv (.tmp 10), none⟩,
     ⟨(some 59), .mv (.tmp 2), none⟩,
     ⟨(some 60), .mv (.tmp 1), none⟩,
     ⟨(some 61), .call 45 [(.tmp 58), (.tmp 59), (.tmp 60), (.const (.int .i64 3))], none⟩,
     ⟨(some 16), .mv (.tmp 61), none⟩])
  (.seq (.reg [⟨(some 62), .mv (.tmp 11), none⟩,
     ⟨(some 63), .mv (.tmp 2), none⟩,
     ⟨(some 64), .mv (.tmp 1), none⟩,
     ⟨(some 65), .call 45 [(.tmp 62), (.tmp 63), (.tmp 64), (.const (.int .i64 3))], none⟩,
     ⟨(some 17), .mv (.tmp 65), none⟩])
  (.seq (.seq (.reg [⟨(some 66), .mv (.tmp 12), none⟩,
      ⟨(some 67), .lns (.tmp 66), none⟩,
      ⟨(some 68), .bin .neq (.tmp 67) (.const (.int .i64 3)), none⟩,
      ⟨(some 69), .mv (.tmp 68), none⟩,
      ⟨(some 70), .mv (.tmp 13), (some (69, false))⟩,
      ⟨(some 71), .lns (.tmp 70), (some (69, false))⟩,
      ⟨(some 72), .bin .neq (.tmp 71) (.const (.int .i64 3)), (some (69, false))⟩,
      ⟨(some 73), .pk (.tmp 69) (.const (.bool true)) (.tmp 72), none⟩,
      ⟨(some 74), .mv (.tmp 73), none⟩,
      ⟨(some 75), .mv (.tmp 14), (some (74, false))⟩,
      ⟨(some 76), .lns (.tmp 75), (some (74, false))⟩,
      ⟨(some 77), .bin .neq (.tmp 76) (.const (.int .i64 3)), (some (74, false))⟩,
      ⟨(some 78), .pk (.tmp 74) (.const (.bool true)) (.tmp 77), none⟩,
      ⟨(some 79), .mv (.tmp 78), none⟩,
      ⟨(some 80), .mv (.tmp 15), (some (79, false))⟩,
      ⟨(some 81), .lns (.tmp 80), (some (79, false))⟩,
      ⟨(some 82), .bin .neq (.tmp 81) (.const (.int .i64 3)), (some (79, false))⟩,
      ⟨(some 83), .pk (.tmp 79) (.const (.bool true)) (.tmp 82), none⟩,
      ⟨(some 84), .mv (.tmp 83), none⟩,
      ⟨(some 85), .mv (.tmp 16), (some (84, false))⟩,
      ⟨(some 86), .lns (.tmp 85), (some (84, false))⟩,
      ⟨(some 87), .bin .neq (.tmp 86) (.const (.int .i64 3)), (some (84, false))⟩,
      ⟨(some 88), .pk (.tmp 84) (.const (.bool true)) (.tmp 87), none⟩,
      ⟨(some 89), .mv (.tmp 88), none⟩,
      ⟨(some 90), .mv (.tmp 17), (some (89, false))⟩,
      ⟨(some 91), .lns (.tmp 90), (some (89, false))⟩,
      ⟨(some 92), .bin .neq (.tmp 91) (.const (.int .i64 3)), (some (89, false))⟩,
      ⟨(some 93), .pk (.tmp 89) (.const (.bool true)) (.tmp 92), none⟩])
   (.cond (.tmp 93)
    (.seq (.reg [⟨(some 6), .mv (.const (.bool false)), none⟩])
     .ret)
    .skip))
  (.seq (.seq (.reg [⟨(some 18), .mv (.const (.int .i64 0)), none⟩])
   (.block 0 (.loop (.seq (.seq (.reg [⟨(some 94), .mv (.tmp 18), none⟩,
         ⟨(some 95), .bin .lss (.tmp 94) (.const (.int .i64 3)), none⟩])
      (.cond (.tmp 95)
       .skip
       (.exit 0)))
     (.seq (.block 1 (.seq (.drw [⟨(some 98), .mv (.tmp 14), none⟩,
          ⟨(some 99), .mv (.tmp 18), none⟩,
          ⟨(some 100), .ixs 1 (.tmp 98) (.tmp 99), none⟩,
          ⟨(some 101), .ld none (.tmp 100), none⟩,
          ⟨(some 102), .mv (.tmp 12), none⟩,
          ⟨(some 103), .mv (.tmp 18), none⟩,
          ⟨(some 104), .ixs 1 (.tmp 102) (.tmp 103), none⟩,
          ⟨(some 105), .ld none (.tmp 104), none⟩,
          ⟨(some 106), .mv (.tmp 13), none⟩,
          ⟨(some 107), .mv (.tmp 18), none⟩,
          ⟨(some 108), .ixs 1 (.tmp 106) (.tmp 107), none⟩,
          ⟨(some 109), .ld none (.tmp 108), none⟩,
          ⟨(some 110), .bin .xor (.tmp 105) (.tmp 109), none⟩,
          ⟨(some 111), .bin .neq (.tmp 101) (.tmp 110), none⟩,
          ⟨(some 112), .mv (.tmp 111), none⟩,
          ⟨(some 113), .mv (.tmp 17), (some (112, false))⟩,
          ⟨(some 114), .mv (.tmp 18), (some (112, false))⟩,
          ⟨(some 115), .ixs 1 (.tmp 113) (.tmp 114), (some (112, false))⟩,
          ⟨(some 116), .ld none (.tmp 115), (some (112, false))⟩,
          ⟨(some 117), .mv (.tmp 15), (some (112, false))⟩,
          ⟨(some 118), .mv (.tmp 18), (some (112, false))⟩,
          ⟨(some 119), .ixs 1 (.tmp 117) (.tmp 118), (some (112, false))⟩,
          ⟨(some 120), .ld none (.tmp 119), (some (112, false))⟩,
          ⟨(some 121), .mv (.tmp 16), (some (112, false))⟩,
          ⟨(some 122), .mv (.tmp 18), (some (112, false))⟩,
          ⟨(some 123), .ixs 1 (.tmp 121) (.tmp 122), (some (112, false))⟩,
          ⟨(some 124), .ld none (.tmp 123), (some (112, false))⟩,
          ⟨(some 125), .bin .or (.tmp 120) (.tmp 124), (some (112, false))⟩,
          ⟨(some 126), .bin .neq (.tmp 116) (.tmp 125), (some (112, false))⟩,
          ⟨(some 127), .pk (.tmp 112) (.const (.bool true)) (.tmp 126), none⟩,
          ⟨(some 128), .mv (.tmp 127), none⟩,
          ⟨(some 129), .mv (.tmp 14), (some (128, false))⟩,
          ⟨(some 130), .mv (.tmp 18), (some (128, false))⟩,
          ⟨(some 131), .ixs 1 (.tmp 129) (.tmp 130), (some (128, false))⟩,
          ⟨(some 132), .ld none (.tmp 131), (some (128, false))⟩,
          ⟨(some 133), .call 42 [(.tmp 132)], (some (128, false))⟩,
          ⟨(some 134), .mv (.tmp 12), (some (128, false))⟩,
          ⟨(some 135), .mv (.tmp 18), (some (128, false))⟩,
          ⟨(some 136), .ixs 1 (.tmp 134) (.tmp 135), (some (128, false))⟩,
          ⟨(some 137), .ld none (.tmp 136), (some (128, false))⟩,
          ⟨(some 138), .mv (.tmp 13), (some (128, false))⟩,
          ⟨(some 139), .mv (.tmp 18), (some (128, false))⟩,
          ⟨(some 140), .ixs 1 (.tmp 138) (.tmp 139), (some (128, false))⟩,
          ⟨(some 141), .ld none (.tmp 140), (some (128, false))⟩,
          ⟨(some 142), .bin .xor (.tmp 137) (.tmp 141), (some (128, false))⟩,
          ⟨(some 143), .call 50 [(.tmp 142)], (some (128, false))⟩,
          ⟨(some 144), .bin .neq (.tmp 133) (.tmp 143), (some (128, false))⟩,
          ⟨(some 145), .pk (.tmp 128) (.const (.bool true)) (.tmp 144), none⟩] [[], [], [0, 1], [2], [], [], [4, 5], [6], [], [], [8, 9], [10], [7, 11], [3, 12], [13], [14], [14], [15, 16, 14], [17, 14], [14], [14], [19, 20, 14], [21, 14], [14], [14], [23, 24, 14], [25, 14], [22, 26, 14], [18, 27, 14], [14, 28], [29, 14], [30], [30], [31, 32, 30], [33, 30], [34, 30, 30], [30], [30], [36, 37, 30], [38, 30], [30], [30], [40, 41, 30], [42, 30], [39, 43, 30], [44, 35, 30], [35, 45, 30], [30, 46]])
       (.cond (.tmp 145)
        (.seq (.reg [⟨(some 6), .mv (.const (.bool false)), none⟩])
         .ret)
        .skip)))
     (.reg [⟨(some 96), .mv (.tmp 18), none⟩,
       ⟨(some 97), .bin .add (.tmp 96) (.const (.int .i64 1)), none⟩,
       ⟨(some 18), .mv (.tmp 97), none⟩]))))))
  (.seq (.reg [⟨(some 146), .mv (.tmp 7), none⟩,
     ⟨(some 6), .mv (.tmp 146), none⟩])
  .ret)))))))))))))))))))
def glyphiclaw24_SweepParts.f (k : Nat) (t0 : List (Int)) (o1 : Int) (A2 : Int) : Option (Bool) := (glyphiclaw24_first.f k).bind fun t123 => (if t123 = true then (if (t0.length : Int) > 150 then (some t123) else ((glyphicmake_Ring_v1.f k 8 700 t0 0).bind fun (t256, t257) => ((glyphicmake_Ring_v1.f k 8 700 t0 t257).bind fun (t260, t261) => ((glyphicref_Edges_v1.f k t256).bind fun t295 => ((lapp t295 t260).bind fun y298 => ((sweep_Fill_v1.f k t256 0 (Int.tmod (wr64 ((Int.tmod o1 4) + 4)) 4) 3).bind fun t301 => ((sweep_Fill_v1.f k t260 0 (Int.tmod (wr64 ((Int.tmod o1 4) + 4)) 4) 3).bind fun t304 => ((sweep_Fill_v1.f k y298 0 (Int.tmod (wr64 ((Int.tmod o1 4) + 4)) 4) 3).bind fun t307 => ((sweep_Line_v1.f k t256 (Int.tmod (wr64 ((Int.tmod A2 500) + 500)) 500) (Int.tmod (wr64 ((Int.tmod o1 4) + 4)) 4) 3).bind fun t420 => ((sweep_Line_v1.f k t260 (Int.tmod (wr64 ((Int.tmod A2 500) + 500)) 500) (Int.tmod (wr64 ((Int.tmod o1 4) + 4)) 4) 3).bind fun t423 => ((sweep_Line_v1.f k y298 (Int.tmod (wr64 ((Int.tmod A2 500) + 500)) 500) (Int.tmod (wr64 ((Int.tmod o1 4) + 4)) 4) 3).bind fun t426 => (if (t301.length : Int) = 3 then (if (t304.length : Int) = 3 then (if (t307.length : Int) = 3 then (if (t420.length : Int) = 3 then (if (t423.length : Int) = 3 then (if (t426.length : Int) = 3 then (((lgt t307 0).bind fun x438 => ((lgt t301 0).bind fun x440 => ((lgt t304 0).bind fun x442 => (if x438 = (bits .xor .u64 x440 x442) then ((lgt t426 0).bind fun x445 => ((lgt t420 0).bind fun x447 => ((lgt t423 0).bind fun x449 => (if x445 = (bits .or .u64 x447 x449) then ((lgt t307 0).bind fun x452 => ((sweep_Count.f x452).bind fun t454 => ((lgt t301 0).bind fun x456 => ((lgt t304 0).bind fun x458 => ((glyphicref20_Bits.f k (bits .xor .u64 x456 x458)).bind fun t460 => (if t454 = t460 then ((lgt t307 1).bind fun x463 => ((lgt t301 1).bind fun x465 => ((lgt t304 1).bind fun x467 => (if x463 = (bits .xor .u64 x465 x467) then ((lgt t426 1).bind fun x470 => ((lgt t420 1).bind fun x472 => ((lgt t423 1).bind fun x474 => (if x470 = (bits .or .u64 x472 x474) then ((lgt t307 1).bind fun x477 => ((sweep_Count.f x477).bind fun t479 => ((lgt t301 1).bind fun x481 => ((lgt t304 1).bind fun x483 => ((glyphicref20_Bits.f k (bits .xor .u64 x481 x483)).bind fun t485 => (if t479 = t485 then ((lgt t307 2).bind fun x488 => ((lgt t301 2).bind fun x490 => ((lgt t304 2).bind fun x492 => (if x488 = (bits .xor .u64 x490 x492) then ((lgt t426 2).bind fun x495 => ((lgt t420 2).bind fun x497 => ((lgt t423 2).bind fun x499 => (if x495 = (bits .or .u64 x497 x499) then ((lgt t307 2).bind fun x502 => ((sweep_Count.f x502).bind fun t504 => ((lgt t301 2).bind fun x506 => ((lgt t304 2).bind fun x508 => ((glyphicref20_Bits.f k (bits .xor .u64 x506 x508)).bind fun t510 => (if t504 = t510 then (some (.inr ())) else (some (.inl false)))))))) else (some (.inl false)))))) else (some (.inl false)))))) else (some (.inl false)))))))) else (some (.inl false)))))) else (some (.inl false)))))) else (some (.inl false)))))))) else (some (.inl false)))))) else (some (.inl false))))) : Option ((Bool) ⊕ (Unit))).bind fun s_ => match s_ with | .inl q513 => some q513 | .inr _ => (some t123)) else (some false)) else (some false)) else (some false)) else (some false)) else (some false)) else (some false))))))))))))) else (some false))
theorem glyphiclaw24_SweepParts.ok {S : Seal} {k : Nat} {t0 : List (Int)} {o1 : Int} {A2 : Int} {a_t0 : Option Addr} {c_t0 : Nat} (h_t0 : SlE S E_i64 t0 a_t0) (e : glyphiclaw24_SweepParts.f k t0 o1 A2 = some true) :
    Cal Try.prog 13 [.slice a_t0 t0.length c_t0, .int .i64 o1, .int .i64 A2] [] S fun v H' S' => v = .bool true ∧ H' = [] ∧ S' = S := by
  unfold glyphiclaw24_SweepParts.f at e
  refine cal_of (c := c13) (N := 147) Try.func13 rfl rfl (by kernel_rfl) (rs := [.t 6]) (by kernel_rfl) (Nat.le_of_ble_eq_true rfl) ?_
  unfold c13
  refine w_seq ?_
  refine w_reg fun all => ?_
  refine t_qz 1 [0, 1, 2] (σ' := [(0, .slice a_t0 t0.length c_t0), (1, .int .i64 o1), (2, .int .i64 A2)]) (by kernel_rfl) ?_
  refine t_end ?_
  show W _ _ _ _ _ _ _
  refine w_seq ?_
  refine w_reg fun all => ?_
  obtain ⟨t123, h124, e⟩ := bind_of e
  refine t_v (.call (vs := []) rfl rfl (by kernel_rfl) (glyphiclaw24_first.ok h124)) ?_
  refine t_qz 1 [0, 1, 2, 7] (σ' := [(0, .slice a_t0 t0.length c_t0), (1, .int .i64 o1), (2, .int .i64 A2), (7, .bool t123)]) (by kernel_rfl) ?_
  refine t_end ?_
  show W _ _ _ _ _ _ _
  refine w_seq ?_
  refine w_seq ?_
  refine w_reg fun all => ?_
  by_cases c125 : t123 = true
  · rw [if_pos c125] at e
    have c125b : t123 = true := c125
    refine t_qz 1 [0, 1, 2, 7, 20] (σ' := [(0, .slice a_t0 t0.length c_t0), (1, .int .i64 o1), (2, .int .i64 A2), (7, .bool t123), (20, .bool t123)]) (by kernel_rfl) ?_
    refine t_v (dv_quiet rfl (congrArg (fun t => some (Value.bool (!t))) c125b)) ?_
    refine t_keep [0, 1, 2, 7, 21] (σ' := [(0, .slice a_t0 t0.length c_t0), (1, .int .i64 o1), (2, .int .i64 A2), (7, .bool t123), (21, .bool false)]) (by kernel_rfl) ?_
    refine t_end ?_
    show W _ _ _ _ _ _ _
    refine w_cond rfl (fun c_ => by cases c_) (fun _ => ?_)
    show W _ _ _ _ _ _ _
    refine w_skip ?_
    show W _ _ _ _ _ _ _
    refine w_seq ?_
    refine w_seq ?_
    refine w_reg fun all => ?_
    by_cases c126 : (t0.length : Int) > 150
    · rw [if_pos c126] at e
      have c126b : (decide ((t0.length : Int) > 150)) = true := decide_eq_true c126
      refine t_qz 2 [0, 1, 2, 7, 23] (σ' := [(0, .slice a_t0 t0.length c_t0), (1, .int .i64 o1), (2, .int .i64 A2), (7, .bool t123), (23, .int .i64 (t0.length : Int))]) (by kernel_rfl) ?_
      refine t_v (dv_quiet rfl (congrArg (fun t => some (Value.bool t)) c126b)) ?_
      refine t_keep [0, 1, 2, 7, 24] (σ' := [(0, .slice a_t0 t0.length c_t0), (1, .int .i64 o1), (2, .int .i64 A2), (7, .bool t123), (24, .bool true)]) (by kernel_rfl) ?_
      refine t_end ?_
      show W _ _ _ _ _ _ _
      refine w_cond rfl (fun _ => ?_) (fun c_ => by cases c_)
      show W _ _ _ _ _ _ _
      refine w_seq ?_
      refine w_reg fun all => ?_
      refine t_qz 2 [6] (σ' := [(6, .bool t123)]) (by kernel_rfl) ?_
      refine t_end ?_
      show W _ _ _ _ _ _ _
      refine w_ret ?_
      have hr_ := Option.some.inj e
      exact ⟨[.bool t123], [], S, ⟨rfl, trivial⟩, VS.none, congrArg Value.bool hr_, rfl, rfl⟩
    · rw [if_neg c126] at e
      have c126b : (decide ((t0.length : Int) > 150)) = false := decide_eq_false c126
      refine t_qz 2 [0, 1, 2, 7, 23] (σ' := [(0, .slice a_t0 t0.length c_t0), (1, .int .i64 o1), (2, .int .i64 A2), (7, .bool t123), (23, .int .i64 (t0.length : Int))]) (by kernel_rfl) ?_
      refine t_v (dv_quiet rfl (congrArg (fun t => some (Value.bool t)) c126b)) ?_
      refine t_keep [0, 1, 2, 7, 24] (σ' := [(0, .slice a_t0 t0.length c_t0), (1, .int .i64 o1), (2, .int .i64 A2), (7, .bool t123), (24, .bool false)]) (by kernel_rfl) ?_
      refine t_end ?_
      show W _ _ _ _ _ _ _
      refine w_cond rfl (fun c_ => by cases c_) (fun _ => ?_)
      show W _ _ _ _ _ _ _
      refine w_skip ?_
      show W _ _ _ _ _ _ _
      refine w_seq ?_
      refine w_reg fun all => ?_
      refine t_qz 5 [0, 1, 2, 7] (σ' := [(0, .slice a_t0 t0.length c_t0), (1, .int .i64 (Int.tmod (wr64 ((Int.tmod o1 4) + 4)) 4)), (2, .int .i64 A2), (7, .bool t123)]) (by kernel_rfl) ?_
      refine t_end ?_
      show W _ _ _ _ _ _ _
      refine w_seq ?_
      refine w_reg fun all => ?_
      refine t_qz 5 [0, 1, 2, 7] (σ' := [(0, .slice a_t0 t0.length c_t0), (1, .int .i64 (Int.tmod (wr64 ((Int.tmod o1 4) + 4)) 4)), (2, .int .i64 (Int.tmod (wr64 ((Int.tmod A2 500) + 500)) 500)), (7, .bool t123)]) (by kernel_rfl) ?_
      refine t_end ?_
      show W _ _ _ _ _ _ _
      refine w_seq ?_
      refine w_reg fun all => ?_
      refine t_qz 2 [1, 2, 7, 35] (σ' := [(1, .int .i64 (Int.tmod (wr64 ((Int.tmod o1 4) + 4)) 4)), (2, .int .i64 (Int.tmod (wr64 ((Int.tmod A2 500) + 500)) 500)), (7, .bool t123), (35, .agg #[.slice a_t0 t0.length c_t0, .int .i64 0])]) (by kernel_rfl) ?_
      refine t_a (.box rfl rfl rfl) fun b127 fb127 sb127 => ?_
      refine t_qz 1 [1, 2, 7, 8] (σ' := [(1, .int .i64 (Int.tmod (wr64 ((Int.tmod o1 4) + 4)) 4)), (2, .int .i64 (Int.tmod (wr64 ((Int.tmod A2 500) + 500)) 500)), (7, .bool t123), (8, .pointer (some ⟨b127, 0, none⟩))]) (by kernel_rfl) ?_
      refine t_end ?_
      show W _ _ _ _ _ _ _
      refine w_seq ?_
      refine w_reg fun all => ?_
      obtain ⟨⟨t256, t257⟩, h258, e⟩ := bind_of e
      try dsimp only at e
      refine t_qz 1 [1, 2, 7, 8, 37] (σ' := [(1, .int .i64 (Int.tmod (wr64 ((Int.tmod o1 4) + 4)) 4)), (2, .int .i64 (Int.tmod (wr64 ((Int.tmod A2 500) + 500)) 500)), (7, .bool t123), (8, .pointer (some ⟨b127, 0, none⟩)), (37, .pointer (some ⟨b127, 0, none⟩))]) (by kernel_rfl) ?_
      refine t_call (vs := [.pointer (some ⟨b127, 0, none⟩), .int .i64 8, .int .i64 700]) (H1 := ([⟨b127, [.slice a_t0 t0.length c_t0, .int .i64 0], 2⟩] : List Own)) (F := ([] : List Own)) rfl rfl (by kernel_rfl) (sel_perm (is := [0]) (by kernel_rfl)) (glyphicmake_Ring_v1.ok h_t0 h258) ?_
      rintro _ _ S_ ⟨N259, nN259, rfl, rfl, hS_⟩
      obtain rfl := hS_.symm
      refine t_qz 1 [1, 2, 7, 8, 9] (σ' := [(1, .int .i64 (Int.tmod (wr64 ((Int.tmod o1 4) + 4)) 4)), (2, .int .i64 (Int.tmod (wr64 ((Int.tmod A2 500) + 500)) 500)), (7, .bool t123), (8, .pointer (some ⟨b127, 0, none⟩)), (9, .slice (ad N259) t256.length (nN259 / 4))]) (by kernel_rfl) ?_
      refine t_end ?_
      show W _ _ _ _ _ _ _
      refine w_seq ?_
      refine w_reg fun all => ?_
      obtain ⟨⟨t260, t261⟩, h262, e⟩ := bind_of e
      try dsimp only at e
      refine t_qz 1 [1, 2, 7, 9, 39] (σ' := [(1, .int .i64 (Int.tmod (wr64 ((Int.tmod o1 4) + 4)) 4)), (2, .int .i64 (Int.tmod (wr64 ((Int.tmod A2 500) + 500)) 500)), (7, .bool t123), (9, .slice (ad N259) t256.length (nN259 / 4)), (39, .pointer (some ⟨b127, 0, none⟩))]) (by kernel_rfl) ?_
      refine t_call (vs := [.pointer (some ⟨b127, 0, none⟩), .int .i64 8, .int .i64 700]) (H1 := ([⟨b127, [.slice a_t0 t0.length c_t0, .int .i64 t257], 2⟩] : List Own)) (F := ([⟨N259, encL E_i644 t256, nN259⟩] : List Own)) rfl rfl (by kernel_rfl) (sel_perm (is := [1]) (by kernel_rfl)) (glyphicmake_Ring_v1.ok h_t0 h262) ?_
      rintro _ _ S_ ⟨N263, nN263, rfl, rfl, hS_⟩
      obtain rfl := hS_.symm
      refine t_qz 1 [1, 2, 7, 9, 10] (σ' := [(1, .int .i64 (Int.tmod (wr64 ((Int.tmod o1 4) + 4)) 4)), (2, .int .i64 (Int.tmod (wr64 ((Int.tmod A2 500) + 500)) 500)), (7, .bool t123), (9, .slice (ad N259) t256.length (nN259 / 4)), (10, .slice (ad N263) t260.length (nN263 / 4))]) (by kernel_rfl) ?_
      refine t_end ?_
      show W _ _ _ _ _ _ _
      refine w_seq ?_
      refine w_reg fun all => ?_
      obtain ⟨t295, h296, e⟩ := bind_of e
      refine t_qz 1 [1, 2, 7, 9, 10, 41] (σ' := [(1, .int .i64 (Int.tmod (wr64 ((Int.tmod o1 4) + 4)) 4)), (2, .int .i64 (Int.tmod (wr64 ((Int.tmod A2 500) + 500)) 500)), (7, .bool t123), (9, .slice (ad N259) t256.length (nN259 / 4)), (10, .slice (ad N263) t260.length (nN263 / 4)), (41, .slice (ad N259) t256.length (nN259 / 4))]) (by kernel_rfl) ?_
      refine t_call (vs := [.slice (ad N259) t256.length (nN259 / 4)]) (H1 := ([⟨N259, encL E_i644 t256, nN259⟩] : List Own)) (F := ([⟨N263, encL E_i644 t260, nN263⟩, ⟨b127, [.slice a_t0 t0.length c_t0, .int .i64 t261], 2⟩] : List Own)) rfl rfl (by kernel_rfl) (sel_perm (is := [2]) (by kernel_rfl)) (cal_lend (Qc := fun v_ H_ => ∃ (N297 : Option Nat) (nN297 : Nat), v_ = (.slice (ad N297) t295.length (nN297 / 4)) ∧ H_ = ([⟨N297, encL E_i644 t295, nN297⟩] : List Own)) fun S1_ le1_ hS1_ => (glyphicref_Edges_v1.ok (SlE.ofAd (E := E_i644) (L := t256) hS1_ (by decide)) h296).mono fun _ _ _ ⟨N297, nN297, h1_, h2_, h3_⟩ => ⟨⟨N297, nN297, h1_, h2_⟩, h3_⟩) ?_
      rintro _ _ S_ ⟨⟨_, rfl, ⟨N297, nN297, rfl, rfl⟩⟩, hS_⟩
      obtain rfl := hS_.symm
      obtain ⟨y298, hl299, e⟩ := bind_of e
      refine t_qz 1 [1, 2, 7, 9, 10, 42, 43] (σ' := [(1, .int .i64 (Int.tmod (wr64 ((Int.tmod o1 4) + 4)) 4)), (2, .int .i64 (Int.tmod (wr64 ((Int.tmod A2 500) + 500)) 500)), (7, .bool t123), (9, .slice (ad N259) t256.length (nN259 / 4)), (10, .slice (ad N263) t260.length (nN263 / 4)), (42, .slice (ad N297) t295.length (nN297 / 4)), (43, .slice (ad N263) t260.length (nN263 / 4))]) (by kernel_rfl) ?_
      refine t_pure (fun w_ h_ => apO (E := E_i644) (z := 4) h_ (j := 2) rfl rfl (by decide)) fun hy_ => ?_
      refine t_appX (E := E_i644) (L := t295) (X := t260) (F := ([⟨N259, encL E_i644 t256, nN259⟩, ⟨N263, encL E_i644 t260, nN263⟩, ⟨b127, [.slice a_t0 t0.length c_t0, .int .i64 t261], 2⟩] : List Own)) rfl rfl rfl rfl (sel_perm (is := [1]) (by kernel_rfl)) rfl hy_ rfl (by decide) (by decide) rfl hl299 fun a300 na300 => ?_
      refine t_qz 1 [1, 2, 7, 9, 10, 11] (σ' := [(1, .int .i64 (Int.tmod (wr64 ((Int.tmod o1 4) + 4)) 4)), (2, .int .i64 (Int.tmod (wr64 ((Int.tmod A2 500) + 500)) 500)), (7, .bool t123), (9, .slice (ad N259) t256.length (nN259 / 4)), (10, .slice (ad N263) t260.length (nN263 / 4)), (11, .slice (ad a300) y298.length (na300 / 4))]) (by kernel_rfl) ?_
      refine t_end ?_
      show W _ _ _ _ _ _ _
      refine w_seq ?_
      refine w_reg fun all => ?_
      obtain ⟨t301, h302, e⟩ := bind_of e
      refine t_qz 2 [1, 2, 7, 9, 10, 11, 45, 46] (σ' := [(1, .int .i64 (Int.tmod (wr64 ((Int.tmod o1 4) + 4)) 4)), (2, .int .i64 (Int.tmod (wr64 ((Int.tmod A2 500) + 500)) 500)), (7, .bool t123), (9, .slice (ad N259) t256.length (nN259 / 4)), (10, .slice (ad N263) t260.length (nN263 / 4)), (11, .slice (ad a300) y298.length (na300 / 4)), (45, .slice (ad N259) t256.length (nN259 / 4)), (46, .int .i64 (Int.tmod (wr64 ((Int.tmod o1 4) + 4)) 4))]) (by kernel_rfl) ?_
      refine t_call (vs := [.slice (ad N259) t256.length (nN259 / 4), .int .i64 0, .int .i64 (Int.tmod (wr64 ((Int.tmod o1 4) + 4)) 4), .int .i64 3]) (H1 := ([⟨N259, encL E_i644 t256, nN259⟩] : List Own)) (F := ([⟨a300, encL E_i644 y298, na300⟩, ⟨N263, encL E_i644 t260, nN263⟩, ⟨b127, [.slice a_t0 t0.length c_t0, .int .i64 t261], 2⟩] : List Own)) rfl rfl (by kernel_rfl) (sel_perm (is := [1]) (by kernel_rfl)) (cal_lend (Qc := fun v_ H_ => ∃ (N303 : Option Nat) (nN303 : Nat), v_ = (.slice (ad N303) t301.length (nN303 / 1)) ∧ H_ = ([⟨N303, encL E_u64 t301, nN303⟩] : List Own)) fun S1_ le1_ hS1_ => (sweep_Fill_v1.ok (SlE.ofAd (E := E_i644) (L := t256) hS1_ (by decide)) h302).mono fun _ _ _ ⟨N303, nN303, h1_, h2_, h3_⟩ => ⟨⟨N303, nN303, h1_, h2_⟩, h3_⟩) ?_
      rintro _ _ S_ ⟨⟨_, rfl, ⟨N303, nN303, rfl, rfl⟩⟩, hS_⟩
      obtain rfl := hS_.symm
      refine t_qz 1 [1, 2, 7, 9, 10, 11, 12] (σ' := [(1, .int .i64 (Int.tmod (wr64 ((Int.tmod o1 4) + 4)) 4)), (2, .int .i64 (Int.tmod (wr64 ((Int.tmod A2 500) + 500)) 500)), (7, .bool t123), (9, .slice (ad N259) t256.length (nN259 / 4)), (10, .slice (ad N263) t260.length (nN263 / 4)), (11, .slice (ad a300) y298.length (na300 / 4)), (12, .slice (ad N303) t301.length (nN303 / 1))]) (by kernel_rfl) ?_
      refine t_end ?_
      show W _ _ _ _ _ _ _
      refine w_seq ?_
      refine w_reg fun all => ?_
      obtain ⟨t304, h305, e⟩ := bind_of e
      refine t_qz 2 [1, 2, 7, 9, 10, 11, 12, 48, 49] (σ' := [(1, .int .i64 (Int.tmod (wr64 ((Int.tmod o1 4) + 4)) 4)), (2, .int .i64 (Int.tmod (wr64 ((Int.tmod A2 500) + 500)) 500)), (7, .bool t123), (9, .slice (ad N259) t256.length (nN259 / 4)), (10, .slice (ad N263) t260.length (nN263 / 4)), (11, .slice (ad a300) y298.length (na300 / 4)), (12, .slice (ad N303) t301.length (nN303 / 1)), (48, .slice (ad N263) t260.length (nN263 / 4)), (49, .int .i64 (Int.tmod (wr64 ((Int.tmod o1 4) + 4)) 4))]) (by kernel_rfl) ?_
      refine t_call (vs := [.slice (ad N263) t260.length (nN263 / 4), .int .i64 0, .int .i64 (Int.tmod (wr64 ((Int.tmod o1 4) + 4)) 4), .int .i64 3]) (H1 := ([⟨N263, encL E_i644 t260, nN263⟩] : List Own)) (F := ([⟨N259, encL E_i644 t256, nN259⟩, ⟨N303, encL E_u64 t301, nN303⟩, ⟨a300, encL E_i644 y298, na300⟩, ⟨b127, [.slice a_t0 t0.length c_t0, .int .i64 t261], 2⟩] : List Own)) rfl rfl (by kernel_rfl) (sel_perm (is := [3]) (by kernel_rfl)) (cal_lend (Qc := fun v_ H_ => ∃ (N306 : Option Nat) (nN306 : Nat), v_ = (.slice (ad N306) t304.length (nN306 / 1)) ∧ H_ = ([⟨N306, encL E_u64 t304, nN306⟩] : List Own)) fun S1_ le1_ hS1_ => (sweep_Fill_v1.ok (SlE.ofAd (E := E_i644) (L := t260) hS1_ (by decide)) h305).mono fun _ _ _ ⟨N306, nN306, h1_, h2_, h3_⟩ => ⟨⟨N306, nN306, h1_, h2_⟩, h3_⟩) ?_
      rintro _ _ S_ ⟨⟨_, rfl, ⟨N306, nN306, rfl, rfl⟩⟩, hS_⟩
      obtain rfl := hS_.symm
      refine t_qz 1 [1, 2, 7, 9, 10, 11, 12, 13] (σ' := [(1, .int .i64 (Int.tmod (wr64 ((Int.tmod o1 4) + 4)) 4)), (2, .int .i64 (Int.tmod (wr64 ((Int.tmod A2 500) + 500)) 500)), (7, .bool t123), (9, .slice (ad N259) t256.length (nN259 / 4)), (10, .slice (ad N263) t260.length (nN263 / 4)), (11, .slice (ad a300) y298.length (na300 / 4)), (12, .slice (ad N303) t301.length (nN303 / 1)), (13, .slice (ad N306) t304.length (nN306 / 1))]) (by kernel_rfl) ?_
      refine t_end ?_
      show W _ _ _ _ _ _ _
      refine w_seq ?_
      refine w_reg fun all => ?_
      obtain ⟨t307, h308, e⟩ := bind_of e
      refine t_qz 2 [1, 2, 7, 9, 10, 11, 12, 13, 51, 52] (σ' := [(1, .int .i64 (Int.tmod (wr64 ((Int.tmod o1 4) + 4)) 4)), (2, .int .i64 (Int.tmod (wr64 ((Int.tmod A2 500) + 500)) 500)), (7, .bool t123), (9, .slice (ad N259) t256.length (nN259 / 4)), (10, .slice (ad N263) t260.length (nN263 / 4)), (11, .slice (ad a300) y298.length (na300 / 4)), (12, .slice (ad N303) t301.length (nN303 / 1)), (13, .slice (ad N306) t304.length (nN306 / 1)), (51, .slice (ad a300) y298.length (na300 / 4)), (52, .int .i64 (Int.tmod (wr64 ((Int.tmod o1 4) + 4)) 4))]) (by kernel_rfl) ?_
      refine t_call (vs := [.slice (ad a300) y298.length (na300 / 4), .int .i64 0, .int .i64 (Int.tmod (wr64 ((Int.tmod o1 4) + 4)) 4), .int .i64 3]) (H1 := ([⟨a300, encL E_i644 y298, na300⟩] : List Own)) (F := ([⟨N263, encL E_i644 t260, nN263⟩, ⟨N306, encL E_u64 t304, nN306⟩, ⟨N259, encL E_i644 t256, nN259⟩, ⟨N303, encL E_u64 t301, nN303⟩, ⟨b127, [.slice a_t0 t0.length c_t0, .int .i64 t261], 2⟩] : List Own)) rfl rfl (by kernel_rfl) (sel_perm (is := [4]) (by kernel_rfl)) (cal_lend (Qc := fun v_ H_ => ∃ (N309 : Option Nat) (nN309 : Nat), v_ = (.slice (ad N309) t307.length (nN309 / 1)) ∧ H_ = ([⟨N309, encL E_u64 t307, nN309⟩] : List Own)) fun S1_ le1_ hS1_ => (sweep_Fill_v1.ok (SlE.ofAd (E := E_i644) (L := y298) hS1_ (by decide)) h308).mono fun _ _ _ ⟨N309, nN309, h1_, h2_, h3_⟩ => ⟨⟨N309, nN309, h1_, h2_⟩, h3_⟩) ?_
      rintro _ _ S_ ⟨⟨_, rfl, ⟨N309, nN309, rfl, rfl⟩⟩, hS_⟩
      obtain rfl := hS_.symm
      refine t_qz 1 [1, 2, 7, 9, 10, 11, 12, 13, 14] (σ' := [(1, .int .i64 (Int.tmod (wr64 ((Int.tmod o1 4) + 4)) 4)), (2, .int .i64 (Int.tmod (wr64 ((Int.tmod A2 500) + 500)) 500)), (7, .bool t123), (9, .slice (ad N259) t256.length (nN259 / 4)), (10, .slice (ad N263) t260.length (nN263 / 4)), (11, .slice (ad a300) y298.length (na300 / 4)), (12, .slice (ad N303) t301.length (nN303 / 1)), (13, .slice (ad N306) t304.length (nN306 / 1)), (14, .slice (ad N309) t307.length (nN309 / 1))]) (by kernel_rfl) ?_
      refine t_end ?_
      show W _ _ _ _ _ _ _
      refine w_seq ?_
      refine w_reg fun all => ?_
      obtain ⟨t420, h421, e⟩ := bind_of e
      refine t_qz 3 [1, 2, 7, 10, 11, 12, 13, 14, 54, 55, 56] (σ' := [(1, .int .i64 (Int.tmod (wr64 ((Int.tmod o1 4) + 4)) 4)), (2, .int .i64 (Int.tmod (wr64 ((Int.tmod A2 500) + 500)) 500)), (7, .bool t123), (10, .slice (ad N263) t260.length (nN263 / 4)), (11, .slice (ad a300) y298.length (na300 / 4)), (12, .slice (ad N303) t301.length (nN303 / 1)), (13, .slice (ad N306) t304.length (nN306 / 1)), (14, .slice (ad N309) t307.length (nN309 / 1)), (54, .slice (ad N259) t256.length (nN259 / 4)), (55, .int .i64 (Int.tmod (wr64 ((Int.tmod A2 500) + 500)) 500)), (56, .int .i64 (Int.tmod (wr64 ((Int.tmod o1 4) + 4)) 4))]) (by kernel_rfl) ?_
      refine t_call (vs := [.slice (ad N259) t256.length (nN259 / 4), .int .i64 (Int.tmod (wr64 ((Int.tmod A2 500) + 500)) 500), .int .i64 (Int.tmod (wr64 ((Int.tmod o1 4) + 4)) 4), .int .i64 3]) (H1 := ([⟨N259, encL E_i644 t256, nN259⟩] : List Own)) (F := ([⟨a300, encL E_i644 y298, na300⟩, ⟨N309, encL E_u64 t307, nN309⟩, ⟨N263, encL E_i644 t260, nN263⟩, ⟨N306, encL E_u64 t304, nN306⟩, ⟨N303, encL E_u64 t301, nN303⟩, ⟨b127, [.slice a_t0 t0.length c_t0, .int .i64 t261], 2⟩] : List Own)) rfl rfl (by kernel_rfl) (sel_perm (is := [4]) (by kernel_rfl)) (cal_lend (Qc := fun v_ H_ => ∃ (N422 : Option Nat) (nN422 : Nat), v_ = (.slice (ad N422) t420.length (nN422 / 1)) ∧ H_ = ([⟨N422, encL E_u64 t420, nN422⟩] : List Own)) fun S1_ le1_ hS1_ => (sweep_Line_v1.ok (SlE.ofAd (E := E_i644) (L := t256) hS1_ (by decide)) h421).mono fun _ _ _ ⟨N422, nN422, h1_, h2_, h3_⟩ => ⟨⟨N422, nN422, h1_, h2_⟩, h3_⟩) ?_
      rintro _ _ S_ ⟨⟨_, rfl, ⟨N422, nN422, rfl, rfl⟩⟩, hS_⟩
      obtain rfl := hS_.symm
      refine t_qz 1 [1, 2, 7, 10, 11, 12, 13, 14, 15] (σ' := [(1, .int .i64 (Int.tmod (wr64 ((Int.tmod o1 4) + 4)) 4)), (2, .int .i64 (Int.tmod (wr64 ((Int.tmod A2 500) + 500)) 500)), (7, .bool t123), (10, .slice (ad N263) t260.length (nN263 / 4)), (11, .slice (ad a300) y298.length (na300 / 4)), (12, .slice (ad N303) t301.length (nN303 / 1)), (13, .slice (ad N306) t304.length (nN306 / 1)), (14, .slice (ad N309) t307.length (nN309 / 1)), (15, .slice (ad N422) t420.length (nN422 / 1))]) (by kernel_rfl) ?_
      refine t_end ?_
      show W _ _ _ _ _ _ _
      refine w_seq ?_
      refine w_reg fun all => ?_
      obtain ⟨t423, h424, e⟩ := bind_of e
      refine t_qz 3 [1, 2, 7, 11, 12, 13, 14, 15, 58, 59, 60] (σ' := [(1, .int .i64 (Int.tmod (wr64 ((Int.tmod o1 4) + 4)) 4)), (2, .int .i64 (Int.tmod (wr64 ((Int.tmod A2 500) + 500)) 500)), (7, .bool t123), (11, .slice (ad a300) y298.length (na300 / 4)), (12, .slice (ad N303) t301.length (nN303 / 1)), (13, .slice (ad N306) t304.length (nN306 / 1)), (14, .slice (ad N309) t307.length (nN309 / 1)), (15, .slice (ad N422) t420.length (nN422 / 1)), (58, .slice (ad N263) t260.length (nN263 / 4)), (59, .int .i64 (Int.tmod (wr64 ((Int.tmod A2 500) + 500)) 500)), (60, .int .i64 (Int.tmod (wr64 ((Int.tmod o1 4) + 4)) 4))]) (by kernel_rfl) ?_
      refine t_call (vs := [.slice (ad N263) t260.length (nN263 / 4), .int .i64 (Int.tmod (wr64 ((Int.tmod A2 500) + 500)) 500), .int .i64 (Int.tmod (wr64 ((Int.tmod o1 4) + 4)) 4), .int .i64 3]) (H1 := ([⟨N263, encL E_i644 t260, nN263⟩] : List Own)) (F := ([⟨N259, encL E_i644 t256, nN259⟩, ⟨N422, encL E_u64 t420, nN422⟩, ⟨a300, encL E_i644 y298, na300⟩, ⟨N309, encL E_u64 t307, nN309⟩, ⟨N306, encL E_u64 t304, nN306⟩, ⟨N303, encL E_u64 t301, nN303⟩, ⟨b127, [.slice a_t0 t0.length c_t0, .int .i64 t261], 2⟩] : List Own)) rfl rfl (by kernel_rfl) (sel_perm (is := [4]) (by kernel_rfl)) (cal_lend (Qc := fun v_ H_ => ∃ (N425 : Option Nat) (nN425 : Nat), v_ = (.slice (ad N425) t423.length (nN425 / 1)) ∧ H_ = ([⟨N425, encL E_u64 t423, nN425⟩] : List Own)) fun S1_ le1_ hS1_ => (sweep_Line_v1.ok (SlE.ofAd (E := E_i644) (L := t260) hS1_ (by decide)) h424).mono fun _ _ _ ⟨N425, nN425, h1_, h2_, h3_⟩ => ⟨⟨N425, nN425, h1_, h2_⟩, h3_⟩) ?_
      rintro _ _ S_ ⟨⟨_, rfl, ⟨N425, nN425, rfl, rfl⟩⟩, hS_⟩
      obtain rfl := hS_.symm
      refine t_qz 1 [1, 2, 7, 11, 12, 13, 14, 15, 16] (σ' := [(1, .int .i64 (Int.tmod (wr64 ((Int.tmod o1 4) + 4)) 4)), (2, .int .i64 (Int.tmod (wr64 ((Int.tmod A2 500) + 500)) 500)), (7, .bool t123), (11, .slice (ad a300) y298.length (na300 / 4)), (12, .slice (ad N303) t301.length (nN303 / 1)), (13, .slice (ad N306) t304.length (nN306 / 1)), (14, .slice (ad N309) t307.length (nN309 / 1)), (15, .slice (ad N422) t420.length (nN422 / 1)), (16, .slice (ad N425) t423.length (nN425 / 1))]) (by kernel_rfl) ?_
      refine t_end ?_
      show W _ _ _ _ _ _ _
      refine w_seq ?_
      refine w_reg fun all => ?_
      obtain ⟨t426, h427, e⟩ := bind_of e
      refine t_qz 3 [7, 12, 13, 14, 15, 16, 62, 63, 64] (σ' := [(7, .bool t123), (12, .slice (ad N303) t301.length (nN303 / 1)), (13, .slice (ad N306) t304.length (nN306 / 1)), (14, .slice (ad N309) t307.length (nN309 / 1)), (15, .slice (ad N422) t420.length (nN422 / 1)), (16, .slice (ad N425) t423.length (nN425 / 1)), (62, .slice (ad a300) y298.length (na300 / 4)), (63, .int .i64 (Int.tmod (wr64 ((Int.tmod A2 500) + 500)) 500)), (64, .int .i64 (Int.tmod (wr64 ((Int.tmod o1 4) + 4)) 4))]) (by kernel_rfl) ?_
      refine t_call (vs := [.slice (ad a300) y298.length (na300 / 4), .int .i64 (Int.tmod (wr64 ((Int.tmod A2 500) + 500)) 500), .int .i64 (Int.tmod (wr64 ((Int.tmod o1 4) + 4)) 4), .int .i64 3]) (H1 := ([⟨a300, encL E_i644 y298, na300⟩] : List Own)) (F := ([⟨N263, encL E_i644 t260, nN263⟩, ⟨N425, encL E_u64 t423, nN425⟩, ⟨N259, encL E_i644 t256, nN259⟩, ⟨N422, encL E_u64 t420, nN422⟩, ⟨N309, encL E_u64 t307, nN309⟩, ⟨N306, encL E_u64 t304, nN306⟩, ⟨N303, encL E_u64 t301, nN303⟩, ⟨b127, [.slice a_t0 t0.length c_t0, .int .i64 t261], 2⟩] : List Own)) rfl rfl (by kernel_rfl) (sel_perm (is := [4]) (by kernel_rfl)) (cal_lend (Qc := fun v_ H_ => ∃ (N428 : Option Nat) (nN428 : Nat), v_ = (.slice (ad N428) t426.length (nN428 / 1)) ∧ H_ = ([⟨N428, encL E_u64 t426, nN428⟩] : List Own)) fun S1_ le1_ hS1_ => (sweep_Line_v1.ok (SlE.ofAd (E := E_i644) (L := y298) hS1_ (by decide)) h427).mono fun _ _ _ ⟨N428, nN428, h1_, h2_, h3_⟩ => ⟨⟨N428, nN428, h1_, h2_⟩, h3_⟩) ?_
      rintro _ _ S_ ⟨⟨_, rfl, ⟨N428, nN428, rfl, rfl⟩⟩, hS_⟩
      obtain rfl := hS_.symm
      refine t_qz 1 [7, 12, 13, 14, 15, 16, 17] (σ' := [(7, .bool t123), (12, .slice (ad N303) t301.length (nN303 / 1)), (13, .slice (ad N306) t304.length (nN306 / 1)), (14, .slice (ad N309) t307.length (nN309 / 1)), (15, .slice (ad N422) t420.length (nN422 / 1)), (16, .slice (ad N425) t423.length (nN425 / 1)), (17, .slice (ad N428) t426.length (nN428 / 1))]) (by kernel_rfl) ?_
      refine t_end ?_
      show W _ _ _ _ _ _ _
      refine w_seq ?_
      refine w_seq ?_
      refine w_reg fun all => ?_
      by_cases c429 : (t301.length : Int) = 3
      · rw [if_pos c429] at e
        have c429b : ((t301.length : Int) == 3) = true := beq_iff_eq.mpr c429
        refine t_qz 2 [7, 12, 13, 14, 15, 16, 17, 67] (σ' := [(7, .bool t123), (12, .slice (ad N303) t301.length (nN303 / 1)), (13, .slice (ad N306) t304.length (nN306 / 1)), (14, .slice (ad N309) t307.length (nN309 / 1)), (15, .slice (ad N422) t420.length (nN422 / 1)), (16, .slice (ad N425) t423.length (nN425 / 1)), (17, .slice (ad N428) t426.length (nN428 / 1)), (67, .int .i64 (t301.length : Int))]) (by kernel_rfl) ?_
        refine t_v (dv_quiet rfl (congrArg (fun t => some (Value.bool (!t))) c429b)) ?_
        by_cases c430 : (t304.length : Int) = 3
        · rw [if_pos c430] at e
          have c430b : ((t304.length : Int) == 3) = true := beq_iff_eq.mpr c430
          refine t_qz 3 [7, 12, 13, 14, 15, 16, 17, 69, 71] (σ' := [(7, .bool t123), (12, .slice (ad N303) t301.length (nN303 / 1)), (13, .slice (ad N306) t304.length (nN306 / 1)), (14, .slice (ad N309) t307.length (nN309 / 1)), (15, .slice (ad N422) t420.length (nN422 / 1)), (16, .slice (ad N425) t423.length (nN425 / 1)), (17, .slice (ad N428) t426.length (nN428 / 1)), (69, .bool false), (71, .int .i64 (t304.length : Int))]) (by kernel_rfl) ?_
          refine t_v (dv_quiet rfl (congrArg (fun t => some (Value.bool (!t))) c430b)) ?_
          by_cases c431 : (t307.length : Int) = 3
          · rw [if_pos c431] at e
            have c431b : ((t307.length : Int) == 3) = true := beq_iff_eq.mpr c431
            refine t_qz 4 [7, 12, 13, 14, 15, 16, 17, 74, 76] (σ' := [(7, .bool t123), (12, .slice (ad N303) t301.length (nN303 / 1)), (13, .slice (ad N306) t304.length (nN306 / 1)), (14, .slice (ad N309) t307.length (nN309 / 1)), (15, .slice (ad N422) t420.length (nN422 / 1)), (16, .slice (ad N425) t423.length (nN425 / 1)), (17, .slice (ad N428) t426.length (nN428 / 1)), (74, .bool false), (76, .int .i64 (t307.length : Int))]) (by kernel_rfl) ?_
            refine t_v (dv_quiet rfl (congrArg (fun t => some (Value.bool (!t))) c431b)) ?_
            by_cases c432 : (t420.length : Int) = 3
            · rw [if_pos c432] at e
              have c432b : ((t420.length : Int) == 3) = true := beq_iff_eq.mpr c432
              refine t_qz 4 [7, 12, 13, 14, 15, 16, 17, 79, 81] (σ' := [(7, .bool t123), (12, .slice (ad N303) t301.length (nN303 / 1)), (13, .slice (ad N306) t304.length (nN306 / 1)), (14, .slice (ad N309) t307.length (nN309 / 1)), (15, .slice (ad N422) t420.length (nN422 / 1)), (16, .slice (ad N425) t423.length (nN425 / 1)), (17, .slice (ad N428) t426.length (nN428 / 1)), (79, .bool false), (81, .int .i64 (t420.length : Int))]) (by kernel_rfl) ?_
              refine t_v (dv_quiet rfl (congrArg (fun t => some (Value.bool (!t))) c432b)) ?_
              by_cases c433 : (t423.length : Int) = 3
              · rw [if_pos c433] at e
                have c433b : ((t423.length : Int) == 3) = true := beq_iff_eq.mpr c433
                refine t_qz 4 [7, 12, 13, 14, 15, 16, 17, 84, 86] (σ' := [(7, .bool t123), (12, .slice (ad N303) t301.length (nN303 / 1)), (13, .slice (ad N306) t304.length (nN306 / 1)), (14, .slice (ad N309) t307.length (nN309 / 1)), (15, .slice (ad N422) t420.length (nN422 / 1)), (16, .slice (ad N425) t423.length (nN425 / 1)), (17, .slice (ad N428) t426.length (nN428 / 1)), (84, .bool false), (86, .int .i64 (t423.length : Int))]) (by kernel_rfl) ?_
                refine t_v (dv_quiet rfl (congrArg (fun t => some (Value.bool (!t))) c433b)) ?_
                by_cases c434 : (t426.length : Int) = 3
                · rw [if_pos c434] at e
                  have c434b : ((t426.length : Int) == 3) = true := beq_iff_eq.mpr c434
                  refine t_qz 4 [7, 12, 13, 14, 15, 16, 17, 89, 91] (σ' := [(7, .bool t123), (12, .slice (ad N303) t301.length (nN303 / 1)), (13, .slice (ad N306) t304.length (nN306 / 1)), (14, .slice (ad N309) t307.length (nN309 / 1)), (15, .slice (ad N422) t420.length (nN422 / 1)), (16, .slice (ad N425) t423.length (nN425 / 1)), (17, .slice (ad N428) t426.length (nN428 / 1)), (89, .bool false), (91, .int .i64 (t426.length : Int))]) (by kernel_rfl) ?_
                  refine t_v (dv_quiet rfl (congrArg (fun t => some (Value.bool (!t))) c434b)) ?_
                  refine t_qz 1 [7, 12, 13, 14, 15, 16, 17, 93] (σ' := [(7, .bool t123), (12, .slice (ad N303) t301.length (nN303 / 1)), (13, .slice (ad N306) t304.length (nN306 / 1)), (14, .slice (ad N309) t307.length (nN309 / 1)), (15, .slice (ad N422) t420.length (nN422 / 1)), (16, .slice (ad N425) t423.length (nN425 / 1)), (17, .slice (ad N428) t426.length (nN428 / 1)), (93, .bool false)]) (by kernel_rfl) ?_
                  refine t_end ?_
                  show W _ _ _ _ _ _ _
                  refine w_cond rfl (fun c_ => by cases c_) (fun _ => ?_)
                  show W _ _ _ _ _ _ _
                  refine w_skip ?_
                  show W _ _ _ _ _ _ _
                  obtain ⟨s437, e436, e⟩ := bind_of e
                  refine w_cut [7] (fun σ_ H_ S_ => ∃ u_ : Unit, s437 = .inr u_ ∧ [(7, .bool t123)] = σ_ ∧ ([⟨b127, [.slice a_t0 t0.length c_t0, .int .i64 t261], 2⟩, ⟨a300, encL E_i644 y298, na300⟩, ⟨N428, encL E_u64 t426, nN428⟩, ⟨N263, encL E_i644 t260, nN263⟩, ⟨N425, encL E_u64 t423, nN425⟩, ⟨N259, encL E_i644 t256, nN259⟩, ⟨N422, encL E_u64 t420, nN422⟩, ⟨N309, encL E_u64 t307, nN309⟩, ⟨N306, encL E_u64 t304, nN306⟩, ⟨N303, encL E_u64 t301, nN303⟩] : List Own) = H_ ∧ S = S_) ?_ ?_
                  · show W _ _ _ _ _ _ _
                    refine w_seq ?_
                    refine w_reg fun all => ?_
                    refine t_qz 1 [7, 12, 13, 14, 15, 16, 17, 18] (σ' := [(7, .bool t123), (12, .slice (ad N303) t301.length (nN303 / 1)), (13, .slice (ad N306) t304.length (nN306 / 1)), (14, .slice (ad N309) t307.length (nN309 / 1)), (15, .slice (ad N422) t420.length (nN422 / 1)), (16, .slice (ad N425) t423.length (nN425 / 1)), (17, .slice (ad N428) t426.length (nN428 / 1)), (18, .int .i64 0)]) (by kernel_rfl) ?_
                    refine t_end ?_
                    show W _ _ _ _ _ _ _
                    refine w_block ?_
                    refine w_lun 10 ?_
                    refine wl_step ?_
                    refine w_seq ?_
                    refine w_seq ?_
                    refine w_reg fun all => ?_
                    refine t_qz 2 [7, 12, 13, 14, 15, 16, 17, 18, 95] (σ' := [(7, .bool t123), (12, .slice (ad N303) t301.length (nN303 / 1)), (13, .slice (ad N306) t304.length (nN306 / 1)), (14, .slice (ad N309) t307.length (nN309 / 1)), (15, .slice (ad N422) t420.length (nN422 / 1)), (16, .slice (ad N425) t423.length (nN425 / 1)), (17, .slice (ad N428) t426.length (nN428 / 1)), (18, .int .i64 0), (95, .bool true)]) (by kernel_rfl) ?_
                    refine t_end ?_
                    show W _ _ _ _ _ _ _
                    refine w_cond rfl (fun _ => ?_) (fun c_ => by cases c_)
                    show W _ _ _ _ _ _ _
                    refine w_skip ?_
                    show W _ _ _ _ _ _ _
                    refine w_seq ?_
                    refine w_block ?_
                    refine w_seq ?_
                    obtain ⟨x438, hx439, e436⟩ := bind_of e436
                    obtain ⟨x440, hx441, e436⟩ := bind_of e436
                    obtain ⟨x442, hx443, e436⟩ := bind_of e436
                    by_cases c444 : x438 = (bits .xor .u64 x440 x442)
                    · rw [if_pos c444] at e436
                      have c444b : (x438 == (bits .xor .u64 x440 x442)) = true := beq_iff_eq.mpr c444
                      obtain ⟨x445, hx446, e436⟩ := bind_of e436
                      obtain ⟨x447, hx448, e436⟩ := bind_of e436
                      obtain ⟨x449, hx450, e436⟩ := bind_of e436
                      by_cases c451 : x445 = (bits .or .u64 x447 x449)
                      · rw [if_pos c451] at e436
                        have c451b : (x445 == (bits .or .u64 x447 x449)) = true := beq_iff_eq.mpr c451
                        obtain ⟨x452, hx453, e436⟩ := bind_of e436
                        obtain ⟨t454, h455, e436⟩ := bind_of e436
                        obtain ⟨x456, hx457, e436⟩ := bind_of e436
                        obtain ⟨x458, hx459, e436⟩ := bind_of e436
                        obtain ⟨t460, h461, e436⟩ := bind_of e436
                        by_cases c462 : t454 = t460
                        · rw [if_pos c462] at e436
                          have c462b : (t454 == t460) = true := beq_iff_eq.mpr c462
                          refine w_drwE mixed 48 [.v (.slice (ad N309) t307.length (nN309 / 1)), .v (.int .i64 0), .v (.pointer (some ⟨bk N309, (0 : Int).toNat * 1 + 0, none⟩)), .v (.int .u64 x438), .v (.slice (ad N303) t301.length (nN303 / 1)), .v (.int .i64 0), .v (.pointer (some ⟨bk N303, (0 : Int).toNat * 1 + 0, none⟩)), .v (.int .u64 x440), .v (.slice (ad N306) t304.length (nN306 / 1)), .v (.int .i64 0), .v (.pointer (some ⟨bk N306, (0 : Int).toNat * 1 + 0, none⟩)), .v (.int .u64 x442), .v (.int .u64 (bits .xor .u64 x440 x442)), .v (.bool false), .v (.bool false), .v (.slice (ad N428) t426.length (nN428 / 1)), .v (.int .i64 0), .v (.pointer (some ⟨bk N428, (0 : Int).toNat * 1 + 0, none⟩)), .v (.int .u64 x445), .v (.slice (ad N422) t420.length (nN422 / 1)), .v (.int .i64 0), .v (.pointer (some ⟨bk N422, (0 : Int).toNat * 1 + 0, none⟩)), .v (.int .u64 x447), .v (.slice (ad N425) t423.length (nN425 / 1)), .v (.int .i64 0), .v (.pointer (some ⟨bk N425, (0 : Int).toNat * 1 + 0, none⟩)), .v (.int .u64 x449), .v (.int .u64 (bits .or .u64 x447 x449)), .v (.bool false), .v (.bool false), .v (.bool false), .v (.slice (ad N309) t307.length (nN309 / 1)), .v (.int .i64 0), .v (.pointer (some ⟨bk N309, (0 : Int).toNat * 1 + 0, none⟩)), .v (.int .u64 x452), .v (.int .i64 t454), .v (.slice (ad N303) t301.length (nN303 / 1)), .v (.int .i64 0), .v (.pointer (some ⟨bk N303, (0 : Int).toNat * 1 + 0, none⟩)), .v (.int .u64 x456), .v (.slice (ad N306) t304.length (nN306 / 1)), .v (.int .i64 0), .v (.pointer (some ⟨bk N306, (0 : Int).toNat * 1 + 0, none⟩)), .v (.int .u64 x458), .v (.int .u64 (bits .xor .u64 x456 x458)), .v (.int .i64 t460), .v (.bool false), .v (.bool false)] (by kernel_rfl) ?_ ?_
                          · refine DI.sq 2 (by kernel_rfl) rfl ?_
                            refine .cons (.quietH rfl (by intro h_; cases h_) (ixl (E := E_u64) (j := 6) rfl rfl rfl (by decide) rfl hx439)) ?_
                            refine .cons (.ld1 rfl rfl rfl (.lst 6 rfl (encL_at (lgt_in hx439).1 rfl))) ?_
                            refine DI.sq 2 (by kernel_rfl) rfl ?_
                            refine .cons (.quietH rfl (by intro h_; cases h_) (ixl (E := E_u64) (j := 8) rfl rfl rfl (by decide) rfl hx441)) ?_
                            refine .cons (.ld1 rfl rfl rfl (.lst 8 rfl (encL_at (lgt_in hx441).1 rfl))) ?_
                            refine DI.sq 2 (by kernel_rfl) rfl ?_
                            refine .cons (.quietH rfl (by intro h_; cases h_) (ixl (E := E_u64) (j := 7) rfl rfl rfl (by decide) rfl hx443)) ?_
                            refine .cons (.ld1 rfl rfl rfl (.lst 7 rfl (encL_at (lgt_in hx443).1 rfl))) ?_
                            refine DI.sq 1 (by kernel_rfl) rfl ?_
                            refine .cons (dv_quiet rfl (congrArg (fun t => some (Value.bool (!t))) c444b)) ?_
                            refine DI.sq 3 (by kernel_rfl) rfl ?_
                            refine .cons (.quietH rfl (by intro h_; cases h_) (ixl (E := E_u64) (j := 1) rfl rfl rfl (by decide) rfl hx446)) ?_
                            refine .cons (.ld1 rfl rfl rfl (.lst 1 rfl (encL_at (lgt_in hx446).1 rfl))) ?_
                            refine DI.sq 2 (by kernel_rfl) rfl ?_
                            refine .cons (.quietH rfl (by intro h_; cases h_) (ixl (E := E_u64) (j := 5) rfl rfl rfl (by decide) rfl hx448)) ?_
                            refine .cons (.ld1 rfl rfl rfl (.lst 5 rfl (encL_at (lgt_in hx448).1 rfl))) ?_
                            refine DI.sq 2 (by kernel_rfl) rfl ?_
                            refine .cons (.quietH rfl (by intro h_; cases h_) (ixl (E := E_u64) (j := 3) rfl rfl rfl (by decide) rfl hx450)) ?_
                            refine .cons (.ld1 rfl rfl rfl (.lst 3 rfl (encL_at (lgt_in hx450).1 rfl))) ?_
                            refine DI.sq 1 (by kernel_rfl) rfl ?_
                            refine .cons (dv_quiet rfl (congrArg (fun t => some (Value.bool (!t))) c451b)) ?_
                            refine DI.sq 4 (by kernel_rfl) rfl ?_
                            refine .cons (.quietH rfl (by intro h_; cases h_) (ixl (E := E_u64) (j := 6) rfl rfl rfl (by decide) rfl hx453)) ?_
                            refine .cons (.ld1 rfl rfl rfl (.lst 6 rfl (encL_at (lgt_in hx453).1 rfl))) ?_
                            refine .cons (.call (vs := [.int .u64 x452]) rfl rfl (by kernel_rfl) (sweep_Count.ok h455)) ?_
                            refine DI.sq 2 (by kernel_rfl) rfl ?_
                            refine .cons (.quietH rfl (by intro h_; cases h_) (ixl (E := E_u64) (j := 8) rfl rfl rfl (by decide) rfl hx457)) ?_
                            refine .cons (.ld1 rfl rfl rfl (.lst 8 rfl (encL_at (lgt_in hx457).1 rfl))) ?_
                            refine DI.sq 2 (by kernel_rfl) rfl ?_
                            refine .cons (.quietH rfl (by intro h_; cases h_) (ixl (E := E_u64) (j := 7) rfl rfl rfl (by decide) rfl hx459)) ?_
                            refine .cons (.ld1 rfl rfl rfl (.lst 7 rfl (encL_at (lgt_in hx459).1 rfl))) ?_
                            refine DI.sq 1 (by kernel_rfl) rfl ?_
                            refine .cons (.call (vs := [.int .u64 (bits .xor .u64 x456 x458)]) rfl rfl (by kernel_rfl) (glyphicref20_Bits.ok h461)) ?_
                            refine .cons (dv_quiet rfl (congrArg (fun t => some (Value.bool (!t))) c462b)) ?_
                            refine DI.sq 1 (by kernel_rfl) rfl ?_
                            exact .nil
                          refine fk_q 48 [7, 12, 13, 14, 15, 16, 17, 18, 113, 114, 115, 116, 117, 118, 119, 120, 121, 122, 123, 124, 125, 126, 129, 130, 131, 132, 133, 134, 135, 136, 137, 138, 139, 140, 141, 142, 143, 144, 145] (σ' := [(7, .bool t123), (12, .slice (ad N303) t301.length (nN303 / 1)), (13, .slice (ad N306) t304.length (nN306 / 1)), (14, .slice (ad N309) t307.length (nN309 / 1)), (15, .slice (ad N422) t420.length (nN422 / 1)), (16, .slice (ad N425) t423.length (nN425 / 1)), (17, .slice (ad N428) t426.length (nN428 / 1)), (18, .int .i64 0), (113, .slice (ad N428) t426.length (nN428 / 1)), (114, .int .i64 0), (115, .pointer (some ⟨bk N428, (0 : Int).toNat * 1 + 0, none⟩)), (116, .int .u64 x445), (117, .slice (ad N422) t420.length (nN422 / 1)), (118, .int .i64 0), (119, .pointer (some ⟨bk N422, (0 : Int).toNat * 1 + 0, none⟩)), (120, .int .u64 x447), (121, .slice (ad N425) t423.length (nN425 / 1)), (122, .int .i64 0), (123, .pointer (some ⟨bk N425, (0 : Int).toNat * 1 + 0, none⟩)), (124, .int .u64 x449), (125, .int .u64 (bits .or .u64 x447 x449)), (126, .bool false), (129, .slice (ad N309) t307.length (nN309 / 1)), (130, .int .i64 0), (131, .pointer (some ⟨bk N309, (0 : Int).toNat * 1 + 0, none⟩)), (132, .int .u64 x452), (133, .int .i64 t454), (134, .slice (ad N303) t301.length (nN303 / 1)), (135, .int .i64 0), (136, .pointer (some ⟨bk N303, (0 : Int).toNat * 1 + 0, none⟩)), (137, .int .u64 x456), (138, .slice (ad N306) t304.length (nN306 / 1)), (139, .int .i64 0), (140, .pointer (some ⟨bk N306, (0 : Int).toNat * 1 + 0, none⟩)), (141, .int .u64 x458), (142, .int .u64 (bits .xor .u64 x456 x458)), (143, .int .i64 t460), (144, .bool false), (145, .bool false)]) t_more (by kernel_rfl) ?_
                          refine fk_nil fun all => ?_
                          refine t_keep [7, 12, 13, 14, 15, 16, 17, 18, 113, 114, 115, 116, 117, 118, 119, 120, 121, 122, 123, 124, 125, 126, 129, 130, 131, 132, 133, 134, 135, 136, 137, 138, 139, 140, 141, 142, 143, 144, 145] (σ' := [(7, .bool t123), (12, .slice (ad N303) t301.length (nN303 / 1)), (13, .slice (ad N306) t304.length (nN306 / 1)), (14, .slice (ad N309) t307.length (nN309 / 1)), (15, .slice (ad N422) t420.length (nN422 / 1)), (16, .slice (ad N425) t423.length (nN425 / 1)), (17, .slice (ad N428) t426.length (nN428 / 1)), (18, .int .i64 0), (113, .slice (ad N428) t426.length (nN428 / 1)), (114, .int .i64 0), (115, .pointer (some ⟨bk N428, (0 : Int).toNat * 1 + 0, none⟩)), (116, .int .u64 x445), (117, .slice (ad N422) t420.length (nN422 / 1)), (118, .int .i64 0), (119, .pointer (some ⟨bk N422, (0 : Int).toNat * 1 + 0, none⟩)), (120, .int .u64 x447), (121, .slice (ad N425) t423.length (nN425 / 1)), (122, .int .i64 0), (123, .pointer (some ⟨bk N425, (0 : Int).toNat * 1 + 0, none⟩)), (124, .int .u64 x449), (125, .int .u64 (bits .or .u64 x447 x449)), (126, .bool false), (129, .slice (ad N309) t307.length (nN309 / 1)), (130, .int .i64 0), (131, .pointer (some ⟨bk N309, (0 : Int).toNat * 1 + 0, none⟩)), (132, .int .u64 x452), (133, .int .i64 t454), (134, .slice (ad N303) t301.length (nN303 / 1)), (135, .int .i64 0), (136, .pointer (some ⟨bk N303, (0 : Int).toNat * 1 + 0, none⟩)), (137, .int .u64 x456), (138, .slice (ad N306) t304.length (nN306 / 1)), (139, .int .i64 0), (140, .pointer (some ⟨bk N306, (0 : Int).toNat * 1 + 0, none⟩)), (141, .int .u64 x458), (142, .int .u64 (bits .xor .u64 x456 x458)), (143, .int .i64 t460), (144, .bool false), (145, .bool false)]) (by kernel_rfl) ?_
                          refine t_end ?_
                          show W _ _ _ _ _ _ _
                          refine w_cond rfl (fun c_ => by cases c_) (fun _ => ?_)
                          show W _ _ _ _ _ _ _
                          refine w_skip ?_
                          show W _ _ _ _ _ _ _
                          refine w_reg fun all => ?_
                          refine t_qz 3 [7, 12, 13, 14, 15, 16, 17, 18, 113, 114, 115, 116, 117, 118, 119, 120, 121, 122, 123, 124, 125, 126, 129, 130, 131, 132, 133, 134, 135, 136, 137, 138, 139, 140, 141, 142, 143, 144] (σ' := [(7, .bool t123), (12, .slice (ad N303) t301.length (nN303 / 1)), (13, .slice (ad N306) t304.length (nN306 / 1)), (14, .slice (ad N309) t307.length (nN309 / 1)), (15, .slice (ad N422) t420.length (nN422 / 1)), (16, .slice (ad N425) t423.length (nN425 / 1)), (17, .slice (ad N428) t426.length (nN428 / 1)), (18, .int .i64 1), (113, .slice (ad N428) t426.length (nN428 / 1)), (114, .int .i64 0), (115, .pointer (some ⟨bk N428, (0 : Int).toNat * 1 + 0, none⟩)), (116, .int .u64 x445), (117, .slice (ad N422) t420.length (nN422 / 1)), (118, .int .i64 0), (119, .pointer (some ⟨bk N422, (0 : Int).toNat * 1 + 0, none⟩)), (120, .int .u64 x447), (121, .slice (ad N425) t423.length (nN425 / 1)), (122, .int .i64 0), (123, .pointer (some ⟨bk N425, (0 : Int).toNat * 1 + 0, none⟩)), (124, .int .u64 x449), (125, .int .u64 (bits .or .u64 x447 x449)), (126, .bool false), (129, .slice (ad N309) t307.length (nN309 / 1)), (130, .int .i64 0), (131, .pointer (some ⟨bk N309, (0 : Int).toNat * 1 + 0, none⟩)), (132, .int .u64 x452), (133, .int .i64 t454), (134, .slice (ad N303) t301.length (nN303 / 1)), (135, .int .i64 0), (136, .pointer (some ⟨bk N303, (0 : Int).toNat * 1 + 0, none⟩)), (137, .int .u64 x456), (138, .slice (ad N306) t304.length (nN306 / 1)), (139, .int .i64 0), (140, .pointer (some ⟨bk N306, (0 : Int).toNat * 1 + 0, none⟩)), (141, .int .u64 x458), (142, .int .u64 (bits .xor .u64 x456 x458)), (143, .int .i64 t460), (144, .bool false)]) (by kernel_rfl) ?_
                          refine t_end ?_
                          show WL _ _ _ _ _ _ _ _
                          refine wl_step ?_
                          refine w_seq ?_
                          refine w_seq ?_
                          refine w_reg fun all => ?_
                          refine t_qz 2 [7, 12, 13, 14, 15, 16, 17, 18, 95, 113, 114, 115, 116, 117, 118, 119, 120, 121, 122, 123, 124, 125, 126, 129, 130, 131, 132, 133, 134, 135, 136, 137, 138, 139, 140, 141, 142, 143, 144] (σ' := [(7, .bool t123), (12, .slice (ad N303) t301.length (nN303 / 1)), (13, .slice (ad N306) t304.length (nN306 / 1)), (14, .slice (ad N309) t307.length (nN309 / 1)), (15, .slice (ad N422) t420.length (nN422 / 1)), (16, .slice (ad N425) t423.length (nN425 / 1)), (17, .slice (ad N428) t426.length (nN428 / 1)), (18, .int .i64 1), (95, .bool true), (113, .slice (ad N428) t426.length (nN428 / 1)), (114, .int .i64 0), (115, .pointer (some ⟨bk N428, (0 : Int).toNat * 1 + 0, none⟩)), (116, .int .u64 x445), (117, .slice (ad N422) t420.length (nN422 / 1)), (118, .int .i64 0), (119, .pointer (some ⟨bk N422, (0 : Int).toNat * 1 + 0, none⟩)), (120, .int .u64 x447), (121, .slice (ad N425) t423.length (nN425 / 1)), (122, .int .i64 0), (123, .pointer (some ⟨bk N425, (0 : Int).toNat * 1 + 0, none⟩)), (124, .int .u64 x449), (125, .int .u64 (bits .or .u64 x447 x449)), (126, .bool false), (129, .slice (ad N309) t307.length (nN309 / 1)), (130, .int .i64 0), (131, .pointer (some ⟨bk N309, (0 : Int).toNat * 1 + 0, none⟩)), (132, .int .u64 x452), (133, .int .i64 t454), (134, .slice (ad N303) t301.length (nN303 / 1)), (135, .int .i64 0), (136, .pointer (some ⟨bk N303, (0 : Int).toNat * 1 + 0, none⟩)), (137, .int .u64 x456), (138, .slice (ad N306) t304.length (nN306 / 1)), (139, .int .i64 0), (140, .pointer (some ⟨bk N306, (0 : Int).toNat * 1 + 0, none⟩)), (141, .int .u64 x458), (142, .int .u64 (bits .xor .u64 x456 x458)), (143, .int .i64 t460), (144, .bool false)]) (by kernel_rfl) ?_
                          refine t_end ?_
                          show W _ _ _ _ _ _ _
                          refine w_cond rfl (fun _ => ?_) (fun c_ => by cases c_)
                          show W _ _ _ _ _ _ _
                          refine w_skip ?_
                          show W _ _ _ _ _ _ _
                          refine w_seq ?_
                          refine w_block ?_
                          refine w_seq ?_
                          obtain ⟨x463, hx464, e436⟩ := bind_of e436
                          obtain ⟨x465, hx466, e436⟩ := bind_of e436
                          obtain ⟨x467, hx468, e436⟩ := bind_of e436
                          by_cases c469 : x463 = (bits .xor .u64 x465 x467)
                          · rw [if_pos c469] at e436
                            have c469b : (x463 == (bits .xor .u64 x465 x467)) = true := beq_iff_eq.mpr c469
                            obtain ⟨x470, hx471, e436⟩ := bind_of e436
                            obtain ⟨x472, hx473, e436⟩ := bind_of e436
                            obtain ⟨x474, hx475, e436⟩ := bind_of e436
                            by_cases c476 : x470 = (bits .or .u64 x472 x474)
                            · rw [if_pos c476] at e436
                              have c476b : (x470 == (bits .or .u64 x472 x474)) = true := beq_iff_eq.mpr c476
                              obtain ⟨x477, hx478, e436⟩ := bind_of e436
                              obtain ⟨t479, h480, e436⟩ := bind_of e436
                              obtain ⟨x481, hx482, e436⟩ := bind_of e436
                              obtain ⟨x483, hx484, e436⟩ := bind_of e436
                              obtain ⟨t485, h486, e436⟩ := bind_of e436
                              by_cases c487 : t479 = t485
                              · rw [if_pos c487] at e436
                                have c487b : (t479 == t485) = true := beq_iff_eq.mpr c487
                                refine w_drwE mixed 48 [.v (.slice (ad N309) t307.length (nN309 / 1)), .v (.int .i64 1), .v (.pointer (some ⟨bk N309, (1 : Int).toNat * 1 + 0, none⟩)), .v (.int .u64 x463), .v (.slice (ad N303) t301.length (nN303 / 1)), .v (.int .i64 1), .v (.pointer (some ⟨bk N303, (1 : Int).toNat * 1 + 0, none⟩)), .v (.int .u64 x465), .v (.slice (ad N306) t304.length (nN306 / 1)), .v (.int .i64 1), .v (.pointer (some ⟨bk N306, (1 : Int).toNat * 1 + 0, none⟩)), .v (.int .u64 x467), .v (.int .u64 (bits .xor .u64 x465 x467)), .v (.bool false), .v (.bool false), .v (.slice (ad N428) t426.length (nN428 / 1)), .v (.int .i64 1), .v (.pointer (some ⟨bk N428, (1 : Int).toNat * 1 + 0, none⟩)), .v (.int .u64 x470), .v (.slice (ad N422) t420.length (nN422 / 1)), .v (.int .i64 1), .v (.pointer (some ⟨bk N422, (1 : Int).toNat * 1 + 0, none⟩)), .v (.int .u64 x472), .v (.slice (ad N425) t423.length (nN425 / 1)), .v (.int .i64 1), .v (.pointer (some ⟨bk N425, (1 : Int).toNat * 1 + 0, none⟩)), .v (.int .u64 x474), .v (.int .u64 (bits .or .u64 x472 x474)), .v (.bool false), .v (.bool false), .v (.bool false), .v (.slice (ad N309) t307.length (nN309 / 1)), .v (.int .i64 1), .v (.pointer (some ⟨bk N309, (1 : Int).toNat * 1 + 0, none⟩)), .v (.int .u64 x477), .v (.int .i64 t479), .v (.slice (ad N303) t301.length (nN303 / 1)), .v (.int .i64 1), .v (.pointer (some ⟨bk N303, (1 : Int).toNat * 1 + 0, none⟩)), .v (.int .u64 x481), .v (.slice (ad N306) t304.length (nN306 / 1)), .v (.int .i64 1), .v (.pointer (some ⟨bk N306, (1 : Int).toNat * 1 + 0, none⟩)), .v (.int .u64 x483), .v (.int .u64 (bits .xor .u64 x481 x483)), .v (.int .i64 t485), .v (.bool false), .v (.bool false)] (by kernel_rfl) ?_ ?_
                                · refine DI.sq 2 (by kernel_rfl) rfl ?_
                                  refine .cons (.quietH rfl (by intro h_; cases h_) (ixl (E := E_u64) (j := 6) rfl rfl rfl (by decide) rfl hx464)) ?_
                                  refine .cons (.ld1 rfl rfl rfl (.lst 6 rfl (encL_at (lgt_in hx464).1 rfl))) ?_
                                  refine DI.sq 2 (by kernel_rfl) rfl ?_
                                  refine .cons (.quietH rfl (by intro h_; cases h_) (ixl (E := E_u64) (j := 8) rfl rfl rfl (by decide) rfl hx466)) ?_
                                  refine .cons (.ld1 rfl rfl rfl (.lst 8 rfl (encL_at (lgt_in hx466).1 rfl))) ?_
                                  refine DI.sq 2 (by kernel_rfl) rfl ?_
                                  refine .cons (.quietH rfl (by intro h_; cases h_) (ixl (E := E_u64) (j := 7) rfl rfl rfl (by decide) rfl hx468)) ?_
                                  refine .cons (.ld1 rfl rfl rfl (.lst 7 rfl (encL_at (lgt_in hx468).1 rfl))) ?_
                                  refine DI.sq 1 (by kernel_rfl) rfl ?_
                                  refine .cons (dv_quiet rfl (congrArg (fun t => some (Value.bool (!t))) c469b)) ?_
                                  refine DI.sq 3 (by kernel_rfl) rfl ?_
                                  refine .cons (.quietH rfl (by intro h_; cases h_) (ixl (E := E_u64) (j := 1) rfl rfl rfl (by decide) rfl hx471)) ?_
                                  refine .cons (.ld1 rfl rfl rfl (.lst 1 rfl (encL_at (lgt_in hx471).1 rfl))) ?_
                                  refine DI.sq 2 (by kernel_rfl) rfl ?_
                                  refine .cons (.quietH rfl (by intro h_; cases h_) (ixl (E := E_u64) (j := 5) rfl rfl rfl (by decide) rfl hx473)) ?_
                                  refine .cons (.ld1 rfl rfl rfl (.lst 5 rfl (encL_at (lgt_in hx473).1 rfl))) ?_
                                  refine DI.sq 2 (by kernel_rfl) rfl ?_
                                  refine .cons (.quietH rfl (by intro h_; cases h_) (ixl (E := E_u64) (j := 3) rfl rfl rfl (by decide) rfl hx475)) ?_
                                  refine .cons (.ld1 rfl rfl rfl (.lst 3 rfl (encL_at (lgt_in hx475).1 rfl))) ?_
                                  refine DI.sq 1 (by kernel_rfl) rfl ?_
                                  refine .cons (dv_quiet rfl (congrArg (fun t => some (Value.bool (!t))) c476b)) ?_
                                  refine DI.sq 4 (by kernel_rfl) rfl ?_
                                  refine .cons (.quietH rfl (by intro h_; cases h_) (ixl (E := E_u64) (j := 6) rfl rfl rfl (by decide) rfl hx478)) ?_
                                  refine .cons (.ld1 rfl rfl rfl (.lst 6 rfl (encL_at (lgt_in hx478).1 rfl))) ?_
                                  refine .cons (.call (vs := [.int .u64 x477]) rfl rfl (by kernel_rfl) (sweep_Count.ok h480)) ?_
                                  refine DI.sq 2 (by kernel_rfl) rfl ?_
                                  refine .cons (.quietH rfl (by intro h_; cases h_) (ixl (E := E_u64) (j := 8) rfl rfl rfl (by decide) rfl hx482)) ?_
                                  refine .cons (.ld1 rfl rfl rfl (.lst 8 rfl (encL_at (lgt_in hx482).1 rfl))) ?_
                                  refine DI.sq 2 (by kernel_rfl) rfl ?_
                                  refine .cons (.quietH rfl (by intro h_; cases h_) (ixl (E := E_u64) (j := 7) rfl rfl rfl (by decide) rfl hx484)) ?_
                                  refine .cons (.ld1 rfl rfl rfl (.lst 7 rfl (encL_at (lgt_in hx484).1 rfl))) ?_
                                  refine DI.sq 1 (by kernel_rfl) rfl ?_
                                  refine .cons (.call (vs := [.int .u64 (bits .xor .u64 x481 x483)]) rfl rfl (by kernel_rfl) (glyphicref20_Bits.ok h486)) ?_
                                  refine .cons (dv_quiet rfl (congrArg (fun t => some (Value.bool (!t))) c487b)) ?_
                                  refine DI.sq 1 (by kernel_rfl) rfl ?_
                                  exact .nil
                                refine fk_q 48 [7, 12, 13, 14, 15, 16, 17, 18, 113, 114, 115, 116, 117, 118, 119, 120, 121, 122, 123, 124, 125, 126, 129, 130, 131, 132, 133, 134, 135, 136, 137, 138, 139, 140, 141, 142, 143, 144, 145] (σ' := [(7, .bool t123), (12, .slice (ad N303) t301.length (nN303 / 1)), (13, .slice (ad N306) t304.length (nN306 / 1)), (14, .slice (ad N309) t307.length (nN309 / 1)), (15, .slice (ad N422) t420.length (nN422 / 1)), (16, .slice (ad N425) t423.length (nN425 / 1)), (17, .slice (ad N428) t426.length (nN428 / 1)), (18, .int .i64 1), (113, .slice (ad N428) t426.length (nN428 / 1)), (114, .int .i64 1), (115, .pointer (some ⟨bk N428, (1 : Int).toNat * 1 + 0, none⟩)), (116, .int .u64 x470), (117, .slice (ad N422) t420.length (nN422 / 1)), (118, .int .i64 1), (119, .pointer (some ⟨bk N422, (1 : Int).toNat * 1 + 0, none⟩)), (120, .int .u64 x472), (121, .slice (ad N425) t423.length (nN425 / 1)), (122, .int .i64 1), (123, .pointer (some ⟨bk N425, (1 : Int).toNat * 1 + 0, none⟩)), (124, .int .u64 x474), (125, .int .u64 (bits .or .u64 x472 x474)), (126, .bool false), (129, .slice (ad N309) t307.length (nN309 / 1)), (130, .int .i64 1), (131, .pointer (some ⟨bk N309, (1 : Int).toNat * 1 + 0, none⟩)), (132, .int .u64 x477), (133, .int .i64 t479), (134, .slice (ad N303) t301.length (nN303 / 1)), (135, .int .i64 1), (136, .pointer (some ⟨bk N303, (1 : Int).toNat * 1 + 0, none⟩)), (137, .int .u64 x481), (138, .slice (ad N306) t304.length (nN306 / 1)), (139, .int .i64 1), (140, .pointer (some ⟨bk N306, (1 : Int).toNat * 1 + 0, none⟩)), (141, .int .u64 x483), (142, .int .u64 (bits .xor .u64 x481 x483)), (143, .int .i64 t485), (144, .bool false), (145, .bool false)]) t_more (by kernel_rfl) ?_
                                refine fk_nil fun all => ?_
                                refine t_keep [7, 12, 13, 14, 15, 16, 17, 18, 113, 114, 115, 116, 117, 118, 119, 120, 121, 122, 123, 124, 125, 126, 129, 130, 131, 132, 133, 134, 135, 136, 137, 138, 139, 140, 141, 142, 143, 144, 145] (σ' := [(7, .bool t123), (12, .slice (ad N303) t301.length (nN303 / 1)), (13, .slice (ad N306) t304.length (nN306 / 1)), (14, .slice (ad N309) t307.length (nN309 / 1)), (15, .slice (ad N422) t420.length (nN422 / 1)), (16, .slice (ad N425) t423.length (nN425 / 1)), (17, .slice (ad N428) t426.length (nN428 / 1)), (18, .int .i64 1), (113, .slice (ad N428) t426.length (nN428 / 1)), (114, .int .i64 1), (115, .pointer (some ⟨bk N428, (1 : Int).toNat * 1 + 0, none⟩)), (116, .int .u64 x470), (117, .slice (ad N422) t420.length (nN422 / 1)), (118, .int .i64 1), (119, .pointer (some ⟨bk N422, (1 : Int).toNat * 1 + 0, none⟩)), (120, .int .u64 x472), (121, .slice (ad N425) t423.length (nN425 / 1)), (122, .int .i64 1), (123, .pointer (some ⟨bk N425, (1 : Int).toNat * 1 + 0, none⟩)), (124, .int .u64 x474), (125, .int .u64 (bits .or .u64 x472 x474)), (126, .bool false), (129, .slice (ad N309) t307.length (nN309 / 1)), (130, .int .i64 1), (131, .pointer (some ⟨bk N309, (1 : Int).toNat * 1 + 0, none⟩)), (132, .int .u64 x477), (133, .int .i64 t479), (134, .slice (ad N303) t301.length (nN303 / 1)), (135, .int .i64 1), (136, .pointer (some ⟨bk N303, (1 : Int).toNat * 1 + 0, none⟩)), (137, .int .u64 x481), (138, .slice (ad N306) t304.length (nN306 / 1)), (139, .int .i64 1), (140, .pointer (some ⟨bk N306, (1 : Int).toNat * 1 + 0, none⟩)), (141, .int .u64 x483), (142, .int .u64 (bits .xor .u64 x481 x483)), (143, .int .i64 t485), (144, .bool false), (145, .bool false)]) (by kernel_rfl) ?_
                                refine t_end ?_
                                show W _ _ _ _ _ _ _
                                refine w_cond rfl (fun c_ => by cases c_) (fun _ => ?_)
                                show W _ _ _ _ _ _ _
                                refine w_skip ?_
                                show W _ _ _ _ _ _ _
                                refine w_reg fun all => ?_
                                refine t_qz 3 [7, 12, 13, 14, 15, 16, 17, 18, 113, 114, 115, 116, 117, 118, 119, 120, 121, 122, 123, 124, 125, 126, 129, 130, 131, 132, 133, 134, 135, 136, 137, 138, 139, 140, 141, 142, 143, 144] (σ' := [(7, .bool t123), (12, .slice (ad N303) t301.length (nN303 / 1)), (13, .slice (ad N306) t304.length (nN306 / 1)), (14, .slice (ad N309) t307.length (nN309 / 1)), (15, .slice (ad N422) t420.length (nN422 / 1)), (16, .slice (ad N425) t423.length (nN425 / 1)), (17, .slice (ad N428) t426.length (nN428 / 1)), (18, .int .i64 2), (113, .slice (ad N428) t426.length (nN428 / 1)), (114, .int .i64 1), (115, .pointer (some ⟨bk N428, (1 : Int).toNat * 1 + 0, none⟩)), (116, .int .u64 x470), (117, .slice (ad N422) t420.length (nN422 / 1)), (118, .int .i64 1), (119, .pointer (some ⟨bk N422, (1 : Int).toNat * 1 + 0, none⟩)), (120, .int .u64 x472), (121, .slice (ad N425) t423.length (nN425 / 1)), (122, .int .i64 1), (123, .pointer (some ⟨bk N425, (1 : Int).toNat * 1 + 0, none⟩)), (124, .int .u64 x474), (125, .int .u64 (bits .or .u64 x472 x474)), (126, .bool false), (129, .slice (ad N309) t307.length (nN309 / 1)), (130, .int .i64 1), (131, .pointer (some ⟨bk N309, (1 : Int).toNat * 1 + 0, none⟩)), (132, .int .u64 x477), (133, .int .i64 t479), (134, .slice (ad N303) t301.length (nN303 / 1)), (135, .int .i64 1), (136, .pointer (some ⟨bk N303, (1 : Int).toNat * 1 + 0, none⟩)), (137, .int .u64 x481), (138, .slice (ad N306) t304.length (nN306 / 1)), (139, .int .i64 1), (140, .pointer (some ⟨bk N306, (1 : Int).toNat * 1 + 0, none⟩)), (141, .int .u64 x483), (142, .int .u64 (bits .xor .u64 x481 x483)), (143, .int .i64 t485), (144, .bool false)]) (by kernel_rfl) ?_
                                refine t_end ?_
                                show WL _ _ _ _ _ _ _ _
                                refine wl_step ?_
                                refine w_seq ?_
                                refine w_seq ?_
                                refine w_reg fun all => ?_
                                refine t_qz 2 [7, 12, 13, 14, 15, 16, 17, 18, 95, 113, 114, 115, 116, 117, 118, 119, 120, 121, 122, 123, 124, 125, 126, 129, 130, 131, 132, 133, 134, 135, 136, 137, 138, 139, 140, 141, 142, 143, 144] (σ' := [(7, .bool t123), (12, .slice (ad N303) t301.length (nN303 / 1)), (13, .slice (ad N306) t304.length (nN306 / 1)), (14, .slice (ad N309) t307.length (nN309 / 1)), (15, .slice (ad N422) t420.length (nN422 / 1)), (16, .slice (ad N425) t423.length (nN425 / 1)), (17, .slice (ad N428) t426.length (nN428 / 1)), (18, .int .i64 2), (95, .bool true), (113, .slice (ad N428) t426.length (nN428 / 1)), (114, .int .i64 1), (115, .pointer (some ⟨bk N428, (1 : Int).toNat * 1 + 0, none⟩)), (116, .int .u64 x470), (117, .slice (ad N422) t420.length (nN422 / 1)), (118, .int .i64 1), (119, .pointer (some ⟨bk N422, (1 : Int).toNat * 1 + 0, none⟩)), (120, .int .u64 x472), (121, .slice (ad N425) t423.length (nN425 / 1)), (122, .int .i64 1), (123, .pointer (some ⟨bk N425, (1 : Int).toNat * 1 + 0, none⟩)), (124, .int .u64 x474), (125, .int .u64 (bits .or .u64 x472 x474)), (126, .bool false), (129, .slice (ad N309) t307.length (nN309 / 1)), (130, .int .i64 1), (131, .pointer (some ⟨bk N309, (1 : Int).toNat * 1 + 0, none⟩)), (132, .int .u64 x477), (133, .int .i64 t479), (134, .slice (ad N303) t301.length (nN303 / 1)), (135, .int .i64 1), (136, .pointer (some ⟨bk N303, (1 : Int).toNat * 1 + 0, none⟩)), (137, .int .u64 x481), (138, .slice (ad N306) t304.length (nN306 / 1)), (139, .int .i64 1), (140, .pointer (some ⟨bk N306, (1 : Int).toNat * 1 + 0, none⟩)), (141, .int .u64 x483), (142, .int .u64 (bits .xor .u64 x481 x483)), (143, .int .i64 t485), (144, .bool false)]) (by kernel_rfl) ?_
                                refine t_end ?_
                                show W _ _ _ _ _ _ _
                                refine w_cond rfl (fun _ => ?_) (fun c_ => by cases c_)
                                show W _ _ _ _ _ _ _
                                refine w_skip ?_
                                show W _ _ _ _ _ _ _
                                refine w_seq ?_
                                refine w_block ?_
                                refine w_seq ?_
                                obtain ⟨x488, hx489, e436⟩ := bind_of e436
                                obtain ⟨x490, hx491, e436⟩ := bind_of e436
                                obtain ⟨x492, hx493, e436⟩ := bind_of e436
                                by_cases c494 : x488 = (bits .xor .u64 x490 x492)
                                · rw [if_pos c494] at e436
                                  have c494b : (x488 == (bits .xor .u64 x490 x492)) = true := beq_iff_eq.mpr c494
                                  obtain ⟨x495, hx496, e436⟩ := bind_of e436
                                  obtain ⟨x497, hx498, e436⟩ := bind_of e436
                                  obtain ⟨x499, hx500, e436⟩ := bind_of e436
                                  by_cases c501 : x495 = (bits .or .u64 x497 x499)
                                  · rw [if_pos c501] at e436
                                    have c501b : (x495 == (bits .or .u64 x497 x499)) = true := beq_iff_eq.mpr c501
                                    obtain ⟨x502, hx503, e436⟩ := bind_of e436
                                    obtain ⟨t504, h505, e436⟩ := bind_of e436
                                    obtain ⟨x506, hx507, e436⟩ := bind_of e436
                                    obtain ⟨x508, hx509, e436⟩ := bind_of e436
                                    obtain ⟨t510, h511, e436⟩ := bind_of e436
                                    by_cases c512 : t504 = t510
                                    · rw [if_pos c512] at e436
                                      have c512b : (t504 == t510) = true := beq_iff_eq.mpr c512
                                      refine w_drwE mixed 48 [.v (.slice (ad N309) t307.length (nN309 / 1)), .v (.int .i64 2), .v (.pointer (some ⟨bk N309, (2 : Int).toNat * 1 + 0, none⟩)), .v (.int .u64 x488), .v (.slice (ad N303) t301.length (nN303 / 1)), .v (.int .i64 2), .v (.pointer (some ⟨bk N303, (2 : Int).toNat * 1 + 0, none⟩)), .v (.int .u64 x490), .v (.slice (ad N306) t304.length (nN306 / 1)), .v (.int .i64 2), .v (.pointer (some ⟨bk N306, (2 : Int).toNat * 1 + 0, none⟩)), .v (.int .u64 x492), .v (.int .u64 (bits .xor .u64 x490 x492)), .v (.bool false), .v (.bool false), .v (.slice (ad N428) t426.length (nN428 / 1)), .v (.int .i64 2), .v (.pointer (some ⟨bk N428, (2 : Int).toNat * 1 + 0, none⟩)), .v (.int .u64 x495), .v (.slice (ad N422) t420.length (nN422 / 1)), .v (.int .i64 2), .v (.pointer (some ⟨bk N422, (2 : Int).toNat * 1 + 0, none⟩)), .v (.int .u64 x497), .v (.slice (ad N425) t423.length (nN425 / 1)), .v (.int .i64 2), .v (.pointer (some ⟨bk N425, (2 : Int).toNat * 1 + 0, none⟩)), .v (.int .u64 x499), .v (.int .u64 (bits .or .u64 x497 x499)), .v (.bool false), .v (.bool false), .v (.bool false), .v (.slice (ad N309) t307.length (nN309 / 1)), .v (.int .i64 2), .v (.pointer (some ⟨bk N309, (2 : Int).toNat * 1 + 0, none⟩)), .v (.int .u64 x502), .v (.int .i64 t504), .v (.slice (ad N303) t301.length (nN303 / 1)), .v (.int .i64 2), .v (.pointer (some ⟨bk N303, (2 : Int).toNat * 1 + 0, none⟩)), .v (.int .u64 x506), .v (.slice (ad N306) t304.length (nN306 / 1)), .v (.int .i64 2), .v (.pointer (some ⟨bk N306, (2 : Int).toNat * 1 + 0, none⟩)), .v (.int .u64 x508), .v (.int .u64 (bits .xor .u64 x506 x508)), .v (.int .i64 t510), .v (.bool false), .v (.bool false)] (by kernel_rfl) ?_ ?_
                                      · refine DI.sq 2 (by kernel_rfl) rfl ?_
                                        refine .cons (.quietH rfl (by intro h_; cases h_) (ixl (E := E_u64) (j := 6) rfl rfl rfl (by decide) rfl hx489)) ?_
                                        refine .cons (.ld1 rfl rfl rfl (.lst 6 rfl (encL_at (lgt_in hx489).1 rfl))) ?_
                                        refine DI.sq 2 (by kernel_rfl) rfl ?_
                                        refine .cons (.quietH rfl (by intro h_; cases h_) (ixl (E := E_u64) (j := 8) rfl rfl rfl (by decide) rfl hx491)) ?_
                                        refine .cons (.ld1 rfl rfl rfl (.lst 8 rfl (encL_at (lgt_in hx491).1 rfl))) ?_
                                        refine DI.sq 2 (by kernel_rfl) rfl ?_
                                        refine .cons (.quietH rfl (by intro h_; cases h_) (ixl (E := E_u64) (j := 7) rfl rfl rfl (by decide) rfl hx493)) ?_
                                        refine .cons (.ld1 rfl rfl rfl (.lst 7 rfl (encL_at (lgt_in hx493).1 rfl))) ?_
                                        refine DI.sq 1 (by kernel_rfl) rfl ?_
                                        refine .cons (dv_quiet rfl (congrArg (fun t => some (Value.bool (!t))) c494b)) ?_
                                        refine DI.sq 3 (by kernel_rfl) rfl ?_
                                        refine .cons (.quietH rfl (by intro h_; cases h_) (ixl (E := E_u64) (j := 1) rfl rfl rfl (by decide) rfl hx496)) ?_
                                        refine .cons (.ld1 rfl rfl rfl (.lst 1 rfl (encL_at (lgt_in hx496).1 rfl))) ?_
                                        refine DI.sq 2 (by kernel_rfl) rfl ?_
                                        refine .cons (.quietH rfl (by intro h_; cases h_) (ixl (E := E_u64) (j := 5) rfl rfl rfl (by decide) rfl hx498)) ?_
                                        refine .cons (.ld1 rfl rfl rfl (.lst 5 rfl (encL_at (lgt_in hx498).1 rfl))) ?_
                                        refine DI.sq 2 (by kernel_rfl) rfl ?_
                                        refine .cons (.quietH rfl (by intro h_; cases h_) (ixl (E := E_u64) (j := 3) rfl rfl rfl (by decide) rfl hx500)) ?_
                                        refine .cons (.ld1 rfl rfl rfl (.lst 3 rfl (encL_at (lgt_in hx500).1 rfl))) ?_
                                        refine DI.sq 1 (by kernel_rfl) rfl ?_
                                        refine .cons (dv_quiet rfl (congrArg (fun t => some (Value.bool (!t))) c501b)) ?_
                                        refine DI.sq 4 (by kernel_rfl) rfl ?_
                                        refine .cons (.quietH rfl (by intro h_; cases h_) (ixl (E := E_u64) (j := 6) rfl rfl rfl (by decide) rfl hx503)) ?_
                                        refine .cons (.ld1 rfl rfl rfl (.lst 6 rfl (encL_at (lgt_in hx503).1 rfl))) ?_
                                        refine .cons (.call (vs := [.int .u64 x502]) rfl rfl (by kernel_rfl) (sweep_Count.ok h505)) ?_
                                        refine DI.sq 2 (by kernel_rfl) rfl ?_
                                        refine .cons (.quietH rfl (by intro h_; cases h_) (ixl (E := E_u64) (j := 8) rfl rfl rfl (by decide) rfl hx507)) ?_
                                        refine .cons (.ld1 rfl rfl rfl (.lst 8 rfl (encL_at (lgt_in hx507).1 rfl))) ?_
                                        refine DI.sq 2 (by kernel_rfl) rfl ?_
                                        refine .cons (.quietH rfl (by intro h_; cases h_) (ixl (E := E_u64) (j := 7) rfl rfl rfl (by decide) rfl hx509)) ?_
                                        refine .cons (.ld1 rfl rfl rfl (.lst 7 rfl (encL_at (lgt_in hx509).1 rfl))) ?_
                                        refine DI.sq 1 (by kernel_rfl) rfl ?_
                                        refine .cons (.call (vs := [.int .u64 (bits .xor .u64 x506 x508)]) rfl rfl (by kernel_rfl) (glyphicref20_Bits.ok h511)) ?_
                                        refine .cons (dv_quiet rfl (congrArg (fun t => some (Value.bool (!t))) c512b)) ?_
                                        refine DI.sq 1 (by kernel_rfl) rfl ?_
                                        exact .nil
                                      refine fk_q 48 [7, 12, 13, 14, 15, 16, 17, 18, 113, 114, 115, 116, 117, 118, 119, 120, 121, 122, 123, 124, 125, 126, 129, 130, 131, 132, 133, 134, 135, 136, 137, 138, 139, 140, 141, 142, 143, 144, 145] (σ' := [(7, .bool t123), (12, .slice (ad N303) t301.length (nN303 / 1)), (13, .slice (ad N306) t304.length (nN306 / 1)), (14, .slice (ad N309) t307.length (nN309 / 1)), (15, .slice (ad N422) t420.length (nN422 / 1)), (16, .slice (ad N425) t423.length (nN425 / 1)), (17, .slice (ad N428) t426.length (nN428 / 1)), (18, .int .i64 2), (113, .slice (ad N428) t426.length (nN428 / 1)), (114, .int .i64 2), (115, .pointer (some ⟨bk N428, (2 : Int).toNat * 1 + 0, none⟩)), (116, .int .u64 x495), (117, .slice (ad N422) t420.length (nN422 / 1)), (118, .int .i64 2), (119, .pointer (some ⟨bk N422, (2 : Int).toNat * 1 + 0, none⟩)), (120, .int .u64 x497), (121, .slice (ad N425) t423.length (nN425 / 1)), (122, .int .i64 2), (123, .pointer (some ⟨bk N425, (2 : Int).toNat * 1 + 0, none⟩)), (124, .int .u64 x499), (125, .int .u64 (bits .or .u64 x497 x499)), (126, .bool false), (129, .slice (ad N309) t307.length (nN309 / 1)), (130, .int .i64 2), (131, .pointer (some ⟨bk N309, (2 : Int).toNat * 1 + 0, none⟩)), (132, .int .u64 x502), (133, .int .i64 t504), (134, .slice (ad N303) t301.length (nN303 / 1)), (135, .int .i64 2), (136, .pointer (some ⟨bk N303, (2 : Int).toNat * 1 + 0, none⟩)), (137, .int .u64 x506), (138, .slice (ad N306) t304.length (nN306 / 1)), (139, .int .i64 2), (140, .pointer (some ⟨bk N306, (2 : Int).toNat * 1 + 0, none⟩)), (141, .int .u64 x508), (142, .int .u64 (bits .xor .u64 x506 x508)), (143, .int .i64 t510), (144, .bool false), (145, .bool false)]) t_more (by kernel_rfl) ?_
                                      refine fk_nil fun all => ?_
                                      refine t_keep [7, 12, 13, 14, 15, 16, 17, 18, 113, 114, 115, 116, 117, 118, 119, 120, 121, 122, 123, 124, 125, 126, 129, 130, 131, 132, 133, 134, 135, 136, 137, 138, 139, 140, 141, 142, 143, 144, 145] (σ' := [(7, .bool t123), (12, .slice (ad N303) t301.length (nN303 / 1)), (13, .slice (ad N306) t304.length (nN306 / 1)), (14, .slice (ad N309) t307.length (nN309 / 1)), (15, .slice (ad N422) t420.length (nN422 / 1)), (16, .slice (ad N425) t423.length (nN425 / 1)), (17, .slice (ad N428) t426.length (nN428 / 1)), (18, .int .i64 2), (113, .slice (ad N428) t426.length (nN428 / 1)), (114, .int .i64 2), (115, .pointer (some ⟨bk N428, (2 : Int).toNat * 1 + 0, none⟩)), (116, .int .u64 x495), (117, .slice (ad N422) t420.length (nN422 / 1)), (118, .int .i64 2), (119, .pointer (some ⟨bk N422, (2 : Int).toNat * 1 + 0, none⟩)), (120, .int .u64 x497), (121, .slice (ad N425) t423.length (nN425 / 1)), (122, .int .i64 2), (123, .pointer (some ⟨bk N425, (2 : Int).toNat * 1 + 0, none⟩)), (124, .int .u64 x499), (125, .int .u64 (bits .or .u64 x497 x499)), (126, .bool false), (129, .slice (ad N309) t307.length (nN309 / 1)), (130, .int .i64 2), (131, .pointer (some ⟨bk N309, (2 : Int).toNat * 1 + 0, none⟩)), (132, .int .u64 x502), (133, .int .i64 t504), (134, .slice (ad N303) t301.length (nN303 / 1)), (135, .int .i64 2), (136, .pointer (some ⟨bk N303, (2 : Int).toNat * 1 + 0, none⟩)), (137, .int .u64 x506), (138, .slice (ad N306) t304.length (nN306 / 1)), (139, .int .i64 2), (140, .pointer (some ⟨bk N306, (2 : Int).toNat * 1 + 0, none⟩)), (141, .int .u64 x508), (142, .int .u64 (bits .xor .u64 x506 x508)), (143, .int .i64 t510), (144, .bool false), (145, .bool false)]) (by kernel_rfl) ?_
                                      refine t_end ?_
                                      show W _ _ _ _ _ _ _
                                      refine w_cond rfl (fun c_ => by cases c_) (fun _ => ?_)
                                      show W _ _ _ _ _ _ _
                                      refine w_skip ?_
                                      show W _ _ _ _ _ _ _
                                      refine w_reg fun all => ?_
                                      refine t_qz 3 [7, 12, 13, 14, 15, 16, 17, 18, 113, 114, 115, 116, 117, 118, 119, 120, 121, 122, 123, 124, 125, 126, 129, 130, 131, 132, 133, 134, 135, 136, 137, 138, 139, 140, 141, 142, 143, 144] (σ' := [(7, .bool t123), (12, .slice (ad N303) t301.length (nN303 / 1)), (13, .slice (ad N306) t304.length (nN306 / 1)), (14, .slice (ad N309) t307.length (nN309 / 1)), (15, .slice (ad N422) t420.length (nN422 / 1)), (16, .slice (ad N425) t423.length (nN425 / 1)), (17, .slice (ad N428) t426.length (nN428 / 1)), (18, .int .i64 3), (113, .slice (ad N428) t426.length (nN428 / 1)), (114, .int .i64 2), (115, .pointer (some ⟨bk N428, (2 : Int).toNat * 1 + 0, none⟩)), (116, .int .u64 x495), (117, .slice (ad N422) t420.length (nN422 / 1)), (118, .int .i64 2), (119, .pointer (some ⟨bk N422, (2 : Int).toNat * 1 + 0, none⟩)), (120, .int .u64 x497), (121, .slice (ad N425) t423.length (nN425 / 1)), (122, .int .i64 2), (123, .pointer (some ⟨bk N425, (2 : Int).toNat * 1 + 0, none⟩)), (124, .int .u64 x499), (125, .int .u64 (bits .or .u64 x497 x499)), (126, .bool false), (129, .slice (ad N309) t307.length (nN309 / 1)), (130, .int .i64 2), (131, .pointer (some ⟨bk N309, (2 : Int).toNat * 1 + 0, none⟩)), (132, .int .u64 x502), (133, .int .i64 t504), (134, .slice (ad N303) t301.length (nN303 / 1)), (135, .int .i64 2), (136, .pointer (some ⟨bk N303, (2 : Int).toNat * 1 + 0, none⟩)), (137, .int .u64 x506), (138, .slice (ad N306) t304.length (nN306 / 1)), (139, .int .i64 2), (140, .pointer (some ⟨bk N306, (2 : Int).toNat * 1 + 0, none⟩)), (141, .int .u64 x508), (142, .int .u64 (bits .xor .u64 x506 x508)), (143, .int .i64 t510), (144, .bool false)]) (by kernel_rfl) ?_
                                      refine t_end ?_
                                      show WL _ _ _ _ _ _ _ _
                                      refine wl_step ?_
                                      refine w_seq ?_
                                      refine w_seq ?_
                                      refine w_reg fun all => ?_
                                      refine t_qz 2 [7, 12, 13, 14, 15, 16, 17, 18, 95, 113, 114, 115, 116, 117, 118, 119, 120, 121, 122, 123, 124, 125, 126, 129, 130, 131, 132, 133, 134, 135, 136, 137, 138, 139, 140, 141, 142, 143, 144] (σ' := [(7, .bool t123), (12, .slice (ad N303) t301.length (nN303 / 1)), (13, .slice (ad N306) t304.length (nN306 / 1)), (14, .slice (ad N309) t307.length (nN309 / 1)), (15, .slice (ad N422) t420.length (nN422 / 1)), (16, .slice (ad N425) t423.length (nN425 / 1)), (17, .slice (ad N428) t426.length (nN428 / 1)), (18, .int .i64 3), (95, .bool false), (113, .slice (ad N428) t426.length (nN428 / 1)), (114, .int .i64 2), (115, .pointer (some ⟨bk N428, (2 : Int).toNat * 1 + 0, none⟩)), (116, .int .u64 x495), (117, .slice (ad N422) t420.length (nN422 / 1)), (118, .int .i64 2), (119, .pointer (some ⟨bk N422, (2 : Int).toNat * 1 + 0, none⟩)), (120, .int .u64 x497), (121, .slice (ad N425) t423.length (nN425 / 1)), (122, .int .i64 2), (123, .pointer (some ⟨bk N425, (2 : Int).toNat * 1 + 0, none⟩)), (124, .int .u64 x499), (125, .int .u64 (bits .or .u64 x497 x499)), (126, .bool false), (129, .slice (ad N309) t307.length (nN309 / 1)), (130, .int .i64 2), (131, .pointer (some ⟨bk N309, (2 : Int).toNat * 1 + 0, none⟩)), (132, .int .u64 x502), (133, .int .i64 t504), (134, .slice (ad N303) t301.length (nN303 / 1)), (135, .int .i64 2), (136, .pointer (some ⟨bk N303, (2 : Int).toNat * 1 + 0, none⟩)), (137, .int .u64 x506), (138, .slice (ad N306) t304.length (nN306 / 1)), (139, .int .i64 2), (140, .pointer (some ⟨bk N306, (2 : Int).toNat * 1 + 0, none⟩)), (141, .int .u64 x508), (142, .int .u64 (bits .xor .u64 x506 x508)), (143, .int .i64 t510), (144, .bool false)]) (by kernel_rfl) ?_
                                      refine t_end ?_
                                      show W _ _ _ _ _ _ _
                                      refine w_cond rfl (fun c_ => by cases c_) (fun _ => ?_)
                                      show W _ _ _ _ _ _ _
                                      refine w_exit ?_
                                      obtain rfl := Option.some.inj e436
                                      exact ⟨([⟨b127, [.slice a_t0 t0.length c_t0, .int .i64 t261], 2⟩, ⟨a300, encL E_i644 y298, na300⟩, ⟨N428, encL E_u64 t426, nN428⟩, ⟨N263, encL E_i644 t260, nN263⟩, ⟨N425, encL E_u64 t423, nN425⟩, ⟨N259, encL E_i644 t256, nN259⟩, ⟨N422, encL E_u64 t420, nN422⟩, ⟨N309, encL E_u64 t307, nN309⟩, ⟨N306, encL E_u64 t304, nN306⟩, ⟨N303, encL E_u64 t301, nN303⟩] : List Own), S, VS.sel [9, 0, 0, 0, 0, 0, 0, 0, 0, 0] (by kernel_rfl), (), rfl, by kernel_rfl, rfl, rfl⟩
                                    · rw [if_neg c512] at e436
                                      have c512b : (t504 == t510) = false := beq_eq_false_iff_ne.mpr c512
                                      refine w_drwE mixed 48 [.v (.slice (ad N309) t307.length (nN309 / 1)), .v (.int .i64 2), .v (.pointer (some ⟨bk N309, (2 : Int).toNat * 1 + 0, none⟩)), .v (.int .u64 x488), .v (.slice (ad N303) t301.length (nN303 / 1)), .v (.int .i64 2), .v (.pointer (some ⟨bk N303, (2 : Int).toNat * 1 + 0, none⟩)), .v (.int .u64 x490), .v (.slice (ad N306) t304.length (nN306 / 1)), .v (.int .i64 2), .v (.pointer (some ⟨bk N306, (2 : Int).toNat * 1 + 0, none⟩)), .v (.int .u64 x492), .v (.int .u64 (bits .xor .u64 x490 x492)), .v (.bool false), .v (.bool false), .v (.slice (ad N428) t426.length (nN428 / 1)), .v (.int .i64 2), .v (.pointer (some ⟨bk N428, (2 : Int).toNat * 1 + 0, none⟩)), .v (.int .u64 x495), .v (.slice (ad N422) t420.length (nN422 / 1)), .v (.int .i64 2), .v (.pointer (some ⟨bk N422, (2 : Int).toNat * 1 + 0, none⟩)), .v (.int .u64 x497), .v (.slice (ad N425) t423.length (nN425 / 1)), .v (.int .i64 2), .v (.pointer (some ⟨bk N425, (2 : Int).toNat * 1 + 0, none⟩)), .v (.int .u64 x499), .v (.int .u64 (bits .or .u64 x497 x499)), .v (.bool false), .v (.bool false), .v (.bool false), .v (.slice (ad N309) t307.length (nN309 / 1)), .v (.int .i64 2), .v (.pointer (some ⟨bk N309, (2 : Int).toNat * 1 + 0, none⟩)), .v (.int .u64 x502), .v (.int .i64 t504), .v (.slice (ad N303) t301.length (nN303 / 1)), .v (.int .i64 2), .v (.pointer (some ⟨bk N303, (2 : Int).toNat * 1 + 0, none⟩)), .v (.int .u64 x506), .v (.slice (ad N306) t304.length (nN306 / 1)), .v (.int .i64 2), .v (.pointer (some ⟨bk N306, (2 : Int).toNat * 1 + 0, none⟩)), .v (.int .u64 x508), .v (.int .u64 (bits .xor .u64 x506 x508)), .v (.int .i64 t510), .v (.bool true), .v (.bool true)] (by kernel_rfl) ?_ ?_
                                      · refine DI.sq 2 (by kernel_rfl) rfl ?_
                                        refine .cons (.quietH rfl (by intro h_; cases h_) (ixl (E := E_u64) (j := 6) rfl rfl rfl (by decide) rfl hx489)) ?_
                                        refine .cons (.ld1 rfl rfl rfl (.lst 6 rfl (encL_at (lgt_in hx489).1 rfl))) ?_
                                        refine DI.sq 2 (by kernel_rfl) rfl ?_
                                        refine .cons (.quietH rfl (by intro h_; cases h_) (ixl (E := E_u64) (j := 8) rfl rfl rfl (by decide) rfl hx491)) ?_
                                        refine .cons (.ld1 rfl rfl rfl (.lst 8 rfl (encL_at (lgt_in hx491).1 rfl))) ?_
                                        refine DI.sq 2 (by kernel_rfl) rfl ?_
                                        refine .cons (.quietH rfl (by intro h_; cases h_) (ixl (E := E_u64) (j := 7) rfl rfl rfl (by decide) rfl hx493)) ?_
                                        refine .cons (.ld1 rfl rfl rfl (.lst 7 rfl (encL_at (lgt_in hx493).1 rfl))) ?_
                                        refine DI.sq 1 (by kernel_rfl) rfl ?_
                                        refine .cons (dv_quiet rfl (congrArg (fun t => some (Value.bool (!t))) c494b)) ?_
                                        refine DI.sq 3 (by kernel_rfl) rfl ?_
                                        refine .cons (.quietH rfl (by intro h_; cases h_) (ixl (E := E_u64) (j := 1) rfl rfl rfl (by decide) rfl hx496)) ?_
                                        refine .cons (.ld1 rfl rfl rfl (.lst 1 rfl (encL_at (lgt_in hx496).1 rfl))) ?_
                                        refine DI.sq 2 (by kernel_rfl) rfl ?_
                                        refine .cons (.quietH rfl (by intro h_; cases h_) (ixl (E := E_u64) (j := 5) rfl rfl rfl (by decide) rfl hx498)) ?_
                                        refine .cons (.ld1 rfl rfl rfl (.lst 5 rfl (encL_at (lgt_in hx498).1 rfl))) ?_
                                        refine DI.sq 2 (by kernel_rfl) rfl ?_
                                        refine .cons (.quietH rfl (by intro h_; cases h_) (ixl (E := E_u64) (j := 3) rfl rfl rfl (by decide) rfl hx500)) ?_
                                        refine .cons (.ld1 rfl rfl rfl (.lst 3 rfl (encL_at (lgt_in hx500).1 rfl))) ?_
                                        refine DI.sq 1 (by kernel_rfl) rfl ?_
                                        refine .cons (dv_quiet rfl (congrArg (fun t => some (Value.bool (!t))) c501b)) ?_
                                        refine DI.sq 4 (by kernel_rfl) rfl ?_
                                        refine .cons (.quietH rfl (by intro h_; cases h_) (ixl (E := E_u64) (j := 6) rfl rfl rfl (by decide) rfl hx503)) ?_
                                        refine .cons (.ld1 rfl rfl rfl (.lst 6 rfl (encL_at (lgt_in hx503).1 rfl))) ?_
                                        refine .cons (.call (vs := [.int .u64 x502]) rfl rfl (by kernel_rfl) (sweep_Count.ok h505)) ?_
                                        refine DI.sq 2 (by kernel_rfl) rfl ?_
                                        refine .cons (.quietH rfl (by intro h_; cases h_) (ixl (E := E_u64) (j := 8) rfl rfl rfl (by decide) rfl hx507)) ?_
                                        refine .cons (.ld1 rfl rfl rfl (.lst 8 rfl (encL_at (lgt_in hx507).1 rfl))) ?_
                                        refine DI.sq 2 (by kernel_rfl) rfl ?_
                                        refine .cons (.quietH rfl (by intro h_; cases h_) (ixl (E := E_u64) (j := 7) rfl rfl rfl (by decide) rfl hx509)) ?_
                                        refine .cons (.ld1 rfl rfl rfl (.lst 7 rfl (encL_at (lgt_in hx509).1 rfl))) ?_
                                        refine DI.sq 1 (by kernel_rfl) rfl ?_
                                        refine .cons (.call (vs := [.int .u64 (bits .xor .u64 x506 x508)]) rfl rfl (by kernel_rfl) (glyphicref20_Bits.ok h511)) ?_
                                        refine .cons (dv_quiet rfl (congrArg (fun t => some (Value.bool (!t))) c512b)) ?_
                                        refine DI.sq 1 (by kernel_rfl) rfl ?_
                                        exact .nil
                                      refine fk_q 48 [7, 12, 13, 14, 15, 16, 17, 18, 113, 114, 115, 116, 117, 118, 119, 120, 121, 122, 123, 124, 125, 126, 129, 130, 131, 132, 133, 134, 135, 136, 137, 138, 139, 140, 141, 142, 143, 144, 145] (σ' := [(7, .bool t123), (12, .slice (ad N303) t301.length (nN303 / 1)), (13, .slice (ad N306) t304.length (nN306 / 1)), (14, .slice (ad N309) t307.length (nN309 / 1)), (15, .slice (ad N422) t420.length (nN422 / 1)), (16, .slice (ad N425) t423.length (nN425 / 1)), (17, .slice (ad N428) t426.length (nN428 / 1)), (18, .int .i64 2), (113, .slice (ad N428) t426.length (nN428 / 1)), (114, .int .i64 2), (115, .pointer (some ⟨bk N428, (2 : Int).toNat * 1 + 0, none⟩)), (116, .int .u64 x495), (117, .slice (ad N422) t420.length (nN422 / 1)), (118, .int .i64 2), (119, .pointer (some ⟨bk N422, (2 : Int).toNat * 1 + 0, none⟩)), (120, .int .u64 x497), (121, .slice (ad N425) t423.length (nN425 / 1)), (122, .int .i64 2), (123, .pointer (some ⟨bk N425, (2 : Int).toNat * 1 + 0, none⟩)), (124, .int .u64 x499), (125, .int .u64 (bits .or .u64 x497 x499)), (126, .bool false), (129, .slice (ad N309) t307.length (nN309 / 1)), (130, .int .i64 2), (131, .pointer (some ⟨bk N309, (2 : Int).toNat * 1 + 0, none⟩)), (132, .int .u64 x502), (133, .int .i64 t504), (134, .slice (ad N303) t301.length (nN303 / 1)), (135, .int .i64 2), (136, .pointer (some ⟨bk N303, (2 : Int).toNat * 1 + 0, none⟩)), (137, .int .u64 x506), (138, .slice (ad N306) t304.length (nN306 / 1)), (139, .int .i64 2), (140, .pointer (some ⟨bk N306, (2 : Int).toNat * 1 + 0, none⟩)), (141, .int .u64 x508), (142, .int .u64 (bits .xor .u64 x506 x508)), (143, .int .i64 t510), (144, .bool true), (145, .bool true)]) t_more (by kernel_rfl) ?_
                                      refine fk_nil fun all => ?_
                                      refine t_keep [7, 12, 13, 14, 15, 16, 17, 18, 113, 114, 115, 116, 117, 118, 119, 120, 121, 122, 123, 124, 125, 126, 129, 130, 131, 132, 133, 134, 135, 136, 137, 138, 139, 140, 141, 142, 143, 144, 145] (σ' := [(7, .bool t123), (12, .slice (ad N303) t301.length (nN303 / 1)), (13, .slice (ad N306) t304.length (nN306 / 1)), (14, .slice (ad N309) t307.length (nN309 / 1)), (15, .slice (ad N422) t420.length (nN422 / 1)), (16, .slice (ad N425) t423.length (nN425 / 1)), (17, .slice (ad N428) t426.length (nN428 / 1)), (18, .int .i64 2), (113, .slice (ad N428) t426.length (nN428 / 1)), (114, .int .i64 2), (115, .pointer (some ⟨bk N428, (2 : Int).toNat * 1 + 0, none⟩)), (116, .int .u64 x495), (117, .slice (ad N422) t420.length (nN422 / 1)), (118, .int .i64 2), (119, .pointer (some ⟨bk N422, (2 : Int).toNat * 1 + 0, none⟩)), (120, .int .u64 x497), (121, .slice (ad N425) t423.length (nN425 / 1)), (122, .int .i64 2), (123, .pointer (some ⟨bk N425, (2 : Int).toNat * 1 + 0, none⟩)), (124, .int .u64 x499), (125, .int .u64 (bits .or .u64 x497 x499)), (126, .bool false), (129, .slice (ad N309) t307.length (nN309 / 1)), (130, .int .i64 2), (131, .pointer (some ⟨bk N309, (2 : Int).toNat * 1 + 0, none⟩)), (132, .int .u64 x502), (133, .int .i64 t504), (134, .slice (ad N303) t301.length (nN303 / 1)), (135, .int .i64 2), (136, .pointer (some ⟨bk N303, (2 : Int).toNat * 1 + 0, none⟩)), (137, .int .u64 x506), (138, .slice (ad N306) t304.length (nN306 / 1)), (139, .int .i64 2), (140, .pointer (some ⟨bk N306, (2 : Int).toNat * 1 + 0, none⟩)), (141, .int .u64 x508), (142, .int .u64 (bits .xor .u64 x506 x508)), (143, .int .i64 t510), (144, .bool true), (145, .bool true)]) (by kernel_rfl) ?_
                                      refine t_end ?_
                                      show W _ _ _ _ _ _ _
                                      refine w_cond rfl (fun _ => ?_) (fun c_ => by cases c_)
                                      show W _ _ _ _ _ _ _
                                      refine w_seq ?_
                                      refine w_reg fun all => ?_
                                      refine t_qz 1 [6] (σ' := [(6, .bool false)]) (by kernel_rfl) ?_
                                      refine t_end ?_
                                      show W _ _ _ _ _ _ _
                                      refine w_ret ?_
                                      obtain rfl := Option.some.inj e436
                                      have hr_ := Option.some.inj e
                                      exact ⟨[.bool false], [], S, ⟨rfl, trivial⟩, VS.none, congrArg Value.bool hr_, rfl, rfl⟩
                                  · rw [if_neg c501] at e436
                                    have c501b : (x495 == (bits .or .u64 x497 x499)) = false := beq_eq_false_iff_ne.mpr c501
                                    refine w_drwE mixed 48 [.v (.slice (ad N309) t307.length (nN309 / 1)), .v (.int .i64 2), .v (.pointer (some ⟨bk N309, (2 : Int).toNat * 1 + 0, none⟩)), .v (.int .u64 x488), .v (.slice (ad N303) t301.length (nN303 / 1)), .v (.int .i64 2), .v (.pointer (some ⟨bk N303, (2 : Int).toNat * 1 + 0, none⟩)), .v (.int .u64 x490), .v (.slice (ad N306) t304.length (nN306 / 1)), .v (.int .i64 2), .v (.pointer (some ⟨bk N306, (2 : Int).toNat * 1 + 0, none⟩)), .v (.int .u64 x492), .v (.int .u64 (bits .xor .u64 x490 x492)), .v (.bool false), .v (.bool false), .v (.slice (ad N428) t426.length (nN428 / 1)), .v (.int .i64 2), .v (.pointer (some ⟨bk N428, (2 : Int).toNat * 1 + 0, none⟩)), .v (.int .u64 x495), .v (.slice (ad N422) t420.length (nN422 / 1)), .v (.int .i64 2), .v (.pointer (some ⟨bk N422, (2 : Int).toNat * 1 + 0, none⟩)), .v (.int .u64 x497), .v (.slice (ad N425) t423.length (nN425 / 1)), .v (.int .i64 2), .v (.pointer (some ⟨bk N425, (2 : Int).toNat * 1 + 0, none⟩)), .v (.int .u64 x499), .v (.int .u64 (bits .or .u64 x497 x499)), .v (.bool true), .v (.bool true), .v (.bool true), .v (.tuple #[]), .v (.tuple #[]), .v (.tuple #[]), .v (.tuple #[]), .v (.tuple #[]), .v (.tuple #[]), .v (.tuple #[]), .v (.tuple #[]), .v (.tuple #[]), .v (.tuple #[]), .v (.tuple #[]), .v (.tuple #[]), .v (.tuple #[]), .v (.tuple #[]), .v (.tuple #[]), .v (.tuple #[]), .v (.bool true)] (by kernel_rfl) ?_ ?_
                                    · refine DI.sq 2 (by kernel_rfl) rfl ?_
                                      refine .cons (.quietH rfl (by intro h_; cases h_) (ixl (E := E_u64) (j := 6) rfl rfl rfl (by decide) rfl hx489)) ?_
                                      refine .cons (.ld1 rfl rfl rfl (.lst 6 rfl (encL_at (lgt_in hx489).1 rfl))) ?_
                                      refine DI.sq 2 (by kernel_rfl) rfl ?_
                                      refine .cons (.quietH rfl (by intro h_; cases h_) (ixl (E := E_u64) (j := 8) rfl rfl rfl (by decide) rfl hx491)) ?_
                                      refine .cons (.ld1 rfl rfl rfl (.lst 8 rfl (encL_at (lgt_in hx491).1 rfl))) ?_
                                      refine DI.sq 2 (by kernel_rfl) rfl ?_
                                      refine .cons (.quietH rfl (by intro h_; cases h_) (ixl (E := E_u64) (j := 7) rfl rfl rfl (by decide) rfl hx493)) ?_
                                      refine .cons (.ld1 rfl rfl rfl (.lst 7 rfl (encL_at (lgt_in hx493).1 rfl))) ?_
                                      refine DI.sq 1 (by kernel_rfl) rfl ?_
                                      refine .cons (dv_quiet rfl (congrArg (fun t => some (Value.bool (!t))) c494b)) ?_
                                      refine DI.sq 3 (by kernel_rfl) rfl ?_
                                      refine .cons (.quietH rfl (by intro h_; cases h_) (ixl (E := E_u64) (j := 1) rfl rfl rfl (by decide) rfl hx496)) ?_
                                      refine .cons (.ld1 rfl rfl rfl (.lst 1 rfl (encL_at (lgt_in hx496).1 rfl))) ?_
                                      refine DI.sq 2 (by kernel_rfl) rfl ?_
                                      refine .cons (.quietH rfl (by intro h_; cases h_) (ixl (E := E_u64) (j := 5) rfl rfl rfl (by decide) rfl hx498)) ?_
                                      refine .cons (.ld1 rfl rfl rfl (.lst 5 rfl (encL_at (lgt_in hx498).1 rfl))) ?_
                                      refine DI.sq 2 (by kernel_rfl) rfl ?_
                                      refine .cons (.quietH rfl (by intro h_; cases h_) (ixl (E := E_u64) (j := 3) rfl rfl rfl (by decide) rfl hx500)) ?_
                                      refine .cons (.ld1 rfl rfl rfl (.lst 3 rfl (encL_at (lgt_in hx500).1 rfl))) ?_
                                      refine DI.sq 1 (by kernel_rfl) rfl ?_
                                      refine .cons (dv_quiet rfl (congrArg (fun t => some (Value.bool (!t))) c501b)) ?_
                                      refine DI.sq 19 (by kernel_rfl) rfl ?_
                                      exact .nil
                                    refine fk_q 48 [7, 12, 13, 14, 15, 16, 17, 18, 113, 114, 115, 116, 117, 118, 119, 120, 121, 122, 123, 124, 125, 126, 129, 130, 131, 132, 133, 134, 135, 136, 137, 138, 139, 140, 141, 142, 143, 144, 145] (σ' := [(7, .bool t123), (12, .slice (ad N303) t301.length (nN303 / 1)), (13, .slice (ad N306) t304.length (nN306 / 1)), (14, .slice (ad N309) t307.length (nN309 / 1)), (15, .slice (ad N422) t420.length (nN422 / 1)), (16, .slice (ad N425) t423.length (nN425 / 1)), (17, .slice (ad N428) t426.length (nN428 / 1)), (18, .int .i64 2), (113, .slice (ad N428) t426.length (nN428 / 1)), (114, .int .i64 2), (115, .pointer (some ⟨bk N428, (2 : Int).toNat * 1 + 0, none⟩)), (116, .int .u64 x495), (117, .slice (ad N422) t420.length (nN422 / 1)), (118, .int .i64 2), (119, .pointer (some ⟨bk N422, (2 : Int).toNat * 1 + 0, none⟩)), (120, .int .u64 x497), (121, .slice (ad N425) t423.length (nN425 / 1)), (122, .int .i64 2), (123, .pointer (some ⟨bk N425, (2 : Int).toNat * 1 + 0, none⟩)), (124, .int .u64 x499), (125, .int .u64 (bits .or .u64 x497 x499)), (126, .bool true), (129, .tuple #[]), (130, .tuple #[]), (131, .tuple #[]), (132, .tuple #[]), (133, .tuple #[]), (134, .tuple #[]), (135, .tuple #[]), (136, .tuple #[]), (137, .tuple #[]), (138, .tuple #[]), (139, .tuple #[]), (140, .tuple #[]), (141, .tuple #[]), (142, .tuple #[]), (143, .tuple #[]), (144, .tuple #[]), (145, .bool true)]) t_more (by kernel_rfl) ?_
                                    refine fk_nil fun all => ?_
                                    refine t_keep [7, 12, 13, 14, 15, 16, 17, 18, 113, 114, 115, 116, 117, 118, 119, 120, 121, 122, 123, 124, 125, 126, 129, 130, 131, 132, 133, 134, 135, 136, 137, 138, 139, 140, 141, 142, 143, 144, 145] (σ' := [(7, .bool t123), (12, .slice (ad N303) t301.length (nN303 / 1)), (13, .slice (ad N306) t304.length (nN306 / 1)), (14, .slice (ad N309) t307.length (nN309 / 1)), (15, .slice (ad N422) t420.length (nN422 / 1)), (16, .slice (ad N425) t423.length (nN425 / 1)), (17, .slice (ad N428) t426.length (nN428 / 1)), (18, .int .i64 2), (113, .slice (ad N428) t426.length (nN428 / 1)), (114, .int .i64 2), (115, .pointer (some ⟨bk N428, (2 : Int).toNat * 1 + 0, none⟩)), (116, .int .u64 x495), (117, .slice (ad N422) t420.length (nN422 / 1)), (118, .int .i64 2), (119, .pointer (some ⟨bk N422, (2 : Int).toNat * 1 + 0, none⟩)), (120, .int .u64 x497), (121, .slice (ad N425) t423.length (nN425 / 1)), (122, .int .i64 2), (123, .pointer (some ⟨bk N425, (2 : Int).toNat * 1 + 0, none⟩)), (124, .int .u64 x499), (125, .int .u64 (bits .or .u64 x497 x499)), (126, .bool true), (129, .tuple #[]), (130, .tuple #[]), (131, .tuple #[]), (132, .tuple #[]), (133, .tuple #[]), (134, .tuple #[]), (135, .tuple #[]), (136, .tuple #[]), (137, .tuple #[]), (138, .tuple #[]), (139, .tuple #[]), (140, .tuple #[]), (141, .tuple #[]), (142, .tuple #[]), (143, .tuple #[]), (144, .tuple #[]), (145, .bool true)]) (by kernel_rfl) ?_
                                    refine t_end ?_
                                    show W _ _ _ _ _ _ _
                                    refine w_cond rfl (fun _ => ?_) (fun c_ => by cases c_)
                                    show W _ _ _ _ _ _ _
                                    refine w_seq ?_
                                    refine w_reg fun all => ?_
                                    refine t_qz 1 [6] (σ' := [(6, .bool false)]) (by kernel_rfl) ?_
                                    refine t_end ?_
                                    show W _ _ _ _ _ _ _
                                    refine w_ret ?_
                                    obtain rfl := Option.some.inj e436
                                    have hr_ := Option.some.inj e
                                    exact ⟨[.bool false], [], S, ⟨rfl, trivial⟩, VS.none, congrArg Value.bool hr_, rfl, rfl⟩
                                · rw [if_neg c494] at e436
                                  have c494b : (x488 == (bits .xor .u64 x490 x492)) = false := beq_eq_false_iff_ne.mpr c494
                                  refine w_drwE mixed 48 [.v (.slice (ad N309) t307.length (nN309 / 1)), .v (.int .i64 2), .v (.pointer (some ⟨bk N309, (2 : Int).toNat * 1 + 0, none⟩)), .v (.int .u64 x488), .v (.slice (ad N303) t301.length (nN303 / 1)), .v (.int .i64 2), .v (.pointer (some ⟨bk N303, (2 : Int).toNat * 1 + 0, none⟩)), .v (.int .u64 x490), .v (.slice (ad N306) t304.length (nN306 / 1)), .v (.int .i64 2), .v (.pointer (some ⟨bk N306, (2 : Int).toNat * 1 + 0, none⟩)), .v (.int .u64 x492), .v (.int .u64 (bits .xor .u64 x490 x492)), .v (.bool true), .v (.bool true), .v (.tuple #[]), .v (.tuple #[]), .v (.tuple #[]), .v (.tuple #[]), .v (.tuple #[]), .v (.tuple #[]), .v (.tuple #[]), .v (.tuple #[]), .v (.tuple #[]), .v (.tuple #[]), .v (.tuple #[]), .v (.tuple #[]), .v (.tuple #[]), .v (.tuple #[]), .v (.bool true), .v (.bool true), .v (.tuple #[]), .v (.tuple #[]), .v (.tuple #[]), .v (.tuple #[]), .v (.tuple #[]), .v (.tuple #[]), .v (.tuple #[]), .v (.tuple #[]), .v (.tuple #[]), .v (.tuple #[]), .v (.tuple #[]), .v (.tuple #[]), .v (.tuple #[]), .v (.tuple #[]), .v (.tuple #[]), .v (.tuple #[]), .v (.bool true)] (by kernel_rfl) ?_ ?_
                                  · refine DI.sq 2 (by kernel_rfl) rfl ?_
                                    refine .cons (.quietH rfl (by intro h_; cases h_) (ixl (E := E_u64) (j := 6) rfl rfl rfl (by decide) rfl hx489)) ?_
                                    refine .cons (.ld1 rfl rfl rfl (.lst 6 rfl (encL_at (lgt_in hx489).1 rfl))) ?_
                                    refine DI.sq 2 (by kernel_rfl) rfl ?_
                                    refine .cons (.quietH rfl (by intro h_; cases h_) (ixl (E := E_u64) (j := 8) rfl rfl rfl (by decide) rfl hx491)) ?_
                                    refine .cons (.ld1 rfl rfl rfl (.lst 8 rfl (encL_at (lgt_in hx491).1 rfl))) ?_
                                    refine DI.sq 2 (by kernel_rfl) rfl ?_
                                    refine .cons (.quietH rfl (by intro h_; cases h_) (ixl (E := E_u64) (j := 7) rfl rfl rfl (by decide) rfl hx493)) ?_
                                    refine .cons (.ld1 rfl rfl rfl (.lst 7 rfl (encL_at (lgt_in hx493).1 rfl))) ?_
                                    refine DI.sq 1 (by kernel_rfl) rfl ?_
                                    refine .cons (dv_quiet rfl (congrArg (fun t => some (Value.bool (!t))) c494b)) ?_
                                    refine DI.sq 34 (by kernel_rfl) rfl ?_
                                    exact .nil
                                  refine fk_q 48 [7, 12, 13, 14, 15, 16, 17, 18, 113, 114, 115, 116, 117, 118, 119, 120, 121, 122, 123, 124, 125, 126, 129, 130, 131, 132, 133, 134, 135, 136, 137, 138, 139, 140, 141, 142, 143, 144, 145] (σ' := [(7, .bool t123), (12, .slice (ad N303) t301.length (nN303 / 1)), (13, .slice (ad N306) t304.length (nN306 / 1)), (14, .slice (ad N309) t307.length (nN309 / 1)), (15, .slice (ad N422) t420.length (nN422 / 1)), (16, .slice (ad N425) t423.length (nN425 / 1)), (17, .slice (ad N428) t426.length (nN428 / 1)), (18, .int .i64 2), (113, .tuple #[]), (114, .tuple #[]), (115, .tuple #[]), (116, .tuple #[]), (117, .tuple #[]), (118, .tuple #[]), (119, .tuple #[]), (120, .tuple #[]), (121, .tuple #[]), (122, .tuple #[]), (123, .tuple #[]), (124, .tuple #[]), (125, .tuple #[]), (126, .tuple #[]), (129, .tuple #[]), (130, .tuple #[]), (131, .tuple #[]), (132, .tuple #[]), (133, .tuple #[]), (134, .tuple #[]), (135, .tuple #[]), (136, .tuple #[]), (137, .tuple #[]), (138, .tuple #[]), (139, .tuple #[]), (140, .tuple #[]), (141, .tuple #[]), (142, .tuple #[]), (143, .tuple #[]), (144, .tuple #[]), (145, .bool true)]) t_more (by kernel_rfl) ?_
                                  refine fk_nil fun all => ?_
                                  refine t_keep [7, 12, 13, 14, 15, 16, 17, 18, 113, 114, 115, 116, 117, 118, 119, 120, 121, 122, 123, 124, 125, 126, 129, 130, 131, 132, 133, 134, 135, 136, 137, 138, 139, 140, 141, 142, 143, 144, 145] (σ' := [(7, .bool t123), (12, .slice (ad N303) t301.length (nN303 / 1)), (13, .slice (ad N306) t304.length (nN306 / 1)), (14, .slice (ad N309) t307.length (nN309 / 1)), (15, .slice (ad N422) t420.length (nN422 / 1)), (16, .slice (ad N425) t423.length (nN425 / 1)), (17, .slice (ad N428) t426.length (nN428 / 1)), (18, .int .i64 2), (113, .tuple #[]), (114, .tuple #[]), (115, .tuple #[]), (116, .tuple #[]), (117, .tuple #[]), (118, .tuple #[]), (119, .tuple #[]), (120, .tuple #[]), (121, .tuple #[]), (122, .tuple #[]), (123, .tuple #[]), (124, .tuple #[]), (125, .tuple #[]), (126, .tuple #[]), (129, .tuple #[]), (130, .tuple #[]), (131, .tuple #[]), (132, .tuple #[]), (133, .tuple #[]), (134, .tuple #[]), (135, .tuple #[]), (136, .tuple #[]), (137, .tuple #[]), (138, .tuple #[]), (139, .tuple #[]), (140, .tuple #[]), (141, .tuple #[]), (142, .tuple #[]), (143, .tuple #[]), (144, .tuple #[]), (145, .bool true)]) (by kernel_rfl) ?_
                                  refine t_end ?_
                                  show W _ _ _ _ _ _ _
                                  refine w_cond rfl (fun _ => ?_) (fun c_ => by cases c_)
                                  show W _ _ _ _ _ _ _
                                  refine w_seq ?_
                                  refine w_reg fun all => ?_
                                  refine t_qz 1 [6] (σ' := [(6, .bool false)]) (by kernel_rfl) ?_
                                  refine t_end ?_
                                  show W _ _ _ _ _ _ _
                                  refine w_ret ?_
                                  obtain rfl := Option.some.inj e436
                                  have hr_ := Option.some.inj e
                                  exact ⟨[.bool false], [], S, ⟨rfl, trivial⟩, VS.none, congrArg Value.bool hr_, rfl, rfl⟩
                              · rw [if_neg c487] at e436
                                have c487b : (t479 == t485) = false := beq_eq_false_iff_ne.mpr c487
                                refine w_drwE mixed 48 [.v (.slice (ad N309) t307.length (nN309 / 1)), .v (.int .i64 1), .v (.pointer (some ⟨bk N309, (1 : Int).toNat * 1 + 0, none⟩)), .v (.int .u64 x463), .v (.slice (ad N303) t301.length (nN303 / 1)), .v (.int .i64 1), .v (.pointer (some ⟨bk N303, (1 : Int).toNat * 1 + 0, none⟩)), .v (.int .u64 x465), .v (.slice (ad N306) t304.length (nN306 / 1)), .v (.int .i64 1), .v (.pointer (some ⟨bk N306, (1 : Int).toNat * 1 + 0, none⟩)), .v (.int .u64 x467), .v (.int .u64 (bits .xor .u64 x465 x467)), .v (.bool false), .v (.bool false), .v (.slice (ad N428) t426.length (nN428 / 1)), .v (.int .i64 1), .v (.pointer (some ⟨bk N428, (1 : Int).toNat * 1 + 0, none⟩)), .v (.int .u64 x470), .v (.slice (ad N422) t420.length (nN422 / 1)), .v (.int .i64 1), .v (.pointer (some ⟨bk N422, (1 : Int).toNat * 1 + 0, none⟩)), .v (.int .u64 x472), .v (.slice (ad N425) t423.length (nN425 / 1)), .v (.int .i64 1), .v (.pointer (some ⟨bk N425, (1 : Int).toNat * 1 + 0, none⟩)), .v (.int .u64 x474), .v (.int .u64 (bits .or .u64 x472 x474)), .v (.bool false), .v (.bool false), .v (.bool false), .v (.slice (ad N309) t307.length (nN309 / 1)), .v (.int .i64 1), .v (.pointer (some ⟨bk N309, (1 : Int).toNat * 1 + 0, none⟩)), .v (.int .u64 x477), .v (.int .i64 t479), .v (.slice (ad N303) t301.length (nN303 / 1)), .v (.int .i64 1), .v (.pointer (some ⟨bk N303, (1 : Int).toNat * 1 + 0, none⟩)), .v (.int .u64 x481), .v (.slice (ad N306) t304.length (nN306 / 1)), .v (.int .i64 1), .v (.pointer (some ⟨bk N306, (1 : Int).toNat * 1 + 0, none⟩)), .v (.int .u64 x483), .v (.int .u64 (bits .xor .u64 x481 x483)), .v (.int .i64 t485), .v (.bool true), .v (.bool true)] (by kernel_rfl) ?_ ?_
                                · refine DI.sq 2 (by kernel_rfl) rfl ?_
                                  refine .cons (.quietH rfl (by intro h_; cases h_) (ixl (E := E_u64) (j := 6) rfl rfl rfl (by decide) rfl hx464)) ?_
                                  refine .cons (.ld1 rfl rfl rfl (.lst 6 rfl (encL_at (lgt_in hx464).1 rfl))) ?_
                                  refine DI.sq 2 (by kernel_rfl) rfl ?_
                                  refine .cons (.quietH rfl (by intro h_; cases h_) (ixl (E := E_u64) (j := 8) rfl rfl rfl (by decide) rfl hx466)) ?_
                                  refine .cons (.ld1 rfl rfl rfl (.lst 8 rfl (encL_at (lgt_in hx466).1 rfl))) ?_
                                  refine DI.sq 2 (by kernel_rfl) rfl ?_
                                  refine .cons (.quietH rfl (by intro h_; cases h_) (ixl (E := E_u64) (j := 7) rfl rfl rfl (by decide) rfl hx468)) ?_
                                  refine .cons (.ld1 rfl rfl rfl (.lst 7 rfl (encL_at (lgt_in hx468).1 rfl))) ?_
                                  refine DI.sq 1 (by kernel_rfl) rfl ?_
                                  refine .cons (dv_quiet rfl (congrArg (fun t => some (Value.bool (!t))) c469b)) ?_
                                  refine DI.sq 3 (by kernel_rfl) rfl ?_
                                  refine .cons (.quietH rfl (by intro h_; cases h_) (ixl (E := E_u64) (j := 1) rfl rfl rfl (by decide) rfl hx471)) ?_
                                  refine .cons (.ld1 rfl rfl rfl (.lst 1 rfl (encL_at (lgt_in hx471).1 rfl))) ?_
                                  refine DI.sq 2 (by kernel_rfl) rfl ?_
                                  refine .cons (.quietH rfl (by intro h_; cases h_) (ixl (E := E_u64) (j := 5) rfl rfl rfl (by decide) rfl hx473)) ?_
                                  refine .cons (.ld1 rfl rfl rfl (.lst 5 rfl (encL_at (lgt_in hx473).1 rfl))) ?_
                                  refine DI.sq 2 (by kernel_rfl) rfl ?_
                                  refine .cons (.quietH rfl (by intro h_; cases h_) (ixl (E := E_u64) (j := 3) rfl rfl rfl (by decide) rfl hx475)) ?_
                                  refine .cons (.ld1 rfl rfl rfl (.lst 3 rfl (encL_at (lgt_in hx475).1 rfl))) ?_
                                  refine DI.sq 1 (by kernel_rfl) rfl ?_
                                  refine .cons (dv_quiet rfl (congrArg (fun t => some (Value.bool (!t))) c476b)) ?_
                                  refine DI.sq 4 (by kernel_rfl) rfl ?_
                                  refine .cons (.quietH rfl (by intro h_; cases h_) (ixl (E := E_u64) (j := 6) rfl rfl rfl (by decide) rfl hx478)) ?_
                                  refine .cons (.ld1 rfl rfl rfl (.lst 6 rfl (encL_at (lgt_in hx478).1 rfl))) ?_
                                  refine .cons (.call (vs := [.int .u64 x477]) rfl rfl (by kernel_rfl) (sweep_Count.ok h480)) ?_
                                  refine DI.sq 2 (by kernel_rfl) rfl ?_
                                  refine .cons (.quietH rfl (by intro h_; cases h_) (ixl (E := E_u64) (j := 8) rfl rfl rfl (by decide) rfl hx482)) ?_
                                  refine .cons (.ld1 rfl rfl rfl (.lst 8 rfl (encL_at (lgt_in hx482).1 rfl))) ?_
                                  refine DI.sq 2 (by kernel_rfl) rfl ?_
                                  refine .cons (.quietH rfl (by intro h_; cases h_) (ixl (E := E_u64) (j := 7) rfl rfl rfl (by decide) rfl hx484)) ?_
                                  refine .cons (.ld1 rfl rfl rfl (.lst 7 rfl (encL_at (lgt_in hx484).1 rfl))) ?_
                                  refine DI.sq 1 (by kernel_rfl) rfl ?_
                                  refine .cons (.call (vs := [.int .u64 (bits .xor .u64 x481 x483)]) rfl rfl (by kernel_rfl) (glyphicref20_Bits.ok h486)) ?_
                                  refine .cons (dv_quiet rfl (congrArg (fun t => some (Value.bool (!t))) c487b)) ?_
                                  refine DI.sq 1 (by kernel_rfl) rfl ?_
                                  exact .nil
                                refine fk_q 48 [7, 12, 13, 14, 15, 16, 17, 18, 113, 114, 115, 116, 117, 118, 119, 120, 121, 122, 123, 124, 125, 126, 129, 130, 131, 132, 133, 134, 135, 136, 137, 138, 139, 140, 141, 142, 143, 144, 145] (σ' := [(7, .bool t123), (12, .slice (ad N303) t301.length (nN303 / 1)), (13, .slice (ad N306) t304.length (nN306 / 1)), (14, .slice (ad N309) t307.length (nN309 / 1)), (15, .slice (ad N422) t420.length (nN422 / 1)), (16, .slice (ad N425) t423.length (nN425 / 1)), (17, .slice (ad N428) t426.length (nN428 / 1)), (18, .int .i64 1), (113, .slice (ad N428) t426.length (nN428 / 1)), (114, .int .i64 1), (115, .pointer (some ⟨bk N428, (1 : Int).toNat * 1 + 0, none⟩)), (116, .int .u64 x470), (117, .slice (ad N422) t420.length (nN422 / 1)), (118, .int .i64 1), (119, .pointer (some ⟨bk N422, (1 : Int).toNat * 1 + 0, none⟩)), (120, .int .u64 x472), (121, .slice (ad N425) t423.length (nN425 / 1)), (122, .int .i64 1), (123, .pointer (some ⟨bk N425, (1 : Int).toNat * 1 + 0, none⟩)), (124, .int .u64 x474), (125, .int .u64 (bits .or .u64 x472 x474)), (126, .bool false), (129, .slice (ad N309) t307.length (nN309 / 1)), (130, .int .i64 1), (131, .pointer (some ⟨bk N309, (1 : Int).toNat * 1 + 0, none⟩)), (132, .int .u64 x477), (133, .int .i64 t479), (134, .slice (ad N303) t301.length (nN303 / 1)), (135, .int .i64 1), (136, .pointer (some ⟨bk N303, (1 : Int).toNat * 1 + 0, none⟩)), (137, .int .u64 x481), (138, .slice (ad N306) t304.length (nN306 / 1)), (139, .int .i64 1), (140, .pointer (some ⟨bk N306, (1 : Int).toNat * 1 + 0, none⟩)), (141, .int .u64 x483), (142, .int .u64 (bits .xor .u64 x481 x483)), (143, .int .i64 t485), (144, .bool true), (145, .bool true)]) t_more (by kernel_rfl) ?_
                                refine fk_nil fun all => ?_
                                refine t_keep [7, 12, 13, 14, 15, 16, 17, 18, 113, 114, 115, 116, 117, 118, 119, 120, 121, 122, 123, 124, 125, 126, 129, 130, 131, 132, 133, 134, 135, 136, 137, 138, 139, 140, 141, 142, 143, 144, 145] (σ' := [(7, .bool t123), (12, .slice (ad N303) t301.length (nN303 / 1)), (13, .slice (ad N306) t304.length (nN306 / 1)), (14, .slice (ad N309) t307.length (nN309 / 1)), (15, .slice (ad N422) t420.length (nN422 / 1)), (16, .slice (ad N425) t423.length (nN425 / 1)), (17, .slice (ad N428) t426.length (nN428 / 1)), (18, .int .i64 1), (113, .slice (ad N428) t426.length (nN428 / 1)), (114, .int .i64 1), (115, .pointer (some ⟨bk N428, (1 : Int).toNat * 1 + 0, none⟩)), (116, .int .u64 x470), (117, .slice (ad N422) t420.length (nN422 / 1)), (118, .int .i64 1), (119, .pointer (some ⟨bk N422, (1 : Int).toNat * 1 + 0, none⟩)), (120, .int .u64 x472), (121, .slice (ad N425) t423.length (nN425 / 1)), (122, .int .i64 1), (123, .pointer (some ⟨bk N425, (1 : Int).toNat * 1 + 0, none⟩)), (124, .int .u64 x474), (125, .int .u64 (bits .or .u64 x472 x474)), (126, .bool false), (129, .slice (ad N309) t307.length (nN309 / 1)), (130, .int .i64 1), (131, .pointer (some ⟨bk N309, (1 : Int).toNat * 1 + 0, none⟩)), (132, .int .u64 x477), (133, .int .i64 t479), (134, .slice (ad N303) t301.length (nN303 / 1)), (135, .int .i64 1), (136, .pointer (some ⟨bk N303, (1 : Int).toNat * 1 + 0, none⟩)), (137, .int .u64 x481), (138, .slice (ad N306) t304.length (nN306 / 1)), (139, .int .i64 1), (140, .pointer (some ⟨bk N306, (1 : Int).toNat * 1 + 0, none⟩)), (141, .int .u64 x483), (142, .int .u64 (bits .xor .u64 x481 x483)), (143, .int .i64 t485), (144, .bool true), (145, .bool true)]) (by kernel_rfl) ?_
                                refine t_end ?_
                                show W _ _ _ _ _ _ _
                                refine w_cond rfl (fun _ => ?_) (fun c_ => by cases c_)
                                show W _ _ _ _ _ _ _
                                refine w_seq ?_
                                refine w_reg fun all => ?_
                                refine t_qz 1 [6] (σ' := [(6, .bool false)]) (by kernel_rfl) ?_
                                refine t_end ?_
                                show W _ _ _ _ _ _ _
                                refine w_ret ?_
                                obtain rfl := Option.some.inj e436
                                have hr_ := Option.some.inj e
                                exact ⟨[.bool false], [], S, ⟨rfl, trivial⟩, VS.none, congrArg Value.bool hr_, rfl, rfl⟩
                            · rw [if_neg c476] at e436
                              have c476b : (x470 == (bits .or .u64 x472 x474)) = false := beq_eq_false_iff_ne.mpr c476
                              refine w_drwE mixed 48 [.v (.slice (ad N309) t307.length (nN309 / 1)), .v (.int .i64 1), .v (.pointer (some ⟨bk N309, (1 : Int).toNat * 1 + 0, none⟩)), .v (.int .u64 x463), .v (.slice (ad N303) t301.length (nN303 / 1)), .v (.int .i64 1), .v (.pointer (some ⟨bk N303, (1 : Int).toNat * 1 + 0, none⟩)), .v (.int .u64 x465), .v (.slice (ad N306) t304.length (nN306 / 1)), .v (.int .i64 1), .v (.pointer (some ⟨bk N306, (1 : Int).toNat * 1 + 0, none⟩)), .v (.int .u64 x467), .v (.int .u64 (bits .xor .u64 x465 x467)), .v (.bool false), .v (.bool false), .v (.slice (ad N428) t426.length (nN428 / 1)), .v (.int .i64 1), .v (.pointer (some ⟨bk N428, (1 : Int).toNat * 1 + 0, none⟩)), .v (.int .u64 x470), .v (.slice (ad N422) t420.length (nN422 / 1)), .v (.int .i64 1), .v (.pointer (some ⟨bk N422, (1 : Int).toNat * 1 + 0, none⟩)), .v (.int .u64 x472), .v (.slice (ad N425) t423.length (nN425 / 1)), .v (.int .i64 1), .v (.pointer (some ⟨bk N425, (1 : Int).toNat * 1 + 0, none⟩)), .v (.int .u64 x474), .v (.int .u64 (bits .or .u64 x472 x474)), .v (.bool true), .v (.bool true), .v (.bool true), .v (.tuple #[]), .v (.tuple #[]), .v (.tuple #[]), .v (.tuple #[]), .v (.tuple #[]), .v (.tuple #[]), .v (.tuple #[]), .v (.tuple #[]), .v (.tuple #[]), .v (.tuple #[]), .v (.tuple #[]), .v (.tuple #[]), .v (.tuple #[]), .v (.tuple #[]), .v (.tuple #[]), .v (.tuple #[]), .v (.bool true)] (by kernel_rfl) ?_ ?_
                              · refine DI.sq 2 (by kernel_rfl) rfl ?_
                                refine .cons (.quietH rfl (by intro h_; cases h_) (ixl (E := E_u64) (j := 6) rfl rfl rfl (by decide) rfl hx464)) ?_
                                refine .cons (.ld1 rfl rfl rfl (.lst 6 rfl (encL_at (lgt_in hx464).1 rfl))) ?_
                                refine DI.sq 2 (by kernel_rfl) rfl ?_
                                refine .cons (.quietH rfl (by intro h_; cases h_) (ixl (E := E_u64) (j := 8) rfl rfl rfl (by decide) rfl hx466)) ?_
                                refine .cons (.ld1 rfl rfl rfl (.lst 8 rfl (encL_at (lgt_in hx466).1 rfl))) ?_
                                refine DI.sq 2 (by kernel_rfl) rfl ?_
                                refine .cons (.quietH rfl (by intro h_; cases h_) (ixl (E := E_u64) (j := 7) rfl rfl rfl (by decide) rfl hx468)) ?_
                                refine .cons (.ld1 rfl rfl rfl (.lst 7 rfl (encL_at (lgt_in hx468).1 rfl))) ?_
                                refine DI.sq 1 (by kernel_rfl) rfl ?_
                                refine .cons (dv_quiet rfl (congrArg (fun t => some (Value.bool (!t))) c469b)) ?_
                                refine DI.sq 3 (by kernel_rfl) rfl ?_
                                refine .cons (.quietH rfl (by intro h_; cases h_) (ixl (E := E_u64) (j := 1) rfl rfl rfl (by decide) rfl hx471)) ?_
                                refine .cons (.ld1 rfl rfl rfl (.lst 1 rfl (encL_at (lgt_in hx471).1 rfl))) ?_
                                refine DI.sq 2 (by kernel_rfl) rfl ?_
                                refine .cons (.quietH rfl (by intro h_; cases h_) (ixl (E := E_u64) (j := 5) rfl rfl rfl (by decide) rfl hx473)) ?_
                                refine .cons (.ld1 rfl rfl rfl (.lst 5 rfl (encL_at (lgt_in hx473).1 rfl))) ?_
                                refine DI.sq 2 (by kernel_rfl) rfl ?_
                                refine .cons (.quietH rfl (by intro h_; cases h_) (ixl (E := E_u64) (j := 3) rfl rfl rfl (by decide) rfl hx475)) ?_
                                refine .cons (.ld1 rfl rfl rfl (.lst 3 rfl (encL_at (lgt_in hx475).1 rfl))) ?_
                                refine DI.sq 1 (by kernel_rfl) rfl ?_
                                refine .cons (dv_quiet rfl (congrArg (fun t => some (Value.bool (!t))) c476b)) ?_
                                refine DI.sq 19 (by kernel_rfl) rfl ?_
                                exact .nil
                              refine fk_q 48 [7, 12, 13, 14, 15, 16, 17, 18, 113, 114, 115, 116, 117, 118, 119, 120, 121, 122, 123, 124, 125, 126, 129, 130, 131, 132, 133, 134, 135, 136, 137, 138, 139, 140, 141, 142, 143, 144, 145] (σ' := [(7, .bool t123), (12, .slice (ad N303) t301.length (nN303 / 1)), (13, .slice (ad N306) t304.length (nN306 / 1)), (14, .slice (ad N309) t307.length (nN309 / 1)), (15, .slice (ad N422) t420.length (nN422 / 1)), (16, .slice (ad N425) t423.length (nN425 / 1)), (17, .slice (ad N428) t426.length (nN428 / 1)), (18, .int .i64 1), (113, .slice (ad N428) t426.length (nN428 / 1)), (114, .int .i64 1), (115, .pointer (some ⟨bk N428, (1 : Int).toNat * 1 + 0, none⟩)), (116, .int .u64 x470), (117, .slice (ad N422) t420.length (nN422 / 1)), (118, .int .i64 1), (119, .pointer (some ⟨bk N422, (1 : Int).toNat * 1 + 0, none⟩)), (120, .int .u64 x472), (121, .slice (ad N425) t423.length (nN425 / 1)), (122, .int .i64 1), (123, .pointer (some ⟨bk N425, (1 : Int).toNat * 1 + 0, none⟩)), (124, .int .u64 x474), (125, .int .u64 (bits .or .u64 x472 x474)), (126, .bool true), (129, .tuple #[]), (130, .tuple #[]), (131, .tuple #[]), (132, .tuple #[]), (133, .tuple #[]), (134, .tuple #[]), (135, .tuple #[]), (136, .tuple #[]), (137, .tuple #[]), (138, .tuple #[]), (139, .tuple #[]), (140, .tuple #[]), (141, .tuple #[]), (142, .tuple #[]), (143, .tuple #[]), (144, .tuple #[]), (145, .bool true)]) t_more (by kernel_rfl) ?_
                              refine fk_nil fun all => ?_
                              refine t_keep [7, 12, 13, 14, 15, 16, 17, 18, 113, 114, 115, 116, 117, 118, 119, 120, 121, 122, 123, 124, 125, 126, 129, 130, 131, 132, 133, 134, 135, 136, 137, 138, 139, 140, 141, 142, 143, 144, 145] (σ' := [(7, .bool t123), (12, .slice (ad N303) t301.length (nN303 / 1)), (13, .slice (ad N306) t304.length (nN306 / 1)), (14, .slice (ad N309) t307.length (nN309 / 1)), (15, .slice (ad N422) t420.length (nN422 / 1)), (16, .slice (ad N425) t423.length (nN425 / 1)), (17, .slice (ad N428) t426.length (nN428 / 1)), (18, .int .i64 1), (113, .slice (ad N428) t426.length (nN428 / 1)), (114, .int .i64 1), (115, .pointer (some ⟨bk N428, (1 : Int).toNat * 1 + 0, none⟩)), (116, .int .u64 x470), (117, .slice (ad N422) t420.length (nN422 / 1)), (118, .int .i64 1), (119, .pointer (some ⟨bk N422, (1 : Int).toNat * 1 + 0, none⟩)), (120, .int .u64 x472), (121, .slice (ad N425) t423.length (nN425 / 1)), (122, .int .i64 1), (123, .pointer (some ⟨bk N425, (1 : Int).toNat * 1 + 0, none⟩)), (124, .int .u64 x474), (125, .int .u64 (bits .or .u64 x472 x474)), (126, .bool true), (129, .tuple #[]), (130, .tuple #[]), (131, .tuple #[]), (132, .tuple #[]), (133, .tuple #[]), (134, .tuple #[]), (135, .tuple #[]), (136, .tuple #[]), (137, .tuple #[]), (138, .tuple #[]), (139, .tuple #[]), (140, .tuple #[]), (141, .tuple #[]), (142, .tuple #[]), (143, .tuple #[]), (144, .tuple #[]), (145, .bool true)]) (by kernel_rfl) ?_
                              refine t_end ?_
                              show W _ _ _ _ _ _ _
                              refine w_cond rfl (fun _ => ?_) (fun c_ => by cases c_)
                              show W _ _ _ _ _ _ _
                              refine w_seq ?_
                              refine w_reg fun all => ?_
                              refine t_qz 1 [6] (σ' := [(6, .bool false)]) (by kernel_rfl) ?_
                              refine t_end ?_
                              show W _ _ _ _ _ _ _
                              refine w_ret ?_
                              obtain rfl := Option.some.inj e436
                              have hr_ := Option.some.inj e
                              exact ⟨[.bool false], [], S, ⟨rfl, trivial⟩, VS.none, congrArg Value.bool hr_, rfl, rfl⟩
                          · rw [if_neg c469] at e436
                            have c469b : (x463 == (bits .xor .u64 x465 x467)) = false := beq_eq_false_iff_ne.mpr c469
                            refine w_drwE mixed 48 [.v (.slice (ad N309) t307.length (nN309 / 1)), .v (.int .i64 1), .v (.pointer (some ⟨bk N309, (1 : Int).toNat * 1 + 0, none⟩)), .v (.int .u64 x463), .v (.slice (ad N303) t301.length (nN303 / 1)), .v (.int .i64 1), .v (.pointer (some ⟨bk N303, (1 : Int).toNat * 1 + 0, none⟩)), .v (.int .u64 x465), .v (.slice (ad N306) t304.length (nN306 / 1)), .v (.int .i64 1), .v (.pointer (some ⟨bk N306, (1 : Int).toNat * 1 + 0, none⟩)), .v (.int .u64 x467), .v (.int .u64 (bits .xor .u64 x465 x467)), .v (.bool true), .v (.bool true), .v (.tuple #[]), .v (.tuple #[]), .v (.tuple #[]), .v (.tuple #[]), .v (.tuple #[]), .v (.tuple #[]), .v (.tuple #[]), .v (.tuple #[]), .v (.tuple #[]), .v (.tuple #[]), .v (.tuple #[]), .v (.tuple #[]), .v (.tuple #[]), .v (.tuple #[]), .v (.bool true), .v (.bool true), .v (.tuple #[]), .v (.tuple #[]), .v (.tuple #[]), .v (.tuple #[]), .v (.tuple #[]), .v (.tuple #[]), .v (.tuple #[]), .v (.tuple #[]), .v (.tuple #[]), .v (.tuple #[]), .v (.tuple #[]), .v (.tuple #[]), .v (.tuple #[]), .v (.tuple #[]), .v (.tuple #[]), .v (.tuple #[]), .v (.bool true)] (by kernel_rfl) ?_ ?_
                            · refine DI.sq 2 (by kernel_rfl) rfl ?_
                              refine .cons (.quietH rfl (by intro h_; cases h_) (ixl (E := E_u64) (j := 6) rfl rfl rfl (by decide) rfl hx464)) ?_
                              refine .cons (.ld1 rfl rfl rfl (.lst 6 rfl (encL_at (lgt_in hx464).1 rfl))) ?_
                              refine DI.sq 2 (by kernel_rfl) rfl ?_
                              refine .cons (.quietH rfl (by intro h_; cases h_) (ixl (E := E_u64) (j := 8) rfl rfl rfl (by decide) rfl hx466)) ?_
                              refine .cons (.ld1 rfl rfl rfl (.lst 8 rfl (encL_at (lgt_in hx466).1 rfl))) ?_
                              refine DI.sq 2 (by kernel_rfl) rfl ?_
                              refine .cons (.quietH rfl (by intro h_; cases h_) (ixl (E := E_u64) (j := 7) rfl rfl rfl (by decide) rfl hx468)) ?_
                              refine .cons (.ld1 rfl rfl rfl (.lst 7 rfl (encL_at (lgt_in hx468).1 rfl))) ?_
                              refine DI.sq 1 (by kernel_rfl) rfl ?_
                              refine .cons (dv_quiet rfl (congrArg (fun t => some (Value.bool (!t))) c469b)) ?_
                              refine DI.sq 34 (by kernel_rfl) rfl ?_
                              exact .nil
                            refine fk_q 48 [7, 12, 13, 14, 15, 16, 17, 18, 113, 114, 115, 116, 117, 118, 119, 120, 121, 122, 123, 124, 125, 126, 129, 130, 131, 132, 133, 134, 135, 136, 137, 138, 139, 140, 141, 142, 143, 144, 145] (σ' := [(7, .bool t123), (12, .slice (ad N303) t301.length (nN303 / 1)), (13, .slice (ad N306) t304.length (nN306 / 1)), (14, .slice (ad N309) t307.length (nN309 / 1)), (15, .slice (ad N422) t420.length (nN422 / 1)), (16, .slice (ad N425) t423.length (nN425 / 1)), (17, .slice (ad N428) t426.length (nN428 / 1)), (18, .int .i64 1), (113, .tuple #[]), (114, .tuple #[]), (115, .tuple #[]), (116, .tuple #[]), (117, .tuple #[]), (118, .tuple #[]), (119, .tuple #[]), (120, .tuple #[]), (121, .tuple #[]), (122, .tuple #[]), (123, .tuple #[]), (124, .tuple #[]), (125, .tuple #[]), (126, .tuple #[]), (129, .tuple #[]), (130, .tuple #[]), (131, .tuple #[]), (132, .tuple #[]), (133, .tuple #[]), (134, .tuple #[]), (135, .tuple #[]), (136, .tuple #[]), (137, .tuple #[]), (138, .tuple #[]), (139, .tuple #[]), (140, .tuple #[]), (141, .tuple #[]), (142, .tuple #[]), (143, .tuple #[]), (144, .tuple #[]), (145, .bool true)]) t_more (by kernel_rfl) ?_
                            refine fk_nil fun all => ?_
                            refine t_keep [7, 12, 13, 14, 15, 16, 17, 18, 113, 114, 115, 116, 117, 118, 119, 120, 121, 122, 123, 124, 125, 126, 129, 130, 131, 132, 133, 134, 135, 136, 137, 138, 139, 140, 141, 142, 143, 144, 145] (σ' := [(7, .bool t123), (12, .slice (ad N303) t301.length (nN303 / 1)), (13, .slice (ad N306) t304.length (nN306 / 1)), (14, .slice (ad N309) t307.length (nN309 / 1)), (15, .slice (ad N422) t420.length (nN422 / 1)), (16, .slice (ad N425) t423.length (nN425 / 1)), (17, .slice (ad N428) t426.length (nN428 / 1)), (18, .int .i64 1), (113, .tuple #[]), (114, .tuple #[]), (115, .tuple #[]), (116, .tuple #[]), (117, .tuple #[]), (118, .tuple #[]), (119, .tuple #[]), (120, .tuple #[]), (121, .tuple #[]), (122, .tuple #[]), (123, .tuple #[]), (124, .tuple #[]), (125, .tuple #[]), (126, .tuple #[]), (129, .tuple #[]), (130, .tuple #[]), (131, .tuple #[]), (132, .tuple #[]), (133, .tuple #[]), (134, .tuple #[]), (135, .tuple #[]), (136, .tuple #[]), (137, .tuple #[]), (138, .tuple #[]), (139, .tuple #[]), (140, .tuple #[]), (141, .tuple #[]), (142, .tuple #[]), (143, .tuple #[]), (144, .tuple #[]), (145, .bool true)]) (by kernel_rfl) ?_
                            refine t_end ?_
                            show W _ _ _ _ _ _ _
                            refine w_cond rfl (fun _ => ?_) (fun c_ => by cases c_)
                            show W _ _ _ _ _ _ _
                            refine w_seq ?_
                            refine w_reg fun all => ?_
                            refine t_qz 1 [6] (σ' := [(6, .bool false)]) (by kernel_rfl) ?_
                            refine t_end ?_
                            show W _ _ _ _ _ _ _
                            refine w_ret ?_
                            obtain rfl := Option.some.inj e436
                            have hr_ := Option.some.inj e
                            exact ⟨[.bool false], [], S, ⟨rfl, trivial⟩, VS.none, congrArg Value.bool hr_, rfl, rfl⟩
                        · rw [if_neg c462] at e436
                          have c462b : (t454 == t460) = false := beq_eq_false_iff_ne.mpr c462
                          refine w_drwE mixed 48 [.v (.slice (ad N309) t307.length (nN309 / 1)), .v (.int .i64 0), .v (.pointer (some ⟨bk N309, (0 : Int).toNat * 1 + 0, none⟩)), .v (.int .u64 x438), .v (.slice (ad N303) t301.length (nN303 / 1)), .v (.int .i64 0), .v (.pointer (some ⟨bk N303, (0 : Int).toNat * 1 + 0, none⟩)), .v (.int .u64 x440), .v (.slice (ad N306) t304.length (nN306 / 1)), .v (.int .i64 0), .v (.pointer (some ⟨bk N306, (0 : Int).toNat * 1 + 0, none⟩)), .v (.int .u64 x442), .v (.int .u64 (bits .xor .u64 x440 x442)), .v (.bool false), .v (.bool false), .v (.slice (ad N428) t426.length (nN428 / 1)), .v (.int .i64 0), .v (.pointer (some ⟨bk N428, (0 : Int).toNat * 1 + 0, none⟩)), .v (.int .u64 x445), .v (.slice (ad N422) t420.length (nN422 / 1)), .v (.int .i64 0), .v (.pointer (some ⟨bk N422, (0 : Int).toNat * 1 + 0, none⟩)), .v (.int .u64 x447), .v (.slice (ad N425) t423.length (nN425 / 1)), .v (.int .i64 0), .v (.pointer (some ⟨bk N425, (0 : Int).toNat * 1 + 0, none⟩)), .v (.int .u64 x449), .v (.int .u64 (bits .or .u64 x447 x449)), .v (.bool false), .v (.bool false), .v (.bool false), .v (.slice (ad N309) t307.length (nN309 / 1)), .v (.int .i64 0), .v (.pointer (some ⟨bk N309, (0 : Int).toNat * 1 + 0, none⟩)), .v (.int .u64 x452), .v (.int .i64 t454), .v (.slice (ad N303) t301.length (nN303 / 1)), .v (.int .i64 0), .v (.pointer (some ⟨bk N303, (0 : Int).toNat * 1 + 0, none⟩)), .v (.int .u64 x456), .v (.slice (ad N306) t304.length (nN306 / 1)), .v (.int .i64 0), .v (.pointer (some ⟨bk N306, (0 : Int).toNat * 1 + 0, none⟩)), .v (.int .u64 x458), .v (.int .u64 (bits .xor .u64 x456 x458)), .v (.int .i64 t460), .v (.bool true), .v (.bool true)] (by kernel_rfl) ?_ ?_
                          · refine DI.sq 2 (by kernel_rfl) rfl ?_
                            refine .cons (.quietH rfl (by intro h_; cases h_) (ixl (E := E_u64) (j := 6) rfl rfl rfl (by decide) rfl hx439)) ?_
                            refine .cons (.ld1 rfl rfl rfl (.lst 6 rfl (encL_at (lgt_in hx439).1 rfl))) ?_
                            refine DI.sq 2 (by kernel_rfl) rfl ?_
                            refine .cons (.quietH rfl (by intro h_; cases h_) (ixl (E := E_u64) (j := 8) rfl rfl rfl (by decide) rfl hx441)) ?_
                            refine .cons (.ld1 rfl rfl rfl (.lst 8 rfl (encL_at (lgt_in hx441).1 rfl))) ?_
                            refine DI.sq 2 (by kernel_rfl) rfl ?_
                            refine .cons (.quietH rfl (by intro h_; cases h_) (ixl (E := E_u64) (j := 7) rfl rfl rfl (by decide) rfl hx443)) ?_
                            refine .cons (.ld1 rfl rfl rfl (.lst 7 rfl (encL_at (lgt_in hx443).1 rfl))) ?_
                            refine DI.sq 1 (by kernel_rfl) rfl ?_
                            refine .cons (dv_quiet rfl (congrArg (fun t => some (Value.bool (!t))) c444b)) ?_
                            refine DI.sq 3 (by kernel_rfl) rfl ?_
                            refine .cons (.quietH rfl (by intro h_; cases h_) (ixl (E := E_u64) (j := 1) rfl rfl rfl (by decide) rfl hx446)) ?_
                            refine .cons (.ld1 rfl rfl rfl (.lst 1 rfl (encL_at (lgt_in hx446).1 rfl))) ?_
                            refine DI.sq 2 (by kernel_rfl) rfl ?_
                            refine .cons (.quietH rfl (by intro h_; cases h_) (ixl (E := E_u64) (j := 5) rfl rfl rfl (by decide) rfl hx448)) ?_
                            refine .cons (.ld1 rfl rfl rfl (.lst 5 rfl (encL_at (lgt_in hx448).1 rfl))) ?_
                            refine DI.sq 2 (by kernel_rfl) rfl ?_
                            refine .cons (.quietH rfl (by intro h_; cases h_) (ixl (E := E_u64) (j := 3) rfl rfl rfl (by decide) rfl hx450)) ?_
                            refine .cons (.ld1 rfl rfl rfl (.lst 3 rfl (encL_at (lgt_in hx450).1 rfl))) ?_
                            refine DI.sq 1 (by kernel_rfl) rfl ?_
                            refine .cons (dv_quiet rfl (congrArg (fun t => some (Value.bool (!t))) c451b)) ?_
                            refine DI.sq 4 (by kernel_rfl) rfl ?_
                            refine .cons (.quietH rfl (by intro h_; cases h_) (ixl (E := E_u64) (j := 6) rfl rfl rfl (by decide) rfl hx453)) ?_
                            refine .cons (.ld1 rfl rfl rfl (.lst 6 rfl (encL_at (lgt_in hx453).1 rfl))) ?_
                            refine .cons (.call (vs := [.int .u64 x452]) rfl rfl (by kernel_rfl) (sweep_Count.ok h455)) ?_
                            refine DI.sq 2 (by kernel_rfl) rfl ?_
                            refine .cons (.quietH rfl (by intro h_; cases h_) (ixl (E := E_u64) (j := 8) rfl rfl rfl (by decide) rfl hx457)) ?_
                            refine .cons (.ld1 rfl rfl rfl (.lst 8 rfl (encL_at (lgt_in hx457).1 rfl))) ?_
                            refine DI.sq 2 (by kernel_rfl) rfl ?_
                            refine .cons (.quietH rfl (by intro h_; cases h_) (ixl (E := E_u64) (j := 7) rfl rfl rfl (by decide) rfl hx459)) ?_
                            refine .cons (.ld1 rfl rfl rfl (.lst 7 rfl (encL_at (lgt_in hx459).1 rfl))) ?_
                            refine DI.sq 1 (by kernel_rfl) rfl ?_
                            refine .cons (.call (vs := [.int .u64 (bits .xor .u64 x456 x458)]) rfl rfl (by kernel_rfl) (glyphicref20_Bits.ok h461)) ?_
                            refine .cons (dv_quiet rfl (congrArg (fun t => some (Value.bool (!t))) c462b)) ?_
                            refine DI.sq 1 (by kernel_rfl) rfl ?_
                            exact .nil
                          refine fk_q 48 [7, 12, 13, 14, 15, 16, 17, 18, 113, 114, 115, 116, 117, 118, 119, 120, 121, 122, 123, 124, 125, 126, 129, 130, 131, 132, 133, 134, 135, 136, 137, 138, 139, 140, 141, 142, 143, 144, 145] (σ' := [(7, .bool t123), (12, .slice (ad N303) t301.length (nN303 / 1)), (13, .slice (ad N306) t304.length (nN306 / 1)), (14, .slice (ad N309) t307.length (nN309 / 1)), (15, .slice (ad N422) t420.length (nN422 / 1)), (16, .slice (ad N425) t423.length (nN425 / 1)), (17, .slice (ad N428) t426.length (nN428 / 1)), (18, .int .i64 0), (113, .slice (ad N428) t426.length (nN428 / 1)), (114, .int .i64 0), (115, .pointer (some ⟨bk N428, (0 : Int).toNat * 1 + 0, none⟩)), (116, .int .u64 x445), (117, .slice (ad N422) t420.length (nN422 / 1)), (118, .int .i64 0), (119, .pointer (some ⟨bk N422, (0 : Int).toNat * 1 + 0, none⟩)), (120, .int .u64 x447), (121, .slice (ad N425) t423.length (nN425 / 1)), (122, .int .i64 0), (123, .pointer (some ⟨bk N425, (0 : Int).toNat * 1 + 0, none⟩)), (124, .int .u64 x449), (125, .int .u64 (bits .or .u64 x447 x449)), (126, .bool false), (129, .slice (ad N309) t307.length (nN309 / 1)), (130, .int .i64 0), (131, .pointer (some ⟨bk N309, (0 : Int).toNat * 1 + 0, none⟩)), (132, .int .u64 x452), (133, .int .i64 t454), (134, .slice (ad N303) t301.length (nN303 / 1)), (135, .int .i64 0), (136, .pointer (some ⟨bk N303, (0 : Int).toNat * 1 + 0, none⟩)), (137, .int .u64 x456), (138, .slice (ad N306) t304.length (nN306 / 1)), (139, .int .i64 0), (140, .pointer (some ⟨bk N306, (0 : Int).toNat * 1 + 0, none⟩)), (141, .int .u64 x458), (142, .int .u64 (bits .xor .u64 x456 x458)), (143, .int .i64 t460), (144, .bool true), (145, .bool true)]) t_more (by kernel_rfl) ?_
                          refine fk_nil fun all => ?_
                          refine t_keep [7, 12, 13, 14, 15, 16, 17, 18, 113, 114, 115, 116, 117, 118, 119, 120, 121, 122, 123, 124, 125, 126, 129, 130, 131, 132, 133, 134, 135, 136, 137, 138, 139, 140, 141, 142, 143, 144, 145] (σ' := [(7, .bool t123), (12, .slice (ad N303) t301.length (nN303 / 1)), (13, .slice (ad N306) t304.length (nN306 / 1)), (14, .slice (ad N309) t307.length (nN309 / 1)), (15, .slice (ad N422) t420.length (nN422 / 1)), (16, .slice (ad N425) t423.length (nN425 / 1)), (17, .slice (ad N428) t426.length (nN428 / 1)), (18, .int .i64 0), (113, .slice (ad N428) t426.length (nN428 / 1)), (114, .int .i64 0), (115, .pointer (some ⟨bk N428, (0 : Int).toNat * 1 + 0, none⟩)), (116, .int .u64 x445), (117, .slice (ad N422) t420.length (nN422 / 1)), (118, .int .i64 0), (119, .pointer (some ⟨bk N422, (0 : Int).toNat * 1 + 0, none⟩)), (120, .int .u64 x447), (121, .slice (ad N425) t423.length (nN425 / 1)), (122, .int .i64 0), (123, .pointer (some ⟨bk N425, (0 : Int).toNat * 1 + 0, none⟩)), (124, .int .u64 x449), (125, .int .u64 (bits .or .u64 x447 x449)), (126, .bool false), (129, .slice (ad N309) t307.length (nN309 / 1)), (130, .int .i64 0), (131, .pointer (some ⟨bk N309, (0 : Int).toNat * 1 + 0, none⟩)), (132, .int .u64 x452), (133, .int .i64 t454), (134, .slice (ad N303) t301.length (nN303 / 1)), (135, .int .i64 0), (136, .pointer (some ⟨bk N303, (0 : Int).toNat * 1 + 0, none⟩)), (137, .int .u64 x456), (138, .slice (ad N306) t304.length (nN306 / 1)), (139, .int .i64 0), (140, .pointer (some ⟨bk N306, (0 : Int).toNat * 1 + 0, none⟩)), (141, .int .u64 x458), (142, .int .u64 (bits .xor .u64 x456 x458)), (143, .int .i64 t460), (144, .bool true), (145, .bool true)]) (by kernel_rfl) ?_
                          refine t_end ?_
                          show W _ _ _ _ _ _ _
                          refine w_cond rfl (fun _ => ?_) (fun c_ => by cases c_)
                          show W _ _ _ _ _ _ _
                          refine w_seq ?_
                          refine w_reg fun all => ?_
                          refine t_qz 1 [6] (σ' := [(6, .bool false)]) (by kernel_rfl) ?_
                          refine t_end ?_
                          show W _ _ _ _ _ _ _
                          refine w_ret ?_
                          obtain rfl := Option.some.inj e436
                          have hr_ := Option.some.inj e
                          exact ⟨[.bool false], [], S, ⟨rfl, trivial⟩, VS.none, congrArg Value.bool hr_, rfl, rfl⟩
                      · rw [if_neg c451] at e436
                        have c451b : (x445 == (bits .or .u64 x447 x449)) = false := beq_eq_false_iff_ne.mpr c451
                        refine w_drwE mixed 48 [.v (.slice (ad N309) t307.length (nN309 / 1)), .v (.int .i64 0), .v (.pointer (some ⟨bk N309, (0 : Int).toNat * 1 + 0, none⟩)), .v (.int .u64 x438), .v (.slice (ad N303) t301.length (nN303 / 1)), .v (.int .i64 0), .v (.pointer (some ⟨bk N303, (0 : Int).toNat * 1 + 0, none⟩)), .v (.int .u64 x440), .v (.slice (ad N306) t304.length (nN306 / 1)), .v (.int .i64 0), .v (.pointer (some ⟨bk N306, (0 : Int).toNat * 1 + 0, none⟩)), .v (.int .u64 x442), .v (.int .u64 (bits .xor .u64 x440 x442)), .v (.bool false), .v (.bool false), .v (.slice (ad N428) t426.length (nN428 / 1)), .v (.int .i64 0), .v (.pointer (some ⟨bk N428, (0 : Int).toNat * 1 + 0, none⟩)), .v (.int .u64 x445), .v (.slice (ad N422) t420.length (nN422 / 1)), .v (.int .i64 0), .v (.pointer (some ⟨bk N422, (0 : Int).toNat * 1 + 0, none⟩)), .v (.int .u64 x447), .v (.slice (ad N425) t423.length (nN425 / 1)), .v (.int .i64 0), .v (.pointer (some ⟨bk N425, (0 : Int).toNat * 1 + 0, none⟩)), .v (.int .u64 x449), .v (.int .u64 (bits .or .u64 x447 x449)), .v (.bool true), .v (.bool true), .v (.bool true), .v (.tuple #[]), .v (.tuple #[]), .v (.tuple #[]), .v (.tuple #[]), .v (.tuple #[]), .v (.tuple #[]), .v (.tuple #[]), .v (.tuple #[]), .v (.tuple #[]), .v (.tuple #[]), .v (.tuple #[]), .v (.tuple #[]), .v (.tuple #[]), .v (.tuple #[]), .v (.tuple #[]), .v (.tuple #[]), .v (.bool true)] (by kernel_rfl) ?_ ?_
                        · refine DI.sq 2 (by kernel_rfl) rfl ?_
                          refine .cons (.quietH rfl (by intro h_; cases h_) (ixl (E := E_u64) (j := 6) rfl rfl rfl (by decide) rfl hx439)) ?_
                          refine .cons (.ld1 rfl rfl rfl (.lst 6 rfl (encL_at (lgt_in hx439).1 rfl))) ?_
                          refine DI.sq 2 (by kernel_rfl) rfl ?_
                          refine .cons (.quietH rfl (by intro h_; cases h_) (ixl (E := E_u64) (j := 8) rfl rfl rfl (by decide) rfl hx441)) ?_
                          refine .cons (.ld1 rfl rfl rfl (.lst 8 rfl (encL_at (lgt_in hx441).1 rfl))) ?_
                          refine DI.sq 2 (by kernel_rfl) rfl ?_
                          refine .cons (.quietH rfl (by intro h_; cases h_) (ixl (E := E_u64) (j := 7) rfl rfl rfl (by decide) rfl hx443)) ?_
                          refine .cons (.ld1 rfl rfl rfl (.lst 7 rfl (encL_at (lgt_in hx443).1 rfl))) ?_
                          refine DI.sq 1 (by kernel_rfl) rfl ?_
                          refine .cons (dv_quiet rfl (congrArg (fun t => some (Value.bool (!t))) c444b)) ?_
                          refine DI.sq 3 (by kernel_rfl) rfl ?_
                          refine .cons (.quietH rfl (by intro h_; cases h_) (ixl (E := E_u64) (j := 1) rfl rfl rfl (by decide) rfl hx446)) ?_
                          refine .cons (.ld1 rfl rfl rfl (.lst 1 rfl (encL_at (lgt_in hx446).1 rfl))) ?_
                          refine DI.sq 2 (by kernel_rfl) rfl ?_
                          refine .cons (.quietH rfl (by intro h_; cases h_) (ixl (E := E_u64) (j := 5) rfl rfl rfl (by decide) rfl hx448)) ?_
                          refine .cons (.ld1 rfl rfl rfl (.lst 5 rfl (encL_at (lgt_in hx448).1 rfl))) ?_
                          refine DI.sq 2 (by kernel_rfl) rfl ?_
                          refine .cons (.quietH rfl (by intro h_; cases h_) (ixl (E := E_u64) (j := 3) rfl rfl rfl (by decide) rfl hx450)) ?_
                          refine .cons (.ld1 rfl rfl rfl (.lst 3 rfl (encL_at (lgt_in hx450).1 rfl))) ?_
                          refine DI.sq 1 (by kernel_rfl) rfl ?_
                          refine .cons (dv_quiet rfl (congrArg (fun t => some (Value.bool (!t))) c451b)) ?_
                          refine DI.sq 19 (by kernel_rfl) rfl ?_
                          exact .nil
                        refine fk_q 48 [7, 12, 13, 14, 15, 16, 17, 18, 113, 114, 115, 116, 117, 118, 119, 120, 121, 122, 123, 124, 125, 126, 129, 130, 131, 132, 133, 134, 135, 136, 137, 138, 139, 140, 141, 142, 143, 144, 145] (σ' := [(7, .bool t123), (12, .slice (ad N303) t301.length (nN303 / 1)), (13, .slice (ad N306) t304.length (nN306 / 1)), (14, .slice (ad N309) t307.length (nN309 / 1)), (15, .slice (ad N422) t420.length (nN422 / 1)), (16, .slice (ad N425) t423.length (nN425 / 1)), (17, .slice (ad N428) t426.length (nN428 / 1)), (18, .int .i64 0), (113, .slice (ad N428) t426.length (nN428 / 1)), (114, .int .i64 0), (115, .pointer (some ⟨bk N428, (0 : Int).toNat * 1 + 0, none⟩)), (116, .int .u64 x445), (117, .slice (ad N422) t420.length (nN422 / 1)), (118, .int .i64 0), (119, .pointer (some ⟨bk N422, (0 : Int).toNat * 1 + 0, none⟩)), (120, .int .u64 x447), (121, .slice (ad N425) t423.length (nN425 / 1)), (122, .int .i64 0), (123, .pointer (some ⟨bk N425, (0 : Int).toNat * 1 + 0, none⟩)), (124, .int .u64 x449), (125, .int .u64 (bits .or .u64 x447 x449)), (126, .bool true), (129, .tuple #[]), (130, .tuple #[]), (131, .tuple #[]), (132, .tuple #[]), (133, .tuple #[]), (134, .tuple #[]), (135, .tuple #[]), (136, .tuple #[]), (137, .tuple #[]), (138, .tuple #[]), (139, .tuple #[]), (140, .tuple #[]), (141, .tuple #[]), (142, .tuple #[]), (143, .tuple #[]), (144, .tuple #[]), (145, .bool true)]) t_more (by kernel_rfl) ?_
                        refine fk_nil fun all => ?_
                        refine t_keep [7, 12, 13, 14, 15, 16, 17, 18, 113, 114, 115, 116, 117, 118, 119, 120, 121, 122, 123, 124, 125, 126, 129, 130, 131, 132, 133, 134, 135, 136, 137, 138, 139, 140, 141, 142, 143, 144, 145] (σ' := [(7, .bool t123), (12, .slice (ad N303) t301.length (nN303 / 1)), (13, .slice (ad N306) t304.length (nN306 / 1)), (14, .slice (ad N309) t307.length (nN309 / 1)), (15, .slice (ad N422) t420.length (nN422 / 1)), (16, .slice (ad N425) t423.length (nN425 / 1)), (17, .slice (ad N428) t426.length (nN428 / 1)), (18, .int .i64 0), (113, .slice (ad N428) t426.length (nN428 / 1)), (114, .int .i64 0), (115, .pointer (some ⟨bk N428, (0 : Int).toNat * 1 + 0, none⟩)), (116, .int .u64 x445), (117, .slice (ad N422) t420.length (nN422 / 1)), (118, .int .i64 0), (119, .pointer (some ⟨bk N422, (0 : Int).toNat * 1 + 0, none⟩)), (120, .int .u64 x447), (121, .slice (ad N425) t423.length (nN425 / 1)), (122, .int .i64 0), (123, .pointer (some ⟨bk N425, (0 : Int).toNat * 1 + 0, none⟩)), (124, .int .u64 x449), (125, .int .u64 (bits .or .u64 x447 x449)), (126, .bool true), (129, .tuple #[]), (130, .tuple #[]), (131, .tuple #[]), (132, .tuple #[]), (133, .tuple #[]), (134, .tuple #[]), (135, .tuple #[]), (136, .tuple #[]), (137, .tuple #[]), (138, .tuple #[]), (139, .tuple #[]), (140, .tuple #[]), (141, .tuple #[]), (142, .tuple #[]), (143, .tuple #[]), (144, .tuple #[]), (145, .bool true)]) (by kernel_rfl) ?_
                        refine t_end ?_
                        show W _ _ _ _ _ _ _
                        refine w_cond rfl (fun _ => ?_) (fun c_ => by cases c_)
                        show W _ _ _ _ _ _ _
                        refine w_seq ?_
                        refine w_reg fun all => ?_
                        refine t_qz 1 [6] (σ' := [(6, .bool false)]) (by kernel_rfl) ?_
                        refine t_end ?_
                        show W _ _ _ _ _ _ _
                        refine w_ret ?_
                        obtain rfl := Option.some.inj e436
                        have hr_ := Option.some.inj e
                        exact ⟨[.bool false], [], S, ⟨rfl, trivial⟩, VS.none, congrArg Value.bool hr_, rfl, rfl⟩
                    · rw [if_neg c444] at e436
                      have c444b : (x438 == (bits .xor .u64 x440 x442)) = false := beq_eq_false_iff_ne.mpr c444
                      refine w_drwE mixed 48 [.v (.slice (ad N309) t307.length (nN309 / 1)), .v (.int .i64 0), .v (.pointer (some ⟨bk N309, (0 : Int).toNat * 1 + 0, none⟩)), .v (.int .u64 x438), .v (.slice (ad N303) t301.length (nN303 / 1)), .v (.int .i64 0), .v (.pointer (some ⟨bk N303, (0 : Int).toNat * 1 + 0, none⟩)), .v (.int .u64 x440), .v (.slice (ad N306) t304.length (nN306 / 1)), .v (.int .i64 0), .v (.pointer (some ⟨bk N306, (0 : Int).toNat * 1 + 0, none⟩)), .v (.int .u64 x442), .v (.int .u64 (bits .xor .u64 x440 x442)), .v (.bool true), .v (.bool true), .v (.tuple #[]), .v (.tuple #[]), .v (.tuple #[]), .v (.tuple #[]), .v (.tuple #[]), .v (.tuple #[]), .v (.tuple #[]), .v (.tuple #[]), .v (.tuple #[]), .v (.tuple #[]), .v (.tuple #[]), .v (.tuple #[]), .v (.tuple #[]), .v (.tuple #[]), .v (.bool true), .v (.bool true), .v (.tuple #[]), .v (.tuple #[]), .v (.tuple #[]), .v (.tuple #[]), .v (.tuple #[]), .v (.tuple #[]), .v (.tuple #[]), .v (.tuple #[]), .v (.tuple #[]), .v (.tuple #[]), .v (.tuple #[]), .v (.tuple #[]), .v (.tuple #[]), .v (.tuple #[]), .v (.tuple #[]), .v (.tuple #[]), .v (.bool true)] (by kernel_rfl) ?_ ?_
                      · refine DI.sq 2 (by kernel_rfl) rfl ?_
                        refine .cons (.quietH rfl (by intro h_; cases h_) (ixl (E := E_u64) (j := 6) rfl rfl rfl (by decide) rfl hx439)) ?_
                        refine .cons (.ld1 rfl rfl rfl (.lst 6 rfl (encL_at (lgt_in hx439).1 rfl))) ?_
                        refine DI.sq 2 (by kernel_rfl) rfl ?_
                        refine .cons (.quietH rfl (by intro h_; cases h_) (ixl (E := E_u64) (j := 8) rfl rfl rfl (by decide) rfl hx441)) ?_
                        refine .cons (.ld1 rfl rfl rfl (.lst 8 rfl (encL_at (lgt_in hx441).1 rfl))) ?_
                        refine DI.sq 2 (by kernel_rfl) rfl ?_
                        refine .cons (.quietH rfl (by intro h_; cases h_) (ixl (E := E_u64) (j := 7) rfl rfl rfl (by decide) rfl hx443)) ?_
                        refine .cons (.ld1 rfl rfl rfl (.lst 7 rfl (encL_at (lgt_in hx443).1 rfl))) ?_
                        refine DI.sq 1 (by kernel_rfl) rfl ?_
                        refine .cons (dv_quiet rfl (congrArg (fun t => some (Value.bool (!t))) c444b)) ?_
                        refine DI.sq 34 (by kernel_rfl) rfl ?_
                        exact .nil
                      refine fk_q 48 [7, 12, 13, 14, 15, 16, 17, 18, 113, 114, 115, 116, 117, 118, 119, 120, 121, 122, 123, 124, 125, 126, 129, 130, 131, 132, 133, 134, 135, 136, 137, 138, 139, 140, 141, 142, 143, 144, 145] (σ' := [(7, .bool t123), (12, .slice (ad N303) t301.length (nN303 / 1)), (13, .slice (ad N306) t304.length (nN306 / 1)), (14, .slice (ad N309) t307.length (nN309 / 1)), (15, .slice (ad N422) t420.length (nN422 / 1)), (16, .slice (ad N425) t423.length (nN425 / 1)), (17, .slice (ad N428) t426.length (nN428 / 1)), (18, .int .i64 0), (113, .tuple #[]), (114, .tuple #[]), (115, .tuple #[]), (116, .tuple #[]), (117, .tuple #[]), (118, .tuple #[]), (119, .tuple #[]), (120, .tuple #[]), (121, .tuple #[]), (122, .tuple #[]), (123, .tuple #[]), (124, .tuple #[]), (125, .tuple #[]), (126, .tuple #[]), (129, .tuple #[]), (130, .tuple #[]), (131, .tuple #[]), (132, .tuple #[]), (133, .tuple #[]), (134, .tuple #[]), (135, .tuple #[]), (136, .tuple #[]), (137, .tuple #[]), (138, .tuple #[]), (139, .tuple #[]), (140, .tuple #[]), (141, .tuple #[]), (142, .tuple #[]), (143, .tuple #[]), (144, .tuple #[]), (145, .bool true)]) t_more (by kernel_rfl) ?_
                      refine fk_nil fun all => ?_
                      refine t_keep [7, 12, 13, 14, 15, 16, 17, 18, 113, 114, 115, 116, 117, 118, 119, 120, 121, 122, 123, 124, 125, 126, 129, 130, 131, 132, 133, 134, 135, 136, 137, 138, 139, 140, 141, 142, 143, 144, 145] (σ' := [(7, .bool t123), (12, .slice (ad N303) t301.length (nN303 / 1)), (13, .slice (ad N306) t304.length (nN306 / 1)), (14, .slice (ad N309) t307.length (nN309 / 1)), (15, .slice (ad N422) t420.length (nN422 / 1)), (16, .slice (ad N425) t423.length (nN425 / 1)), (17, .slice (ad N428) t426.length (nN428 / 1)), (18, .int .i64 0), (113, .tuple #[]), (114, .tuple #[]), (115, .tuple #[]), (116, .tuple #[]), (117, .tuple #[]), (118, .tuple #[]), (119, .tuple #[]), (120, .tuple #[]), (121, .tuple #[]), (122, .tuple #[]), (123, .tuple #[]), (124, .tuple #[]), (125, .tuple #[]), (126, .tuple #[]), (129, .tuple #[]), (130, .tuple #[]), (131, .tuple #[]), (132, .tuple #[]), (133, .tuple #[]), (134, .tuple #[]), (135, .tuple #[]), (136, .tuple #[]), (137, .tuple #[]), (138, .tuple #[]), (139, .tuple #[]), (140, .tuple #[]), (141, .tuple #[]), (142, .tuple #[]), (143, .tuple #[]), (144, .tuple #[]), (145, .bool true)]) (by kernel_rfl) ?_
                      refine t_end ?_
                      show W _ _ _ _ _ _ _
                      refine w_cond rfl (fun _ => ?_) (fun c_ => by cases c_)
                      show W _ _ _ _ _ _ _
                      refine w_seq ?_
                      refine w_reg fun all => ?_
                      refine t_qz 1 [6] (σ' := [(6, .bool false)]) (by kernel_rfl) ?_
                      refine t_end ?_
                      show W _ _ _ _ _ _ _
                      refine w_ret ?_
                      obtain rfl := Option.some.inj e436
                      have hr_ := Option.some.inj e
                      exact ⟨[.bool false], [], S, ⟨rfl, trivial⟩, VS.none, congrArg Value.bool hr_, rfl, rfl⟩
                  · rintro σ_ H_ S_ ⟨u_, rfl, rfl, rfl, rfl⟩
                    dsimp only at e
                    refine w_seq ?_
                    refine w_reg fun all => ?_
                    refine t_qz 2 [6] (σ' := [(6, .bool t123)]) (by kernel_rfl) ?_
                    refine t_end ?_
                    show W _ _ _ _ _ _ _
                    refine w_ret ?_
                    have hr_ := Option.some.inj e
                    exact ⟨[.bool t123], [], S, ⟨rfl, trivial⟩, VS.none, congrArg Value.bool hr_, rfl, rfl⟩
                · rw [if_neg c434] at e
                  exact absurd (Option.some.inj e) (by decide)
              · rw [if_neg c433] at e
                exact absurd (Option.some.inj e) (by decide)
            · rw [if_neg c432] at e
              exact absurd (Option.some.inj e) (by decide)
          · rw [if_neg c431] at e
            exact absurd (Option.some.inj e) (by decide)
        · rw [if_neg c430] at e
          exact absurd (Option.some.inj e) (by decide)
      · rw [if_neg c429] at e
        exact absurd (Option.some.inj e) (by decide)
  · rw [if_neg c125] at e
    exact absurd (Option.some.inj e) (by decide)

def glyphiclaw24_SweepParts.Pure : Prop := ∀ (t0 : List (Int)) (o1 : Int) (A2 : Int), (Lit.int .i64 o1).wf = true → (Lit.int .i64 A2).wf = true → ∃ k, glyphiclaw24_SweepParts.f k t0 o1 A2 = some true
theorem glyphiclaw24_SweepParts.walk (P : glyphiclaw24_SweepParts.Pure) (t0 : List (Int)) (o1 : Int) (A2 : Int) (w : World) {S : Seal} (hS : HOK [] S w) {a_t0 : Option Addr} {c_t0 : Nat} (h_t0 : SlI S .i64 t0 a_t0) (ho1 : (Lit.int .i64 o1).wf = true) (hA2 : (Lit.int .i64 A2).wf = true) :
    Calls Try.prog 13 #[.slice a_t0 t0.length c_t0, .int .i64 o1, .int .i64 A2] w fun e w' => e = .returned (.bool true) ∧ Below w.heap.size w w' := let ⟨k, h⟩ := P t0 o1 A2 ho1 hA2; law_w hS (glyphiclaw24_SweepParts.ok (SlI.e h_t0) (k := k) h)
end Go.Proofs.Ytpimfacaalkmdaa.QSweepParts
