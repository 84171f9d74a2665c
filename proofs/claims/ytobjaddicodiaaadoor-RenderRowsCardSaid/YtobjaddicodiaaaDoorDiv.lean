/- The plain law of long division by two half-digits (the school method that math/bits.Div64 uses): no program in sight. -/
namespace Go.Proofs
namespace Dv
theorem lt_b {u d y1 y0 : Int} (hu : u < y1 * 4294967296 + y0) (hd : d < 4294967296) (hy : 0 < y1 * 4294967296 + y0) : (u * 4294967296 + d) / (y1 * 4294967296 + y0) < 4294967296 := by
  apply Int.ediv_lt_of_lt_mul hy
  omega

theorem diff {q rh u d y1 y0 : Int} (h : q * y1 + rh = u) : u * 4294967296 + d - q * (y1 * 4294967296 + y0) = rh * 4294967296 + d - q * y0 := by
  subst h
  rw [Int.mul_add, Int.add_mul, Int.mul_assoc]
  omega

theorem more_iff {q rh u d y1 y0 : Int} (h : q * y1 + rh = u) (hy : 0 < y1 * 4294967296 + y0) : (u * 4294967296 + d) / (y1 * 4294967296 + y0) < q ↔ 4294967296 * rh + d < q * y0 := by
  rw [Int.ediv_lt_iff_lt_mul hy]
  have := diff (d := d) (y0 := y0) h
  omega

structure Inv (u d y1 y0 q rh : Int) : Prop where
  sum : q * y1 + rh = u
  r0 : 0 ≤ rh
  r1 : rh < 4294967296
  q0 : (u * 4294967296 + d) / (y1 * 4294967296 + y0) ≤ q
  q1 : q ≤ 4294967297

structure Ok (u d y1 y0 : Int) : Prop where
  u0 : 0 ≤ u
  u1 : u < y1 * 4294967296 + y0
  d0 : 0 ≤ d
  d1 : d < 4294967296
  a0 : 2147483648 ≤ y1
  a1 : y1 < 4294967296
  b0 : 0 ≤ y0
  b1 : y0 < 4294967296

theorem Ok.pos {u d y1 y0 : Int} (h : Ok u d y1 y0) : 0 < y1 * 4294967296 + y0 := by have := h.a0; have := h.b0; omega

theorem Ok.Q0 {u d y1 y0 : Int} (h : Ok u d y1 y0) : 0 ≤ (u * 4294967296 + d) / (y1 * 4294967296 + y0) := Int.ediv_nonneg (by have := h.u0; have := h.d0; omega) (by have := h.pos; omega)

theorem start {u d y1 y0 : Int} (h : Ok u d y1 y0) : Inv u d y1 y0 (u / y1) (u - u / y1 * y1) := by
  have a0 := h.a0; have a1 := h.a1; have b0 := h.b0; have b1 := h.b1; have u0 := h.u0; have u1 := h.u1; have d0 := h.d0; have d1 := h.d1
  have e := Int.mul_ediv_add_emod u y1
  have m0 := Int.emod_nonneg u (show y1 ≠ 0 by omega)
  have m1 := Int.emod_lt_of_pos u (show 0 < y1 by omega)
  rw [Int.mul_comm] at e
  refine ⟨by omega, by omega, by omega, ?_, ?_⟩
  · by_cases hc : (u * 4294967296 + d) / (y1 * 4294967296 + y0) ≤ u / y1
    · exact hc
    · have hq : u / y1 + 1 ≤ (u * 4294967296 + d) / (y1 * 4294967296 + y0) := by omega
      have h2 := (Int.le_ediv_iff_mul_le h.pos).1 hq
      rw [Int.add_mul, Int.mul_add, Int.one_mul, ← Int.mul_assoc] at h2
      have h3 : 0 ≤ u / y1 * y0 := Int.mul_nonneg (Int.ediv_nonneg u0 (by omega)) b0
      omega
  · apply Int.lt_add_one_iff.1
    apply Int.ediv_lt_of_lt_mul (by omega)
    omega

theorem Inv.test {u d y1 y0 q rh : Int} (h : Ok u d y1 y0) (i : Inv u d y1 y0 q rh) : (u * 4294967296 + d) / (y1 * 4294967296 + y0) < q ↔ (4294967296 ≤ q ∨ 4294967296 * rh + d < q * y0) := by
  have h1 := more_iff (d := d) (y0 := y0) i.sum h.pos
  have h2 := lt_b h.u1 h.d1 h.pos
  constructor
  · intro hq
    exact Or.inr (h1.1 hq)
  · rintro (hq | hq)
    · omega
    · exact h1.2 hq

/-- One round down: the invariant again, or done. -/
theorem Inv.next {u d y1 y0 q rh : Int} (h : Ok u d y1 y0) (i : Inv u d y1 y0 q rh) (hq : (u * 4294967296 + d) / (y1 * 4294967296 + y0) < q) :
    (rh + y1 < 4294967296 → Inv u d y1 y0 (q - 1) (rh + y1)) ∧ (¬ rh + y1 < 4294967296 → q - 1 = (u * 4294967296 + d) / (y1 * 4294967296 + y0)) := by
  have hs : (q - 1) * y1 + (rh + y1) = u := by have := i.sum; rw [Int.sub_mul]; omega
  have a0 := h.a0; have r0 := i.r0; have q1 := i.q1
  refine ⟨fun hr => ⟨hs, by omega, hr, by omega, by omega⟩, fun hr => ?_⟩
  by_cases hc : (u * 4294967296 + d) / (y1 * 4294967296 + y0) < q - 1
  · have h1 := (more_iff (d := d) (y0 := y0) hs h.pos).1 hc
    have h2 : (q - 1) * y0 ≤ 4294967296 * y0 := Int.mul_le_mul_of_nonneg_right (by omega) h.b0
    have b1 := h.b1; have d0 := h.d0
    omega
  · omega

theorem Inv.done {u d y1 y0 q rh : Int} (h : Ok u d y1 y0) (i : Inv u d y1 y0 q rh) (h1 : ¬ 4294967296 ≤ q) (h2 : ¬ 4294967296 * rh + d < q * y0) : q = (u * 4294967296 + d) / (y1 * 4294967296 + y0) := by
  have h3 := i.q0
  have h4 : ¬ (u * 4294967296 + d) / (y1 * 4294967296 + y0) < q := fun hc => by
    have := (i.test h).1 hc
    omega
  omega

/-- The product that the test forms does not wrap. -/
theorem Inv.prod {u d y1 y0 q rh : Int} (h : Ok u d y1 y0) (i : Inv u d y1 y0 q rh) (h1 : ¬ 4294967296 ≤ q) : 0 ≤ q ∧ 0 ≤ q * y0 ∧ q * y0 ≤ 18446744065119617025 := by
  have q0 : 0 ≤ q := Int.le_trans h.Q0 i.q0
  have b0 := h.b0; have b1 := h.b1
  exact ⟨q0, Int.mul_nonneg q0 b0, Int.le_trans (Int.mul_le_mul (show q ≤ 4294967295 by omega) (show y0 ≤ 4294967295 by omega) b0 (by omega)) (by omega)⟩

/-- Two steps are the whole division. -/
theorem two {u d1 d0 y : Int} (hy : 0 < y) : (u * 4294967296 + d1) / y * 4294967296 + ((u * 4294967296 + d1) % y * 4294967296 + d0) / y = ((u * 4294967296 + d1) * 4294967296 + d0) / y ∧
    ((u * 4294967296 + d1) % y * 4294967296 + d0) % y = ((u * 4294967296 + d1) * 4294967296 + d0) % y := by
  have e := Int.mul_ediv_add_emod (u * 4294967296 + d1) y
  generalize (u * 4294967296 + d1) / y = q at *
  generalize (u * 4294967296 + d1) % y = r at *
  rw [← e]
  have e2 : (y * q + r) * 4294967296 + d0 = r * 4294967296 + d0 + y * (q * 4294967296) := by rw [Int.add_mul, Int.mul_assoc]; omega
  rw [e2, Int.add_mul_ediv_left _ _ (by omega), Int.add_mul_emod_self_left]
  omega
end Dv
end Go.Proofs
