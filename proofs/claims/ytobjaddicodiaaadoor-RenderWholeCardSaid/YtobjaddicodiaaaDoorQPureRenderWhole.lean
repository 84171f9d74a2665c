/- RenderWhole: the plain law. -/
import Derived.Test.YtobjaddicodiaaaDoorQRenderWholex3
import Derived.OpenShut
namespace Go.Proofs.YtobjaddicodiaaaDoor.Pure
open Go Go.RowKit Go.Proofs.YtobjaddicodiaaaDoor.QRenderWhole Go.Proofs.YtobjaddicodiaaaDoorE Go.Proofs.YtobjaddicodiaaaDoorX
set_option linter.unusedVariables false
set_option linter.unusedSimpArgs false

theorem bind_of {α β : Type} {o : Option α} {f : α → Option β} {x : α} {r : Option β} (h : o = some x) (h2 : f x = r) : o.bind f = r := by
  subst h
  exact h2

theorem div_is {a b q : Int} (hb : 0 < b) (h1 : q * b ≤ a) (h2 : a < q * b + b) : a / b = q := by
  apply Int.le_antisymm
  · exact Int.lt_add_one_iff.1 (Int.ediv_lt_of_lt_mul hb (by rw [Int.add_mul, Int.one_mul]; exact h2))
  · exact Int.le_ediv_of_mul_le hb h1

theorem div_in (a : Int) {b : Int} (hb : 0 < b) : a / b * b ≤ a ∧ a < a / b * b + b := by
  have h1 := Int.mul_ediv_add_emod a b
  have h2 := Int.emod_nonneg a (Int.ne_of_gt hb)
  have h3 := Int.emod_lt_of_pos a hb
  rw [Int.mul_comm] at h1
  omega

theorem div_bd (a : Int) {b : Int} (hb : 0 < b) : (0 ≤ a → 0 ≤ a / b ∧ a / b ≤ a) ∧ (a < 0 → a ≤ a / b ∧ a / b < 0) := by
  obtain ⟨h1, h2⟩ := div_in a hb
  refine ⟨fun h => ⟨Int.ediv_nonneg h (by omega), Int.ediv_le_self _ h⟩, fun h => ⟨?_, Int.ediv_neg_of_neg_of_pos h hb⟩⟩
  exact Int.le_ediv_of_mul_le hb (by
    have : a * b ≤ a * 1 := Int.mul_le_mul_of_nonpos_left (by omega) (by omega)
    omega)

theorem tmod_in (a : Int) {b : Int} (hb : 0 < b) : -b < Int.tmod a b ∧ Int.tmod a b < b := by
  rw [Int.tmod_eq_emod]
  have h2 := Int.emod_nonneg a (show b ≠ 0 by omega)
  have h3 := Int.emod_lt_of_pos a hb
  split
  · omega
  · have : ((b.natAbs : Nat) : Int) = b := by omega
    rename_i h
    have hne : a % b ≠ 0 := fun h0 => h (Or.inr (Int.dvd_of_emod_eq_zero h0))
    omega

theorem tmod_pos {a b : Int} (ha : 0 ≤ a) : Int.tmod a b = a % b := by
  rw [Int.tmod_eq_emod, if_pos (Or.inl ha)]; omega

theorem cyc (a : Int) {b : Int} (hb : 0 < b) (hb1 : b ≤ 4611686018427387903) : ∃ s, Int.tmod (wr64 (Int.tmod a b + b)) b = s ∧ 0 ≤ s ∧ s < b := by
  have h := tmod_in a hb
  refine ⟨_, rfl, ?_⟩
  rw [w64 (by omega) (by omega), tmod_pos (by omega)]
  exact ⟨Int.emod_nonneg _ (by omega), Int.emod_lt_of_pos _ hb⟩

/-- The nearest of a part, of two the greater. -/
def rnd (a b : Int) : Int := (2 * a + b) / (2 * b)

theorem rnd_is {a b q : Int} (hb : 0 < b) (h1 : 2 * (q * b) ≤ 2 * a + b) (h2 : 2 * a < 2 * (q * b) + b) : rnd a b = q := by
  unfold rnd
  apply div_is (by omega)
  · rw [Int.mul_left_comm]; omega
  · rw [Int.mul_left_comm]; omega

theorem rnd_in (a : Int) {b : Int} (hb : 0 < b) : 2 * (rnd a b * b) ≤ 2 * a + b ∧ 2 * a < 2 * (rnd a b * b) + b := by
  unfold rnd
  obtain ⟨h1, h2⟩ := div_in (2 * a + b) (b := 2 * b) (by omega)
  rw [Int.mul_left_comm] at h1 h2
  omega

theorem rnd_mono {a c b : Int} (hb : 0 < b) (h : a ≤ c) : rnd a b ≤ rnd c b := by
  unfold rnd
  exact Int.ediv_le_ediv (by omega) (by omega)

theorem down_f {a b : Int} (hb : 1 ≤ b) (ha0 : -9223372036854775808 ≤ a) (ha1 : a ≤ 9223372036854775807) : fixed_Down.f a b = some (a / b) := by
  unfold fixed_Down.f
  rw [if_neg (by omega), if_neg (by omega)]
  have hbd := div_bd a (b := b) (by omega)
  by_cases h : 0 ≤ a ∨ b ∣ a
  · have e1 : Int.tdiv a b = a / b := by rw [Int.tdiv_eq_ediv, if_pos h]; omega
    have e2 : Int.tmod a b = a % b := by rw [Int.tmod_eq_emod, if_pos h]; omega
    have h2 := Int.emod_nonneg a (show b ≠ 0 by omega)
    rw [e1, e2, if_neg (by omega), w64 (by omega) (by omega)]
  · have e1 : Int.tdiv a b = a / b + 1 := by rw [Int.tdiv_eq_ediv, if_neg h, Int.sign_eq_one_of_pos (by omega)]
    have e2 : Int.tmod a b = a % b - b := by rw [Int.tmod_eq_emod, if_neg h]; omega
    have h3 := Int.emod_lt_of_pos a (show 0 < b by omega)
    rw [e1, e2, if_pos (by omega), w64 (n := a / b + 1) (by omega) (by omega), w64 (by omega) (by omega)]
    congr 1
    omega

theorem round_f {a b : Int} (hb : 1 ≤ b) (hb1 : b ≤ 9223372036854775807) (ha0 : -9223372036854775808 ≤ a) (ha1 : a ≤ 9223372036854775807) : fixed_Round.f a b = some (rnd a b) := by
  unfold fixed_Round.f
  rw [if_neg (by omega), down_f hb ha0 ha1]
  simp only [Option.bind_some]
  obtain ⟨h1, h2⟩ := div_in a (b := b) (by omega)
  have hbd := div_bd a (b := b) (by omega)
  have e : wr64 (a - wr64 (a / b * b)) = a - a / b * b := by
    simp only [wr64_eq]
    omega
  rw [e, w64 (n := b - (a - a / b * b)) (by omega) (by omega)]
  by_cases h : a - a / b * b ≥ b - (a - a / b * b)
  · rw [if_pos h]
    have h3 : a / b + 1 ≤ 9223372036854775807 := by
      by_cases hq : a / b < 9223372036854775807
      · omega
      · by_cases h1b : b = 1
        · subst h1b; omega
        · have : a / b * 2 ≤ a / b * b := Int.mul_le_mul_of_nonneg_left (by omega) (by omega)
          omega
    rw [w64 (by omega) h3, rnd_is (q := a / b + 1) (by omega)]
    · rw [Int.add_mul]; omega
    · rw [Int.add_mul]; omega
  · rw [if_neg h, rnd_is (q := a / b) (by omega)]
    · omega
    · omega

theorem rnd_near (a : Int) {b : Int} (hb : 0 < b) : rnd a b = a / b ∨ rnd a b = a / b + 1 := by
  obtain ⟨h1, h2⟩ := div_in a hb
  by_cases h : 2 * (a - a / b * b) < b
  · left
    exact rnd_is hb (by omega) (by omega)
  · right
    exact rnd_is hb (by rw [Int.add_mul]; omega) (by rw [Int.add_mul]; omega)

theorem rnd_next (a : Int) {b : Int} (hb : 0 < b) : rnd (a + b) b = rnd a b + 1 := by
  obtain ⟨h1, h2⟩ := rnd_in a hb
  exact rnd_is hb (by rw [Int.add_mul]; omega) (by rw [Int.add_mul]; omega)

theorem rnd_0 {b : Int} (hb : 0 < b) : rnd 0 b = 0 := rnd_is hb (by omega) (by omega)

theorem rnd_self {x b : Int} (hb : 0 < b) : rnd (x * b) b = x := rnd_is hb (by omega) (by omega)

theorem rnd_part {x b m : Int} (hb : 0 < b) (h0 : 0 ≤ x) (h1 : x ≤ m * b) : 0 ≤ rnd x b ∧ rnd x b ≤ m := by
  have a := rnd_mono hb h0
  have c := rnd_mono hb h1
  rw [rnd_0 hb] at a
  rw [rnd_self hb] at c
  exact ⟨a, c⟩

/-- A part of a color: from none to all. -/
def P16 (x : Int) : Prop := 0 ≤ x ∧ x ≤ 65535

theorem mul16 {x y : Int} (hx : P16 x) (hy : P16 y) : 0 ≤ x * y ∧ x * y ≤ 65535 * 65535 :=
  ⟨Int.mul_nonneg hx.1 hy.1, Int.mul_le_mul hx.2 hy.2 hy.1 (by omega)⟩

theorem round16 {x y : Int} (hx : P16 x) (hy : P16 y) : fixed_Round.f (wr64 (x * y)) 65535 = some (rnd (x * y) 65535) ∧ P16 (rnd (x * y) 65535) := by
  have h := mul16 hx hy
  rw [w64 (by omega) (by omega), round_f (by omega) (by omega) (by omega) (by omega)]
  exact ⟨rfl, rnd_part (by omega) h.1 h.2⟩

/-- How much it covers. -/
def cov (v c : Int) : Int := rnd (v * c) 64

theorem cov_f {v c : Int} (hv : P16 v) (c0 : 0 ≤ c) (c1 : c ≤ 64) : fixed_Round.f (wr64 (v * c)) 64 = some (cov v c) ∧ P16 (cov v c) := by
  have h1 : v * c ≤ 65535 * 64 := Int.mul_le_mul hv.2 c1 c0 (by omega)
  have h0 : 0 ≤ v * c := Int.mul_nonneg hv.1 c0
  rw [w64 (by omega) (by omega), round_f (by omega) (by omega) (by omega) (by omega)]
  exact ⟨rfl, rnd_part (by omega) h0 h1⟩

/-- One part over another one. -/
def ch (u v a : Int) : Int := mn (rnd (v * a) 65535 + rnd (u * (65535 - a)) 65535) 65535

theorem ch_bd {u v a : Int} (hu : P16 u) (hv : P16 v) (ha : P16 a) : P16 (ch u v a) := by
  have h1 := (round16 hv ha).2
  have h2 := (round16 (y := 65535 - a) hu ⟨by have := ha.2; omega, by have := ha.1; omega⟩).2
  unfold P16 ch mn at *
  split <;> omega

theorem rnd_all (a : Int) : rnd (65535 * a) 65535 = a := by
  rw [Int.mul_comm]
  exact rnd_self (by omega)

theorem over_f {u0 u1 u2 u3 v0 v1 v2 v3 c : Int} (hu0 : P16 u0) (hu1 : P16 u1) (hu2 : P16 u2) (hu3 : P16 u3) (hv0 : P16 v0) (hv1 : P16 v1) (hv2 : P16 v2) (hv3 : P16 v3) (c0 : 0 ≤ c) (c1 : c ≤ 64) :
    blend_Over.f u0 u1 u2 u3 v0 v1 v2 v3 c = some (ch u0 v0 (cov v3 c), ch u1 v1 (cov v3 c), ch u2 v2 (cov v3 c), ch u3 65535 (cov v3 c)) := by
  obtain ⟨A, hA⟩ := cov_f hv3 c0 c1
  unfold blend_Over.f
  refine bind_of A ?_
  have hB : P16 (65535 - cov v3 c) := ⟨by have := hA.2; omega, by have := hA.1; omega⟩
  have h65 : P16 65535 := ⟨by omega, by omega⟩
  have eB : wr64 (65535 - cov v3 c) = 65535 - cov v3 c := w64 (by have := hB.1; omega) (by have := hB.2; omega)
  rw [eB]
  have s : ∀ {u v : Int}, P16 u → P16 v → wr64 (rnd (v * cov v3 c) 65535 + rnd (u * (65535 - cov v3 c)) 65535) = rnd (v * cov v3 c) 65535 + rnd (u * (65535 - cov v3 c)) 65535 := by
    intro u v hu hv
    have h1 := (round16 hv hA).2
    have h2 := (round16 hu hB).2
    unfold P16 at h1 h2
    exact w64 (by omega) (by omega)
  refine bind_of (round16 hv0 hA).1 (bind_of (round16 hu0 hB).1 (bind_of (round16 hv1 hA).1 (bind_of (round16 hu1 hB).1 (bind_of (round16 hv2 hA).1 (bind_of (round16 hu2 hB).1 (bind_of (round16 h65 hA).1 (bind_of (round16 hu3 hB).1 ?_)))))))
  rw [s hu0 hv0, s hu1 hv1, s hu2 hv2, s hu3 h65]
  rfl

/-- A part as a byte. -/
def fin (x a : Int) : Int := mn (rnd (x * 255) a) 255 % 256

theorem final_f {v0 v1 v2 v3 : Int} (h0 : P16 v0) (h1 : P16 v1) (h2 : P16 v2) (h3 : P16 v3) :
    blend_Final.f v0 v1 v2 v3 = some (if v3 = 0 then (0, 0, 0, 0) else (fin v0 v3, fin v1 v3, fin v2 v3, rnd v3 257 % 256)) := by
  unfold blend_Final.f
  unfold P16 at *
  have r3 : fixed_Round.f v3 257 = some (rnd v3 257) := round_f (by omega) (by omega) (by omega) (by omega)
  rw [w64 (n := v0 * 255) (by omega) (by omega), w64 (n := v1 * 255) (by omega) (by omega), w64 (n := v2 * 255) (by omega) (by omega)]
  by_cases hz : v3 = 0
  · rw [if_pos hz]
    have z : ∀ x : Int, fixed_Round.f x v3 = some 0 := fun x => by unfold fixed_Round.f; rw [if_pos (by omega)]
    refine bind_of r3 (bind_of (z _) (bind_of (z _) (bind_of (z _) ?_)))
    subst hz
    decide +kernel
  · rw [if_neg hz]
    refine bind_of r3 (bind_of (round_f (by omega) (by omega) (by omega) (by omega)) (bind_of (round_f (by omega) (by omega) (by omega) (by omega)) (bind_of (round_f (by omega) (by omega) (by omega) (by omega)) ?_)))
    rfl

theorem byte_back {r a : Int} (r0 : 0 ≤ r) (r1 : r ≤ 255) (a0 : 1 ≤ a) (_a1 : a ≤ 255) : fin (ch 0 (257 * r) (257 * a)) (257 * a) = r := by
  have hr : P16 (257 * r) := ⟨by omega, by omega⟩
  have ha : P16 (257 * a) := ⟨by omega, by omega⟩
  have e : ch 0 (257 * r) (257 * a) = rnd (66049 * (r * a)) 65535 := by
    have h := (round16 hr ha).2
    unfold ch
    rw [Int.zero_mul, rnd_0 (by omega)]
    unfold P16 at h
    have e1 : 257 * r * (257 * a) = 66049 * (r * a) := by grind
    rw [e1] at h ⊢
    unfold mn
    split <;> omega
  have R := rnd_in (66049 * (r * a)) (b := 65535) (by omega)
  rw [e]
  generalize rnd (66049 * (r * a)) 65535 = C at *
  have q : rnd (C * 255) (257 * a) = r := by
    have e2 : r * (257 * a) = 257 * (r * a) := by grind
    exact rnd_is (by omega) (by omega) (by omega)
  unfold fin
  rw [q]
  unfold mn
  split <;> omega

theorem byte_same {r : Int} (r0 : 0 ≤ r) (r1 : r ≤ 255) : fin (257 * r) 65535 = r := by
  have q : rnd (257 * r * 255) 65535 = r := rnd_is (by omega) (by omega) (by omega)
  unfold fin
  rw [q]
  unfold mn
  split <;> omega

/-- A square's edges. -/
def sqE (W : Int) : List (Int × Int × Int × Int) := [(0, 0, W, 0), (W, 0, W, W), (W, W, 0, W), (0, W, 0, 0)]

instance decT : DecidableEq (Int × Int × Int × Int × Int × Int × Int × Int × Int × Int × Int × Int × Int × Int × Int × Int × Int × Int × Int × Int × Int × Int × Int × Int × List (Int × Int × Int × Int)) := by
  repeat (refine @instDecidableEqProd _ _ inferInstance ?_)
  infer_instance

theorem sq_c : ∀ a : Fin 50, ∀ b : Fin 9,
    render_Edges_v2.f (((a.val : Nat) : Int) + 1) (((a.val : Nat) : Int) + 1) (((b.val : Nat) : Int) + 1) (((a.val : Nat) : Int) + 1) (((a.val : Nat) : Int) + 1) (((a.val : Nat) : Int) + 1) (((a.val : Nat) : Int) + 1) = some (4, 0)
    ∧ render_layers_v2.f 101 (((a.val : Nat) : Int) + 1) (((a.val : Nat) : Int) + 1) (((b.val : Nat) : Int) + 1) (((a.val : Nat) : Int) + 1) (((a.val : Nat) : Int) + 1) (((a.val : Nat) : Int) + 1) (((a.val : Nat) : Int) + 1)
      = some (0, 0, 0, 0, 0, 0, 256 * (((b.val : Nat) : Int) + 1), 0, 0, 0, 0, 0, 256 * (((b.val : Nat) : Int) + 1), 256 * (((b.val : Nat) : Int) + 1), 0, 0, 0, 0, 0, 256 * (((b.val : Nat) : Int) + 1), 0, 0, 0, 0, sqE (256 * (((b.val : Nat) : Int) + 1)))
    ∧ scale_Height_v1.f (((a.val : Nat) : Int) + 1) (((a.val : Nat) : Int) + 1) 0 (((b.val : Nat) : Int) + 1) = some (((b.val : Nat) : Int) + 1) := by decide +kernel

theorem mask_c : ∀ b : Fin 9, ∀ y : Fin 9, y.val ≤ b.val →
    render_layer_masks_v1.f (100 - y.val) 0 0 0 0 (sqE (256 * (((b.val : Nat) : Int) + 1))) ((y.val : Nat) : Int) (((b.val : Nat) : Int) + 1) = some (List.replicate (b.val + 1) 18446744073709551615) := by decide +kernel

theorem set_mid {T : Type} (i n : Nat) (P Z : T) : (List.replicate i P ++ List.replicate (n + 1) Z).set i P = List.replicate (i + 1) P ++ List.replicate n Z := by
  induction i with
  | zero => rfl
  | succ i ih =>
    have h : (P :: (List.replicate i P ++ List.replicate (n + 1) Z)).set (i + 1) P = P :: (List.replicate (i + 1) P ++ List.replicate n Z) := by rw [List.set_cons_succ, ih]
    exact h

theorem get_mid {T : Type} (i n : Nat) (P Z : T) : (List.replicate i P ++ List.replicate (n + 1) Z)[i]? = some Z := by
  induction i with
  | zero => rfl
  | succ i ih =>
    have h : (P :: (List.replicate i P ++ List.replicate (n + 1) Z))[i + 1]? = some Z := by rw [List.getElem?_cons_succ, ih]
    exact h

theorem lgt_n {T : Type} {L : List T} {i : Nat} {x : T} (h : L[i]? = some x) : lgt L (i : Int) = some x := by
  unfold lgt
  rw [if_neg (by omega), Int.toNat_natCast, h]

theorem lput_n {T : Type} {L : List T} {i : Nat} {x : T} (h : i < L.length) : lput L (i : Int) x = some (L.set i x) := by
  unfold lput
  rw [if_pos ⟨by omega, by omega⟩, Int.toNat_natCast]

theorem lapp_n {T : Type} {L X : List T} (h : L.length + X.length ≤ 4294967296) : lapp L X = some (L ++ X) := if_pos h

/-- A list over and over. -/
def rep {T : Type} : Nat → List T → List T
  | 0, _ => []
  | n + 1, X => X ++ rep n X

theorem rep_len {T : Type} (n : Nat) (X : List T) : (rep n X).length = n * X.length := by
  induction n with
  | zero => exact (Nat.zero_mul _).symm
  | succ n ih =>
    show (X ++ rep n X).length = _
    rw [List.length_append, ih, Nat.succ_mul, Nat.add_comm]

theorem rep_add {T : Type} (n m : Nat) (X : List T) : rep n X ++ rep m X = rep (n + m) X := by
  induction n with
  | zero => rw [Nat.zero_add]; rfl
  | succ n ih =>
    rw [Nat.succ_add]
    show (X ++ rep n X) ++ rep m X = X ++ rep (n + m) X
    rw [List.append_assoc, ih]

theorem rep_rep {T : Type} (n m : Nat) (X : List T) : rep n (rep m X) = rep (n * m) X := by
  induction n with
  | zero => rw [Nat.zero_mul]; rfl
  | succ n ih =>
    show rep m X ++ rep n (rep m X) = _
    rw [ih, rep_add, Nat.succ_mul, Nat.add_comm]

theorem rep4 (r g b a : Int) : ∀ (n i : Nat), i < n → (rep n [r, g, b, a])[4 * i]? = some r ∧ (rep n [r, g, b, a])[4 * i + 1]? = some g ∧ (rep n [r, g, b, a])[4 * i + 2]? = some b ∧ (rep n [r, g, b, a])[4 * i + 3]? = some a := by
  intro n
  induction n with
  | zero => intro i h; omega
  | succ n ih =>
    intro i h
    cases i with
    | zero => exact ⟨rfl, rfl, rfl, rfl⟩
    | succ i =>
      have q := ih i (by omega)
      have e : 4 * (i + 1) = 4 * i + 1 + 1 + 1 + 1 := by omega
      rw [e]
      exact q

theorem lgt_at {T : Type} {L : List T} {x : Int} {i : Nat} {v : T} (e : x = (i : Int)) (h : L[i]? = some v) : lgt L x = some v := by
  subst e
  exact lgt_n h

theorem paint_c {k : Nat} {r g b a X Y : Int} (b0 : 0 ≤ r ∧ r ≤ 255) (b1 : 0 ≤ g ∧ g ≤ 255) (b2 : 0 ≤ b ∧ b ≤ 255) (b3 : 0 ≤ a ∧ a ≤ 255) :
    paint_At_v1.f k 0 0 0 0 X Y r g b a = some (257 * r, 257 * g, 257 * b, 257 * a) := by
  have h1 : paint_At_1_v1.f 0 r g b a = some (r, g, b, a) := by
    unfold paint_At_1_v1.f
    rw [if_neg (by decide), if_neg (by decide), if_pos rfl]
  have h2 : paint_Part.f k 0 0 0 0 0 0 0 X Y = some 0 := by
    unfold paint_Part.f
    rw [if_neg (by decide), if_neg (by decide)]
  have wd : color_Wide.f r g b a = some (257 * r, 257 * g, 257 * b, 257 * a) := by
    unfold color_Wide.f
    rw [w64 (n := r) (by omega) (by omega), w64 (n := g) (by omega) (by omega), w64 (n := b) (by omega) (by omega), w64 (n := a) (by omega) (by omega), w64 (n := 257 * r) (by omega) (by omega), w64 (n := 257 * g) (by omega) (by omega), w64 (n := 257 * b) (by omega) (by omega), w64 (n := 257 * a) (by omega) (by omega)]
  have one : ∀ x : Int, 0 ≤ x → x ≤ 65535 → fixed_Round.f (wr64 ((wr64 (x * (wr64 (65536 - 0)))) + (wr64 (x * 0)))) 65536 = some x := by
    intro x h0 h1
    rw [Int.mul_zero, Int.sub_zero, w64 (n := 65536) (by omega) (by omega), w64 (n := 0) (by omega) (by omega), w64 (n := x * 65536) (by omega) (by omega), Int.add_zero, w64 (n := x * 65536) (by omega) (by omega), round_f (by omega) (by omega) (by omega) (by omega), rnd_self (by omega)]
  unfold paint_At_v1.f
  refine bind_of h1 (bind_of h1 (bind_of h2 (bind_of (x := (257 * r, 257 * g, 257 * b, 257 * a)) ?_ rfl)))
  unfold paint_Mix.f
  exact bind_of wd (bind_of wd (bind_of (one _ (by omega) (by omega)) (bind_of (one _ (by omega) (by omega)) (bind_of (one _ (by omega) (by omega)) (bind_of (one _ (by omega) (by omega)) rfl)))))

/-- A pixel that a whole color was put over. -/
def Px (r g b a : Int) : Int × Int × Int × Int := (ch 0 (257 * r) (257 * a), ch 0 (257 * g) (257 * a), ch 0 (257 * b) (257 * a), 257 * a)
/-- What is seen of it. -/
def see (r g b a : Int) : List Int := if a = 0 then [0, 0, 0, 0] else [r, g, b, a]

theorem over_c {r g b a : Int} (b0 : 0 ≤ r ∧ r ≤ 255) (b1 : 0 ≤ g ∧ g ≤ 255) (b2 : 0 ≤ b ∧ b ≤ 255) (b3 : 0 ≤ a ∧ a ≤ 255) :
    blend_Over.f 0 0 0 0 (257 * r) (257 * g) (257 * b) (257 * a) 64 = some (Px r g b a) := by
  have z : P16 0 := ⟨by omega, by omega⟩
  have pr : P16 (257 * r) := ⟨by omega, by omega⟩
  have pg : P16 (257 * g) := ⟨by omega, by omega⟩
  have pb : P16 (257 * b) := ⟨by omega, by omega⟩
  have pa : P16 (257 * a) := ⟨by omega, by omega⟩
  rw [over_f z z z z pr pg pb pa (show (0 : Int) ≤ 64 by omega) (by omega)]
  have ca : cov (257 * a) 64 = 257 * a := rnd_self (by omega)
  have c3 : ch 0 65535 (257 * a) = 257 * a := by
    unfold ch
    rw [Int.zero_mul, rnd_0 (by omega), rnd_all]
    unfold mn
    split <;> omega
  rw [ca, c3]
  rfl

theorem final_c {r g b a : Int} (b0 : 0 ≤ r ∧ r ≤ 255) (b1 : 0 ≤ g ∧ g ≤ 255) (b2 : 0 ≤ b ∧ b ≤ 255) (b3 : 0 ≤ a ∧ a ≤ 255) :
    ∃ p q s t, blend_Final.f (Px r g b a).1 (Px r g b a).2.1 (Px r g b a).2.2.1 (Px r g b a).2.2.2 = some (p, q, s, t) ∧ [p, q, s, t] = see r g b a := by
  have z : P16 0 := ⟨by omega, by omega⟩
  have pr : P16 (257 * r) := ⟨by omega, by omega⟩
  have pg : P16 (257 * g) := ⟨by omega, by omega⟩
  have pb : P16 (257 * b) := ⟨by omega, by omega⟩
  have pa : P16 (257 * a) := ⟨by omega, by omega⟩
  have F := final_f (ch_bd z pr pa) (ch_bd z pg pa) (ch_bd z pb pa) pa
  unfold see
  by_cases ha : a = 0
  · rw [if_pos (by omega)] at F
    rw [if_pos ha]
    exact ⟨_, _, _, _, F, rfl⟩
  · have ra : rnd (257 * a) 257 % 256 = a := by
      have : rnd (257 * a) 257 = a := rnd_is (by omega) (by omega) (by omega)
      rw [this]
      omega
    rw [if_neg (by omega), byte_back b0.1 b0.2 (by omega) b3.2, byte_back b1.1 b1.2 (by omega) b3.2, byte_back b2.1 b2.2 (by omega) b3.2, ra] at F
    rw [if_neg ha]
    exact ⟨_, _, _, _, F, rfl⟩

theorem over_l {r g b a y : Int} (b0 : 0 ≤ r ∧ r ≤ 255) (b1 : 0 ≤ g ∧ g ≤ 255) (b2 : 0 ≤ b ∧ b ≤ 255) (b3 : 0 ≤ a ∧ a ≤ 255) {w : Nat} (hw : w ≤ 9) :
    ∀ (d i k : Nat), i + d = w → d < k → render_layer_over_v1.l0 k 0 0 0 0 y r g b a (List.replicate w 18446744073709551615) (i : Int) (List.replicate i (Px r g b a) ++ List.replicate d (0, 0, 0, 0)) = some (List.replicate w (Px r g b a)) := by
  intro d
  induction d with
  | zero =>
    intro i k hi hk
    obtain ⟨k, rfl⟩ : ∃ q, k = q + 1 := ⟨k - 1, by omega⟩
    unfold render_layer_over_v1.l0
    rw [if_neg (by rw [List.length_replicate]; omega)]
    have : i = w := by omega
    subst this
    rw [List.replicate_zero, List.append_nil]
  | succ d ih =>
    intro i k hi hk
    obtain ⟨k, rfl⟩ : ∃ q, k = q + 1 := ⟨k - 1, by omega⟩
    unfold render_layer_over_v1.l0
    rw [if_pos (by rw [List.length_replicate]; omega)]
    have g1 : (List.replicate w (18446744073709551615 : Int))[i]? = some 18446744073709551615 := by
      rw [List.getElem?_replicate, if_pos (by omega)]
    have g2 := lgt_n (get_mid i d (Px r g b a) (0, 0, 0, 0))
    have cn : sweep_Count.f 18446744073709551615 = some 64 := by decide +kernel
    refine bind_of (lgt_n g1) (bind_of cn ?_)
    rw [if_pos (by decide)]
    refine bind_of g2 (bind_of (paint_c b0 b1 b2 b3) (bind_of (over_c b0 b1 b2 b3) (bind_of g2 ?_)))
    refine bind_of (lput_n (by rw [List.length_append, List.length_replicate, List.length_replicate]; omega)) ?_
    have e : wr64 ((i : Int) + 1) = ((i + 1 : Nat) : Int) := by rw [w64 (by omega) (by omega)]; rfl
    rw [e]
    show render_layer_over_v1.l0 k 0 0 0 0 y r g b a _ _ ((List.replicate i (Px r g b a) ++ List.replicate (d + 1) (0, 0, 0, 0)).set i (Px r g b a)) = _
    rw [set_mid]
    exact ih (i + 1) k (by omega) (by omega)

theorem row_l {r g b a : Int} (b0 : 0 ≤ r ∧ r ≤ 255) (b1 : 0 ≤ g ∧ g ≤ 255) (b2 : 0 ≤ b ∧ b ≤ 255) (b3 : 0 ≤ a ∧ a ≤ 255) {w : Nat} (hw : w ≤ 9) :
    ∀ (d i k : Nat) (acc : List Int), i + d = w → d < k → acc.length ≤ 4 * i → render_row_v2.l0 k (List.replicate w (Px r g b a)) (i : Int) acc = some (acc ++ rep d (see r g b a)) := by
  intro d
  induction d with
  | zero =>
    intro i k acc hi hk _
    obtain ⟨k, rfl⟩ : ∃ q, k = q + 1 := ⟨k - 1, by omega⟩
    unfold render_row_v2.l0
    rw [if_neg (by rw [List.length_replicate]; omega)]
    show _ = some (acc ++ [])
    rw [List.append_nil]
  | succ d ih =>
    intro i k acc hi hk hl
    obtain ⟨k, rfl⟩ : ∃ q, k = q + 1 := ⟨k - 1, by omega⟩
    unfold render_row_v2.l0
    rw [if_pos (by rw [List.length_replicate]; omega)]
    have g1 : (List.replicate w (Px r g b a))[i]? = some (Px r g b a) := by
      rw [List.getElem?_replicate, if_pos (by omega)]
    obtain ⟨p, q, s, t, hF, hS⟩ := final_c b0 b1 b2 b3
    refine bind_of (lgt_n g1) (bind_of hF ?_)
    refine bind_of (lapp_n (X := [p, q, s, t]) (by have : [p, q, s, t].length = 4 := rfl; omega)) ?_
    have e : wr64 ((i : Int) + 1) = ((i + 1 : Nat) : Int) := by rw [w64 (by omega) (by omega)]; rfl
    rw [e]
    have hl2 : (acc ++ [p, q, s, t]).length ≤ 4 * (i + 1) := by rw [List.length_append]; have : [p, q, s, t].length = 4 := rfl; omega
    rw [ih (i + 1) k _ (by omega) (by omega) hl2, hS]
    show some ((acc ++ see r g b a) ++ rep d _) = some (acc ++ (see r g b a ++ rep d _))
    rw [List.append_assoc]

theorem see_len (r g b a : Int) : (see r g b a).length = 4 := by
  unfold see
  split <;> rfl

theorem row_c {r g b a : Int} (b0 : 0 ≤ r ∧ r ≤ 255) (b1 : 0 ≤ g ∧ g ≤ 255) (b2 : 0 ≤ b ∧ b ≤ 255) (b3 : 0 ≤ a ∧ a ≤ 255) (v y : Fin 9) (hy : y.val ≤ v.val) {n W : Int} (hW : W = 256 * (((v.val : Nat) : Int) + 1)) :
    render_row_v2.f (100 - y.val) n n (((v.val : Nat) : Int) + 1) ((y.val : Nat) : Int) r g b a 0 0 0 0 0 0 W 0 0 0 0 0 W W 0 0 0 0 0 W 0 0 0 0 (sqE W) = some (rep (v.val + 1) (see r g b a)) := by
  subst hW
  have hv := v.isLt
  have hY := y.isLt
  unfold render_row_v2.f
  have hm : lmk ((0, 0, 0, 0) : Int × Int × Int × Int) (((v.val : Nat) : Int) + 1) (((v.val : Nat) : Int) + 1) = some (List.replicate (v.val + 1) (0, 0, 0, 0)) := by
    unfold lmk
    rw [if_pos ⟨by omega, by omega, by omega⟩]
    rfl
  have hm2 : lmk (0 : Int) 0 (wr64 (4 * (((v.val : Nat) : Int) + 1))) = some [] := by
    unfold lmk
    rw [w64 (by omega) (by omega), if_pos ⟨by omega, by omega, by omega⟩]
    rfl
  have ho : render_layer_over_v1.f (100 - y.val) 0 0 0 0 ((y.val : Nat) : Int) (sqE (256 * (((v.val : Nat) : Int) + 1))) (List.replicate (v.val + 1) (0, 0, 0, 0)) r g b a = some (List.replicate (v.val + 1) (Px r g b a)) := by
    unfold render_layer_over_v1.f
    have hk := mask_c v y hy
    refine bind_of (x := List.replicate (v.val + 1) 18446744073709551615) (by rw [List.length_replicate]; exact hk) ?_
    exact over_l b0 b1 b2 b3 (by omega) (v.val + 1) 0 (100 - y.val) (by omega) (by omega)
  refine bind_of hm (bind_of (bind_of ho (bind_of (x := ()) (if_pos (by rw [List.length_replicate, List.length_replicate])) rfl)) (bind_of hm2 (bind_of ?_ rfl)))
  exact row_l b0 b1 b2 b3 (w := v.val + 1) (by omega) (v.val + 1) 0 (100 - y.val) [] (by omega) (by omega) (Nat.zero_le _)

theorem frame_l {r g b a : Int} (b0 : 0 ≤ r ∧ r ≤ 255) (b1 : 0 ≤ g ∧ g ≤ 255) (b2 : 0 ≤ b ∧ b ≤ 255) (b3 : 0 ≤ a ∧ a ≤ 255) (v : Fin 9) {n W : Int} (hW : W = 256 * (((v.val : Nat) : Int) + 1)) :
    ∀ (d y : Nat) (acc : List Int), y + d = v.val + 1 → acc.length ≤ 36 * y →
      render_Frame_v2.l0 (101 - y) n n (((v.val : Nat) : Int) + 1) r g b a 0 0 0 0 0 0 W 0 0 0 0 0 W W 0 0 0 0 0 W 0 0 0 0 (sqE W) (((v.val : Nat) : Int) + 1) (y : Int) acc [] = some (acc ++ rep d (rep (v.val + 1) (see r g b a)), []) := by
  have hv := v.isLt
  intro d
  induction d with
  | zero =>
    intro y acc hy _
    have e : 101 - y = (100 - y) + 1 := by omega
    rw [e]
    unfold render_Frame_v2.l0
    rw [if_neg (by omega)]
    show _ = some (acc ++ [], [])
    rw [List.append_nil]
  | succ d ih =>
    intro y acc hy hl
    have e : 101 - y = (100 - y) + 1 := by omega
    rw [e]
    unfold render_Frame_v2.l0
    rw [if_pos (by omega)]
    have hR := row_c b0 b1 b2 b3 v ⟨y, by omega⟩ (show y ≤ v.val by omega) (n := n) hW
    have hL : (rep (v.val + 1) (see r g b a)).length = (v.val + 1) * 4 := by rw [rep_len, see_len]
    refine bind_of hR (bind_of (lapp_n (by rw [hL]; omega)) ?_)
    have e1 : wr64 ((y : Int) + 1) = ((y + 1 : Nat) : Int) := by rw [w64 (by omega) (by omega)]; rfl
    have e2 : 100 - y = 101 - (y + 1) := by omega
    have hl2 : (acc ++ rep (v.val + 1) (see r g b a)).length ≤ 36 * (y + 1) := by rw [List.length_append, hL]; omega
    rw [e1, e2, ih (y + 1) _ (by omega) hl2]
    show some ((acc ++ rep _ _) ++ rep d _, _) = some (acc ++ (rep _ _ ++ rep d _), _)
    rw [List.append_assoc]

theorem frame_c {r g b a : Int} (b0 : 0 ≤ r ∧ r ≤ 255) (b1 : 0 ≤ g ∧ g ≤ 255) (b2 : 0 ≤ b ∧ b ≤ 255) (b3 : 0 ≤ a ∧ a ≤ 255) (u : Fin 50) (v : Fin 9) :
    render_Frame_v2.f 101 (((u.val : Nat) : Int) + 1) (((u.val : Nat) : Int) + 1) (((v.val : Nat) : Int) + 1) r g b a (((u.val : Nat) : Int) + 1) (((u.val : Nat) : Int) + 1) (((u.val : Nat) : Int) + 1) (((u.val : Nat) : Int) + 1)
      = some (((v.val : Nat) : Int) + 1, ((v.val : Nat) : Int) + 1, 0, rep ((v.val + 1) * (v.val + 1)) (see r g b a)) := by
  obtain ⟨hE, hL, hH⟩ := sq_c u v
  unfold render_Frame_v2.f
  refine bind_of hE ?_
  show (if (0 : Int) = 0 then _ else _) = _
  rw [if_pos rfl]
  refine bind_of hL (bind_of hH ?_)
  have F := frame_l b0 b1 b2 b3 v (n := ((u.val : Nat) : Int) + 1) rfl (v.val + 1) 0 [] (by omega) (Nat.zero_le _)
  refine bind_of F ?_
  show some (_, _, _, [] ++ rep _ (rep _ _)) = _
  rw [rep_rep]
  rfl

theorem law_l {r g b a : Int} (b3 : 0 ≤ a ∧ a ≤ 255) {m : Nat} (hm : m ≤ 81) :
    ∀ (d i k : Nat), i + d = m → d < k → glyphiclaw27_RenderWhole.l0 k r g b a (rep m (see r g b a)) (4 * (i : Int)) = some (.inr ()) := by
  have hL : (rep m (see r g b a)).length = m * 4 := by rw [rep_len, see_len]
  intro d
  induction d with
  | zero =>
    intro i k hi hk
    obtain ⟨k, rfl⟩ : ∃ q, k = q + 1 := ⟨k - 1, by omega⟩
    unfold glyphiclaw27_RenderWhole.l0
    rw [if_neg (by rw [hL]; omega)]
  | succ d ih =>
    intro i k hi hk
    obtain ⟨k, rfl⟩ : ∃ q, k = q + 1 := ⟨k - 1, by omega⟩
    unfold glyphiclaw27_RenderWhole.l0
    rw [if_pos (by rw [hL]; omega)]
    have next := ih (i + 1) k (by omega) (by omega)
    have e4 : wr64 (4 * (i : Int) + 4) = 4 * ((i + 1 : Nat) : Int) := by rw [w64 (by omega) (by omega)]; omega
    rw [w64 (n := 4 * (i : Int) + 1) (by omega) (by omega), w64 (n := 4 * (i : Int) + 2) (by omega) (by omega), w64 (n := 4 * (i : Int) + 3) (by omega) (by omega), e4]
    by_cases ha : a = 0
    · have hs : see r g b a = [0, 0, 0, 0] := by unfold see; rw [if_pos ha]
      rw [hs] at next ⊢
      obtain ⟨g0, g1, g2, g3⟩ := rep4 0 0 0 0 m i (by omega)
      refine bind_of (lgt_at (i := 4 * i) (by omega) g0) (bind_of (lgt_at (i := 4 * i + 1) (by omega) g1) (bind_of (lgt_at (i := 4 * i + 2) (by omega) g2) (bind_of (lgt_at (i := 4 * i + 3) (by omega) g3) ?_)))
      rw [if_pos ha, if_pos (by simp), if_neg (by omega)]
      exact next
    · have hs : see r g b a = [r, g, b, a] := by unfold see; rw [if_neg ha]
      rw [hs] at next ⊢
      obtain ⟨g0, g1, g2, g3⟩ := rep4 r g b a m i (by omega)
      refine bind_of (lgt_at (i := 4 * i) (by omega) g0) (bind_of (lgt_at (i := 4 * i + 1) (by omega) g1) (bind_of (lgt_at (i := 4 * i + 2) (by omega) g2) (bind_of (lgt_at (i := 4 * i + 3) (by omega) g3) ?_)))
      rw [if_neg ha, if_pos (by omega), if_pos (by simp)]
      exact next

theorem RenderWhole : glyphiclaw27_RenderWhole.Pure := by
  intro r g b a n w h0 h1 h2 h3 h4 h5
  have b0 := bounds_u8 h0
  have b1 := bounds_u8 h1
  have b2 := bounds_u8 h2
  have b3 := bounds_u8 h3
  have hf : glyphiclaw27_first.f 101 = some true := by decide +kernel
  refine ⟨101, ?_⟩
  unfold glyphiclaw27_RenderWhole.f
  refine bind_of hf ?_
  rw [if_pos rfl]
  obtain ⟨s, hs, s0, s1⟩ := cyc n (b := 50) (by omega) (by omega)
  obtain ⟨t, ht, t0, t1⟩ := cyc w (b := 9) (by omega) (by omega)
  obtain ⟨u, rfl⟩ : ∃ u : Fin 50, s = ((u.val : Nat) : Int) := ⟨⟨s.toNat, by omega⟩, by show s = ((s.toNat : Nat) : Int); omega⟩
  obtain ⟨v, rfl⟩ : ∃ v : Fin 9, t = ((v.val : Nat) : Int) := ⟨⟨t.toNat, by omega⟩, by show t = ((t.toNat : Nat) : Int); omega⟩
  rw [hs, ht, w64 (n := ((u.val : Nat) : Int) + 1) (by omega) (by omega), w64 (n := ((v.val : Nat) : Int) + 1) (by omega) (by omega)]
  have hv := v.isLt
  have hq : (v.val + 1) * (v.val + 1) ≤ 81 := Nat.mul_le_mul (show v.val + 1 ≤ 9 by omega) (show v.val + 1 ≤ 9 by omega)
  refine bind_of rfl (bind_of (frame_c b0 b1 b2 b3 u v) ?_)
  have hL : (rep ((v.val + 1) * (v.val + 1)) (see r g b a)).length = (v.val + 1) * (v.val + 1) * 4 := by rw [rep_len, see_len]
  have eW : wr64 (wr64 (4 * (((v.val : Nat) : Int) + 1)) * (((v.val : Nat) : Int) + 1)) = (((v.val + 1) * (v.val + 1) * 4 : Nat) : Int) := by
    have e1 : (((v.val + 1) * (v.val + 1) * 4 : Nat) : Int) = 4 * (((v.val : Nat) : Int) + 1) * (((v.val : Nat) : Int) + 1) := by
      rw [Nat.mul_comm, ← Nat.mul_assoc]
      rfl
    rw [w64 (n := 4 * (((v.val : Nat) : Int) + 1)) (by omega) (by omega), w64 (by omega) (by omega), e1]
  show (if (0 : Int) = 0 then _ else _) = _
  rw [if_pos rfl, if_pos rfl, if_pos rfl, if_pos (by rw [hL, eW])]
  exact bind_of (law_l b3 hq ((v.val + 1) * (v.val + 1)) 0 101 (by omega) (by omega)) rfl

end Go.Proofs.YtobjaddicodiaaaDoor.Pure
