/- Proved: SweepBits is true for every input. -/
import Derived.Test.YtbmphhejjmnccaaQSweepBitsx0
import Derived.OpenShut
namespace Go.Proofs.Ytbmphhejjmnccaa.Pure
open Go Go.RowKit Go.Proofs.Ytbmphhejjmnccaa.QSweepBits Go.Proofs.YtbmphhejjmnccaaE

theorem bind_of {α β : Type} {o : Option α} {f : α → Option β} {x : α} {r : Option β} (h : o = some x) (h2 : f x = r) : o.bind f = r := by
  subst h
  exact h2

theorem div_is {a b q : Int} (hb : 0 < b) (h1 : q * b ≤ a) (h2 : a < q * b + b) : a / b = q := by
  apply Int.le_antisymm
  · exact Int.lt_add_one_iff.1 (Int.ediv_lt_of_lt_mul hb (by rw [Int.add_mul, Int.one_mul]; exact h2))
  · exact Int.le_ediv_of_mul_le hb h1

theorem div_in (a : Int) {b : Int} (hb : 0 < b) : a / b * b ≤ a ∧ a < a / b * b + b := by
  have h1 := Int.mul_ediv_add_emod a b
  have h2 := Int.emod_nonneg a (Int.ne_of_gt hb)
  have h3 := Int.emod_lt_of_pos a hb
  rw [Int.mul_comm] at h1
  omega

theorem div_bd (a : Int) {b : Int} (hb : 0 < b) : (0 ≤ a → 0 ≤ a / b ∧ a / b ≤ a) ∧ (a < 0 → a ≤ a / b ∧ a / b < 0) := by
  obtain ⟨h1, h2⟩ := div_in a hb
  refine ⟨fun h => ⟨Int.ediv_nonneg h (by omega), Int.ediv_le_self _ h⟩, fun h => ⟨?_, Int.ediv_neg_of_neg_of_pos h hb⟩⟩
  exact Int.le_ediv_of_mul_le hb (by
    have : a * b ≤ a * 1 := Int.mul_le_mul_of_nonpos_left (by omega) (by omega)
    omega)

theorem tmod_in (a : Int) {b : Int} (hb : 0 < b) : -b < Int.tmod a b ∧ Int.tmod a b < b := by
  rw [Int.tmod_eq_emod]
  have h2 := Int.emod_nonneg a (show b ≠ 0 by omega)
  have h3 := Int.emod_lt_of_pos a hb
  split
  · omega
  · have : ((b.natAbs : Nat) : Int) = b := by omega
    rename_i h
    have hne : a % b ≠ 0 := fun h0 => h (Or.inr (Int.dvd_of_emod_eq_zero h0))
    omega

theorem tmod_pos {a b : Int} (ha : 0 ≤ a) : Int.tmod a b = a % b := by
  rw [Int.tmod_eq_emod, if_pos (Or.inl ha)]; omega

theorem cyc (a : Int) {b : Int} (hb : 0 < b) (hb1 : b ≤ 4611686018427387903) : ∃ s, Int.tmod (wr64 (Int.tmod a b + b)) b = s ∧ 0 ≤ s ∧ s < b := by
  have h := tmod_in a hb
  refine ⟨_, rfl, ?_⟩
  rw [w64 (by omega) (by omega), tmod_pos (by omega)]
  exact ⟨Int.emod_nonneg _ (by omega), Int.emod_lt_of_pos _ hb⟩

theorem and_mask (k : Nat) (hk : k ≤ 62) (n m : Int) (hm : m = 2 ^ k - 1) : Go.bits .and .i64 n m = n % 2 ^ k := by
  have hp : (2 : Int) ^ k ≤ 2 ^ 62 := by
    have : 2 ^ k ≤ 2 ^ 62 := Nat.pow_le_pow_right (by omega) hk
    have e : ((2 ^ k : Nat) : Int) = (2 : Int) ^ k := by simp
    omega
  have hp0 : (1 : Int) ≤ 2 ^ k := Int.pow_pos (by omega)
  have e : ((2 ^ k : Nat) : Int) = (2 : Int) ^ k := by simp
  have hb : (BitVec.ofInt 64 m).toNat = 2 ^ k - 1 := by
    rw [BitVec.toNat_ofInt, hm]
    omega
  have key : (BitVec.ofInt 64 n &&& BitVec.ofInt 64 m).toNat = (n % ((2 ^ 64 : Nat) : Int)).toNat % 2 ^ k := by
    rw [BitVec.toNat_and, BitVec.toNat_ofInt, hb, Nat.and_two_pow_sub_one_eq_mod]
  show IntKind.i64.wrap ((BitVec.ofInt 64 n &&& BitVec.ofInt 64 m).toNat : Nat) = n % 2 ^ k
  rw [key, IntKind.wrap_i64]
  have h1 : 0 ≤ n % 18446744073709551616 := by omega
  have h2 : (((n % ((2 ^ 64 : Nat) : Int)).toNat % 2 ^ k : Nat) : Int) = n % 18446744073709551616 % 2 ^ k := by
    rw [Int.natCast_emod, e, Int.toNat_of_nonneg (by omega)]
    rfl
  have h3 : n % 18446744073709551616 % 2 ^ k = n % 2 ^ k := by
    apply Int.emod_emod_of_dvd
    exact ⟨2 ^ (64 - k), by rw [← Int.pow_add, show k + (64 - k) = 64 by omega]; rfl⟩
  rw [h2, h3]
  have h4 := Int.emod_nonneg n (show (2 : Int) ^ k ≠ 0 by omega)
  have h5 := Int.emod_lt_of_pos n (show (0 : Int) < 2 ^ k by omega)
  omega

def rep (m : Nat) : Nat → Nat
  | 0 => 0
  | n + 1 => m + 256 * rep m n
def lift (F : Nat → Nat) : Nat → Nat → Nat
  | 0, _ => 0
  | n + 1, x => F (x % 256) + 256 * lift F n (x / 256)

theorem and_256 (a m : Nat) : a &&& m = (a % 256 &&& m % 256) + 256 * (a / 256 &&& m / 256) := by
  have h1 := Nat.and_mod_two_pow (a := a) (b := m) (n := 8)
  have h2 := Nat.and_div_two_pow (a := a) (b := m) (n := 8)
  have h3 := Nat.mod_add_div (a &&& m) 256
  rw [show (2 : Nat) ^ 8 = 256 from rfl] at h1 h2
  rw [h1, h2] at h3
  exact h3.symm

theorem st_and (n x m : Nat) (hm : m < 256) : x &&& rep m (n + 1) = (x % 256 &&& m) + 256 * (x / 256 &&& rep m n) := by
  rw [and_256, show rep m (n + 1) % 256 = m by rw [rep]; omega, show rep m (n + 1) / 256 = rep m n by rw [rep]; omega]

def g1 (y : Nat) : Nat := (y / 2 &&& 85) + (y &&& 85)
def g2 (y : Nat) : Nat := (y / 4 &&& 51) + (y &&& 51)
def c2 (y : Nat) : Nat := g2 (g1 y)
def g3 (y : Nat) : Nat := c2 y / 16 + c2 y % 16

theorem byte1 : ∀ r : Fin 256, ∀ c : Fin 2, (r.val / 2 + 128 * c.val) &&& 85 = r.val / 2 &&& 85 := by decide +kernel
theorem byte2 : ∀ r : Fin 256, ∀ c : Fin 4, (r.val / 4 + 64 * c.val) &&& 51 = r.val / 4 &&& 51 := by decide +kernel
theorem g1_lt : ∀ r : Fin 256, g1 r.val < 256 := by decide +kernel
theorem c2_le : ∀ r : Fin 256, c2 r.val % 16 ≤ 4 ∧ c2 r.val / 16 ≤ 4 := by decide +kernel

theorem stage1 : ∀ n x : Nat, (x / 2 &&& rep 85 n) + (x &&& rep 85 n) = lift g1 n x
  | 0, x => by simp [rep, lift]
  | n + 1, x => by
    have ih := stage1 n (x / 256)
    rw [st_and n (x / 2) 85 (by omega), st_and n x 85 (by omega), lift]
    have e1 : x / 2 % 256 = x % 256 / 2 + 128 * (x / 256 % 2) := by omega
    have e2 : x / 2 / 256 = x / 256 / 2 := by omega
    have b := byte1 ⟨x % 256, by omega⟩ ⟨x / 256 % 2, by omega⟩
    simp only at b
    rw [e1, e2, b, ← ih]
    unfold g1
    omega

theorem stage2 : ∀ n x : Nat, (x / 4 &&& rep 51 n) + (x &&& rep 51 n) = lift g2 n x
  | 0, x => by simp [rep, lift]
  | n + 1, x => by
    have ih := stage2 n (x / 256)
    rw [st_and n (x / 4) 51 (by omega), st_and n x 51 (by omega), lift]
    have e1 : x / 4 % 256 = x % 256 / 4 + 64 * (x / 256 % 4) := by omega
    have e2 : x / 4 / 256 = x / 256 / 4 := by omega
    have b := byte2 ⟨x % 256, by omega⟩ ⟨x / 256 % 4, by omega⟩
    simp only at b
    rw [e1, e2, b, ← ih]
    unfold g2
    omega

theorem stage12 : ∀ n x : Nat, lift g2 n (lift g1 n x) = lift c2 n x
  | 0, x => by simp [lift]
  | n + 1, x => by
    have ih := stage12 n (x / 256)
    have l := g1_lt ⟨x % 256, by omega⟩
    simp only at l
    rw [lift, lift, lift, show (g1 (x % 256) + 256 * lift g1 n (x / 256)) % 256 = g1 (x % 256) by omega, show (g1 (x % 256) + 256 * lift g1 n (x / 256)) / 256 = lift g1 n (x / 256) by omega, ih]
    rfl

theorem c2_low : ∀ n x : Nat, lift c2 n x % 16 ≤ 4
  | 0, x => by simp [lift]
  | n + 1, x => by
    have l := c2_le ⟨x % 256, by omega⟩
    simp only at l
    rw [lift]
    omega

theorem stage3 : ∀ n x : Nat, (lift c2 n x / 16 + lift c2 n x) &&& rep 15 n = lift g3 n x
  | 0, x => by simp [rep, lift]
  | n + 1, x => by
    have ih := stage3 n (x / 256)
    have lo := c2_low n (x / 256)
    have l := c2_le ⟨x % 256, by omega⟩
    simp only at l
    rw [st_and n _ 15 (by omega), lift, lift]
    generalize lift c2 n (x / 256) = v at *
    have e2 : ((c2 (x % 256) + 256 * v) / 16 + (c2 (x % 256) + 256 * v)) / 256 = v / 16 + v := by omega
    have e1 : ((c2 (x % 256) + 256 * v) / 16 + (c2 (x % 256) + 256 * v)) % 256 &&& 15 = g3 (x % 256) := by
      have h := Nat.and_two_pow_sub_one_eq_mod (((c2 (x % 256) + 256 * v) / 16 + (c2 (x % 256) + 256 * v)) % 256) 4
      rw [show 2 ^ 4 - 1 = 15 from rfl, show 2 ^ 4 = 16 from rfl] at h
      rw [h]
      unfold g3
      omega
    rw [e1, e2, ih]

/-- So many of the first bits are one. -/
def PC : Nat → Nat → Nat
  | 0, _ => 0
  | n + 1, x => (x.testBit n).toNat + PC n x
theorem g3_is : ∀ r : Fin 256, g3 r.val = PC 8 r.val := by decide +kernel
theorem PC_le : ∀ n x : Nat, PC n x ≤ n
  | 0, x => by simp [PC]
  | n + 1, x => by
    have := PC_le n x
    have := Bool.toNat_le (x.testBit n)
    rw [PC]
    omega
theorem PC_congr {x y : Nat} : ∀ n : Nat, (∀ i < n, x.testBit i = y.testBit i) → PC n x = PC n y
  | 0, _ => rfl
  | n + 1, h => by rw [PC, PC, h n (by omega), PC_congr n fun i hi => h i (by omega)]
theorem PC_add (m : Nat) : ∀ n x : Nat, PC (n + m) x = PC n (x / 2 ^ m) + PC m x
  | 0, x => by simp [PC]
  | n + 1, x => by
    rw [show n + 1 + m = (n + m) + 1 by omega, PC, PC_add m n x, PC, Nat.testBit_div_two_pow]
    omega
theorem PC_mod (x : Nat) : PC 8 (x % 256) = PC 8 x := PC_congr 8 fun i hi => by
  rw [show (256 : Nat) = 2 ^ 8 from rfl, Nat.testBit_mod_two_pow, decide_eq_true hi, Bool.true_and]
theorem PC_byte (n x : Nat) : PC (n + 8) x = g3 (x % 256) + PC n (x / 256) := by
  have h := g3_is ⟨x % 256, by omega⟩
  simp only at h
  rw [PC_add 8 n x, show (2 : Nat) ^ 8 = 256 from rfl, h, PC_mod]
  omega
theorem g3_le (x : Nat) : g3 (x % 256) ≤ 8 := by
  have h := g3_is ⟨x % 256, by omega⟩
  simp only at h
  rw [h]
  exact PC_le 8 _

theorem fold8 {b0 b1 b2 b3 b4 b5 b6 b7 : Nat} (h0 : b0 ≤ 8) (h1 : b1 ≤ 8) (h2 : b2 ≤ 8) (h3 : b3 ≤ 8) (h4 : b4 ≤ 8) (h5 : b5 ≤ 8) (h6 : b6 ≤ 8) (h7 : b7 ≤ 8) :
    ∃ v u t M : Nat, b0 + 256 * (b1 + 256 * (b2 + 256 * (b3 + 256 * (b4 + 256 * (b5 + 256 * (b6 + 256 * (b7 + 256 * 0))))))) = v ∧ v + v / 256 = u ∧ u + u / 65536 = t ∧ t + t / 4294967296 = (b0 + (b1 + (b2 + (b3 + (b4 + (b5 + (b6 + b7))))))) + 256 * M ∧ v < 3000000000000000000 ∧ u < 3000000000000000000 ∧ t < 4000000000000000000 ∧ t + t / 4294967296 < 5000000000000000000 := by
  have e1 : ∀ a X : Nat, a < 256 → (a + 256 * X) / 256 = X := fun a X h => by omega
  have e2 : ∀ a b X : Nat, a < 256 → b < 256 → (a + 256 * (b + 256 * X)) / 65536 = X := fun a b X h1 h2 => by omega
  have e3 : ∀ a b c d X : Nat, a < 256 → b < 256 → c < 256 → d < 256 → (a + 256 * (b + 256 * (c + 256 * (d + 256 * X)))) / 4294967296 = X := fun a b c d X h1 h2 h3 h4 => by omega
  refine ⟨b0 + 256 * (b1 + 256 * (b2 + 256 * (b3 + 256 * (b4 + 256 * (b5 + 256 * (b6 + 256 * (b7 + 256 * 0))))))), (b0 + b1) + 256 * ((b1 + b2) + 256 * ((b2 + b3) + 256 * ((b3 + b4) + 256 * ((b4 + b5) + 256 * ((b5 + b6) + 256 * ((b6 + b7) + 256 * b7)))))), (b0 + b1 + (b2 + b3)) + 256 * ((b1 + b2 + (b3 + b4)) + 256 * ((b2 + b3 + (b4 + b5)) + 256 * ((b3 + b4 + (b5 + b6)) + 256 * ((b4 + b5 + (b6 + b7)) + 256 * ((b5 + b6 + b7) + 256 * ((b6 + b7) + 256 * b7)))))),
    (b1 + b2 + (b3 + b4)) + 256 * ((b2 + b3 + (b4 + b5)) + 256 * ((b3 + b4 + (b5 + b6)) + 256 * ((b4 + b5 + (b6 + b7)) + 256 * ((b5 + b6 + b7) + 256 * ((b6 + b7) + 256 * b7))))) + ((b5 + b6 + b7) + 256 * ((b6 + b7) + 256 * b7)), rfl, ?_, ?_, ?_, ?_, ?_, ?_, ?_⟩
  · rw [e1 _ _ (by omega)]; omega
  · rw [e2 _ _ _ (by omega) (by omega)]; omega
  · rw [e3 _ _ _ _ _ (by omega) (by omega) (by omega) (by omega)]; omega
  · omega
  · omega
  · omega
  · rw [e3 _ _ _ _ _ (by omega) (by omega) (by omega) (by omega)]; omega

theorem lift1_lt (n : Nat) : lift g1 8 n < 18446744073709551616 := by
  have h : ∀ k x : Nat, lift g1 k x < 256 ^ k := by
    intro k
    induction k with
    | zero => intro x; simp [lift]
    | succ k ih =>
      intro x
      have l := g1_lt ⟨x % 256, by omega⟩
      have i := ih (x / 256)
      simp only at l
      rw [lift, Nat.pow_succ]
      omega
  exact h 8 n
theorem lift2_lt (n : Nat) : lift c2 8 n < 5000000000000000000 := by
  have h : ∀ k x : Nat, lift c2 k x ≤ rep 68 k := by
    intro k
    induction k with
    | zero => intro x; simp [lift, rep]
    | succ k ih =>
      intro x
      have l := c2_le ⟨x % 256, by omega⟩
      have i := ih (x / 256)
      simp only at l
      rw [lift, rep]
      omega
  have h1 := h 8 n
  have h2 : rep 68 8 = 4919131752989213764 := by decide
  omega
theorem fd (a b : Nat) : Int.fdiv (a : Int) (b : Int) = ((a / b : Nat) : Int) := by rw [Int.fdiv_eq_ediv_of_nonneg _ (by omega), Int.natCast_ediv]
theorem wn {a : Nat} (h : a < 18446744073709551616) : wru64 (a : Int) = (a : Int) := wu64 (by omega) (by omega)

theorem step1 {n : Nat} (hn : n < 18446744073709551616) : wru64 ((bits .and .u64 (Int.fdiv (n : Int) 2) 6148914691236517205) + (bits .and .u64 (n : Int) 6148914691236517205)) = ((lift g1 8 n : Nat) : Int) := by
  have s1 := stage1 8 n
  have r5 : rep 85 8 = 6148914691236517205 := by decide
  rw [r5] at s1
  have a1 := bits_and_u64_nat (n / 2) 6148914691236517205 (by omega) (by omega)
  have a2 := bits_and_u64_nat n 6148914691236517205 hn (by omega)
  rw [show (2 : Int) = ((2 : Nat) : Int) from rfl, fd, show (6148914691236517205 : Int) = ((6148914691236517205 : Nat) : Int) from rfl, a1, a2, ← Int.natCast_add, s1, wn (lift1_lt n)]
theorem step2 (n : Nat) : wru64 ((bits .and .u64 (Int.fdiv ((lift g1 8 n : Nat) : Int) 4) 3689348814741910323) + (bits .and .u64 ((lift g1 8 n : Nat) : Int) 3689348814741910323)) = ((lift c2 8 n : Nat) : Int) := by
  have s2 := stage2 8 (lift g1 8 n)
  have r3 : rep 51 8 = 3689348814741910323 := by decide
  rw [stage12, r3] at s2
  have l1 := lift1_lt n
  have l2 := lift2_lt n
  generalize lift g1 8 n = v at *
  have a1 := bits_and_u64_nat (v / 4) 3689348814741910323 (by omega) (by omega)
  have a2 := bits_and_u64_nat v 3689348814741910323 l1 (by omega)
  rw [show (4 : Int) = ((4 : Nat) : Int) from rfl, fd, show (3689348814741910323 : Int) = ((3689348814741910323 : Nat) : Int) from rfl, a1, a2, ← Int.natCast_add, s2, wn (by omega)]
theorem step3 (n : Nat) : bits .and .u64 (wru64 ((Int.fdiv ((lift c2 8 n : Nat) : Int) 16) + ((lift c2 8 n : Nat) : Int))) 1085102592571150095 = ((lift g3 8 n : Nat) : Int) := by
  have s3 := stage3 8 n
  have rf : rep 15 8 = 1085102592571150095 := by decide
  rw [rf] at s3
  have l2 := lift2_lt n
  generalize lift c2 8 n = v at *
  rw [show (16 : Int) = ((16 : Nat) : Int) from rfl, fd, ← Int.natCast_add, wn (by omega)]
  have a1 := bits_and_u64_nat (v / 16 + v) 1085102592571150095 (by omega) (by omega)
  rw [show (1085102592571150095 : Int) = ((1085102592571150095 : Nat) : Int) from rfl, a1, s3]
theorem pc8 (n : Nat) : ∃ b0 b1 b2 b3 b4 b5 b6 b7 : Nat, (b0 ≤ 8 ∧ b1 ≤ 8 ∧ b2 ≤ 8 ∧ b3 ≤ 8 ∧ b4 ≤ 8 ∧ b5 ≤ 8 ∧ b6 ≤ 8 ∧ b7 ≤ 8) ∧ lift g3 8 n = b0 + 256 * (b1 + 256 * (b2 + 256 * (b3 + 256 * (b4 + 256 * (b5 + 256 * (b6 + 256 * (b7 + 256 * 0))))))) ∧ PC 64 n = b0 + (b1 + (b2 + (b3 + (b4 + (b5 + (b6 + b7)))))) := by
  refine ⟨g3 (n % 256), g3 (n / 256 % 256), g3 (n / 256 / 256 % 256), g3 (n / 256 / 256 / 256 % 256), g3 (n / 256 / 256 / 256 / 256 % 256), g3 (n / 256 / 256 / 256 / 256 / 256 % 256), g3 (n / 256 / 256 / 256 / 256 / 256 / 256 % 256), g3 (n / 256 / 256 / 256 / 256 / 256 / 256 / 256 % 256), ⟨g3_le _, g3_le _, g3_le _, g3_le _, g3_le _, g3_le _, g3_le _, g3_le _⟩, by simp only [lift], ?_⟩
  rw [show (64 : Nat) = 56 + 8 from rfl, PC_byte, show (56 : Nat) = 48 + 8 from rfl, PC_byte, show (48 : Nat) = 40 + 8 from rfl, PC_byte, show (40 : Nat) = 32 + 8 from rfl, PC_byte, show (32 : Nat) = 24 + 8 from rfl, PC_byte, show (24 : Nat) = 16 + 8 from rfl, PC_byte, show (16 : Nat) = 8 + 8 from rfl, PC_byte, show (8 : Nat) = 0 + 8 from rfl, PC_byte]
  simp [PC]

theorem ones_f {n : Nat} (hn : n < 18446744073709551616) : bits_OnesCount64.f (n : Int) = some ((PC 64 n : Nat) : Int) := by
  unfold bits_OnesCount64.f
  refine bind_of (congrArg some (step1 hn)) (bind_of (congrArg some (step2 n)) (bind_of (congrArg some (step3 n)) ?_))
  obtain ⟨b0, b1, b2, b3, b4, b5, b6, b7, ⟨h0, h1, h2, h3, h4, h5, h6, h7⟩, el, ep⟩ := pc8 n
  obtain ⟨v, u, t, M, ev, eu, et, eM, lv, lu, lt, lz⟩ := fold8 h0 h1 h2 h3 h4 h5 h6 h7
  rw [el, ep, ev]
  have q1 : wru64 ((v : Int) + Int.fdiv (v : Int) 256) = (u : Int) := by
    rw [show (256 : Int) = ((256 : Nat) : Int) from rfl, fd, ← Int.natCast_add, eu, wn (by omega)]
  have q2 : wru64 ((u : Int) + Int.fdiv (u : Int) 65536) = (t : Int) := by
    rw [show (65536 : Int) = ((65536 : Nat) : Int) from rfl, fd, ← Int.natCast_add, et, wn (by omega)]
  rw [q1]
  refine bind_of (congrArg some q2) ?_
  have q3 : wru64 ((t : Int) + Int.fdiv (t : Int) 4294967296) = ((t + t / 4294967296 : Nat) : Int) := by
    rw [show (4294967296 : Int) = ((4294967296 : Nat) : Int) from rfl, fd, ← Int.natCast_add, wn (by omega)]
  rw [q3]
  rw [eM] at lz ⊢
  generalize hs : b0 + (b1 + (b2 + (b3 + (b4 + (b5 + (b6 + b7)))))) = s at *
  have hs64 : s ≤ 64 := by omega
  clear ev eu et eM el ep hs q1 q2 q3 lv lu lt
  have q4 : bits .and .i64 (wr64 ((s + 256 * M : Nat) : Int)) 127 = (s : Int) := by
    rw [w64 (by omega) (by omega), and_mask 7 (by omega) _ 127 (by decide)]
    omega
  exact bind_of (congrArg some q4) rfl

theorem PC_part {a b c : Nat} : ∀ n : Nat, (∀ i < n, c.testBit i = (a.testBit i && !b.testBit i)) → PC n (a &&& b) + PC n c = PC n a
  | 0, _ => rfl
  | n + 1, h => by
    have ih := PC_part n fun i hi => h i (by omega)
    rw [PC, PC, PC, h n (by omega), Nat.testBit_and]
    cases a.testBit n <;> cases b.testBit n <;> simp <;> omega
theorem PC_not {a c : Nat} : ∀ n : Nat, (∀ i < n, c.testBit i = !a.testBit i) → PC n c + PC n a = n
  | 0, _ => rfl
  | n + 1, h => by
    have ih := PC_not n fun i hi => h i (by omega)
    rw [PC, PC, h n (by omega)]
    cases a.testBit n <;> simp <;> omega
theorem PC_set {a c k : Nat} : ∀ n : Nat, (∀ i < n, c.testBit i = (a.testBit i || decide (i = k))) → PC n c = PC n a + (if k < n ∧ a.testBit k = false then 1 else 0)
  | 0, _ => by simp [PC]
  | n + 1, h => by
    have ih := PC_set n fun i hi => h i (by omega)
    rw [PC, PC, h n (by omega), ih]
    by_cases hk : n = k
    · subst hk
      rw [if_neg (by omega)]
      cases hb : a.testBit n <;> simp
      omega
    · rw [decide_eq_false hk, Bool.or_false]
      by_cases h2 : k < n ∧ a.testBit k = false
      · rw [if_pos h2, if_pos ⟨by omega, h2.2⟩]; omega
      · rw [if_neg h2, if_neg (by intro h3; exact h2 ⟨by omega, h3.2⟩)]; omega

theorem andnot_f (a b : Nat) : ∃ c : Nat, c < 18446744073709551616 ∧ bits .andNot .u64 (a : Int) (b : Int) = (c : Int) ∧ ∀ i < 64, c.testBit i = (a.testBit i && !b.testBit i) := by
  refine ⟨(BitVec.ofNat 64 a &&& ~~~ BitVec.ofNat 64 b).toNat, BitVec.isLt _, ?_, ?_⟩
  · have h := (BitVec.ofNat 64 a &&& ~~~ BitVec.ofNat 64 b).isLt
    show IntKind.u64.wrap ((BitVec.ofInt 64 (a : Int) &&& ~~~ BitVec.ofInt 64 (b : Int)).toNat : Nat) = _
    rw [BitVec.ofInt_natCast, BitVec.ofInt_natCast]
    exact wu64 (by omega) (by omega)
  · intro i hi
    rw [BitVec.testBit_toNat, BitVec.getLsbD_and, BitVec.getLsbD_not, BitVec.getLsbD_ofNat, BitVec.getLsbD_ofNat, decide_eq_true hi]
    simp

theorem not_f (a : Nat) (ha : a < 18446744073709551616) : ∃ c : Nat, c < 18446744073709551616 ∧ bits .xor .u64 18446744073709551615 (a : Int) = (c : Int) ∧ ∀ i < 64, c.testBit i = !a.testBit i := by
  refine ⟨18446744073709551615 ^^^ a, Nat.xor_lt_two_pow (n := 64) (by omega) (by omega), ?_, ?_⟩
  · exact bits_xor_u64_nat 18446744073709551615 a (by omega) ha
  · intro i hi
    rw [Nat.testBit_xor, show 18446744073709551615 = 2 ^ 64 - 1 from rfl, Nat.testBit_two_pow_sub_one, decide_eq_true hi]
    simp

set_option maxHeartbeats 400000 in
theorem SweepBits : glyphiclaw24_SweepBits.Pure := by
  intro a b k wa wb _
  have hf : glyphiclaw24_first.f = some true := by decide +kernel
  have rg : ∀ x : Int, (Lit.int .u64 x).wf = true → ∃ n : Nat, x = (n : Int) ∧ n < 18446744073709551616 := by
    intro x hx
    simp [Lit.wf] at hx
    have e1 : IntKind.u64.min = 0 := by decide
    have e2 : IntKind.u64.max = 18446744073709551615 := by decide
    exact ⟨x.toNat, by omega, by omega⟩
  obtain ⟨a, rfl, ha⟩ := rg a wa
  obtain ⟨b, rfl, hb⟩ := rg b wb
  unfold glyphiclaw24_SweepBits.f
  refine bind_of hf ?_
  rw [if_pos rfl]
  obtain ⟨s, es, s0, s1⟩ := cyc k (b := 64) (by omega) (by omega)
  rw [es]
  obtain ⟨j, rfl⟩ := Int.eq_ofNat_of_zero_le s0
  have hj : j < 64 := by omega
  have ej : wru64 (j : Int) = (j : Int) := wu64 (by omega) (by omega)
  rw [ej, if_neg (by omega), Int.toNat_natCast, Nat.min_eq_left (by omega)]
  have hp : (2 : Nat) ^ j < 18446744073709551616 := by
    have : (2 : Nat) ^ j ≤ 2 ^ 63 := Nat.pow_le_pow_right (by omega) (by omega)
    omega
  have eo : wru64 (1 * 2 ^ j) = ((2 ^ j : Nat) : Int) := by
    have e : (1 : Int) * 2 ^ j = ((2 ^ j : Nat) : Int) := by simp
    rw [e]
    exact wn hp
  rw [eo]
  have C : ∀ n : Nat, n < 18446744073709551616 → sweep_Count.f (n : Int) = some ((PC 64 n : Nat) : Int) := fun n h => by
    unfold sweep_Count.f
    exact bind_of (ones_f h) rfl
  have la := PC_le 64 a
  have sb : ∀ i < 64, (a ||| 2 ^ j).testBit i = (a.testBit i || decide (i = j)) := fun i _ => by
    rw [Nat.testBit_or, Nat.testBit_two_pow]
    congr 1
    simp [eq_comm]
  have so := PC_set (a := a) (c := a ||| 2 ^ j) (k := j) 64 sb
  have eand : bits .and .u64 (a : Int) ((2 ^ j : Nat) : Int) = ((a &&& 2 ^ j : Nat) : Int) := bits_and_u64_nat a (2 ^ j) ha hp
  have eor : bits .or .u64 (a : Int) ((2 ^ j : Nat) : Int) = ((a ||| 2 ^ j : Nat) : Int) := bits_or_u64_nat a (2 ^ j) ha hp
  have zb : a &&& 2 ^ j = 0 ↔ a.testBit j = false := by
    constructor
    · intro h
      have h2 := congrArg (fun z => z.testBit j) h
      simpa [Nat.testBit_and, Nat.testBit_two_pow] using h2
    · intro h
      apply Nat.eq_of_testBit_eq
      intro i
      rw [Nat.testBit_and, Nat.testBit_two_pow, Nat.zero_testBit]
      by_cases hi : j = i
      · subst hi; rw [h]; rfl
      · rw [decide_eq_false hi, Bool.and_false]
  refine bind_of (C a ha) ?_
  rw [eand]
  have hmid : (some ((a &&& 2 ^ j : Nat) : Int)).bind (fun v72 => if v72 = 0 then some (true, ((2 ^ j : Nat) : Int), wr64 (((PC 64 a : Nat) : Int) + 1)) else some (true, ((2 ^ j : Nat) : Int), ((PC 64 a : Nat) : Int))) = some (true, ((2 ^ j : Nat) : Int), ((PC 64 (a ||| 2 ^ j) : Nat) : Int)) := by
    refine bind_of rfl ?_
    rw [so]
    clear so C
    generalize PC 64 a = p at *
    by_cases hz : a.testBit j = false
    · have h0 : ((a &&& 2 ^ j : Nat) : Int) = 0 := by rw [zb.2 hz]; rfl
      rw [if_pos h0, if_pos ⟨hj, hz⟩, w64 (by omega) (by omega), Int.natCast_add]
      simp
    · have h0 : ¬ ((a &&& 2 ^ j : Nat) : Int) = 0 := by
        intro h
        exact hz (zb.1 (by omega))
      rw [if_neg h0, if_neg (by intro h; exact hz h.2), Nat.add_zero]
  refine bind_of hmid ?_
  dsimp only
  rw [if_pos rfl]
  refine bind_of (x := 0) (by decide +kernel) ?_
  rw [if_pos rfl]
  refine bind_of (x := 64) (by decide +kernel) ?_
  rw [if_pos rfl, if_pos (by omega), if_pos (by omega), eor]
  refine bind_of (C _ (Nat.or_lt_two_pow (n := 64) (by omega) (by omega))) ?_
  rw [if_pos rfl, show bits .and .u64 (a : Int) (b : Int) = ((a &&& b : Nat) : Int) from bits_and_u64_nat a b ha hb]
  refine bind_of (C _ (Nat.lt_of_le_of_lt Nat.and_le_left ha)) ?_
  obtain ⟨c, hc, ec, tc⟩ := andnot_f a b
  rw [ec]
  refine bind_of (C _ hc) ?_
  have hs := PC_part 64 tc
  rw [w64 (by omega) (by omega), if_pos (by omega)]
  obtain ⟨d, hd, ed, td⟩ := not_f a ha
  rw [ed]
  refine bind_of (C _ hd) ?_
  have hn := PC_not 64 td
  rw [w64 (by omega) (by omega), if_pos (by omega)]
  decide +kernel

end Go.Proofs.Ytbmphhejjmnccaa.Pure
