/- The plain law of SweepSquares. -/
import Derived.Test.YtpimfacaalkmdaaQSweepSquaresx1
import Derived.OpenShut
namespace Go.Proofs.Ytpimfacaalkmdaa.Pure
open Go Go.RowKit Go.Proofs.Ytpimfacaalkmdaa.QSweepSquares Go.Proofs.YtpimfacaalkmdaaE
set_option linter.unusedVariables false

theorem bind_of {α β : Type} {o : Option α} {f : α → Option β} {x : α} {r : Option β} (h : o = some x) (h2 : f x = r) : o.bind f = r := by
  subst h
  exact h2

theorem div_is {a b q : Int} (hb : 0 < b) (h1 : q * b ≤ a) (h2 : a < q * b + b) : a / b = q := by
  apply Int.le_antisymm
  · exact Int.lt_add_one_iff.1 (Int.ediv_lt_of_lt_mul hb (by rw [Int.add_mul, Int.one_mul]; exact h2))
  · exact Int.le_ediv_of_mul_le hb h1

theorem div_in (a : Int) {b : Int} (hb : 0 < b) : a / b * b ≤ a ∧ a < a / b * b + b := by
  have h1 := Int.mul_ediv_add_emod a b
  have h2 := Int.emod_nonneg a (Int.ne_of_gt hb)
  have h3 := Int.emod_lt_of_pos a hb
  rw [Int.mul_comm] at h1
  omega

theorem div_bd (a : Int) {b : Int} (hb : 0 < b) : (0 ≤ a → 0 ≤ a / b ∧ a / b ≤ a) ∧ (a < 0 → a ≤ a / b ∧ a / b < 0) := by
  obtain ⟨h1, h2⟩ := div_in a hb
  refine ⟨fun h => ⟨Int.ediv_nonneg h (by omega), Int.ediv_le_self _ h⟩, fun h => ⟨?_, Int.ediv_neg_of_neg_of_pos h hb⟩⟩
  exact Int.le_ediv_of_mul_le hb (by
    have : a * b ≤ a * 1 := Int.mul_le_mul_of_nonpos_left (by omega) (by omega)
    omega)

theorem tmod_in (a : Int) {b : Int} (hb : 0 < b) : -b < Int.tmod a b ∧ Int.tmod a b < b := by
  rw [Int.tmod_eq_emod]
  have h2 := Int.emod_nonneg a (show b ≠ 0 by omega)
  have h3 := Int.emod_lt_of_pos a hb
  split
  · omega
  · have : ((b.natAbs : Nat) : Int) = b := by omega
    rename_i h
    have hne : a % b ≠ 0 := fun h0 => h (Or.inr (Int.dvd_of_emod_eq_zero h0))
    omega

theorem tmod_pos {a b : Int} (ha : 0 ≤ a) : Int.tmod a b = a % b := by
  rw [Int.tmod_eq_emod, if_pos (Or.inl ha)]; omega

theorem cyc (a : Int) {b : Int} (hb : 0 < b) (hb1 : b ≤ 4611686018427387903) : ∃ s, Int.tmod (wr64 (Int.tmod a b + b)) b = s ∧ 0 ≤ s ∧ s < b := by
  have h := tmod_in a hb
  refine ⟨_, rfl, ?_⟩
  rw [w64 (by omega) (by omega), tmod_pos (by omega)]
  exact ⟨Int.emod_nonneg _ (by omega), Int.emod_lt_of_pos _ hb⟩

theorem mul_bd {x y M N : Int} (hx0 : -M ≤ x) (hx1 : x ≤ M) (hy0 : -N ≤ y) (hy1 : y ≤ N) : -(M * N) ≤ x * y ∧ x * y ≤ M * N := by
  have h : (x * y).natAbs ≤ M.toNat * N.toNat := by
    rw [Int.natAbs_mul]
    exact Nat.mul_le_mul (by omega) (by omega)
  have e : ((M.toNat * N.toNat : Nat) : Int) = M * N := by
    rw [Int.natCast_mul, Int.toNat_of_nonneg (by omega), Int.toNat_of_nonneg (by omega)]
  omega

/-- Two numbers no farther apart than that. -/
def Nr (a b : Int) : Prop := -268435456 ≤ b - a ∧ b - a ≤ 268435456

theorem prod_bd {a b c d : Int} (h1 : Nr a b) (h2 : Nr c d) : -72057594037927936 ≤ (b - a) * (d - c) ∧ (b - a) * (d - c) ≤ 72057594037927936 := mul_bd (M := 268435456) (N := 268435456) (by have := h1.1; omega) h1.2 (by have := h2.1; omega) h2.2

def crs (ax ay bx by_ px py : Int) : Int := (bx - ax) * (py - ay) - (by_ - ay) * (px - ax)
theorem sub_f {a b c d : Int} (h1 : Nr c a) (h2 : Nr d b) : plane_Sub.f a b c d = some (a - c, b - d) := by
  unfold plane_Sub.f
  rw [w64 (by have := h1.1; omega) (by have := h1.2; omega), w64 (by have := h2.1; omega) (by have := h2.2; omega)]

theorem cross_f {ax ay bx by_ px py : Int} (h1 : Nr ax bx) (h2 : Nr ay by_) (h3 : Nr ax px) (h4 : Nr ay py) : plane_Cross.f ax ay bx by_ px py = some (crs ax ay bx by_ px py) := by
  unfold plane_Cross.f
  refine bind_of (sub_f h1 h2) (bind_of (sub_f h3 h4) ?_)
  have b1 := prod_bd h1 h4
  have b2 := prod_bd h2 h3
  show some (wr64 (wr64 ((bx - ax) * (py - ay)) - wr64 ((by_ - ay) * (px - ax)))) = _
  rw [w64 (n := (bx - ax) * (py - ay)) (by omega) (by omega), w64 (n := (by_ - ay) * (px - ax)) (by omega) (by omega), w64 (by omega) (by omega)]
  rfl

theorem lgt_nat {T : Type} {L : List T} {i : Nat} (h : i < L.length) : lgt L (i : Int) = some L[i] := by
  unfold lgt
  rw [if_neg (by omega), Int.toNat_natCast, List.getElem?_eq_getElem h]
theorem lapp_ok {T : Type} {L X : List T} (h : L.length + X.length ≤ 4294967296) : lapp L X = some (L ++ X) := by
  unfold lapp
  rw [if_pos h]
theorem wnat {i : Nat} (h : i ≤ 1000000000000) : wr64 ((i : Int) + 1) = ((i + 1 : Nat) : Int) := by
  rw [w64 (by omega) (by omega)]
  omega

/-- No number of an edge is beyond. -/
def In4 (far : Int) (e : Int × Int × Int × Int) : Prop := (-far ≤ e.1 ∧ e.1 ≤ far) ∧ (-far ≤ e.2.1 ∧ e.2.1 ≤ far) ∧ (-far ≤ e.2.2.1 ∧ e.2.2.1 ≤ far) ∧ (-far ≤ e.2.2.2 ∧ e.2.2.2 ≤ far)

/-- Far enough from overflow. -/
def Gd (e : Int × Int × Int × Int) (px py : Int) : Prop := Nr e.1 e.2.2.1 ∧ Nr e.2.1 e.2.2.2 ∧ Nr e.1 px ∧ Nr e.2.1 py ∧ Nr e.2.2.1 px ∧ Nr e.2.2.2 py

theorem mn_le (a b : Int) : mn a b ≤ a ∧ mn a b ≤ b ∧ (mn a b = a ∨ mn a b = b) := by unfold mn; split <;> omega
theorem mx_ge (a b : Int) : a ≤ mx a b ∧ b ≤ mx a b ∧ (mx a b = a ∨ mx a b = b) := by unfold mx; split <;> omega
theorem half_f {w : Int} (w0 : 0 ≤ w) (w1 : w ≤ 268435456) : wr64 (Int.tdiv (wr64 (w + 1)) 2) = (w + 1) / 2 := by
  rw [w64 (n := w + 1) (by omega) (by omega), Int.tdiv_eq_ediv, if_pos (Or.inl (by omega)), w64 (by omega) (by omega)]
  omega

abbrev Ed := Int × Int × Int × Int
def sx (x : Int) (i : Nat) : Int := x * 256 + 32 * ((i % 8 : Nat) : Int) + 16
def sy (y : Int) (i : Nat) : Int := y * 256 + 32 * ((i / 8 : Nat) : Int) + 16
theorem sample_f {x y : Int} {i : Nat} (hx : -100000 ≤ x ∧ x ≤ 100000) (hy : -100000 ≤ y ∧ y ≤ 100000) (hi : i ≤ 64) : sweep_Sample.f x y (i : Int) = some (sx x i, sy y i) := by
  have e1 : Int.tmod (i : Int) 8 = ((i % 8 : Nat) : Int) := by rw [tmod_pos (by omega)]; omega
  have e2 : Int.tdiv (i : Int) 8 = ((i / 8 : Nat) : Int) := by rw [Int.tdiv_eq_ediv, if_pos (Or.inl (by omega))]; omega
  unfold sweep_Sample.f sx sy
  rw [e1, e2, w64 (n := ((i / 8 : Nat) : Int)) (by omega) (by omega), w64 (n := x * 256) (by omega) (by omega), w64 (n := 32 * ((i % 8 : Nat) : Int)) (by omega) (by omega), w64 (n := y * 256) (by omega) (by omega), w64 (n := 32 * ((i / 8 : Nat) : Int)) (by omega) (by omega), w64 (n := x * 256 + 32 * ((i % 8 : Nat) : Int)) (by omega) (by omega), w64 (n := y * 256 + 32 * ((i / 8 : Nat) : Int)) (by omega) (by omega), w64 (by omega) (by omega), w64 (by omega) (by omega)]
theorem sy_row (y : Int) {r i : Nat} (h1 : r * 8 ≤ i) (h2 : i < r * 8 + 8) : sy y i = sy y (r * 8) := by
  unfold sy
  rw [show i / 8 = r by omega, show r * 8 / 8 = r by omega]
/-- The bits of a mask, one by one. -/
def mst (p : Nat → Bool) (i : Nat) (m : Int) : Int := if p i = true then bits .or .u64 m (wru64 (1 * 2 ^ (min i 64))) else m
def mf (p : Nat → Bool) : Nat → Nat → Int → Int
  | _, 0, m => m
  | i, n + 1, m => mf p (i + 1) n (mst p i m)
theorem mf_add (p : Nat → Bool) : ∀ (a i b : Nat) (m : Int), mf p i (a + b) m = mf p (i + a) b (mf p i a m)
  | 0, i, b, m => by simp [mf]
  | a + 1, i, b, m => by
    rw [show a + 1 + b = (a + b) + 1 by omega, mf, mf_add p a (i + 1) b, mf, show i + 1 + a = i + (a + 1) by omega]
theorem mf_congr {p q : Nat → Bool} : ∀ {n i : Nat} {m : Int}, (∀ j, i ≤ j → j < i + n → p j = q j) → mf p i n m = mf q i n m
  | 0, _, _, _ => rfl
  | n + 1, i, m, h => by
    rw [mf, mf, mst, mst, h i (by omega) (by omega)]
    exact mf_congr fun j h1 h2 => h j (by omega) (by omega)
theorem mf_no {p : Nat → Bool} : ∀ {n i : Nat} {m : Int}, (∀ j, i ≤ j → j < i + n → p j = false) → mf p i n m = m
  | 0, _, _, _ => rfl
  | n + 1, i, m, h => by
    rw [mf, mst, h i (by omega) (by omega), if_neg (by decide)]
    exact mf_no fun j h1 h2 => h j (by omega) (by omega)
/-- A row of pixels. -/
def row (w : Nat) (g : Nat → Int) : List Int := (List.range w).map g
theorem row_len (w : Nat) (g : Nat → Int) : (row w g).length = w := by simp [row]
theorem row_congr {w : Nat} {f g : Nat → Int} (h : ∀ x < w, f x = g x) : row w f = row w g := by
  unfold row
  exact List.map_congr_left fun x hx => h x (List.mem_range.1 hx)
theorem row_get {w x : Nat} (g : Nat → Int) (h : x < w) : lgt (row w g) (x : Int) = some (g x) := by
  rw [lgt_nat (by rw [row_len]; exact h)]
  simp [row]
theorem row_put {w x : Nat} (g : Nat → Int) (v : Int) (h : x < w) : lput (row w g) (x : Int) v = some (row w fun x' => if x' = x then v else g x') := by
  unfold lput
  rw [if_pos ⟨by omega, by rw [row_len]; omega⟩, Int.toNat_natCast]
  congr 1
  apply List.ext_getElem
  · simp [row]
  · intro i h1 h2
    simp only [row, List.getElem_set, List.getElem_map, List.getElem_range]
    by_cases e : x = i
    · rw [if_pos e, if_pos e.symm]
    · rw [if_neg e, if_neg (fun q => e q.symm)]
/-- Does a row of samples come near an edge? -/
def cr (wide y : Int) (e : Ed) : Bool := decide (mn (mn e.2.1 e.2.1) e.2.2.2 - (wide + 1) / 2 ≤ y) && decide (y ≤ mx (mx e.2.1 e.2.1) e.2.2.2 + (wide + 1) / 2)
theorem cross_l {L : List Ed} {wide y : Int} (hL : L.length ≤ 1000000) (hin : ∀ e ∈ L, In4 1000000 e) (w0 : 0 ≤ wide) (w1 : wide ≤ 1000000) : ∀ (n i k : Nat) (Y : List Ed), L.length - i = n → i ≤ L.length → n < k → Y.length ≤ i →
    sweep_crossing_v1.l0 k L wide y i Y = some (Y ++ (L.drop i).filter (cr wide y))
  | 0, i, k, Y, hn, hi, hk, hy => by
    obtain ⟨k, rfl⟩ : ∃ m, k = m + 1 := ⟨k - 1, by omega⟩
    rw [sweep_crossing_v1.l0, if_neg (by omega), List.drop_eq_nil_of_le (by omega)]
    simp
  | n + 1, i, k, Y, hn, hi, hk, hy => by
    obtain ⟨k, rfl⟩ : ∃ m, k = m + 1 := ⟨k - 1, by omega⟩
    have hlt : i < L.length := by omega
    obtain ⟨⟨a1, a2⟩, ⟨b1, b2⟩, ⟨c1, c2⟩, d1, d2⟩ := hin L[i] (List.getElem_mem hlt)
    have m1 := mn_le L[i].2.1 L[i].2.1
    have m2 := mn_le (mn L[i].2.1 L[i].2.1) L[i].2.2.2
    have m3 := mx_ge L[i].2.1 L[i].2.1
    have m4 := mx_ge (mx L[i].2.1 L[i].2.1) L[i].2.2.2
    have hbox : ∃ u v, stroke_Box_v1.f wide L[i].1 L[i].2.1 L[i].2.2.1 L[i].2.2.2 = some (u, mn (mn L[i].2.1 L[i].2.1) L[i].2.2.2 - (wide + 1) / 2, v, mx (mx L[i].2.1 L[i].2.1) L[i].2.2.2 + (wide + 1) / 2, true) := by
      unfold stroke_Box_v1.f
      rw [half_f w0 (by omega), w64 (n := mn (mn L[i].2.1 L[i].2.1) L[i].2.2.2 - (wide + 1) / 2) (by omega) (by omega), w64 (n := mx (mx L[i].2.1 L[i].2.1) L[i].2.2.2 + (wide + 1) / 2) (by omega) (by omega)]
      exact ⟨_, _, rfl⟩
    obtain ⟨u, v, hbox⟩ := hbox
    rw [sweep_crossing_v1.l0, if_pos (by omega)]
    refine bind_of (lgt_nat hlt) (bind_of hbox ?_)
    dsimp only
    rw [List.drop_eq_getElem_cons hlt, List.filter_cons]
    unfold cr
    by_cases h1 : mn (mn L[i].2.1 L[i].2.1) L[i].2.2.2 - (wide + 1) / 2 ≤ y
    · rw [if_pos h1, decide_eq_true h1]
      by_cases h2 : y ≤ mx (mx L[i].2.1 L[i].2.1) L[i].2.2.2 + (wide + 1) / 2
      · rw [if_pos h2, decide_eq_true h2, if_pos (by rfl)]
        refine bind_of (lapp_ok (by simp; omega)) ?_
        rw [wnat (by omega), cross_l hL hin w0 w1 n (i + 1) k _ (by omega) (by omega) (by omega) (by simp; omega), List.append_assoc]
        rfl
      · rw [if_neg h2, decide_eq_false h2, if_neg (by decide), wnat (by omega)]
        exact cross_l hL hin w0 w1 n (i + 1) k Y (by omega) (by omega) (by omega) (by omega)
    · rw [if_neg h1, decide_eq_false h1, if_neg (by simp), wnat (by omega)]
      exact cross_l hL hin w0 w1 n (i + 1) k Y (by omega) (by omega) (by omega) (by omega)
theorem cross_list {L : List Ed} {wide y : Int} (hL : L.length ≤ 1000000) (hin : ∀ e ∈ L, In4 1000000 e) (w0 : 0 ≤ wide) (w1 : wide ≤ 1000000) (k : Nat) (hk : L.length < k) : sweep_crossing_v1.f k L wide y = some (L.filter (cr wide y)) := by
  unfold sweep_crossing_v1.f
  exact bind_of (cross_l hL hin w0 w1 L.length 0 k [] (by omega) (by omega) hk (by simp)) (by simp)
/-- How an edge goes round a point. -/
def one (e : Ed) (px py : Int) : Int := if e.2.1 ≤ py ∧ e.2.2.2 > py ∧ crs e.1 e.2.1 e.2.2.1 e.2.2.2 px py > 0 then 1 else if e.2.2.2 ≤ py ∧ e.2.1 > py ∧ crs e.1 e.2.1 e.2.2.1 e.2.2.2 px py < 0 then -1 else 0
theorem one_in (e : Ed) (px py : Int) : -1 ≤ one e px py ∧ one e px py ≤ 1 := by
  unfold one
  split
  · omega
  · split <;> omega
theorem one_f {e : Ed} {px py : Int} (h : Gd e px py) : wind_One.f e.1 e.2.1 e.2.2.1 e.2.2.2 px py = some (one e px py) := by
  have hc := cross_f h.1 h.2.1 h.2.2.1 h.2.2.2.1
  unfold wind_One.f one
  rw [hc]
  simp only [Option.bind_some]
  generalize crs e.1 e.2.1 e.2.2.1 e.2.2.2 px py = c
  by_cases a1 : e.2.1 ≤ py
  · by_cases a2 : e.2.2.2 > py
    · by_cases a3 : c > 0
      · simp [a1, a2, a3]
      · have a4 : ¬ e.2.2.2 ≤ py := by omega
        simp [a1, a2, a3, a4]
    · have b1 : ¬ e.2.1 > py := by omega
      simp [a1, a2, b1]
  · have b1 : e.2.1 > py := by omega
    by_cases b2 : e.2.2.2 ≤ py
    · by_cases b3 : c < 0
      · simp [a1, b1, b2, b3]
      · simp [a1, b1, b2, b3]
    · simp [a1, b2]
def num : List Ed → Int → Int → Int
  | [], _, _ => 0
  | e :: r, px, py => one e px py + num r px py
theorem num_l {L : List Ed} {px py : Int} (hL : L.length ≤ 1000000) (hg : ∀ e ∈ L, Gd e px py) : ∀ (n i k : Nat) (a : Int), L.length - i = n → i ≤ L.length → n < k → -(i : Int) ≤ a → a ≤ i → wind_Number_v1.l0 k L px py a i = some (a + num (L.drop i) px py)
  | 0, i, k, a, hn, hi, hk, h0, h1 => by
    obtain ⟨k, rfl⟩ : ∃ m, k = m + 1 := ⟨k - 1, by omega⟩
    rw [wind_Number_v1.l0, if_neg (by omega), List.drop_eq_nil_of_le (by omega), num, Int.add_zero]
  | n + 1, i, k, a, hn, hi, hk, h0, h1 => by
    obtain ⟨k, rfl⟩ : ∃ m, k = m + 1 := ⟨k - 1, by omega⟩
    have hlt : i < L.length := by omega
    have h2 := one_in L[i] px py
    rw [wind_Number_v1.l0, if_pos (by omega)]
    refine bind_of (lgt_nat hlt) (bind_of (one_f (hg L[i] (List.getElem_mem hlt))) ?_)
    show wind_Number_v1.l0 k L px py (wr64 (a + one L[i] px py)) _ = _
    rw [wnat (by omega), w64 (n := a + one L[i] px py) (by omega) (by omega), num_l hL hg n (i + 1) k _ (by omega) (by omega) (by omega) (by omega) (by omega), List.drop_eq_getElem_cons hlt, num, Int.add_assoc]
def ins (rule n : Int) : Bool := if rule = 0 then (Int.tmod n 2 != 0) else (n != 0)
theorem inside_all {L : List Ed} {px py : Int} (rule : Int) (hL : L.length ≤ 1000000) (hg : ∀ e ∈ L, Gd e px py) (k : Nat) (hk : L.length < k) : sweep_Fill_1_v1.f k L px py rule = some (ins rule (num L px py)) := by
  unfold sweep_Fill_1_v1.f wind_Inside_v1.f wind_Number_v1.f
  refine bind_of (bind_of (bind_of (num_l hL hg L.length 0 k 0 (by omega) (by omega) hk (by omega) (by omega)) rfl) ?_) rfl
  rw [List.drop_zero, Int.zero_add]
  unfold ins
  by_cases h : rule = 0
  · rw [if_pos h, if_pos h]
  · rw [if_neg h, if_neg h]
theorem num_filter {c : Ed → Bool} {px py : Int} : ∀ {L : List Ed}, (∀ e ∈ L, c e = false → one e px py = 0) → num (L.filter c) px py = num L px py
  | [], _ => rfl
  | e :: r, h => by
    have ih := num_filter (L := r) (fun f hf => h f (by simp [hf]))
    rw [List.filter_cons]
    cases hc : c e with
    | true => rw [if_pos rfl, num, num, ih]
    | false => rw [if_neg (by decide), num, ih, h e (by simp) hc]; omega
theorem any_filter {c q : Ed → Bool} : ∀ {L : List Ed}, (∀ e ∈ L, q e = true → c e = true) → (L.filter c).any q = L.any q
  | [], _ => rfl
  | e :: r, h => by
    have ih := any_filter (L := r) (fun f hf => h f (by simp [hf]))
    rw [List.filter_cons]
    cases hc : c e with
    | true => rw [if_pos rfl, List.any_cons, List.any_cons, ih]
    | false =>
      rw [if_neg (by decide), List.any_cons, ih]
      cases hq : q e with
      | true => rw [h e (by simp) hq] at hc; cases hc
      | false => rfl
theorem one_cr {e : Ed} {px py : Int} (h : cr 0 py e = false) : one e px py = 0 := by
  unfold cr at h
  have m1 := mn_le e.2.1 e.2.1
  have m2 := mn_le (mn e.2.1 e.2.1) e.2.2.2
  have m3 := mx_ge e.2.1 e.2.1
  have m4 := mx_ge (mx e.2.1 e.2.1) e.2.2.2
  simp only [Bool.and_eq_false_iff, decide_eq_false_iff_not] at h
  unfold one
  rw [if_neg (by omega), if_neg (by omega)]

theorem fill_l2 {N : List Ed} {y rule : Int} {r x w : Nat} {p : Nat → Bool} {b : Nat} (hx : x < w) (hw : w ≤ 1000) (hr : r < 8) (hy : -100000 ≤ y ∧ y ≤ 100000) (hq : ∀ i, r * 8 ≤ i → i < r * 8 + 8 → ∀ k, b < k → sweep_Fill_1_v1.f k N (sx x i) (sy y i) rule = some (p i)) :
    ∀ (n i k : Nat) (g : Nat → Int), r * 8 + 8 - i = n → r * 8 ≤ i → i ≤ r * 8 + 8 → n + b + 1 < k → sweep_masks_v1.l2 k y rule r N x i (row w g) = some (row w (fun x' => if x' = x then mf p i n (g x) else g x'))
  | 0, i, k, g, hn, h1, h2, hk => by
    obtain ⟨k, rfl⟩ : ∃ m, k = m + 1 := ⟨k - 1, by omega⟩
    rw [sweep_masks_v1.l2, w64 (n := (r : Int) + 1) (by omega) (by omega), w64 (n := ((r : Int) + 1) * 8) (by omega) (by omega), if_neg (by omega)]
    congr 1
    refine row_congr fun x' _ => ?_
    split
    · rename_i e; subst e; rfl
    · rfl
  | n + 1, i, k, g, hn, h1, h2, hk => by
    obtain ⟨k, rfl⟩ : ∃ m, k = m + 1 := ⟨k - 1, by omega⟩
    rw [sweep_masks_v1.l2, w64 (n := (r : Int) + 1) (by omega) (by omega), w64 (n := ((r : Int) + 1) * 8) (by omega) (by omega), if_pos (by omega)]
    refine bind_of (sample_f (by omega) hy (by omega)) (bind_of (hq i h1 (by omega) k (by omega)) ?_)
    rw [wnat (by omega)]
    cases hp : p i with
    | true =>
      rw [if_pos rfl]
      refine bind_of (row_get g hx) ?_
      rw [if_neg (by omega), Int.toNat_natCast]
      refine bind_of (row_get g hx) (bind_of (row_put g _ hx) ?_)
      rw [fill_l2 hx hw hr hy hq n (i + 1) k _ (by omega) (by omega) (by omega) (by omega)]
      congr 1
      refine row_congr fun x' _ => ?_
      by_cases e : x' = x
      · rw [if_pos e, if_pos e, if_pos rfl, mf, mst, hp, if_pos rfl]
      · rw [if_neg e, if_neg e, if_neg e]
    | false =>
      rw [if_neg (by decide), fill_l2 hx hw hr hy hq n (i + 1) k g (by omega) (by omega) (by omega) (by omega)]
      congr 1
      refine row_congr fun x' _ => ?_
      by_cases e : x' = x
      · rw [if_pos e, if_pos e, mf, mst, hp, if_neg (by decide)]
      · rw [if_neg e, if_neg e]
theorem fill_l1 {N : List Ed} {y rule : Int} {r w : Nat} {P : Nat → Nat → Bool} {b : Nat} (hN : N ≠ []) (hw : w ≤ 1000) (hr : r < 8) (hy : -100000 ≤ y ∧ y ≤ 100000) (hq : ∀ x < w, ∀ i, r * 8 ≤ i → i < r * 8 + 8 → ∀ k, b < k → sweep_Fill_1_v1.f k N (sx x i) (sy y i) rule = some (P x i)) :
    ∀ (n x k : Nat) (g : Nat → Int), w - x = n → x ≤ w → n + 10 + b < k → sweep_masks_v1.l1 k y w rule r N x (row w g) = some (row w fun x' => if x ≤ x' then mf (P x') (r * 8) 8 (g x') else g x')
  | 0, x, k, g, hn, h1, hk => by
    obtain ⟨k, rfl⟩ : ∃ m, k = m + 1 := ⟨k - 1, by omega⟩
    rw [sweep_masks_v1.l1, if_neg (by omega)]
    congr 1
    exact row_congr fun x' hx' => by rw [if_neg (by omega)]
  | n + 1, x, k, g, hn, h1, hk => by
    obtain ⟨k, rfl⟩ : ∃ m, k = m + 1 := ⟨k - 1, by omega⟩
    have hx : x < w := by omega
    have hpos := List.length_pos_iff.2 hN
    rw [sweep_masks_v1.l1, if_pos (by omega), if_pos (by omega), show wr64 ((r : Int) * 8) = ((r * 8 : Nat) : Int) by rw [w64 (by omega) (by omega)]; omega]
    refine bind_of (fill_l2 hx hw hr hy (hq x hx) 8 (r * 8) k g (by omega) (by omega) (by omega) (by omega)) ?_
    rw [wnat (by omega), fill_l1 hN hw hr hy hq n (x + 1) k _ (by omega) (by omega) (by omega)]
    congr 1
    refine row_congr fun x' _ => ?_
    by_cases e : x' = x
    · subst e
      rw [if_neg (by omega), if_pos rfl, if_pos (by omega)]
    · by_cases e2 : x ≤ x'
      · rw [if_pos (by omega), if_neg e, if_pos e2]
      · rw [if_neg (by omega), if_neg e, if_neg e2]
theorem fill_l0 {L : List Ed} {y wide rule : Int} {w : Nat} {P : Nat → Nat → Bool} (hL : L.length ≤ 1000000) (hin : ∀ e ∈ L, In4 1000000 e) (w0 : 0 ≤ wide) (w1 : wide ≤ 1000000) (hw : w ≤ 1000) (hy : -100000 ≤ y ∧ y ≤ 100000)
    (hq : ∀ r < 8, ∀ x < w, ∀ i, r * 8 ≤ i → i < r * 8 + 8 → ∀ k, L.length < k → sweep_Fill_1_v1.f k (L.filter (cr wide (sy y (r * 8)))) (sx x i) (sy y i) rule = some (P x i)) (hnil : ∀ (k : Nat) (px py : Int), 0 < k → sweep_Fill_1_v1.f k [] px py rule = some false) :
    ∀ (n r k : Nat), 8 - r = n → r ≤ 8 → n + w + 11 + L.length < k → sweep_masks_v1.l0 k L wide y w rule r (row w fun x => mf (P x) 0 (r * 8) 0) = some (row w fun x => mf (P x) 0 64 0)
  | 0, r, k, hn, hr, hk => by
    obtain ⟨k, rfl⟩ : ∃ m, k = m + 1 := ⟨k - 1, by omega⟩
    have : r = 8 := by omega
    subst this
    rw [sweep_masks_v1.l0, if_neg (by omega)]
  | n + 1, r, k, hn, hr, hk => by
    obtain ⟨k, rfl⟩ : ∃ m, k = m + 1 := ⟨k - 1, by omega⟩
    rw [sweep_masks_v1.l0, if_pos (by omega), show wr64 ((r : Int) * 8) = ((r * 8 : Nat) : Int) by rw [w64 (by omega) (by omega)]; omega]
    have key : sweep_masks_v1.l1 k y w rule r (L.filter (cr wide (sy y (r * 8)))) 0 (row w fun x => mf (P x) 0 (r * 8) 0) = some (row w fun x => mf (P x) 0 ((r + 1) * 8) 0) := by
      have e8 : (r + 1) * 8 = r * 8 + 8 := by omega
      by_cases hN : L.filter (cr wide (sy y (r * 8))) = []
      · have hfalse : ∀ x < w, ∀ i, r * 8 ≤ i → i < r * 8 + 8 → P x i = false := by
          intro x hx i h1 h2
          have a := hq r (by omega) x hx i h1 h2 (L.length + 1) (by omega)
          rw [hN, hnil _ _ _ (by omega)] at a
          exact (Option.some.inj a).symm
        obtain ⟨k, rfl⟩ : ∃ m, k = m + 1 := ⟨k - 1, by omega⟩
        have same : (row w fun x => mf (P x) 0 (r * 8) 0) = row w fun x => mf (P x) 0 ((r + 1) * 8) 0 := by
          refine row_congr fun x hx => ?_
          rw [e8, mf_add, Nat.zero_add, mf_no (hfalse x hx)]
        rw [hN, sweep_masks_v1.l1, same]
        split <;> rfl
      · have hlen : (L.filter (cr wide (sy y (r * 8)))).length ≤ L.length := List.length_filter_le _ _
        have := fill_l1 (b := L.length) hN hw (by omega) hy (fun x hx i h1 h2 k hk => hq r (by omega) x hx i h1 h2 k hk) w 0 k (fun x => mf (P x) 0 (r * 8) 0) (by omega) (by omega) (by omega)
        rw [show ((0 : Nat) : Int) = 0 from rfl] at this
        rw [this]
        congr 1
        refine row_congr fun x _ => ?_
        rw [if_pos (by omega), e8, mf_add, Nat.zero_add]
    refine bind_of (bind_of (sample_f (by omega) hy (by omega)) (bind_of (cross_list hL hin w0 w1 k (by omega)) key)) ?_
    rw [wnat (by omega)]
    exact fill_l0 hL hin w0 w1 hw hy hq hnil n (r + 1) k (by omega) (by omega) (by omega)
theorem fill_masks {L : List Ed} {y wide rule : Int} {w : Nat} {P : Nat → Nat → Bool} (hL : L.length ≤ 1000000) (hin : ∀ e ∈ L, In4 1000000 e) (w0 : 0 ≤ wide) (w1 : wide ≤ 1000000) (hw : w ≤ 1000) (hy : -100000 ≤ y ∧ y ≤ 100000)
    (hq : ∀ r < 8, ∀ x < w, ∀ i, r * 8 ≤ i → i < r * 8 + 8 → ∀ k, L.length < k → sweep_Fill_1_v1.f k (L.filter (cr wide (sy y (r * 8)))) (sx x i) (sy y i) rule = some (P x i)) (hnil : ∀ (k : Nat) (px py : Int), 0 < k → sweep_Fill_1_v1.f k [] px py rule = some false) (k : Nat) (hk : w + 20 + L.length < k) :
    sweep_masks_v1.f k L wide y w rule = some (row w fun x => mf (P x) 0 64 0) := by
  unfold sweep_masks_v1.f
  by_cases h : (w : Int) < 1
  · rw [if_pos h]
    have : w = 0 := by omega
    subst this
    rfl
  · rw [if_neg h]
    refine bind_of (x := row w fun x => mf (P x) 0 (0 * 8) 0) ?_ (bind_of (fill_l0 hL hin w0 w1 hw hy hq hnil 8 0 k (by omega) (by omega) (by omega)) rfl)
    unfold lmk
    rw [if_pos ⟨by omega, by omega, by omega⟩, Int.toNat_natCast]
    congr 1
    apply List.ext_getElem
    · simp [row]
    · intro i h1 h2
      simp [row, mf]

theorem gd_of {e : Ed} {px py : Int} (h : In4 1000000 e) (hx : -1000000 ≤ px ∧ px ≤ 1000000) (hy : -1000000 ≤ py ∧ py ≤ 1000000) : Gd e px py := by
  obtain ⟨a1, b1, c1, d1⟩ := h
  unfold Gd Nr
  omega
theorem sx_in {x : Nat} (hx : x ≤ 1000) (i : Nat) : -1000000 ≤ sx x i ∧ sx x i ≤ 1000000 := by unfold sx; omega
theorem sy_in {y : Int} (hy : -1000 ≤ y ∧ y ≤ 1000) {i : Nat} (hi : i < 64) : -1000000 ≤ sy y i ∧ sy y i ≤ 1000000 := by unfold sy; omega
def PF (L : List Ed) (rule y : Int) (x i : Nat) : Bool := ins rule (num L (sx x i) (sy y i))
theorem fill_f {L : List Ed} {y rule : Int} {w : Nat} (hL : L.length ≤ 1000000) (hin : ∀ e ∈ L, In4 1000000 e) (hw : w ≤ 1000) (hy : -1000 ≤ y ∧ y ≤ 1000) (k : Nat) (hk : w + 20 + L.length < k) : sweep_Fill_v1.f k L rule y w = some (row w fun x => mf (PF L rule y x) 0 64 0) := by
  unfold sweep_Fill_v1.f
  refine bind_of (fill_masks (P := PF L rule y) hL hin (by omega) (by omega) hw (by omega) ?_ ?_ k hk) rfl
  · intro r hr x hx i h1 h2 k hk
    have hlen : (L.filter (cr 0 (sy y (r * 8)))).length ≤ L.length := List.length_filter_le _ _
    rw [inside_all rule (by omega) (fun e he => gd_of (hin e (List.mem_filter.1 he).1) (sx_in (by omega) i) (sy_in hy (by omega))) k (by omega)]
    unfold PF
    rw [← sy_row y h1 h2, num_filter fun e _ he => one_cr he]
  · intro k px py hk
    have := inside_all (L := []) (px := px) (py := py) rule (by simp) (by simp) k (by simpa using hk)
    rw [this]
    unfold ins num
    split <;> rfl

theorem and_mask (k : Nat) (hk : k ≤ 62) (n m : Int) (hm : m = 2 ^ k - 1) : Go.bits .and .i64 n m = n % 2 ^ k := by
  have hp : (2 : Int) ^ k ≤ 2 ^ 62 := by
    have : 2 ^ k ≤ 2 ^ 62 := Nat.pow_le_pow_right (by omega) hk
    have e : ((2 ^ k : Nat) : Int) = (2 : Int) ^ k := by simp
    omega
  have hp0 : (1 : Int) ≤ 2 ^ k := Int.pow_pos (by omega)
  have e : ((2 ^ k : Nat) : Int) = (2 : Int) ^ k := by simp
  have hb : (BitVec.ofInt 64 m).toNat = 2 ^ k - 1 := by
    rw [BitVec.toNat_ofInt, hm]
    omega
  have key : (BitVec.ofInt 64 n &&& BitVec.ofInt 64 m).toNat = (n % ((2 ^ 64 : Nat) : Int)).toNat % 2 ^ k := by
    rw [BitVec.toNat_and, BitVec.toNat_ofInt, hb, Nat.and_two_pow_sub_one_eq_mod]
  show IntKind.i64.wrap ((BitVec.ofInt 64 n &&& BitVec.ofInt 64 m).toNat : Nat) = n % 2 ^ k
  rw [key, IntKind.wrap_i64]
  have h1 : 0 ≤ n % 18446744073709551616 := by omega
  have h2 : (((n % ((2 ^ 64 : Nat) : Int)).toNat % 2 ^ k : Nat) : Int) = n % 18446744073709551616 % 2 ^ k := by
    rw [Int.natCast_emod, e, Int.toNat_of_nonneg (by omega)]
    rfl
  have h3 : n % 18446744073709551616 % 2 ^ k = n % 2 ^ k := by
    apply Int.emod_emod_of_dvd
    exact ⟨2 ^ (64 - k), by rw [← Int.pow_add, show k + (64 - k) = 64 by omega]; rfl⟩
  rw [h2, h3]
  have h4 := Int.emod_nonneg n (show (2 : Int) ^ k ≠ 0 by omega)
  have h5 := Int.emod_lt_of_pos n (show (0 : Int) < 2 ^ k by omega)
  omega

def rep (m : Nat) : Nat → Nat
  | 0 => 0
  | n + 1 => m + 256 * rep m n
def lift (F : Nat → Nat) : Nat → Nat → Nat
  | 0, _ => 0
  | n + 1, x => F (x % 256) + 256 * lift F n (x / 256)

theorem and_256 (a m : Nat) : a &&& m = (a % 256 &&& m % 256) + 256 * (a / 256 &&& m / 256) := by
  have h1 := Nat.and_mod_two_pow (a := a) (b := m) (n := 8)
  have h2 := Nat.and_div_two_pow (a := a) (b := m) (n := 8)
  have h3 := Nat.mod_add_div (a &&& m) 256
  rw [show (2 : Nat) ^ 8 = 256 from rfl] at h1 h2
  rw [h1, h2] at h3
  exact h3.symm

theorem st_and (n x m : Nat) (hm : m < 256) : x &&& rep m (n + 1) = (x % 256 &&& m) + 256 * (x / 256 &&& rep m n) := by
  rw [and_256, show rep m (n + 1) % 256 = m by rw [rep]; omega, show rep m (n + 1) / 256 = rep m n by rw [rep]; omega]

def g1 (y : Nat) : Nat := (y / 2 &&& 85) + (y &&& 85)
def g2 (y : Nat) : Nat := (y / 4 &&& 51) + (y &&& 51)
def c2 (y : Nat) : Nat := g2 (g1 y)
def g3 (y : Nat) : Nat := c2 y / 16 + c2 y % 16

theorem byte1 : ∀ r : Fin 256, ∀ c : Fin 2, (r.val / 2 + 128 * c.val) &&& 85 = r.val / 2 &&& 85 := by decide +kernel
theorem byte2 : ∀ r : Fin 256, ∀ c : Fin 4, (r.val / 4 + 64 * c.val) &&& 51 = r.val / 4 &&& 51 := by decide +kernel
theorem g1_lt : ∀ r : Fin 256, g1 r.val < 256 := by decide +kernel
theorem c2_le : ∀ r : Fin 256, c2 r.val % 16 ≤ 4 ∧ c2 r.val / 16 ≤ 4 := by decide +kernel

theorem stage1 : ∀ n x : Nat, (x / 2 &&& rep 85 n) + (x &&& rep 85 n) = lift g1 n x
  | 0, x => by simp [rep, lift]
  | n + 1, x => by
    have ih := stage1 n (x / 256)
    rw [st_and n (x / 2) 85 (by omega), st_and n x 85 (by omega), lift]
    have e1 : x / 2 % 256 = x % 256 / 2 + 128 * (x / 256 % 2) := by omega
    have e2 : x / 2 / 256 = x / 256 / 2 := by omega
    have b := byte1 ⟨x % 256, by omega⟩ ⟨x / 256 % 2, by omega⟩
    simp only at b
    rw [e1, e2, b, ← ih]
    unfold g1
    omega

theorem stage2 : ∀ n x : Nat, (x / 4 &&& rep 51 n) + (x &&& rep 51 n) = lift g2 n x
  | 0, x => by simp [rep, lift]
  | n + 1, x => by
    have ih := stage2 n (x / 256)
    rw [st_and n (x / 4) 51 (by omega), st_and n x 51 (by omega), lift]
    have e1 : x / 4 % 256 = x % 256 / 4 + 64 * (x / 256 % 4) := by omega
    have e2 : x / 4 / 256 = x / 256 / 4 := by omega
    have b := byte2 ⟨x % 256, by omega⟩ ⟨x / 256 % 4, by omega⟩
    simp only at b
    rw [e1, e2, b, ← ih]
    unfold g2
    omega

theorem stage12 : ∀ n x : Nat, lift g2 n (lift g1 n x) = lift c2 n x
  | 0, x => by simp [lift]
  | n + 1, x => by
    have ih := stage12 n (x / 256)
    have l := g1_lt ⟨x % 256, by omega⟩
    simp only at l
    rw [lift, lift, lift, show (g1 (x % 256) + 256 * lift g1 n (x / 256)) % 256 = g1 (x % 256) by omega, show (g1 (x % 256) + 256 * lift g1 n (x / 256)) / 256 = lift g1 n (x / 256) by omega, ih]
    rfl

theorem c2_low : ∀ n x : Nat, lift c2 n x % 16 ≤ 4
  | 0, x => by simp [lift]
  | n + 1, x => by
    have l := c2_le ⟨x % 256, by omega⟩
    simp only at l
    rw [lift]
    omega

theorem stage3 : ∀ n x : Nat, (lift c2 n x / 16 + lift c2 n x) &&& rep 15 n = lift g3 n x
  | 0, x => by simp [rep, lift]
  | n + 1, x => by
    have ih := stage3 n (x / 256)
    have lo := c2_low n (x / 256)
    have l := c2_le ⟨x % 256, by omega⟩
    simp only at l
    rw [st_and n _ 15 (by omega), lift, lift]
    generalize lift c2 n (x / 256) = v at *
    have e2 : ((c2 (x % 256) + 256 * v) / 16 + (c2 (x % 256) + 256 * v)) / 256 = v / 16 + v := by omega
    have e1 : ((c2 (x % 256) + 256 * v) / 16 + (c2 (x % 256) + 256 * v)) % 256 &&& 15 = g3 (x % 256) := by
      have h := Nat.and_two_pow_sub_one_eq_mod (((c2 (x % 256) + 256 * v) / 16 + (c2 (x % 256) + 256 * v)) % 256) 4
      rw [show 2 ^ 4 - 1 = 15 from rfl, show 2 ^ 4 = 16 from rfl] at h
      rw [h]
      unfold g3
      omega
    rw [e1, e2, ih]

/-- So many of the first bits are one. -/
def PC : Nat → Nat → Nat
  | 0, _ => 0
  | n + 1, x => (x.testBit n).toNat + PC n x
theorem g3_is : ∀ r : Fin 256, g3 r.val = PC 8 r.val := by decide +kernel
theorem PC_le : ∀ n x : Nat, PC n x ≤ n
  | 0, x => by simp [PC]
  | n + 1, x => by
    have := PC_le n x
    have := Bool.toNat_le (x.testBit n)
    rw [PC]
    omega
theorem PC_congr {x y : Nat} : ∀ n : Nat, (∀ i < n, x.testBit i = y.testBit i) → PC n x = PC n y
  | 0, _ => rfl
  | n + 1, h => by rw [PC, PC, h n (by omega), PC_congr n fun i hi => h i (by omega)]
theorem PC_add (m : Nat) : ∀ n x : Nat, PC (n + m) x = PC n (x / 2 ^ m) + PC m x
  | 0, x => by simp [PC]
  | n + 1, x => by
    rw [show n + 1 + m = (n + m) + 1 by omega, PC, PC_add m n x, PC, Nat.testBit_div_two_pow]
    omega
theorem PC_mod (x : Nat) : PC 8 (x % 256) = PC 8 x := PC_congr 8 fun i hi => by
  rw [show (256 : Nat) = 2 ^ 8 from rfl, Nat.testBit_mod_two_pow, decide_eq_true hi, Bool.true_and]
theorem PC_byte (n x : Nat) : PC (n + 8) x = g3 (x % 256) + PC n (x / 256) := by
  have h := g3_is ⟨x % 256, by omega⟩
  simp only at h
  rw [PC_add 8 n x, show (2 : Nat) ^ 8 = 256 from rfl, h, PC_mod]
  omega
theorem g3_le (x : Nat) : g3 (x % 256) ≤ 8 := by
  have h := g3_is ⟨x % 256, by omega⟩
  simp only at h
  rw [h]
  exact PC_le 8 _

theorem fold8 {b0 b1 b2 b3 b4 b5 b6 b7 : Nat} (h0 : b0 ≤ 8) (h1 : b1 ≤ 8) (h2 : b2 ≤ 8) (h3 : b3 ≤ 8) (h4 : b4 ≤ 8) (h5 : b5 ≤ 8) (h6 : b6 ≤ 8) (h7 : b7 ≤ 8) :
    ∃ v u t M : Nat, b0 + 256 * (b1 + 256 * (b2 + 256 * (b3 + 256 * (b4 + 256 * (b5 + 256 * (b6 + 256 * (b7 + 256 * 0))))))) = v ∧ v + v / 256 = u ∧ u + u / 65536 = t ∧ t + t / 4294967296 = (b0 + (b1 + (b2 + (b3 + (b4 + (b5 + (b6 + b7))))))) + 256 * M ∧ v < 3000000000000000000 ∧ u < 3000000000000000000 ∧ t < 4000000000000000000 ∧ t + t / 4294967296 < 5000000000000000000 := by
  have e1 : ∀ a X : Nat, a < 256 → (a + 256 * X) / 256 = X := fun a X h => by omega
  have e2 : ∀ a b X : Nat, a < 256 → b < 256 → (a + 256 * (b + 256 * X)) / 65536 = X := fun a b X h1 h2 => by omega
  have e3 : ∀ a b c d X : Nat, a < 256 → b < 256 → c < 256 → d < 256 → (a + 256 * (b + 256 * (c + 256 * (d + 256 * X)))) / 4294967296 = X := fun a b c d X h1 h2 h3 h4 => by omega
  refine ⟨b0 + 256 * (b1 + 256 * (b2 + 256 * (b3 + 256 * (b4 + 256 * (b5 + 256 * (b6 + 256 * (b7 + 256 * 0))))))), (b0 + b1) + 256 * ((b1 + b2) + 256 * ((b2 + b3) + 256 * ((b3 + b4) + 256 * ((b4 + b5) + 256 * ((b5 + b6) + 256 * ((b6 + b7) + 256 * b7)))))), (b0 + b1 + (b2 + b3)) + 256 * ((b1 + b2 + (b3 + b4)) + 256 * ((b2 + b3 + (b4 + b5)) + 256 * ((b3 + b4 + (b5 + b6)) + 256 * ((b4 + b5 + (b6 + b7)) + 256 * ((b5 + b6 + b7) + 256 * ((b6 + b7) + 256 * b7)))))),
    (b1 + b2 + (b3 + b4)) + 256 * ((b2 + b3 + (b4 + b5)) + 256 * ((b3 + b4 + (b5 + b6)) + 256 * ((b4 + b5 + (b6 + b7)) + 256 * ((b5 + b6 + b7) + 256 * ((b6 + b7) + 256 * b7))))) + ((b5 + b6 + b7) + 256 * ((b6 + b7) + 256 * b7)), rfl, ?_, ?_, ?_, ?_, ?_, ?_, ?_⟩
  · rw [e1 _ _ (by omega)]; omega
  · rw [e2 _ _ _ (by omega) (by omega)]; omega
  · rw [e3 _ _ _ _ _ (by omega) (by omega) (by omega) (by omega)]; omega
  · omega
  · omega
  · omega
  · rw [e3 _ _ _ _ _ (by omega) (by omega) (by omega) (by omega)]; omega

theorem lift1_lt (n : Nat) : lift g1 8 n < 18446744073709551616 := by
  have h : ∀ k x : Nat, lift g1 k x < 256 ^ k := by
    intro k
    induction k with
    | zero => intro x; simp [lift]
    | succ k ih =>
      intro x
      have l := g1_lt ⟨x % 256, by omega⟩
      have i := ih (x / 256)
      simp only at l
      rw [lift, Nat.pow_succ]
      omega
  exact h 8 n
theorem lift2_lt (n : Nat) : lift c2 8 n < 5000000000000000000 := by
  have h : ∀ k x : Nat, lift c2 k x ≤ rep 68 k := by
    intro k
    induction k with
    | zero => intro x; simp [lift, rep]
    | succ k ih =>
      intro x
      have l := c2_le ⟨x % 256, by omega⟩
      have i := ih (x / 256)
      simp only at l
      rw [lift, rep]
      omega
  have h1 := h 8 n
  have h2 : rep 68 8 = 4919131752989213764 := by decide
  omega
theorem fd (a b : Nat) : Int.fdiv (a : Int) (b : Int) = ((a / b : Nat) : Int) := by rw [Int.fdiv_eq_ediv_of_nonneg _ (by omega), Int.natCast_ediv]
theorem wn {a : Nat} (h : a < 18446744073709551616) : wru64 (a : Int) = (a : Int) := wu64 (by omega) (by omega)

theorem step1 {n : Nat} (hn : n < 18446744073709551616) : wru64 ((bits .and .u64 (Int.fdiv (n : Int) 2) 6148914691236517205) + (bits .and .u64 (n : Int) 6148914691236517205)) = ((lift g1 8 n : Nat) : Int) := by
  have s1 := stage1 8 n
  have r5 : rep 85 8 = 6148914691236517205 := by decide
  rw [r5] at s1
  have a1 := bits_and_u64_nat (n / 2) 6148914691236517205 (by omega) (by omega)
  have a2 := bits_and_u64_nat n 6148914691236517205 hn (by omega)
  rw [show (2 : Int) = ((2 : Nat) : Int) from rfl, fd, show (6148914691236517205 : Int) = ((6148914691236517205 : Nat) : Int) from rfl, a1, a2, ← Int.natCast_add, s1, wn (lift1_lt n)]
theorem step2 (n : Nat) : wru64 ((bits .and .u64 (Int.fdiv ((lift g1 8 n : Nat) : Int) 4) 3689348814741910323) + (bits .and .u64 ((lift g1 8 n : Nat) : Int) 3689348814741910323)) = ((lift c2 8 n : Nat) : Int) := by
  have s2 := stage2 8 (lift g1 8 n)
  have r3 : rep 51 8 = 3689348814741910323 := by decide
  rw [stage12, r3] at s2
  have l1 := lift1_lt n
  have l2 := lift2_lt n
  generalize lift g1 8 n = v at *
  have a1 := bits_and_u64_nat (v / 4) 3689348814741910323 (by omega) (by omega)
  have a2 := bits_and_u64_nat v 3689348814741910323 l1 (by omega)
  rw [show (4 : Int) = ((4 : Nat) : Int) from rfl, fd, show (3689348814741910323 : Int) = ((3689348814741910323 : Nat) : Int) from rfl, a1, a2, ← Int.natCast_add, s2, wn (by omega)]
theorem step3 (n : Nat) : bits .and .u64 (wru64 ((Int.fdiv ((lift c2 8 n : Nat) : Int) 16) + ((lift c2 8 n : Nat) : Int))) 1085102592571150095 = ((lift g3 8 n : Nat) : Int) := by
  have s3 := stage3 8 n
  have rf : rep 15 8 = 1085102592571150095 := by decide
  rw [rf] at s3
  have l2 := lift2_lt n
  generalize lift c2 8 n = v at *
  rw [show (16 : Int) = ((16 : Nat) : Int) from rfl, fd, ← Int.natCast_add, wn (by omega)]
  have a1 := bits_and_u64_nat (v / 16 + v) 1085102592571150095 (by omega) (by omega)
  rw [show (1085102592571150095 : Int) = ((1085102592571150095 : Nat) : Int) from rfl, a1, s3]
theorem pc8 (n : Nat) : ∃ b0 b1 b2 b3 b4 b5 b6 b7 : Nat, (b0 ≤ 8 ∧ b1 ≤ 8 ∧ b2 ≤ 8 ∧ b3 ≤ 8 ∧ b4 ≤ 8 ∧ b5 ≤ 8 ∧ b6 ≤ 8 ∧ b7 ≤ 8) ∧ lift g3 8 n = b0 + 256 * (b1 + 256 * (b2 + 256 * (b3 + 256 * (b4 + 256 * (b5 + 256 * (b6 + 256 * (b7 + 256 * 0))))))) ∧ PC 64 n = b0 + (b1 + (b2 + (b3 + (b4 + (b5 + (b6 + b7)))))) := by
  refine ⟨g3 (n % 256), g3 (n / 256 % 256), g3 (n / 256 / 256 % 256), g3 (n / 256 / 256 / 256 % 256), g3 (n / 256 / 256 / 256 / 256 % 256), g3 (n / 256 / 256 / 256 / 256 / 256 % 256), g3 (n / 256 / 256 / 256 / 256 / 256 / 256 % 256), g3 (n / 256 / 256 / 256 / 256 / 256 / 256 / 256 % 256), ⟨g3_le _, g3_le _, g3_le _, g3_le _, g3_le _, g3_le _, g3_le _, g3_le _⟩, by simp only [lift], ?_⟩
  rw [show (64 : Nat) = 56 + 8 from rfl, PC_byte, show (56 : Nat) = 48 + 8 from rfl, PC_byte, show (48 : Nat) = 40 + 8 from rfl, PC_byte, show (40 : Nat) = 32 + 8 from rfl, PC_byte, show (32 : Nat) = 24 + 8 from rfl, PC_byte, show (24 : Nat) = 16 + 8 from rfl, PC_byte, show (16 : Nat) = 8 + 8 from rfl, PC_byte, show (8 : Nat) = 0 + 8 from rfl, PC_byte]
  simp [PC]

theorem ones_f {n : Nat} (hn : n < 18446744073709551616) : bits_OnesCount64.f (n : Int) = some ((PC 64 n : Nat) : Int) := by
  unfold bits_OnesCount64.f
  refine bind_of (congrArg some (step1 hn)) (bind_of (congrArg some (step2 n)) (bind_of (congrArg some (step3 n)) ?_))
  obtain ⟨b0, b1, b2, b3, b4, b5, b6, b7, ⟨h0, h1, h2, h3, h4, h5, h6, h7⟩, el, ep⟩ := pc8 n
  obtain ⟨v, u, t, M, ev, eu, et, eM, lv, lu, lt, lz⟩ := fold8 h0 h1 h2 h3 h4 h5 h6 h7
  rw [el, ep, ev]
  have q1 : wru64 ((v : Int) + Int.fdiv (v : Int) 256) = (u : Int) := by
    rw [show (256 : Int) = ((256 : Nat) : Int) from rfl, fd, ← Int.natCast_add, eu, wn (by omega)]
  have q2 : wru64 ((u : Int) + Int.fdiv (u : Int) 65536) = (t : Int) := by
    rw [show (65536 : Int) = ((65536 : Nat) : Int) from rfl, fd, ← Int.natCast_add, et, wn (by omega)]
  rw [q1]
  refine bind_of (congrArg some q2) ?_
  have q3 : wru64 ((t : Int) + Int.fdiv (t : Int) 4294967296) = ((t + t / 4294967296 : Nat) : Int) := by
    rw [show (4294967296 : Int) = ((4294967296 : Nat) : Int) from rfl, fd, ← Int.natCast_add, wn (by omega)]
  rw [q3]
  rw [eM] at lz ⊢
  generalize hs : b0 + (b1 + (b2 + (b3 + (b4 + (b5 + (b6 + b7)))))) = s at *
  have hs64 : s ≤ 64 := by omega
  clear ev eu et eM el ep hs q1 q2 q3 lv lu lt
  have q4 : bits .and .i64 (wr64 ((s + 256 * M : Nat) : Int)) 127 = (s : Int) := by
    rw [w64 (by omega) (by omega), and_mask 7 (by omega) _ 127 (by decide)]
    omega
  exact bind_of (congrArg some q4) rfl

theorem bit_in {i j : Nat} : (2 ^ i).testBit j = decide (i = j) := Nat.testBit_two_pow
theorem wbit {i : Nat} (h : i < 64) : wru64 (1 * 2 ^ (min i 64)) = ((2 ^ i : Nat) : Int) := by
  have h1 : (2 : Nat) ^ i < 2 ^ 64 := Nat.pow_lt_pow_right (by omega) h
  have e : (1 : Int) * 2 ^ (min i 64) = ((2 ^ i : Nat) : Int) := by rw [Nat.min_eq_left (by omega)]; simp
  rw [e]
  generalize (2 : Nat) ^ i = q at h1
  exact wu64 (by omega) (by omega)
theorem mf_bits (p : Nat → Bool) : ∀ (n i m : Nat), i + n ≤ 64 → m < 18446744073709551616 → ∃ m' : Nat, mf p i n m = (m' : Int) ∧ m' < 18446744073709551616 ∧ ∀ j, m'.testBit j = (m.testBit j || (decide (i ≤ j ∧ j < i + n) && p j))
  | 0, i, m, h, hm => ⟨m, rfl, hm, fun j => by rw [decide_eq_false (by omega)]; simp⟩
  | n + 1, i, m, h, hm => by
    have h1 : (2 : Nat) ^ i < 2 ^ 64 := Nat.pow_lt_pow_right (by omega) (by omega)
    cases hp : p i with
    | true =>
      have hlt : m ||| 2 ^ i < 18446744073709551616 := Nat.or_lt_two_pow (n := 64) (by omega) h1
      obtain ⟨m', e1, e2, e3⟩ := mf_bits p n (i + 1) (m ||| 2 ^ i) (by omega) hlt
      refine ⟨m', ?_, e2, fun j => ?_⟩
      · rw [mf, mst, if_pos hp, wbit (by omega), bits_or_u64_nat m (2 ^ i) hm (by omega)]
        exact e1
      · rw [e3, Nat.testBit_or, bit_in]
        by_cases c : i = j
        · subst c
          rw [hp, decide_eq_true (show i ≤ i ∧ i < i + (n + 1) by omega), decide_eq_false (show ¬ (i + 1 ≤ i ∧ i < i + 1 + n) by omega)]
          simp
        · rw [decide_eq_false c]
          by_cases d : i + 1 ≤ j ∧ j < i + 1 + n
          · rw [decide_eq_true d, decide_eq_true (show i ≤ j ∧ j < i + (n + 1) by omega)]; simp
          · rw [decide_eq_false d, decide_eq_false (show ¬ (i ≤ j ∧ j < i + (n + 1)) by omega)]; simp
    | false =>
      obtain ⟨m', e1, e2, e3⟩ := mf_bits p n (i + 1) m (by omega) hm
      refine ⟨m', ?_, e2, fun j => ?_⟩
      · rw [mf, mst, hp, if_neg (by decide)]
        exact e1
      · rw [e3]
        by_cases c : i = j
        · subst c
          rw [hp]
          simp
        · by_cases d : i + 1 ≤ j ∧ j < i + 1 + n
          · rw [decide_eq_true d, decide_eq_true (show i ≤ j ∧ j < i + (n + 1) by omega)]
          · rw [decide_eq_false d, decide_eq_false (show ¬ (i ≤ j ∧ j < i + (n + 1)) by omega)]
theorem mf_all (p : Nat → Bool) : ∃ m : Nat, mf p 0 64 0 = (m : Int) ∧ m < 18446744073709551616 ∧ ∀ j, m.testBit j = (decide (j < 64) && p j) := by
  obtain ⟨m, e1, e2, e3⟩ := mf_bits p 64 0 0 (by omega) (by omega)
  refine ⟨m, e1, e2, fun j => ?_⟩
  rw [e3]
  by_cases d : j < 64
  · rw [decide_eq_true d, decide_eq_true (show 0 ≤ j ∧ j < 0 + 64 by omega)]; simp
  · rw [decide_eq_false d, decide_eq_false (show ¬ (0 ≤ j ∧ j < 0 + 64) by omega)]; simp

def cS (a m i s : Nat) : Nat := if a ≤ 8 * i + s ∧ 8 * i + s < a + m then 1 else 0
def S8 (a m i : Nat) : Nat → Nat
  | 0 => 0
  | s + 1 => S8 a m i s + cS a m i s
def T10 (a m : Nat) : Nat → Nat
  | 0 => 0
  | i + 1 => T10 a m i + S8 a m i 8
theorem total : ∀ a : Fin 33, ∀ n : Fin 3, T10 a.val (8 * (n.val + 1)) 10 = 8 * (n.val + 1) := by decide +kernel
theorem S8_le (a m i : Nat) : ∀ s, S8 a m i s ≤ s
  | 0 => Nat.le_refl _
  | s + 1 => by
    have := S8_le a m i s
    rw [S8]
    unfold cS
    split <;> omega
theorem T10_le (a m : Nat) : ∀ i, T10 a m i ≤ 8 * i
  | 0 => Nat.le_refl _
  | i + 1 => by
    have := T10_le a m i
    have := S8_le a m i 8
    rw [T10]
    omega
theorem one_flat (ax bx c px py : Int) : one (ax, c, bx, c) px py = 0 := by
  unfold one
  dsimp only
  rw [if_neg (by omega), if_neg (by omega)]
theorem one_up (c px py : Int) (h : 0 < py ∧ py < 256) : one (c, 0, c, 256) px py = if px < c then 1 else 0 := by
  unfold one crs
  dsimp only
  rw [Int.sub_self, Int.zero_mul]
  by_cases d : px < c
  · rw [if_pos (by omega), if_pos d]
  · rw [if_neg (by omega), if_neg (by omega), if_neg d]
theorem one_dn (c px py : Int) (h : 0 < py ∧ py < 256) : one (c, 256, c, 0) px py = if px < c then -1 else 0 := by
  unfold one crs
  dsimp only
  rw [Int.sub_self, Int.zero_mul]
  by_cases d : px < c
  · rw [if_neg (by omega), if_pos (by omega), if_pos d]
  · rw [if_neg (by omega), if_neg (by omega), if_neg d]
theorem one_up2 (c px py : Int) (h : 256 < py) : one (c, 0, c, 256) px py = 0 := by
  unfold one
  dsimp only
  rw [if_neg (by omega), if_neg (by omega)]
theorem one_dn2 (c px py : Int) (h : 256 < py) : one (c, 256, c, 0) px py = 0 := by
  unfold one
  dsimp only
  rw [if_neg (by omega), if_neg (by omega)]
def sqL (out : Bool) (a b : Int) : List Ed := if out then [(b, 0, a, 0), (b, 256, b, 0), (a, 256, b, 256), (a, 0, a, 256)] else [(a, 0, b, 0), (b, 0, b, 256), (b, 256, a, 256), (a, 256, a, 0)]
theorem ins_pm {rule n : Int} (h : n = 0 ∨ n = 1 ∨ n = -1) : ins rule n = decide (n ≠ 0) := by
  unfold ins
  rcases h with rfl | rfl | rfl <;> split <;> rfl
theorem sq_in (out : Bool) {a b px py rule : Int} (hab : a ≤ b) (h : 0 < py ∧ py < 256) : ins rule (num (sqL out a b) px py) = decide (a ≤ px ∧ px < b) := by
  have hn : num (sqL out a b) px py = if out then (if px < b then -1 else 0) + (if px < a then 1 else 0) else (if px < b then 1 else 0) + (if px < a then -1 else 0) := by
    unfold sqL
    cases out
    · simp only [num, one_flat, one_up _ _ _ h, one_dn _ _ _ h, if_false, Bool.false_eq_true]; omega
    · simp only [num, one_flat, one_up _ _ _ h, one_dn _ _ _ h, if_true]; omega
  rw [hn]
  by_cases c1 : px < a
  · have c2 : px < b := by omega
    rw [ins_pm (by cases out <;> simp [c1, c2])]
    rw [decide_eq_false (show ¬ (a ≤ px ∧ px < b) by omega)]
    cases out <;> simp [c1, c2]
  · by_cases c2 : px < b
    · rw [ins_pm (by cases out <;> simp [c1, c2])]
      rw [decide_eq_true (show a ≤ px ∧ px < b by omega)]
      cases out <;> simp [c1, c2]
    · rw [ins_pm (by cases out <;> simp [c1, c2])]
      rw [decide_eq_false (show ¬ (a ≤ px ∧ px < b) by omega)]
      cases out <;> simp [c1, c2]
theorem sq_out (out : Bool) {a b px py rule : Int} (h : 256 < py) : ins rule (num (sqL out a b) px py) = false := by
  have hn : num (sqL out a b) px py = 0 := by
    unfold sqL
    cases out
    · simp only [num, one_flat, one_up2 _ _ _ h, one_dn2 _ _ _ h, if_false, Bool.false_eq_true]; omega
    · simp only [num, one_flat, one_up2 _ _ _ h, one_dn2 _ _ _ h, if_true]; omega
  rw [hn, ins_pm (Or.inl rfl)]
  rfl
theorem pc_cols {a m i M : Nat} (hM : ∀ j, M.testBit j = (decide (j < 64) && decide (a ≤ 8 * i + j % 8 ∧ 8 * i + j % 8 < a + m))) : ∀ r s, r * 8 + s ≤ 64 → s ≤ 8 → PC (r * 8 + s) M = r * S8 a m i 8 + S8 a m i s
  | 0, 0, _, _ => by rw [Nat.zero_mul, Nat.zero_mul]; rfl
  | r + 1, 0, h, _ => by
    have ih := pc_cols hM r 8 (by omega) (by omega)
    rw [show (r + 1) * 8 + 0 = r * 8 + 8 by omega, ih, S8, Nat.add_mul, Nat.one_mul]
    rfl
  | r, s + 1, h, h2 => by
    have ih := pc_cols hM r s (by omega) (by omega)
    have e9 : S8 a m i (s + 1) = S8 a m i s + cS a m i s := rfl
    rw [e9]
    generalize S8 a m i 8 = q at ih ⊢
    rw [show r * 8 + (s + 1) = (r * 8 + s) + 1 from rfl, PC, ih, hM, decide_eq_true (show r * 8 + s < 64 by omega), Bool.true_and, show (r * 8 + s) % 8 = s by omega]
    unfold cS
    by_cases c : a ≤ 8 * i + s ∧ 8 * i + s < a + m
    · rw [decide_eq_true c, if_pos c]; simp; omega
    · rw [decide_eq_false c, if_neg c]; simp
theorem sq_count (out : Bool) {A m : Nat} {a b rule : Int} (ha : a = 32 * A) (hb : b = 32 * (A + m)) (i : Nat) : sweep_Count.f (mf (PF (sqL out a b) rule 0 i) 0 64 0) = some ((8 * S8 A m i 8 : Nat) : Int) := by
  have hp : ∀ j, j < 64 → PF (sqL out a b) rule 0 i j = decide (A ≤ 8 * i + j % 8 ∧ 8 * i + j % 8 < A + m) := by
    intro j hj
    unfold PF
    rw [sq_in out (by omega) (by unfold sy; omega)]
    unfold sx
    by_cases c : A ≤ 8 * i + j % 8 ∧ 8 * i + j % 8 < A + m
    · rw [decide_eq_true c, decide_eq_true (by omega)]
    · rw [decide_eq_false c, decide_eq_false (by omega)]
  obtain ⟨M, e, l, hbit⟩ := mf_all (PF (sqL out a b) rule 0 i)
  rw [e]
  have hM : ∀ j, M.testBit j = (decide (j < 64) && decide (A ≤ 8 * i + j % 8 ∧ 8 * i + j % 8 < A + m)) := by
    intro j
    rw [hbit]
    by_cases c : j < 64
    · rw [hp j c]
    · rw [decide_eq_false c, Bool.false_and, Bool.false_and]
  have hpc := pc_cols hM 8 0 (by omega) (by omega)
  rw [show 8 * 8 + 0 = 64 from rfl, show S8 A m i 0 = 0 from rfl, Nat.add_zero] at hpc
  have ho := ones_f l
  rw [hpc] at ho
  exact bind_of ho rfl
theorem sq_zero (out : Bool) (a b rule : Int) (i : Nat) : mf (PF (sqL out a b) rule 1 i) 0 64 0 = 0 := mf_no fun j _ h => by
  unfold PF
  exact sq_out out (by unfold sy; omega)
theorem want_l {A m : Nat} {a b : Int} (ha : a = 32 * A) (hb : b = 32 * (A + m)) (hA : A ≤ 100) (hm : m ≤ 100) (all : Int) {i : Nat} (hi : i < 10) (t : Int) : ∀ (n s k : Nat), 8 - s = n → s ≤ 8 → n < k → glyphiclaw24_SweepSquares.l2 k b a all i t ((8 * S8 A m i s : Nat) : Int) s = some (wr64 (all + t), ((8 * S8 A m i 8 : Nat) : Int))
  | 0, s, k, hn, hs, hk => by
    obtain ⟨k, rfl⟩ : ∃ q, k = q + 1 := ⟨k - 1, by omega⟩
    have : s = 8 := by omega
    subst this
    rw [glyphiclaw24_SweepSquares.l2, if_neg (by omega)]
  | n + 1, s, k, hn, hs, hk => by
    obtain ⟨k, rfl⟩ : ∃ q, k = q + 1 := ⟨k - 1, by omega⟩
    have hle := S8_le A m i s
    have e : wr64 (wr64 (wr64 ((i : Int) * 256) + wr64 (32 * (s : Int))) + 16) = 256 * i + 32 * s + 16 := by
      rw [w64 (n := (i : Int) * 256) (by omega) (by omega), w64 (n := 32 * (s : Int)) (by omega) (by omega), w64 (n := (i : Int) * 256 + 32 * s) (by omega) (by omega), w64 (by omega) (by omega)]
      omega
    have ih := want_l ha hb hA hm all hi t n (s + 1) k (by omega) (by omega) (by omega)
    rw [glyphiclaw24_SweepSquares.l2, if_pos (by omega), e, wnat (by omega), w64 (n := ((8 * S8 A m i s : Nat) : Int) + 8) (by omega) (by omega)]
    by_cases c1 : A ≤ 8 * i + s
    · rw [if_pos (by omega)]
      by_cases c2 : 8 * i + s < A + m
      · rw [if_pos (by omega)]
        have es : ((8 * S8 A m i s : Nat) : Int) + 8 = ((8 * S8 A m i (s + 1) : Nat) : Int) := by
          rw [S8]; unfold cS; rw [if_pos ⟨c1, c2⟩]; omega
        rw [es]
        exact ih
      · rw [if_neg (by omega)]
        have es : S8 A m i s = S8 A m i (s + 1) := by
          rw [S8]; unfold cS; rw [if_neg (by omega)]; omega
        rw [es]
        exact ih
    · rw [if_neg (by omega)]
      have es : S8 A m i s = S8 A m i (s + 1) := by
        rw [S8]; unfold cS; rw [if_neg (by omega)]; omega
      rw [es]
      exact ih
theorem pix_l (out : Bool) {A m : Nat} {a b : Int} (rule : Int) (ha : a = 32 * A) (hb : b = 32 * (A + m)) (hA : A ≤ 100) (hm : m ≤ 100) : ∀ (n i k : Nat), 10 - i = n → i ≤ 10 → n + 10 < k →
    glyphiclaw24_SweepSquares.l1 k b a (row 10 fun x => mf (PF (sqL out a b) rule 0 x) 0 64 0) (row 10 fun x => mf (PF (sqL out a b) rule 1 x) 0 64 0) ((8 * T10 A m i : Nat) : Int) i = some (.inr ((8 * T10 A m 10 : Nat) : Int))
  | 0, i, k, hn, hi, hk => by
    obtain ⟨k, rfl⟩ : ∃ q, k = q + 1 := ⟨k - 1, by omega⟩
    have : i = 10 := by omega
    subst this
    rw [glyphiclaw24_SweepSquares.l1, if_neg (by omega)]
  | n + 1, i, k, hn, hi, hk => by
    obtain ⟨k, rfl⟩ : ∃ q, k = q + 1 := ⟨k - 1, by omega⟩
    have hT := T10_le A m i
    have hS := S8_le A m i 8
    have ih := pix_l out rule ha hb hA hm n (i + 1) k (by omega) (by omega) (by omega)
    have hw := want_l ha hb hA hm ((8 * T10 A m i : Nat) : Int) (i := i) (by omega) ((8 * S8 A m i 8 : Nat) : Int) 8 0 k (by omega) (by omega) (by omega)
    rw [show S8 A m i 0 = 0 from rfl, Nat.mul_zero] at hw
    rw [glyphiclaw24_SweepSquares.l1, if_pos (by omega)]
    have eT : wr64 (((8 * T10 A m i : Nat) : Int) + ((8 * S8 A m i 8 : Nat) : Int)) = ((8 * T10 A m (i + 1) : Nat) : Int) := by
      rw [w64 (by omega) (by omega), T10]
      omega
    refine bind_of (x := .inr (wr64 (((8 * T10 A m i : Nat) : Int) + ((8 * S8 A m i 8 : Nat) : Int)), mf (PF (sqL out a b) rule 1 i) 0 64 0)) (bind_of (row_get _ (by omega)) (bind_of (sq_count out ha hb i) (bind_of hw ?_))) ?_
    · dsimp only
      rw [if_pos rfl]
      refine bind_of (row_get _ (by omega)) ?_
      rw [if_pos (sq_zero out a b rule i)]
    · dsimp only
      rw [eT, wnat (by omega)]
      exact ih
theorem rule_l (out : Bool) {A n : Nat} {a b : Int} (ha : a = 32 * A) (hb : b = 32 * (A + 8 * n)) (hA : A < 33) (h1 : 1 ≤ n) (h3 : n ≤ 3) (hin : ∀ e ∈ sqL out a b, In4 1000000 e) : ∀ (m r k : Nat), 2 - r = m → r ≤ 2 → m + 60 < k → glyphiclaw24_SweepSquares.l0 k n (sqL out a b) b a r = some (.inr ())
  | 0, r, k, hm, hr, hk => by
    obtain ⟨k, rfl⟩ : ∃ q, k = q + 1 := ⟨k - 1, by omega⟩
    rw [glyphiclaw24_SweepSquares.l0, if_neg (by omega)]
  | m + 1, r, k, hm, hr, hk => by
    obtain ⟨k, rfl⟩ : ∃ q, k = q + 1 := ⟨k - 1, by omega⟩
    have ih := rule_l out ha hb hA h1 h3 hin m (r + 1) k (by omega) (by omega) (by omega)
    have hlen : (sqL out a b).length = 4 := by unfold sqL; cases out <;> rfl
    have f0 := fill_f (rule := (r : Int)) (y := 0) (w := 10) (L := sqL out a b) (by omega) hin (by omega) (by omega) k (by omega)
    have f1 := fill_f (rule := (r : Int)) (y := 1) (w := 10) (L := sqL out a b) (by omega) hin (by omega) (by omega) k (by omega)
    have hp := pix_l out (r : Int) ha (show b = 32 * ((A : Int) + ((8 * n : Nat) : Int)) by omega) (by omega) (by omega) 10 0 k (by omega) (by omega) (by omega)
    have htot := total ⟨A, hA⟩ ⟨n - 1, by omega⟩
    simp only at htot
    rw [show n - 1 + 1 = n by omega] at htot
    rw [htot, show T10 A (8 * n) 0 = 0 from rfl, Nat.mul_zero] at hp
    rw [glyphiclaw24_SweepSquares.l0, if_pos (by omega)]
    refine bind_of (x := .inr (row 10 fun x => mf (PF (sqL out a b) (r : Int) 1 x) 0 64 0, ((row 10 fun x => mf (PF (sqL out a b) (r : Int) 1 x) 0 64 0).length : Int))) (bind_of f0 (bind_of f1 ?_)) ?_
    · rw [if_pos (by rw [row_len]; rfl), if_pos (by rw [row_len]; rfl)]
      refine bind_of hp ?_
      dsimp only
      rw [if_pos (by rw [w64 (by omega) (by omega)]; omega)]
    · dsimp only
      rw [wnat (by omega)]
      exact ih
theorem SweepSquares : glyphiclaw24_SweepSquares.Pure := by
  intro x n half out _ _ _
  have hf : glyphiclaw24_first.f 300 = some true := by decide +kernel
  refine ⟨300, ?_⟩
  unfold glyphiclaw24_SweepSquares.f
  refine bind_of hf ?_
  rw [if_pos rfl]
  obtain ⟨X, hX, x0, x1⟩ := cyc x (b := 4) (by omega) (by omega)
  obtain ⟨N, hN, n0, n1⟩ := cyc n (b := 3) (by omega) (by omega)
  obtain ⟨H, hH, h0, h1⟩ := cyc half (b := 9) (by omega) (by omega)
  rw [hX, hN, hH]
  obtain ⟨X, rfl⟩ : ∃ q : Nat, X = q := ⟨X.toNat, by omega⟩
  obtain ⟨N, rfl⟩ : ∃ q : Nat, N = q := ⟨N.toNat, by omega⟩
  obtain ⟨H, rfl⟩ : ∃ q : Nat, H = q := ⟨H.toNat, by omega⟩
  have ea : wr64 (wr64 ((X : Int) * 256) + wr64 (32 * (H : Int))) = 32 * ((8 * X + H : Nat) : Int) := by
    rw [w64 (n := (X : Int) * 256) (by omega) (by omega), w64 (n := 32 * (H : Int)) (by omega) (by omega), w64 (by omega) (by omega)]
    omega
  have en : wr64 ((N : Int) + 1) = ((N + 1 : Nat) : Int) := wnat (by omega)
  rw [ea, en]
  have eb : wr64 (32 * ((8 * X + H : Nat) : Int) + wr64 (((N + 1 : Nat) : Int) * 256)) = 32 * (((8 * X + H : Nat) : Int) + 8 * ((N + 1 : Nat) : Int)) := by
    rw [w64 (n := ((N + 1 : Nat) : Int) * 256) (by omega) (by omega), w64 (by omega) (by omega)]
    omega
  rw [eb]
  generalize hA : 8 * X + H = A
  generalize hM : N + 1 = M
  have b1 : A < 33 := by omega
  have b2 : 1 ≤ M ∧ M ≤ 3 := by omega
  clear hA hM ea en eb
  obtain ⟨a, ha⟩ : ∃ a : Int, 32 * (A : Int) = a := ⟨_, rfl⟩
  obtain ⟨b, hb⟩ : ∃ b : Int, 32 * ((A : Int) + 8 * (M : Int)) = b := ⟨_, rfl⟩
  rw [ha, hb]
  have hin : ∀ e ∈ sqL out a b, In4 1000000 e := by
    intro e he
    unfold sqL at he
    cases out
    · simp only [Bool.false_eq_true, if_false, List.mem_cons, List.not_mem_nil, or_false] at he
      unfold In4
      rcases he with rfl | rfl | rfl | rfl <;> (dsimp only; omega)
    · simp only [if_true, List.mem_cons, List.not_mem_nil, or_false] at he
      unfold In4
      rcases he with rfl | rfl | rfl | rfl <;> (dsimp only; omega)
  have hl := rule_l out (A := A) (n := M) ha.symm hb.symm b1 b2.1 b2.2 hin 2 0 300 (by omega) (by omega) (by omega)
  cases out with
  | true =>
    refine bind_of rfl ?_
    dsimp only
    exact bind_of hl rfl
  | false =>
    refine bind_of rfl ?_
    dsimp only
    exact bind_of hl rfl

end Go.Proofs.Ytpimfacaalkmdaa.Pure
