/- Division bit by bit. No program in sight. -/
import Derived.Test.YtcoclcbclbjdaaaWideMath
namespace Go.Proofs.Ytcoclcbclbjdaaa
set_option linter.unusedVariables false
set_option linter.unusedSimpArgs false

theorem lb_or (x y i : Nat) : lb (x ||| y) i = lb x i ||| lb y i := by
  apply Nat.eq_of_testBit_eq
  intro k
  rw [lb_bit, Nat.testBit_or, Nat.testBit_or, lb_bit, lb_bit, Bool.and_or_distrib_left]
theorem lb_pow (n i : Nat) : lb (2 ^ n) i = if i = n / 64 then 2 ^ (n % 64) else 0 := by
  apply Nat.eq_of_testBit_eq
  intro k
  rw [lb_bit, Nat.testBit_two_pow]
  by_cases h : i = n / 64
  · subst h
    rw [if_pos rfl, Nat.testBit_two_pow]
    by_cases hk : n % 64 = k
    · have h1 : k < 64 := by omega
      have h2 : n = 64 * (n / 64) + k := by omega
      simp [hk, h1, ← h2]
    · have h2 : ¬ (n = 64 * (n / 64) + k) := by omega
      simp [hk, h2]
  · rw [if_neg h]
    have h2 : ¬ (k < 64 ∧ n = 64 * i + k) := by omega
    simp only [Nat.zero_testBit, Bool.and_eq_false_iff, decide_eq_false_iff_not]
    by_cases hk : k < 64
    · exact .inr fun e => h2 ⟨hk, e⟩
    · exact .inl hk
theorem add_pow (q n : Nat) (h : q % 2 ^ (n + 1) = 0) : q + 2 ^ n = q ||| 2 ^ n := by
  have hq : q = (q / 2 ^ (n + 1)) <<< (n + 1) := by
    rw [Nat.shiftLeft_eq]; exact (Nat.div_mul_cancel (Nat.dvd_of_mod_eq_zero h)).symm
  rw [hq]
  exact Nat.shiftLeft_add_eq_or_of_lt (Nat.pow_lt_pow_right (by decide) (by omega)) _

theorem four (i : Nat) (h : i < 4) : i = 0 ∨ i = 1 ∨ i = 2 ∨ i = 3 := by omega
theorem wv_at (q i : Nat) (h : i < 4) : (wv q)[i]? = some (.int .u64 (lb q i)) := by
  rcases four i h with rfl | rfl | rfl | rfl <;> rfl
theorem wv_or (q n : Nat) (h : n < 256) (hq : q % 2 ^ (n + 1) = 0) : (wv q).setIfInBounds (n / 64) (.int .u64 (lb q (n / 64) ||| 2 ^ (n % 64) : Nat)) = wv (q + 2 ^ n) := by
  rw [add_pow q n hq]
  have e : ∀ i, lb (q ||| 2 ^ n) i = lb q i ||| if i = n / 64 then 2 ^ (n % 64) else 0 := fun i => by rw [lb_or, lb_pow]
  have hi : n / 64 < 4 := by omega
  unfold wv
  rw [e 0, e 1, e 2, e 3]
  rcases four _ hi with h0 | h0 | h0 | h0 <;> rw [h0] <;> simp

theorem div_up (y n : Nat) (b : Nat) (hy : y < 2 ^ b) (h : n + b ≤ 256) : y <<< n < B256 := by
  rw [Nat.shiftLeft_eq]
  have h1 : y * 2 ^ n < 2 ^ b * 2 ^ n := (Nat.mul_lt_mul_right (Nat.two_pow_pos n)).2 hy
  rw [← Nat.pow_add] at h1
  have h2 : 2 ^ (b + n) ≤ 2 ^ 256 := Nat.pow_le_pow_right (by decide) (by omega)
  have h3 : (2 ^ 256 : Nat) = B256 := by decide +kernel
  omega
theorem div_yes (x y q r n : Nat) (hx : x = q * y + r) (hr : r < y * 2 ^ (n + 1)) (hq : q % 2 ^ (n + 1) = 0) (hu : y <<< n ≤ r) :
    x = (q + 2 ^ n) * y + (r - y <<< n) ∧ r - y <<< n < y * 2 ^ n ∧ (q + 2 ^ n) % 2 ^ n = 0 := by
  rw [Nat.shiftLeft_eq] at *
  have e : y * 2 ^ (n + 1) = y * 2 ^ n + y * 2 ^ n := by rw [Nat.pow_succ]; rw [← Nat.mul_assoc]; omega
  refine ⟨?_, by omega, ?_⟩
  · rw [Nat.add_mul, Nat.mul_comm (2 ^ n) y]; omega
  · rw [Nat.add_mod_right]
    have : 2 ^ n ∣ q := Nat.dvd_trans ⟨2, Nat.pow_succ 2 n⟩ (Nat.dvd_of_mod_eq_zero hq)
    exact Nat.mod_eq_zero_of_dvd this
theorem div_no (x y q r n : Nat) (hr : r < y * 2 ^ (n + 1)) (hq : q % 2 ^ (n + 1) = 0) (hu : ¬ y <<< n ≤ r) :
    r < y * 2 ^ n ∧ q % 2 ^ n = 0 := by
  rw [Nat.shiftLeft_eq] at *
  refine ⟨by omega, ?_⟩
  have : 2 ^ n ∣ q := Nat.dvd_trans ⟨2, Nat.pow_succ 2 n⟩ (Nat.dvd_of_mod_eq_zero hq)
  exact Nat.mod_eq_zero_of_dvd this
theorem div_end (x y q r : Nat) (hx : x = q * y + r) (hr : r < y) : q = x / y ∧ r = x % y := by
  have h0 : 0 < y := by omega
  rw [Nat.mul_comm] at hx
  subst hx
  rw [Nat.mul_add_div h0, Nat.mul_add_mod, Nat.div_eq_of_lt hr, Nat.mod_eq_of_lt hr]
  exact ⟨rfl, rfl⟩
end Go.Proofs.Ytcoclcbclbjdaaa
