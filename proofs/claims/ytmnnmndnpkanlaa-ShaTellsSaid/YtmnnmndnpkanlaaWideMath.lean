/- Numbers below 2^256 as four parts of 64 bits. No program in sight. -/
import Derived.Test.YtmnnmndnpkanlaaBase
namespace Go.Proofs.Ytmnnmndnpkanlaa
set_option linter.unusedVariables false
set_option linter.unusedSimpArgs false

/-- Part 'i' of a number. -/
def lb (x i : Nat) : Nat := (x >>> (64 * i)) % 2 ^ 64
theorem lb_lt (x i : Nat) : lb x i < 18446744073709551616 := Nat.mod_lt _ (by decide)
theorem lb_bit (x i k : Nat) : (lb x i).testBit k = (decide (k < 64) && x.testBit (64 * i + k)) := by
  unfold lb; rw [Nat.testBit_mod_two_pow, Nat.testBit_shiftRight]
/-- The cells of a number. -/
def wv (x : Nat) : Array Value := #[.int .u64 (lb x 0), .int .u64 (lb x 1), .int .u64 (lb x 2), .int .u64 (lb x 3)]
theorem wv_size (x : Nat) : (wv x).size = 4 := rfl
theorem wv_get0 (x : Nat) : (wv x)[0]? = some (.int .u64 (lb x 0)) := rfl
theorem wv_get1 (x : Nat) : (wv x)[1]? = some (.int .u64 (lb x 1)) := rfl
theorem wv_get2 (x : Nat) : (wv x)[2]? = some (.int .u64 (lb x 2)) := rfl
theorem wv_get3 (x : Nat) : (wv x)[3]? = some (.int .u64 (lb x 3)) := rfl
theorem wv_toList (x : Nat) : (wv x).toList = [.int .u64 (lb x 0), .int .u64 (lb x 1), .int .u64 (lb x 2), .int .u64 (lb x 3)] := rfl
theorem wv_fold (x : Nat) : #[Value.int .u64 (lb x 0), Value.int .u64 (lb x 1), Value.int .u64 (lb x 2), Value.int .u64 (lb x 3)] = wv x := rfl
theorem wv_zero : #[Value.int .u64 0, Value.int .u64 0, Value.int .u64 0, Value.int .u64 0] = wv 0 := rfl
theorem wv_set0 (x : Nat) (v : Value) : (wv x).setIfInBounds 0 v = #[v, .int .u64 (lb x 1), .int .u64 (lb x 2), .int .u64 (lb x 3)] := rfl
theorem wv_set1 (x : Nat) (v : Value) : (wv x).setIfInBounds 1 v = #[.int .u64 (lb x 0), v, .int .u64 (lb x 2), .int .u64 (lb x 3)] := rfl
theorem wv_set2 (x : Nat) (v : Value) : (wv x).setIfInBounds 2 v = #[.int .u64 (lb x 0), .int .u64 (lb x 1), v, .int .u64 (lb x 3)] := rfl
theorem wv_set3 (x : Nat) (v : Value) : (wv x).setIfInBounds 3 v = #[.int .u64 (lb x 0), .int .u64 (lb x 1), .int .u64 (lb x 2), v] := rfl
attribute [go_sem] wv_set0 wv_set1 wv_set2 wv_set3 wv_size wv_get0 wv_get1 wv_get2 wv_get3 wv_toList wv_fold
/-- The number of four parts. -/
def w4 (a b c d : Nat) : Nat := a + 18446744073709551616 * b + 340282366920938463463374607431768211456 * c + 6277101735386680763835789423207666416102355444464034512896 * d
theorem lb0 (x : Nat) : lb x 0 = x % 18446744073709551616 := rfl
theorem lb1 (x : Nat) : lb x 1 = x / 18446744073709551616 % 18446744073709551616 := by simp [lb, Nat.shiftRight_eq_div_pow]
theorem lb2 (x : Nat) : lb x 2 = x / 340282366920938463463374607431768211456 % 18446744073709551616 := by simp [lb, Nat.shiftRight_eq_div_pow]
theorem lb3 (x : Nat) : lb x 3 = x / 6277101735386680763835789423207666416102355444464034512896 % 18446744073709551616 := by simp [lb, Nat.shiftRight_eq_div_pow]
/-- 2^256. -/
def B256 : Nat := 115792089237316195423570985008687907853269984665640564039457584007913129639936
theorem w4_lb (x : Nat) : w4 (lb x 0) (lb x 1) (lb x 2) (lb x 3) = x % B256 := by
  unfold w4 B256; rw [lb0, lb1, lb2, lb3]; omega
theorem lb_w4 {a b c d : Nat} (ha : a < 18446744073709551616) (hb : b < 18446744073709551616) (hc : c < 18446744073709551616) (hd : d < 18446744073709551616) :
    lb (w4 a b c d) 0 = a ∧ lb (w4 a b c d) 1 = b ∧ lb (w4 a b c d) 2 = c ∧ lb (w4 a b c d) 3 = d := by
  rw [lb0, lb1, lb2, lb3]; unfold w4; omega
theorem w4_lt {a b c d : Nat} (ha : a < 18446744073709551616) (hb : b < 18446744073709551616) (hc : c < 18446744073709551616) (hd : d < 18446744073709551616) :
    w4 a b c d < B256 := by unfold w4 B256; omega
theorem wv_w4 {a b c d : Nat} (ha : a < 18446744073709551616) (hb : b < 18446744073709551616) (hc : c < 18446744073709551616) (hd : d < 18446744073709551616) :
    #[Value.int .u64 a, Value.int .u64 b, Value.int .u64 c, Value.int .u64 d] = wv (w4 a b c d) := by
  obtain ⟨h0, h1, h2, h3⟩ := lb_w4 ha hb hc hd
  unfold wv; rw [h0, h1, h2, h3]
theorem wv_mod (x : Nat) : wv (x % B256) = wv x := by
  have h0 : lb (x % B256) 0 = lb x 0 := by rw [lb0, lb0]; unfold B256; omega
  have h1 : lb (x % B256) 1 = lb x 1 := by rw [lb1, lb1]; unfold B256; omega
  have h2 : lb (x % B256) 2 = lb x 2 := by rw [lb2, lb2]; unfold B256; omega
  have h3 : lb (x % B256) 3 = lb x 3 := by rw [lb3, lb3]; unfold B256; omega
  unfold wv; rw [h0, h1, h2, h3]
theorem lb_inj {x y : Nat} (h0 : lb x 0 = lb y 0) (h1 : lb x 1 = lb y 1) (h2 : lb x 2 = lb y 2) (h3 : lb x 3 = lb y 3) : x % B256 = y % B256 := by
  rw [← w4_lb, ← w4_lb, h0, h1, h2, h3]
theorem lb_congr {x y : Nat} (h : x % B256 = y % B256) : lb x 0 = lb y 0 ∧ lb x 1 = lb y 1 ∧ lb x 2 = lb y 2 ∧ lb x 3 = lb y 3 := by
  unfold B256 at h; rw [lb0, lb1, lb2, lb3, lb0, lb1, lb2, lb3]; omega
theorem wv_inj {x y : Nat} : wv x = wv y ↔ x % B256 = y % B256 := by
  constructor
  · intro h
    unfold wv at h
    simp only [Array.mk.injEq, List.cons.injEq, Value.int.injEq, true_and, and_true] at h
    exact lb_inj (by omega) (by omega) (by omega) (by omega)
  · intro h; rw [← wv_mod, h, wv_mod]

/-- Part 'i', or 0 beside all. -/
def atL (x : Nat) (i : Int) : Nat := if i < 0 ∨ 4 ≤ i then 0 else lb x i.toNat
theorem atL_lt (x : Nat) (i : Int) : atL x i < 18446744073709551616 := by unfold atL; split; decide; exact lb_lt _ _
theorem atL_bit (x : Nat) (h : x < B256) (i : Int) (k : Nat) : (atL x i).testBit k = (decide (k < 64) && decide (0 ≤ i) && x.testBit (64 * i.toNat + k)) := by
  unfold atL
  split
  · rename_i hi
    rcases hi with hi | hi
    · have : ¬ 0 ≤ i := by omega
      simp [this]
    · have : x.testBit (64 * i.toNat + k) = false := Nat.testBit_lt_two_pow (Nat.lt_of_lt_of_le (show x < 2 ^ 256 from h) (Nat.pow_le_pow_right (by decide) (by omega)))
      simp [this]
  · rename_i hi
    have : 0 ≤ i := by omega
    rw [lb_bit]; simp [this]

/-- What two parts make of a part that moves up by less than 64 bits. -/
def upl (x y s : Nat) : Nat := (x <<< s) % 2 ^ 64 ||| y >>> (64 - s)
theorem up_part' (x q s i : Nat) (hs : s < 64) (hx : x < B256) (hi : i < 4) : lb (x <<< (64 * q + s)) i = upl (atL x ((i : Int) - q)) (atL x ((i : Int) - q - 1)) s := by
  apply Nat.eq_of_testBit_eq
  intro k
  rw [lb_bit, upl, Nat.testBit_or, Nat.testBit_mod_two_pow, Nat.testBit_shiftLeft, Nat.testBit_shiftLeft, Nat.testBit_shiftRight, atL_bit x hx, atL_bit x hx]
  by_cases hk : k < 64
  · by_cases h1 : 64 * q + s ≤ 64 * i + k
    · by_cases h2 : s ≤ k
      · have e1 : 64 * ((i : Int) - q).toNat + (k - s) = 64 * i + k - (64 * q + s) := by omega
        have h3 : (0 : Int) ≤ (i : Int) - q := by omega
        have h4 : k - s < 64 := by omega
        have h5 : ¬ (64 - s + k < 64) := by omega
        rw [e1]
        simp only [hk, h1, h2, h3, h4, h5, decide_true, decide_false, Bool.true_and, Bool.false_and, Bool.or_false, ge_iff_le]
      · have e1 : 64 * ((i : Int) - q - 1).toNat + (64 - s + k) = 64 * i + k - (64 * q + s) := by omega
        have h3 : (0 : Int) ≤ (i : Int) - q - 1 := by omega
        have h5 : (64 - s + k < 64) := by omega
        rw [e1]
        simp only [hk, h1, h2, h3, h5, decide_true, decide_false, Bool.true_and, Bool.false_and, Bool.false_or, ge_iff_le]
    · have h3 : ¬ (0 : Int) ≤ (i : Int) - q - 1 := by omega
      by_cases h6 : s ≤ k
      · have h7 : ¬ (0 : Int) ≤ (i : Int) - q := by omega
        simp only [hk, h1, h3, h7, decide_true, decide_false, Bool.true_and, Bool.false_and, Bool.and_false, Bool.false_or, ge_iff_le]
      · simp only [hk, h1, h3, h6, decide_true, decide_false, Bool.true_and, Bool.false_and, Bool.and_false, Bool.false_or, ge_iff_le]
  · have h5 : ¬ (64 - s + k < 64) := by omega
    simp only [hk, h5, decide_false, Bool.false_and, Bool.false_or]
theorem up_part (x n i : Nat) (hx : x < B256) (hi : i < 4) : lb (x <<< n) i = upl (atL x ((i : Int) - (n / 64 : Nat))) (atL x ((i : Int) - (n / 64 : Nat) - 1)) (n % 64) := by
  have := up_part' x (n / 64) (n % 64) i (by omega) hx hi
  rwa [show 64 * (n / 64) + n % 64 = n by omega] at this

/-- What two parts make of a part that moves down by less than 64 bits. -/
def dnl (x y s : Nat) : Nat := x >>> s ||| (y <<< (64 - s)) % 2 ^ 64
theorem down_part' (x q s i : Nat) (hs : s < 64) (hx : x < B256) (hi : i < 4) : lb (x >>> (64 * q + s)) i = dnl (atL x ((i : Int) + q)) (atL x ((i : Int) + q + 1)) s := by
  apply Nat.eq_of_testBit_eq
  intro k
  rw [lb_bit, dnl, Nat.testBit_or, Nat.testBit_mod_two_pow, Nat.testBit_shiftLeft, Nat.testBit_shiftRight, Nat.testBit_shiftRight, atL_bit x hx, atL_bit x hx]
  have p1 : (0 : Int) ≤ (i : Int) + q := by omega
  have p2 : (0 : Int) ≤ (i : Int) + q + 1 := by omega
  by_cases hk : k < 64
  · by_cases h2 : s + k < 64
    · have e1 : 64 * ((i : Int) + q).toNat + (s + k) = 64 * q + s + (64 * i + k) := by omega
      have h3 : ¬ (64 - s ≤ k) := by omega
      rw [e1]
      simp only [hk, h2, p1, p2, h3, decide_true, decide_false, Bool.true_and, Bool.false_and, Bool.or_false, Bool.and_false, ge_iff_le]
    · have e1 : 64 * ((i : Int) + q + 1).toNat + (k - (64 - s)) = 64 * q + s + (64 * i + k) := by omega
      have h3 : (64 - s ≤ k) := by omega
      have h4 : k - (64 - s) < 64 := by omega
      rw [e1]
      simp only [hk, h2, p1, p2, h3, h4, decide_true, decide_false, Bool.true_and, Bool.false_and, Bool.false_or, ge_iff_le]
  · have h5 : ¬ (s + k < 64) := by omega
    simp only [hk, h5, decide_false, Bool.false_and, Bool.false_or]
theorem down_part (x n i : Nat) (hx : x < B256) (hi : i < 4) : lb (x >>> n) i = dnl (atL x ((i : Int) + (n / 64 : Nat))) (atL x ((i : Int) + (n / 64 : Nat) + 1)) (n % 64) := by
  have := down_part' x (n / 64) (n % 64) i (by omega) hx hi
  rwa [show 64 * (n / 64) + n % 64 = n by omega] at this
end Go.Proofs.Ytmnnmndnpkanlaa
