/- More on numbers below 2^256. -/
import Derived.Test.YtcoclcbclbjdaaaRows
import Derived.Test.YtcoclcbclbjdaaaWide8
namespace Go.Proofs.Ytcoclcbclbjdaaa
set_option linter.unusedVariables false
set_option linter.unusedSimpArgs false
open Go.RowKit

theorem small_b256 {n : Nat} (h : n < 1000) : n < B256 := by unfold B256; omega
theorem of_val {n : Nat} (h : n < B256) : (Wd.of n).n = n := by rw [Wd.of_n]; exact Nat.mod_eq_of_lt h
theorem Wd.add_n (a b : Wd) : (a.add b).n = (a.n + b.n) % B256 := Wd.of_n _
theorem Wd.sub_n (a b : Wd) : (a.sub b).n = (a.n + B256 - b.n) % B256 := Wd.of_n _
theorem cmpN_ge (x y : Nat) : decide (0 ≤ cmpN x y) = decide (y ≤ x) := by
  rw [Bool.eq_iff_iff, decide_eq_true_eq, decide_eq_true_eq]
  unfold cmpN; split <;> (try split) <;> omega
theorem cmpN_le (x y : Nat) : decide (cmpN x y ≤ 0) = decide (x ≤ y) := by
  rw [Bool.eq_iff_iff, decide_eq_true_eq, decide_eq_true_eq]
  unfold cmpN; split <;> (try split) <;> omega
theorem cmpN_pos (x y : Nat) : decide (0 < cmpN x y) = decide (y < x) := by
  rw [Bool.eq_iff_iff, decide_eq_true_eq, decide_eq_true_eq]
  unfold cmpN; split <;> (try split) <;> omega
theorem cmpN_neg (x y : Nat) : decide (cmpN x y < 0) = decide (x < y) := by
  rw [Bool.eq_iff_iff, decide_eq_true_eq, decide_eq_true_eq]
  unfold cmpN; split <;> (try split) <;> omega
theorem Wd.cmp_ge (a b : Wd) : decide (0 ≤ a.cmp b) = a.subOk b := cmpN_ge _ _
theorem Wd.cmp_le (a b : Wd) : decide (a.cmp b ≤ 0) = decide (a.n ≤ b.n) := cmpN_le _ _
theorem Wd.cmp_pos (a b : Wd) : decide (0 < a.cmp b) = decide (b.n < a.n) := cmpN_pos _ _
theorem Wd.cmp_neg (a b : Wd) : decide (a.cmp b < 0) = decide (a.n < b.n) := cmpN_neg _ _
theorem Wd.up_n (a : Wd) (n : Nat) : (a.up n).n = (a.n <<< n) % B256 := by
  unfold Wd.up; rw [if_neg (by omega), Wd.of_n, Int.toNat_natCast]
theorem Wd.down_n (a : Wd) (n : Nat) : (a.down n).n = a.n >>> n := by
  unfold Wd.down; rw [if_neg (by omega), Wd.of_n, Int.toNat_natCast]
  exact Nat.mod_eq_of_lt (Nat.lt_of_le_of_lt (Nat.shiftRight_le _ _) a.lt)
theorem of_wd (n : Nat) (h : n < 18446744073709551616) (w : World) :
    Calls Try.prog 16 #[.int .u64 n] w fun e w' => e = .returned (.agg (wv (Wd.of n).n)) ∧ Grew w w' := by rw [wv_of']; exact of_any n h w
theorem Wd.div_n (a b : Wd) : (a.div b).n = a.n / b.n := by
  unfold Wd.div; rw [Wd.of_n]; exact Nat.mod_eq_of_lt (Nat.lt_of_le_of_lt (Nat.div_le_self _ _) a.lt)
theorem Wd.rem_n (a b : Wd) (h : b.n ≠ 0) : (a.rem b).n = a.n % b.n := by
  unfold Wd.rem; rw [if_neg h, Wd.of_n]; exact Nat.mod_eq_of_lt (Nat.lt_of_le_of_lt (Nat.mod_le _ _) a.lt)
theorem Wd.add_ok {a b : Wd} (h : a.addOk b = true) : (a.add b).n = a.n + b.n := by
  unfold Wd.addOk at h; rw [Wd.add_n]; exact Nat.mod_eq_of_lt (by simpa using h)
theorem Wd.of_1 : (Wd.of 1).n = 1 := of_val (small_b256 (by decide))
theorem Wd.of_2 : (Wd.of 2).n = 2 := of_val (small_b256 (by decide))
theorem Wd.eq_of {a b : Nat} (h : a = b) : Go.Proofs.Ytcoclcbclbjdaaa.weq a b = true := by subst h; unfold Go.Proofs.Ytcoclcbclbjdaaa.weq; simp
theorem Wd.ne_of {a b : Wd} (h : a.n ≠ b.n) : Go.Proofs.Ytcoclcbclbjdaaa.weq a.n b.n = false := by rw [weq_lt a.lt b.lt]; simpa using h
theorem Wd.ne_zero {a : Wd} (h : a.n ≠ 0) : Go.Proofs.Ytcoclcbclbjdaaa.weq a.n 0 = false := by rw [weq_lt a.lt b256_pos]; simpa using h
/-- The other bits of a part. -/
def nt (n : Nat) : Nat := 18446744073709551615 - n
theorem not_cells (x : Nat) (h : x < B256) : #[Value.int .u64 (nt (lb x 0) : Nat), Value.int .u64 (nt (lb x 1) : Nat), Value.int .u64 (nt (lb x 2) : Nat), Value.int .u64 (nt (lb x 3) : Nat)] = wv (B256 - 1 - x) := by
  unfold nt
  have e := w4_lb x
  rw [Nat.mod_eq_of_lt h] at e
  have h0 := lb_lt x 0; have h1 := lb_lt x 1; have h2 := lb_lt x 2; have h3 := lb_lt x 3
  rw [wv_w4 (by omega) (by omega) (by omega) (by omega)]
  congr 1
  unfold w4 at *
  unfold B256 at *
  omega

end Go.Proofs.Ytcoclcbclbjdaaa
