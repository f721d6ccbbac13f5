/- wide's functions over numbers below 2^256, each with no premise. -/
import Derived.Test.YtcoclcbclbjdaaaRows
import Derived.Test.YtcoclcbclbjdaaaWide7
namespace Go.Proofs.Ytcoclcbclbjdaaa
set_option linter.unusedVariables false
set_option linter.unusedSimpArgs false
open Go.RowKit

/-- A number below 2^256. -/
structure Wd where
  n : Nat
  lt : n < B256
theorem Wd.ext' {a b : Wd} (h : a.n = b.n) : a = b := by cases a; cases b; cases h; rfl
theorem b256_pos : 0 < B256 := by unfold B256; omega
def Wd.zero : Wd := ⟨0, b256_pos⟩
theorem Wd.of_ex (n : Nat) : ∃ s : Wd, s.n = n % B256 := ⟨⟨n % B256, Nat.mod_lt _ b256_pos⟩, rfl⟩
/-- The number of a number: nothing computes it (the kernel would). -/
noncomputable def Wd.of (n : Nat) : Wd := Classical.choose (Wd.of_ex n)
theorem Wd.of_n (n : Nat) : (Wd.of n).n = n % B256 := Classical.choose_spec (Wd.of_ex n)
noncomputable def Wd.add (a b : Wd) : Wd := .of (a.n + b.n)
def Wd.addOk (a b : Wd) : Bool := decide (a.n + b.n < B256)
noncomputable def Wd.sub (a b : Wd) : Wd := .of (a.n + B256 - b.n)
def Wd.subOk (a b : Wd) : Bool := decide (b.n ≤ a.n)
noncomputable def Wd.div (a b : Wd) : Wd := .of (a.n / b.n)
noncomputable def Wd.rem (a b : Wd) : Wd := if b.n = 0 then .zero else .of (a.n % b.n)
def Wd.divOk (a b : Wd) : Bool := decide (b.n ≠ 0)
noncomputable def Wd.up (a : Wd) (k : Int) : Wd := if k < 0 then a else .of (a.n <<< k.toNat)
noncomputable def Wd.down (a : Wd) (k : Int) : Wd := if k < 0 then a else .of (a.n >>> k.toNat)
def Wd.cmp (a b : Wd) : Int := cmpN a.n b.n
theorem wv_of' (n : Nat) : wv (Wd.of n).n = wv n := by rw [Wd.of_n]; exact wv_mod n
theorem Wd.weq (a b : Wd) : weq a.n b.n = decide (a.n = b.n) := weq_lt a.lt b.lt

theorem of_w (n : Nat) (h : n < 18446744073709551616) (w : World) :
    Calls Try.prog 16 #[.int .u64 n] w fun e w' => e = .returned (.agg (wv n)) ∧ Grew w w' := of_any n h w
theorem add_w (a b : Wd) (w : World) :
    Calls Try.prog 14 #[.agg (wv a.n), .agg (wv b.n)] w fun e w' => e = .returned (.tuple #[.agg (wv (a.add b).n), .bool (a.addOk b)]) ∧ Grew w w' := by
  unfold Wd.add; rw [wv_of']; exact add_any _ _ a.lt b.lt w
theorem sub_w (a b : Wd) (w : World) :
    Calls Try.prog 15 #[.agg (wv a.n), .agg (wv b.n)] w fun e w' => e = .returned (.tuple #[.agg (wv (a.sub b).n), .bool (a.subOk b)]) ∧ Grew w w' := by
  unfold Wd.sub; rw [wv_of']; exact sub_any _ _ a.lt b.lt w
theorem cmp_w (a b : Wd) (w : World) :
    Calls Try.prog 13 #[.agg (wv a.n), .agg (wv b.n)] w fun e w' => e = .returned (.int .i64 (a.cmp b)) ∧ Grew w w' := cmp_any _ _ a.lt b.lt w
theorem div_w (a b : Wd) (w : World) :
    Calls Try.prog 11 #[.agg (wv a.n), .agg (wv b.n)] w fun e w' => e = .returned (.tuple #[.agg (wv (a.div b).n), .agg (wv (a.rem b).n), .bool (a.divOk b)]) ∧ Grew w w' := by
  unfold Wd.div Wd.rem Wd.divOk
  by_cases h : b.n = 0
  · rw [if_pos h, wv_of', h, Nat.div_zero]; exact div_nil _ w
  · rw [if_neg h, wv_of', wv_of', show decide (b.n ≠ 0) = true by simpa using h]; exact div_some _ _ a.lt b.lt h w

set_option maxRecDepth 100000 in
set_option maxHeartbeats 1600000 in
theorem up_neg (x : Nat) (n : Int) (h : n < 0) (w : World) :
    Calls Try.prog 17 #[.agg (wv x), .int .i64 n] w fun e w' => e = .returned (.agg (wv x)) ∧ Grew w w' := by
  go_enter Try.func17, Try.ntmps17
  go_wp2
  refine bodyPost_ret (v := .agg (wv x)) ?_ rfl ⟨rfl, (by repeat (first | with_reducible exact Grew.refl _ | with_reducible apply Grew.alloc | with_reducible apply Grew.grow | with_reducible apply Grew.drew | with_reducible apply Grew.drewN))⟩
  simp [results, Try.results17, go_sem]
set_option maxRecDepth 100000 in
set_option maxHeartbeats 1600000 in
theorem up_far (x : Nat) (n : Int) (h : 256 ≤ n) (w : World) :
    Calls Try.prog 17 #[.agg (wv x), .int .i64 n] w fun e w' => e = .returned (.agg (wv 0)) ∧ Grew w w' := by
  have h0 : ¬ n < 0 := by omega
  go_enter Try.func17, Try.ntmps17
  go_wp2
  refine bodyPost_ret (v := .agg (wv 0)) ?_ rfl ⟨rfl, (by repeat (first | with_reducible exact Grew.refl _ | with_reducible apply Grew.alloc | with_reducible apply Grew.grow | with_reducible apply Grew.drew | with_reducible apply Grew.drewN))⟩
  simp [results, Try.results17, go_sem]
  try rfl
set_option maxRecDepth 100000 in
set_option maxHeartbeats 1600000 in
theorem down_neg (x : Nat) (n : Int) (h : n < 0) (w : World) :
    Calls Try.prog 18 #[.agg (wv x), .int .i64 n] w fun e w' => e = .returned (.agg (wv x)) ∧ Grew w w' := by
  go_enter Try.func18, Try.ntmps18
  go_wp2
  refine bodyPost_ret (v := .agg (wv x)) ?_ rfl ⟨rfl, (by repeat (first | with_reducible exact Grew.refl _ | with_reducible apply Grew.alloc | with_reducible apply Grew.grow | with_reducible apply Grew.drew | with_reducible apply Grew.drewN))⟩
  simp [results, Try.results18, go_sem]
set_option maxRecDepth 100000 in
set_option maxHeartbeats 1600000 in
theorem down_far (x : Nat) (n : Int) (h : 256 ≤ n) (w : World) :
    Calls Try.prog 18 #[.agg (wv x), .int .i64 n] w fun e w' => e = .returned (.agg (wv 0)) ∧ Grew w w' := by
  have h0 : ¬ n < 0 := by omega
  go_enter Try.func18, Try.ntmps18
  go_wp2
  refine bodyPost_ret (v := .agg (wv 0)) ?_ rfl ⟨rfl, (by repeat (first | with_reducible exact Grew.refl _ | with_reducible apply Grew.alloc | with_reducible apply Grew.grow | with_reducible apply Grew.drew | with_reducible apply Grew.drewN))⟩
  simp [results, Try.results18, go_sem]
  try rfl

theorem b256_pow : (B256 : Nat) = 2 ^ 256 := by decide +kernel
theorem up_big (x n : Nat) (h : 256 ≤ n) : wv (x <<< n) = wv 0 := by
  rw [wv_inj, Nat.shiftLeft_eq, Nat.zero_mod]
  have e : n = 256 + (n - 256) := by omega
  rw [e, Nat.pow_add, ← b256_pow, ← Nat.mul_assoc, Nat.mul_right_comm]
  exact Nat.mul_mod_left _ _
theorem down_big (x n : Nat) (hx : x < B256) (h : 256 ≤ n) : x >>> n = 0 := by
  rw [Nat.shiftRight_eq_div_pow]
  refine Nat.div_eq_of_lt (Nat.lt_of_lt_of_le hx ?_)
  rw [b256_pow]
  exact Nat.pow_le_pow_right (by decide) h

theorem up_w (a : Wd) (k : Int) (w : World) :
    Calls Try.prog 17 #[.agg (wv a.n), .int .i64 k] w fun e w' => e = .returned (.agg (wv (a.up k).n)) ∧ Grew w w' := by
  unfold Wd.up
  by_cases h : k < 0
  · rw [if_pos h]; exact up_neg _ _ h w
  · rw [if_neg h, wv_of']
    by_cases h2 : 256 ≤ k
    · rw [up_big _ _ (by omega)]; exact up_far _ _ h2 w
    · obtain ⟨n, rfl⟩ := Int.eq_ofNat_of_zero_le (show 0 ≤ k by omega)
      exact up_lt _ _ a.lt w (by omega)
theorem down_w (a : Wd) (k : Int) (w : World) :
    Calls Try.prog 18 #[.agg (wv a.n), .int .i64 k] w fun e w' => e = .returned (.agg (wv (a.down k).n)) ∧ Grew w w' := by
  unfold Wd.down
  by_cases h : k < 0
  · rw [if_pos h]; exact down_neg _ _ h w
  · rw [if_neg h, wv_of']
    by_cases h2 : 256 ≤ k
    · rw [down_big _ _ a.lt (by omega)]; exact down_far _ _ h2 w
    · obtain ⟨n, rfl⟩ := Int.eq_ofNat_of_zero_le (show 0 ≤ k by omega)
      exact down_lt _ _ a.lt w (by omega)
end Go.Proofs.Ytcoclcbclbjdaaa
