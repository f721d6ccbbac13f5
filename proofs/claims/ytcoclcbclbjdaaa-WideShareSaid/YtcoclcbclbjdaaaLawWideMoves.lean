/- WideMoves. -/
import Derived.Test.YtcoclcbclbjdaaaRows
import Derived.Test.YtcoclcbclbjdaaaLawWideBack
namespace Go.Proofs.Ytcoclcbclbjdaaa
open Go.RowKit

theorem Wd.up_n (a : Wd) (n : Nat) : (a.up n).n = (a.n <<< n) % B256 := by
  unfold Wd.up; rw [if_neg (by omega), Wd.of_n, Int.toNat_natCast]
theorem Wd.down_n (a : Wd) (n : Nat) : (a.down n).n = a.n >>> n := by
  unfold Wd.down; rw [if_neg (by omega), Wd.of_n, Int.toNat_natCast]
  exact Nat.mod_eq_of_lt (Nat.lt_of_le_of_lt (Nat.shiftRight_le _ _) a.lt)
theorem Wd.up_up (a : Wd) (n m : Nat) : ((a.up n).up m).n = (a.up ((n : Int) + m)).n := by
  rw [show (n : Int) + m = ((n + m : Nat) : Int) by omega, Wd.up_n, Wd.up_n, Wd.up_n]
  simp only [Nat.shiftLeft_eq]
  rw [Nat.mod_mul_mod, Nat.pow_add, Nat.mul_assoc]
theorem Wd.down_down (a : Wd) (n m : Nat) : ((a.down n).down m).n = (a.down ((n : Int) + m)).n := by
  rw [show (n : Int) + m = ((n + m : Nat) : Int) by omega, Wd.down_n, Wd.down_n, Wd.down_n, Nat.shiftRight_add]
theorem Wd.up_down (a : Wd) (n : Nat) : ((a.up n).down n).n ≤ a.n := by
  rw [Wd.down_n, Wd.up_n, Nat.shiftRight_eq_div_pow, Nat.shiftLeft_eq]
  have h1 : a.n * 2 ^ n % B256 ≤ a.n * 2 ^ n := Nat.mod_le _ _
  have h2 := Nat.div_le_div_right (c := 2 ^ n) h1
  rwa [Nat.mul_div_cancel _ (Nat.two_pow_pos n)] at h2
theorem Wd.up_one (a : Wd) : (a.up 1).n = (a.add a).n := by
  rw [show (1 : Int) = ((1 : Nat) : Int) from rfl, Wd.up_n, Wd.add_n, Nat.shiftLeft_eq, Nat.pow_one, Nat.mul_two]
theorem cmpN_le (x y : Nat) : decide (cmpN x y ≤ 0) = decide (x ≤ y) := by
  rw [Bool.eq_iff_iff, decide_eq_true_eq, decide_eq_true_eq]
  unfold cmpN; split <;> (try split) <;> omega
theorem Wd.cmp_le (a b : Wd) : decide (a.cmp b ≤ 0) = decide (a.n ≤ b.n) := cmpN_le _ _

set_option maxRecDepth 100000 in
set_option maxHeartbeats 1600000 in
theorem moves_out (a : Wd) (n m : Int) (h : decide (n < 0) = true ∨ (decide (n < 0) = false ∧ decide (m < 0) = true) ∨ (decide (n < 0) = false ∧ decide (m < 0) = false ∧ decide (300 < n) = true) ∨ (decide (n < 0) = false ∧ decide (m < 0) = false ∧ decide (300 < n) = false ∧ decide (300 < m) = true)) (w : World) :
    Calls Try.prog 6 #[.agg (wv a.n), .int .i64 n, .int .i64 m] w fun e w' => e = .returned (.bool true) ∧ Grew w w' := by
  have h0 : weq (a.up 1).n (a.add a).n = true := by rw [Wd.weq, Wd.up_one]; simp
  rcases h with h1 | ⟨h1, h2⟩ | ⟨h1, h2, h3⟩ | ⟨h1, h2, h3, h4⟩
  all_goals
    go_enter Try.func6, Try.ntmps6
    go_wp2_with (first
      | (go_at_call 10; refine (awake2 _).mono ?_; rintro e w' ⟨rfl, δ, rfl⟩)
      | (go_at_call 14; refine (add_w _ _ _).mono ?_; rintro e w' ⟨rfl, δ, rfl⟩))
    first | refine wp_region_pure_lit_g (by kernel_rfl) (by kernel_rfl) ?_ | refine wp_region_pure_lit (by kernel_rfl) (by kernel_rfl) ?_
    repeat (go_big_quiet_step ((go_at_call 17; exact Calls.pure_of (up_w _ _ _))))
    refine wpQuiet_nil ?_
    intro _ hw'
    obtain ⟨δ1, hw''⟩ := hw'
    subst hw''
    go_wp2_with fail
    first | refine wp_region_pure_lit_g (by kernel_rfl) (by kernel_rfl) ?_ | refine wp_region_pure_lit (by kernel_rfl) (by kernel_rfl) ?_
    repeat (go_big_quiet_step ((go_at_call 17; exact Calls.pure_of (up_w _ _ _))))
    refine wpQuiet_nil ?_
    intro _ hw'
    obtain ⟨δ1, hw''⟩ := hw'
    subst hw''
    go_wp2_with fail
    all_goals go_ret
    all_goals exact ⟨rfl, (by repeat (first | exact Grew.refl _ | apply Grew.alloc | apply Grew.grow | apply Grew.drew | apply Grew.drewN))⟩

set_option maxRecDepth 100000 in
set_option maxHeartbeats 1600000 in
theorem moves_in (a : Wd) (n m : Nat) (hn : n ≤ 300) (hm : m ≤ 300) (w : World) :
    Calls Try.prog 6 #[.agg (wv a.n), .int .i64 n, .int .i64 m] w fun e w' => e = .returned (.bool true) ∧ Grew w w' := by
  have h0 : weq (a.up 1).n (a.add a).n = true := by rw [Wd.weq, Wd.up_one]; simp
  have h1 : weq ((a.up n).up m).n (a.up ((n : Int) + m)).n = true := by rw [Wd.weq, Wd.up_up]; simp
  have h2 : weq ((a.down n).down m).n (a.down ((n : Int) + m)).n = true := by rw [Wd.weq, Wd.down_down]; simp
  have h3 : decide (((a.up n).down n).cmp a ≤ 0) = true := by rw [Wd.cmp_le]; simpa using Wd.up_down a n
  have d1 : decide ((n : Int) < 0) = false := decide_eq_false (by omega)
  have d2 : decide ((m : Int) < 0) = false := decide_eq_false (by omega)
  have d3 : decide (300 < (n : Int)) = false := decide_eq_false (by omega)
  have d4 : decide (300 < (m : Int)) = false := decide_eq_false (by omega)
  go_enter Try.func6, Try.ntmps6
  go_wp2_with (first
    | (go_at_call 10; refine (awake2 _).mono ?_; rintro e w' ⟨rfl, δ, rfl⟩)
    | (go_at_call 14; refine (add_w _ _ _).mono ?_; rintro e w' ⟨rfl, δ, rfl⟩))
  first | refine wp_region_pure_lit_g (by kernel_rfl) (by kernel_rfl) ?_ | refine wp_region_pure_lit (by kernel_rfl) (by kernel_rfl) ?_
  repeat (go_big_quiet_step ((go_at_call 17; exact Calls.pure_of (up_w _ _ _))))
  refine wpQuiet_nil ?_
  intro _ hw'
  obtain ⟨δ1, hw''⟩ := hw'
  subst hw''
  go_wp2_with (first
    | (go_at_call 17; refine (up_w _ _ _).mono ?_; rintro e w' ⟨rfl, δ, rfl⟩)
    | (go_at_call 18; refine (down_w _ _ _).mono ?_; rintro e w' ⟨rfl, δ, rfl⟩))
  first | refine wp_region_pure_lit_g (by kernel_rfl) (by kernel_rfl) ?_ | refine wp_region_pure_lit (by kernel_rfl) (by kernel_rfl) ?_
  repeat (go_big_quiet_step ((first | (go_at_call 17; exact Calls.pure_of (up_w _ _ _)) | (go_at_call 18; exact Calls.pure_of (down_w _ _ _)) | (go_at_call 13; exact Calls.pure_of (cmp_w _ _ _)))))
  refine wpQuiet_nil ?_
  intro _ hw'
  obtain ⟨δ1, hw''⟩ := hw'
  subst hw''
  go_wp2_with fail
  all_goals go_ret
  all_goals exact ⟨rfl, (by repeat (first | exact Grew.refl _ | apply Grew.alloc | apply Grew.grow | apply Grew.drew | apply Grew.drewN))⟩

theorem moves_walk (a : Wd) (n m : Int) (w : World) :
    Calls Try.prog 6 #[.agg (wv a.n), .int .i64 n, .int .i64 m] w fun e w' => e = .returned (.bool true) ∧ Grew w w' := by
  by_cases h : n < 0 ∨ (¬ n < 0 ∧ m < 0) ∨ (¬ n < 0 ∧ ¬ m < 0 ∧ 300 < n) ∨ (¬ n < 0 ∧ ¬ m < 0 ∧ ¬ 300 < n ∧ 300 < m)
  · refine moves_out a n m ?_ w
    rcases h with h1 | ⟨h1, h2⟩ | ⟨h1, h2, h3⟩ | ⟨h1, h2, h3, h4⟩
    · exact .inl (by simpa using h1)
    · exact .inr (.inl ⟨by simpa using h1, by simpa using h2⟩)
    · exact .inr (.inr (.inl ⟨by simpa using h1, by simpa using h2, by simpa using h3⟩))
    · exact .inr (.inr (.inr ⟨by simpa using h1, by simpa using h2, by simpa using h3, by simpa using h4⟩))
  · obtain ⟨x, rfl⟩ := Int.eq_ofNat_of_zero_le (show 0 ≤ n by omega)
    obtain ⟨y, rfl⟩ := Int.eq_ofNat_of_zero_le (show 0 ≤ m by omega)
    exact moves_in a x y (by omega) (by omega) w
end Go.Proofs.Ytcoclcbclbjdaaa
