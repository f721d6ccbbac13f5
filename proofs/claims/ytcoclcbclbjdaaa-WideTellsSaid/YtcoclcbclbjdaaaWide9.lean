/- The chapter's examples. -/
import Derived.Test.YtcoclcbclbjdaaaRows
import Derived.Test.YtcoclcbclbjdaaaWdMore
namespace Go.Proofs.Ytcoclcbclbjdaaa
set_option linter.unusedVariables false
set_option linter.unusedSimpArgs false
open Go.RowKit

theorem div_100 (w : World) : Calls Try.prog 11 #[.agg (wv 100), .agg (wv 7)] w fun e w' => e = .returned (.tuple #[.agg (wv 14), .agg (wv 2), .bool true]) ∧ Grew w w' := by
  have h := div_w ⟨100, small_b256 (by decide)⟩ ⟨7, small_b256 (by decide)⟩ w
  have e1 : (Wd.div ⟨100, small_b256 (by decide)⟩ ⟨7, small_b256 (by decide)⟩).n = 14 := of_val (small_b256 (by decide))
  have e2 : (Wd.rem ⟨100, small_b256 (by decide)⟩ ⟨7, small_b256 (by decide)⟩).n = 2 := of_val (small_b256 (by decide))
  rw [e1, e2] at h
  exact h
def H255 : Nat := 2 ^ 255
theorem h255_lt : H255 < B256 := by rw [b256_pow]; exact Nat.pow_lt_pow_right (by decide) (by decide)
theorem up_h255 (w : World) : Calls Try.prog 17 #[.agg (wv 1), .int .i64 255] w fun e w' => e = .returned (.agg (wv H255)) ∧ Grew w w' := by
  have h := up_w ⟨1, small_b256 (by decide)⟩ 255 w
  have e1 : (Wd.up ⟨1, small_b256 (by decide)⟩ 255).n = H255 := (of_val (n := 1 <<< 255) (by rw [Nat.shiftLeft_eq, Nat.one_mul]; exact h255_lt)).trans (by rw [Nat.shiftLeft_eq, Nat.one_mul]; rfl)
  rw [e1] at h
  exact h
theorem add_h255 (w : World) : Calls Try.prog 14 #[.agg (wv H255), .agg (wv H255)] w fun e w' => e = .returned (.tuple #[.agg (wv 0), .bool false]) ∧ Grew w w' := by
  have h := add_w ⟨H255, h255_lt⟩ ⟨H255, h255_lt⟩ w
  have e0 : H255 + H255 = B256 := by unfold H255 B256; omega
  have e1 : (Wd.add ⟨H255, h255_lt⟩ ⟨H255, h255_lt⟩).n = 0 := by unfold Wd.add; rw [Wd.of_n]; show (H255 + H255) % _ = _; rw [e0]; exact Nat.mod_self _
  have e2 : Wd.addOk ⟨H255, h255_lt⟩ ⟨H255, h255_lt⟩ = false := by unfold Wd.addOk; rw [e0]; simp
  rw [e1, e2] at h
  exact h
theorem cmp_2 (w : World) : Calls Try.prog 13 #[.agg (wv 2), .agg (wv 14)] w fun e w' => e = .returned (.int .i64 (-1)) ∧ Grew w w' :=
  cmp_w ⟨2, small_b256 (by decide)⟩ ⟨14, small_b256 (by decide)⟩ w
theorem lb_h255 : lb H255 3 = 9223372036854775808 := by rw [lb3]; unfold H255; omega

set_option maxRecDepth 100000 in
set_option maxHeartbeats 1600000 in
theorem awake2 (w : World) : Calls Try.prog 10 #[] w fun e w' => e = .returned (.bool true) ∧ Grew w w' := by
  have h1 : weq 14 14 = true := rfl
  have h2 : weq 2 2 = true := rfl
  have h3 : weq 2 3 = false := by rw [weq_lt (small_b256 (by decide)) (small_b256 (by decide))]; rfl
  have h4 : weq 0 0 = true := rfl
  go_enter Try.func10, Try.ntmps10
  go_wp2_with (first
    | (go_at_call 16; refine (of_w _ (by decide) _).mono ?_; rintro e w' ⟨rfl, δ, rfl⟩)
    | (go_at_call 11; refine (div_100 _).mono ?_; rintro e w' ⟨rfl, δ, rfl⟩)
    | (go_at_call 17; refine (up_h255 _).mono ?_; rintro e w' ⟨rfl, δ, rfl⟩)
    | (go_at_call 14; refine (add_h255 _).mono ?_; rintro e w' ⟨rfl, δ, rfl⟩))
  have h5 := lb_h255
  first | refine wp_region_pure_lit_g (by kernel_rfl) (by kernel_rfl) ?_ | refine wp_region_pure_lit (by kernel_rfl) (by kernel_rfl) ?_
  repeat (go_big_quiet_step ((first | (go_at_call 16; exact Calls.pure_of (of_w _ (by decide) _)) | (go_at_call 13; exact Calls.pure_of (cmp_2 _)))))
  refine wpQuiet_nil ?_
  intro _ hw'
  obtain ⟨δ1, hw''⟩ := hw'
  subst hw''
  go_wp2
  all_goals go_ret
  all_goals exact ⟨rfl, (by repeat (first | with_reducible exact Grew.refl _ | with_reducible apply Grew.alloc | with_reducible apply Grew.grow | with_reducible apply Grew.drew | with_reducible apply Grew.drewN))⟩
end Go.Proofs.Ytcoclcbclbjdaaa
