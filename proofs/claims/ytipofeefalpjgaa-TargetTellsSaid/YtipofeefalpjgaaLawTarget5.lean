/- TargetTells. -/
import Derived.Test.YtipofeefalpjgaaRows
import Derived.Test.YtipofeefalpjgaaLawTarget1
import Derived.Test.YtipofeefalpjgaaRefT2
namespace Go.Proofs.Ytipofeefalpjgaa
set_option linter.unusedVariables false
set_option linter.unusedSimpArgs false
open Go.RowKit

theorem rtarget_u (b : U32) (w : World) :
    Calls Try.prog 11 #[.int .u32 b.n] w fun e w' => e = .returned (.tuple #[.agg (wv (tg b.n).n), .bool (tgOk b.n)]) ∧ Grew w w' := rtarget_w b.n b.lt w
theorem weq_self (n : Nat) : weq n n = true := Wd.eq_of rfl
set_option maxRecDepth 100000 in
set_option maxHeartbeats 6400000 in
theorem ttells_walk (b : U32) (t : Wd) (i : Idb) (w : World) : Calls Try.prog 3 #[.int .u32 b.n, .agg (wv t.n), .agg (iv i.l)] w fun e w' => e = .returned (.bool true) ∧ Grew w w' := by
  have hw := weq_self
  go_enter Try.func3, Try.ntmps3
  go_wp2_with (first
      | (go_at_call 9; refine (awake3 _).mono ?_; rintro e w' ⟨rfl, δ, rfl⟩)
      | (go_at_call 10; refine (target_u _ _).mono ?_; rintro e w' ⟨rfl, δ, rfl⟩)
      | (go_at_call 11; refine (rtarget_u _ _).mono ?_; rintro e w' ⟨rfl, δ, rfl⟩))
  first | refine wp_region_pure_lit_g (by kernel_rfl) (by kernel_rfl) ?_ | refine wp_region_pure_lit (by kernel_rfl) (by kernel_rfl) ?_
  repeat (go_big_quiet_step ((first | (go_at_call 12; exact Calls.pure_of (compact_i _ _)) | (go_at_call 13; exact Calls.pure_of (rcompact_w _ _)) | (go_at_call 14; exact Calls.pure_of (work_w _ _)) | (go_at_call 15; exact Calls.pure_of (rwork_w _ _)) | (go_at_call 16; exact Calls.pure_of (level_i _ _ _)) | (go_at_call 17; exact Calls.pure_of (rlevel_i _ _ _)))))
  refine wpQuiet_nil ?_
  intro _ hw'
  obtain ⟨δ1, hw''⟩ := hw'
  subst hw''
  go_wp2
  go_ret
  exact ⟨rfl, (by repeat (first | with_reducible exact Grew.refl _ | with_reducible apply Grew.alloc | with_reducible apply Grew.grow | with_reducible apply Grew.drew | with_reducible apply Grew.drewN))⟩
end Go.Proofs.Ytipofeefalpjgaa
