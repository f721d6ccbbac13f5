/- WideTells. -/
import Derived.Test.YtcoclcbclbjdaaaRows
import Derived.Test.YtcoclcbclbjdaaaLawWideDivides
import Derived.Test.YtcoclcbclbjdaaaWBytes
import Derived.Test.YtcoclcbclbjdaaaRefOf32
namespace Go.Proofs.Ytcoclcbclbjdaaa
set_option linter.unusedVariables false
set_option linter.unusedSimpArgs false
open Go.RowKit

theorem ieq_self (l : List Nat) : ieq l l = true := by unfold ieq; simp
theorem of_lb (a : Nat) (i : Nat) (w : World) :
    Calls Try.prog 16 #[.int .u64 (lb a i)] w fun e w' => e = .returned (.agg (wv (Wd.of (lb a i)).n)) ∧ Grew w w' := of_wd _ (lb_lt _ _) w
theorem rof_lb (a : Nat) (i : Nat) (w : World) :
    Calls Try.prog 28 #[.int .u64 (lb a i)] w fun e w' => e = .returned (.agg (wv (Wd.of (lb a i)).n)) ∧ Grew w w' := rof_w _ (lb_lt _ _) w
set_option maxRecDepth 100000 in
set_option maxHeartbeats 8000000 in
theorem tells2_walk (a b : Wd) (n : Int) (w : World) : Calls Try.prog 9 #[.agg (wv a.n), .agg (wv b.n), .int .i64 n] w fun e w' => e = .returned (.bool true) ∧ Grew w w' := by
  have hw := weq_self
  have hi := ieq_self
  go_enter Try.func9, Try.ntmps9
  go_wp2_with (first
    | (go_at_call 10; refine (awake2 _).mono ?_; rintro e w' ⟨rfl, δ, rfl⟩)
    | (go_at_call 14; refine (add_w _ _ _).mono ?_; rintro e w' ⟨rfl, δ, rfl⟩)
    | (go_at_call 21; refine (radd_w _ _ _).mono ?_; rintro e w' ⟨rfl, δ, rfl⟩)
    | (go_at_call 15; refine (sub_w _ _ _).mono ?_; rintro e w' ⟨rfl, δ, rfl⟩)
    | (go_at_call 22; refine (rsub_w _ _ _).mono ?_; rintro e w' ⟨rfl, δ, rfl⟩))
  first | refine wp_region_pure_lit_g (by kernel_rfl) (by kernel_rfl) ?_ | refine wp_region_pure_lit (by kernel_rfl) (by kernel_rfl) ?_
  repeat (go_big_quiet_step ((first | (go_at_call 17; exact Calls.pure_of (up_w _ _ _)) | (go_at_call 23; exact Calls.pure_of (rup_w _ _ _)) | (go_at_call 18; exact Calls.pure_of (down_w _ _ _)) | (go_at_call 24; exact Calls.pure_of (rdown_w _ _ _)))))
  refine wpQuiet_nil ?_
  intro _ hw'
  obtain ⟨δ1, hw''⟩ := hw'
  subst hw''
  go_wp2
  first | refine wp_region_pure_lit_g (by kernel_rfl) (by kernel_rfl) ?_ | refine wp_region_pure_lit (by kernel_rfl) (by kernel_rfl) ?_
  repeat (go_big_quiet_step ((first | (go_at_call 19; exact Calls.pure_of (bytes_w _ _)) | (go_at_call 25; exact Calls.pure_of (rbytes_w _ _)) | (go_at_call 20; exact Calls.pure_of (of32_i _ _)) | (go_at_call 26; exact Calls.pure_of (rof32_i _ _)))))
  refine wpQuiet_nil ?_
  intro _ hw'
  obtain ⟨δ1, hw''⟩ := hw'
  subst hw''
  go_wp2
  first | refine wp_region_pure_lit_g (by kernel_rfl) (by kernel_rfl) ?_ | refine wp_region_pure_lit (by kernel_rfl) (by kernel_rfl) ?_
  repeat (go_big_quiet_step ((first | (go_at_call 13; exact Calls.pure_of (cmp_w _ _ _)) | (go_at_call 27; exact Calls.pure_of (rcmp_w _ _ _)) | (go_at_call 16; exact Calls.pure_of (of_lb _ _ _)) | (go_at_call 28; exact Calls.pure_of (rof_lb _ _ _)))))
  refine wpQuiet_nil ?_
  intro _ hw'
  obtain ⟨δ1, hw''⟩ := hw'
  subst hw''
  go_wp2
  go_ret
  exact ⟨rfl, (by repeat (first | with_reducible exact Grew.refl _ | with_reducible apply Grew.alloc | with_reducible apply Grew.grow | with_reducible apply Grew.drew | with_reducible apply Grew.drewN))⟩
end Go.Proofs.Ytcoclcbclbjdaaa
