/- WideWhole. -/
import Derived.Test.YtcoclcbclbjdaaaRows
import Derived.Test.YtcoclcbclbjdaaaWide9
namespace Go.Proofs.Ytcoclcbclbjdaaa
set_option linter.unusedVariables false
set_option linter.unusedSimpArgs false
open Go.RowKit

set_option maxRecDepth 100000 in
set_option maxHeartbeats 8000000 in
theorem whole_walk (a b : Wd) (w : World) : Calls Try.prog 7 #[.agg (wv a.n), .agg (wv b.n)] w fun e w' => e = .returned (.bool true) ∧ Grew w w' := by
  have h1 : Wd.divOk a (Wd.of 1) = true := by unfold Wd.divOk; rw [Wd.of_1]; rfl
  have h2 : weq (a.div (Wd.of 1)).n a.n = true := Wd.eq_of (by rw [Wd.div_n, Wd.of_1, Nat.div_one])
  have h3 : weq (a.rem (Wd.of 1)).n 0 = true := Wd.eq_of (by rw [Wd.rem_n _ _ (by rw [Wd.of_1]; decide), Wd.of_1, Nat.mod_one])
  have h4 : weq (a.div (Wd.of 2)).n (a.down 1).n = true := Wd.eq_of (by rw [Wd.div_n, Wd.of_2, show (1 : Int) = ((1 : Nat) : Int) from rfl, Wd.down_n, Nat.shiftRight_eq_div_pow, Nat.pow_one])
  have hcase : weq a.n 0 = true ∨ (weq a.n 0 = false ∧ weq (a.div a).n (Wd.of 1).n = true ∧ weq (a.rem a).n 0 = true ∧ (decide (0 ≤ b.cmp a) = true ∨ (decide (0 ≤ b.cmp a) = false ∧ weq (b.div a).n 0 = true ∧ weq (b.rem a).n b.n = true))) := by
    by_cases h : a.n = 0
    · exact .inl (Wd.eq_of h)
    · refine .inr ⟨Wd.ne_zero h, Wd.eq_of (by rw [Wd.div_n, Wd.of_1, Nat.div_self (by omega)]), Wd.eq_of (by rw [Wd.rem_n _ _ h, Nat.mod_self]), ?_⟩
      rw [Wd.cmp_ge]
      unfold Wd.subOk
      by_cases hb : a.n ≤ b.n
      · exact .inl (by simpa using hb)
      · exact .inr ⟨by simpa using hb, Wd.eq_of (by rw [Wd.div_n, Nat.div_eq_of_lt (by omega)]), Wd.eq_of (by rw [Wd.rem_n _ _ h, Nat.mod_eq_of_lt (by omega)])⟩
  have HC := Lib.hid hcase
  clear hcase
  go_enter Try.func7, Try.ntmps7
  go_wp2_with (go_at_call 10; refine (awake2 _).mono ?_; rintro e w' ⟨rfl, δ, rfl⟩)
  first | apply wp_region_tree_g [0,1,2,3,4,5,6] [7,8,9,10,11] (by kernel_rfl) (by kernel_rfl) (by kernel_rfl) (by intro _ _ _ d _ h; cases d <;> exact h) _ | apply wp_region_tree_p [0,1,2,3,4,5,6] [7,8,9,10,11] (by kernel_rfl) (by kernel_rfl) (by kernel_rfl) (by intro _ _ _ d _ h; cases d <;> exact h) _
  · intro A hA δ'
    simp only [pickOps_cons, pickOps_nil, pick1_zero, pick1_succ]
    repeat (go_big_quiet_step ((first | (go_at_call 16; exact Calls.pure_of_g (of_wd _ (by decide) _)) | (go_at_call 11; exact Calls.pure_of_g (div_w _ _ _)))))
    exact wpQuiet_nil hA.out.symm
  all_goals (refine wpEnvR_two 7 8 (by decide +kernel) (by kernel_rfl) ?_ ?_)
  all_goals (refine wpEnvS_intro ?_; simp only [pickOps_cons, pickOps_nil, pick1_zero, pick1_succ]; intro δe0; go_wp2; refine ⟨(by repeat (first | with_reducible exact grows_self _ _ | with_reducible apply grows_alloc | with_reducible apply grows_grow | with_reducible apply grows_drew | with_reducible exact grows_none _)), ?_⟩)
  all_goals (first | refine wpEnvR_one 7 (by decide +kernel) (by kernel_rfl) ?_ | refine wpEnvR_one 8 (by decide +kernel) (by kernel_rfl) ?_)
  all_goals (refine wpEnvS_intro ?_; simp only [pickOps_cons, pickOps_nil, pick1_zero, pick1_succ]; intro δe1; go_wp2; refine ⟨(by repeat (first | with_reducible exact grows_self _ _ | with_reducible apply grows_alloc | with_reducible apply grows_grow | with_reducible apply grows_drew | with_reducible exact grows_none _)), ?_⟩)
  all_goals (refine wpEnvR_one 9 (by decide +kernel) (by kernel_rfl) ?_)
  all_goals (refine wpEnvS_intro ?_; simp only [pickOps_cons, pickOps_nil, pick1_zero, pick1_succ]; intro δe2; go_wp2; refine ⟨(by repeat (first | with_reducible exact grows_self _ _ | with_reducible apply grows_alloc | with_reducible apply grows_grow | with_reducible apply grows_drew | with_reducible exact grows_none _)), ?_⟩)
  all_goals (refine wpEnvR_one 10 (by decide +kernel) (by kernel_rfl) ?_)
  all_goals (refine wpEnvS_intro ?_; simp only [pickOps_cons, pickOps_nil, pick1_zero, pick1_succ]; intro δe3; go_wp2; refine ⟨(by repeat (first | with_reducible exact grows_self _ _ | with_reducible apply grows_alloc | with_reducible apply grows_grow | with_reducible apply grows_drew | with_reducible exact grows_none _)), ?_⟩)
  all_goals (refine wpEnvR_one 11 (by decide +kernel) (by kernel_rfl) ?_)
  all_goals (refine wpEnvS_intro ?_; simp only [pickOps_cons, pickOps_nil, pick1_zero, pick1_succ]; intro δe4; go_wp2; refine ⟨(by repeat (first | with_reducible exact grows_self _ _ | with_reducible apply grows_alloc | with_reducible apply grows_grow | with_reducible apply grows_drew | with_reducible exact grows_none _)), ?_⟩)
  all_goals (refine wpEnvR_end ?_; intro δ1; try simp only [grow_grow])
  all_goals
    go_wp2
    first | apply wp_region_tree_g [0,1,2,3,4,5,6] [7,8,9,10,11] (by kernel_rfl) (by kernel_rfl) (by kernel_rfl) (by intro _ _ _ d _ h; cases d <;> exact h) _ | apply wp_region_tree_p [0,1,2,3,4,5,6] [7,8,9,10,11] (by kernel_rfl) (by kernel_rfl) (by kernel_rfl) (by intro _ _ _ d _ h; cases d <;> exact h) _
    · intro A hA δ'
      simp only [pickOps_cons, pickOps_nil, pick1_zero, pick1_succ]
      repeat (go_big_quiet_step ((first | (go_at_call 16; exact Calls.pure_of_g (of_wd _ (by decide) _)) | (go_at_call 11; exact Calls.pure_of_g (div_w _ _ _)))))
      exact wpQuiet_nil hA.out.symm
    all_goals (refine wpEnvR_two 7 8 (by decide +kernel) (by kernel_rfl) ?_ ?_)
    all_goals (refine wpEnvS_intro ?_; simp only [pickOps_cons, pickOps_nil, pick1_zero, pick1_succ]; intro δe0; go_wp2; refine ⟨(by repeat (first | with_reducible exact grows_self _ _ | with_reducible apply grows_alloc | with_reducible apply grows_grow | with_reducible apply grows_drew | with_reducible exact grows_none _)), ?_⟩)
    all_goals (first | refine wpEnvR_one 7 (by decide +kernel) (by kernel_rfl) ?_ | refine wpEnvR_one 8 (by decide +kernel) (by kernel_rfl) ?_)
    all_goals (refine wpEnvS_intro ?_; simp only [pickOps_cons, pickOps_nil, pick1_zero, pick1_succ]; intro δe1; go_wp2; refine ⟨(by repeat (first | with_reducible exact grows_self _ _ | with_reducible apply grows_alloc | with_reducible apply grows_grow | with_reducible apply grows_drew | with_reducible exact grows_none _)), ?_⟩)
    all_goals (refine wpEnvR_one 9 (by decide +kernel) (by kernel_rfl) ?_)
    all_goals (refine wpEnvS_intro ?_; simp only [pickOps_cons, pickOps_nil, pick1_zero, pick1_succ]; intro δe2; go_wp2; refine ⟨(by repeat (first | with_reducible exact grows_self _ _ | with_reducible apply grows_alloc | with_reducible apply grows_grow | with_reducible apply grows_drew | with_reducible exact grows_none _)), ?_⟩)
    all_goals (refine wpEnvR_one 10 (by decide +kernel) (by kernel_rfl) ?_)
    all_goals (refine wpEnvS_intro ?_; simp only [pickOps_cons, pickOps_nil, pick1_zero, pick1_succ]; intro δe3; go_wp2; refine ⟨(by repeat (first | with_reducible exact grows_self _ _ | with_reducible apply grows_alloc | with_reducible apply grows_grow | with_reducible apply grows_drew | with_reducible exact grows_none _)), ?_⟩)
    all_goals (refine wpEnvR_one 11 (by decide +kernel) (by kernel_rfl) ?_)
    all_goals (refine wpEnvS_intro ?_; simp only [pickOps_cons, pickOps_nil, pick1_zero, pick1_succ]; intro δe4; go_wp2; refine ⟨(by repeat (first | with_reducible exact grows_self _ _ | with_reducible apply grows_alloc | with_reducible apply grows_grow | with_reducible apply grows_drew | with_reducible exact grows_none _)), ?_⟩)
    all_goals (refine wpEnvR_end ?_; intro δ1; try simp only [grow_grow])
  all_goals
    go_wp2
    first | refine wp_region_pure_lit_g (by kernel_rfl) (by kernel_rfl) ?_ | refine wp_region_pure_lit (by kernel_rfl) (by kernel_rfl) ?_
    repeat (go_big_quiet_step ((go_at_call 18; exact Calls.pure_of (down_w _ _ _))))
    refine wpQuiet_nil ?_
    intro _ hw'
    obtain ⟨δ1, hw''⟩ := hw'
    subst hw''
    rcases HC.out with k1 | ⟨k1, k2, k3, K4⟩
    · go_wp2
      go_ret
      exact ⟨rfl, (by repeat (first | with_reducible exact Grew.refl _ | with_reducible apply Grew.alloc | with_reducible apply Grew.grow | with_reducible apply Grew.drew | with_reducible apply Grew.drewN))⟩
    · have H4 := Lib.hid K4
      clear K4
      go_wp2_with (go_at_call 11; refine (div_w _ _ _).mono ?_; rintro e w' ⟨rfl, δ, rfl⟩)
      rcases H4.out with k4 | ⟨k4, k5, k6⟩
      all_goals
        first | refine wp_region_pure_lit_g (by kernel_rfl) (by kernel_rfl) ?_ | refine wp_region_pure_lit (by kernel_rfl) (by kernel_rfl) ?_
        repeat (go_big_quiet_step ((first | (go_at_call 16; exact Calls.pure_of (of_wd _ (by decide) _)) | (go_at_call 13; exact Calls.pure_of (cmp_w _ _ _)))))
        refine wpQuiet_nil ?_
        intro _ hw'
        obtain ⟨δ1, hw''⟩ := hw'
        subst hw''
        go_wp2
        go_ret
        exact ⟨rfl, (by repeat (first | with_reducible exact Grew.refl _ | with_reducible apply Grew.alloc | with_reducible apply Grew.grow | with_reducible apply Grew.drew | with_reducible apply Grew.drewN))⟩
end Go.Proofs.Ytcoclcbclbjdaaa
