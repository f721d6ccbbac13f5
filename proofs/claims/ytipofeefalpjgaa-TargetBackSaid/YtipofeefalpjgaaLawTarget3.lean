/- TargetBack. -/
import Derived.Test.YtipofeefalpjgaaRows
import Derived.Test.YtipofeefalpjgaaLawTarget1
namespace Go.Proofs.Ytipofeefalpjgaa
set_option linter.unusedVariables false
set_option linter.unusedSimpArgs false
open Go.RowKit

set_option maxRecDepth 100000 in
set_option maxHeartbeats 16000000 in
theorem tback_walk (b : U32) (t : Wd) (w : World) : Calls Try.prog 4 #[.int .u32 b.n, .agg (wv t.n)] w fun e w' => e = .returned (.bool true) ∧ Grew w w' := by
  have ho : (Wd.of 32768).n = 32768 := of_val (by unfold B256; omega)
  have g1 : decide (0 ≤ t.cmp (Wd.of 32768)) = tgOk (cp t) := by rw [Wd.cmp_ge, ok_cp]; unfold Wd.subOk; rw [ho]
  have hh : (tgOk (cp t) = true ∧ decide (0 < (tg (cp t)).cmp t) = false) ∨ (tgOk (cp t) = false ∧ ((cp t : Int) != 0) = false) := by
    rw [Wd.cmp_pos, ok_cp]
    by_cases h : 32768 ≤ t.n
    · exact .inl ⟨decide_eq_true h, decide_eq_false (by have := tg_cp_le t h; omega)⟩
    · exact .inr ⟨decide_eq_false h, by rw [cp_zero t h]; rfl⟩
  have hi : tgOk b.n = false ∨ (tgOk b.n = true ∧ ((cp (tg b.n) : Int) != (b.n : Int)) = false ∧ decide (0 < (tg b.n).cmp t) = true) ∨
      (tgOk b.n = true ∧ ((cp (tg b.n) : Int) != (b.n : Int)) = false ∧ decide (0 < (tg b.n).cmp t) = false ∧ tgOk (cp t) = true ∧ decide ((tg b.n).cmp (tg (cp t)) ≤ 0) = true) := by
    rw [Wd.cmp_pos, Wd.cmp_le, ok_cp]
    cases h : tgOk b.n
    · exact .inl rfl
    · have e : ((cp (tg b.n) : Int) != (b.n : Int)) = false := by rw [cp_tg h]; simp
      by_cases h2 : t.n < (tg b.n).n
      · exact .inr (.inl ⟨rfl, e, decide_eq_true h2⟩)
      · have h3 := tg_between t h (by omega)
        obtain ⟨j, m, hj, h4, h5, hb⟩ := tgOk_parts h
        have h6 : 32768 ≤ (tg b.n).n := by
          rw [hb, tg_em j m hj h4 h5]
          have p := Nat.two_pow_pos (8 * j)
          have := Nat.mul_le_mul_left m p
          omega
        exact .inr (.inr ⟨rfl, e, decide_eq_false h2, decide_eq_true (by omega), decide_eq_true h3⟩)
  have n1 : ∀ x : Int, (x != x) = false := fun x => by simp
  rcases hh with ⟨k1, k2⟩ | ⟨k1, k2⟩
  all_goals rcases hi with i1 | ⟨i1, i2, i3⟩ | ⟨i1, i2, i3, i4, i5⟩
  case inr.inr.inr => rw [k1] at i4; exact absurd i4 (by decide)
  all_goals
    clear ho
    go_enter Try.func4, Try.ntmps4
    go_wp2_with (go_at_call 9; refine (awake3 _).mono ?_; rintro e w' ⟨rfl, δ, rfl⟩)
    refine (target_u _ _).mono ?_
    rintro e w' ⟨rfl, δ, rfl⟩
    go_wp2_with fail
    refine (compact_i _ _).mono ?_
    rintro e w' ⟨rfl, δ, rfl⟩
    go_wp2_with fail
    refine (target_c _ _).mono ?_
    rintro e w' ⟨rfl, δ, rfl⟩
    go_wp2_with fail
    first | refine wp_region_pure_lit_g (by kernel_rfl) (by kernel_rfl) ?_ | refine wp_region_pure_lit (by kernel_rfl) (by kernel_rfl) ?_
    repeat (go_big_quiet_step ((first | (go_at_call 19; exact Calls.pure_of (of_wd _ (by decide) _)) | (go_at_call 18; exact Calls.pure_of (cmp_w _ _ _)) | (go_at_call 12; exact Calls.pure_of (compact_i _ _)))))
    refine wpQuiet_nil ?_
    intro _ hw'
    obtain ⟨δ1, hw''⟩ := hw'
    subst hw''
    go_wp2_with (go_at_call 18; refine (cmp_w _ _ _).mono ?_; rintro e w' ⟨rfl, δ, rfl⟩)
    go_ret
    exact ⟨rfl, (by repeat (first | exact Grew.refl _ | apply Grew.alloc | apply Grew.grow | apply Grew.drew | apply Grew.drewN))⟩
end Go.Proofs.Ytipofeefalpjgaa
