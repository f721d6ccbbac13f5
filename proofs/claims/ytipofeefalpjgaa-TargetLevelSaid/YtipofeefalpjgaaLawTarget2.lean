/- TargetLevel, TargetBack. -/
import Derived.Test.YtipofeefalpjgaaRows
import Derived.Test.YtipofeefalpjgaaLawTarget1
namespace Go.Proofs.Ytipofeefalpjgaa
set_option linter.unusedVariables false
set_option linter.unusedSimpArgs false
open Go.RowKit

theorem level_iff (a : Idb) (t : Wd) (n : Int) (h0 : 0 ≤ n) (h1 : n ≤ 31) : decide (a.w.cmp (t.down n) ≤ 0) = decide (n ≤ lv a t) := by
  obtain ⟨k, rfl⟩ := Int.eq_ofNat_of_zero_le h0
  rw [Wd.cmp_le, Wd.down_n, Bool.eq_iff_iff, decide_eq_true_eq, decide_eq_true_eq]
  have := levW_iff a.w t k (by omega)
  unfold lv; omega
theorem lev_mono {n m t u : Wd} (h : ∀ k, k < 32 → n.n ≤ t.n >>> k → m.n ≤ u.n >>> k) : levW n t ≤ levW m u := by
  have h1 := levW_le n t
  by_cases h0 : levW n t = 0
  · omega
  · have k1 := (levW_iff n t (levW n t - 1) (by omega)).1 (by omega)
    have k2 := (levW_iff m u (levW n t - 1) (by omega)).2 (h _ (by omega) k1)
    omega
theorem lv_less (a b : Idb) (t : Wd) (h : b.w.n ≤ a.w.n) : lv a t ≤ lv b t := by
  have := lev_mono (n := a.w) (m := b.w) (t := t) (u := t) fun k _ hk => by omega
  unfold lv; omega
theorem lv_more (a : Idb) (t u : Wd) (h : t.n ≤ u.n) : lv a t ≤ lv a u := by
  have := lev_mono (n := a.w) (m := a.w) (t := t) (u := u) fun k _ hk => Nat.le_trans hk (shr_mono k h)
  unfold lv; omega

set_option maxRecDepth 100000 in
set_option maxHeartbeats 16000000 in
theorem level_walk (a b : Idb) (t u : Wd) (n : Int) (w : World) : Calls Try.prog 6 #[.agg (iv a.l), .agg (iv b.l), .agg (wv t.n), .agg (wv u.n), .int .i64 n] w fun e w' => e = .returned (.bool true) ∧ Grew w w' := by
  have b1 : decide (lv a t < -1) = false := decide_eq_false (by have := lv_bd a t; omega)
  have b2 : decide (31 < lv a t) = false := decide_eq_false (by have := lv_bd a t; omega)
  have hn : decide (0 ≤ n) = false ∨ (decide (0 ≤ n) = true ∧ decide (n ≤ 31) = false) ∨ (decide (0 ≤ n) = true ∧ decide (n ≤ 31) = true ∧ decide (a.w.cmp (t.down n) ≤ 0) = decide (n ≤ lv a t)) := by
    by_cases h0 : 0 ≤ n
    · by_cases h1 : n ≤ 31
      · exact .inr (.inr ⟨decide_eq_true h0, decide_eq_true h1, level_iff a t n h0 h1⟩)
      · exact .inr (.inl ⟨decide_eq_true h0, decide_eq_false h1⟩)
    · exact .inl (decide_eq_false h0)
  have hl : decide (b.w.cmp a.w ≤ 0) = false ∨ (decide (b.w.cmp a.w ≤ 0) = true ∧ decide (lv a t ≤ lv b t) = true) := by
    rw [Wd.cmp_le]
    by_cases h : b.w.n ≤ a.w.n
    · exact .inr ⟨decide_eq_true h, decide_eq_true (lv_less a b t h)⟩
    · exact .inl (decide_eq_false h)
  have hu : decide (0 < t.cmp u) = true ∨ (decide (0 < t.cmp u) = false ∧ decide (lv a t ≤ lv a u) = true) := by
    rw [Wd.cmp_pos]
    by_cases h : u.n < t.n
    · exact .inl (decide_eq_true h)
    · exact .inr ⟨decide_eq_false h, decide_eq_true (lv_more a t u (by omega))⟩
  have HN := Lib.hid hn
  have HL := Lib.hid hl
  have HU := Lib.hid hu
  clear hn hl hu
  go_enter Try.func6, Try.ntmps6
  go_wp2_with (first
      | (go_at_call 9; refine (awake3 _).mono ?_; rintro e w' ⟨rfl, δ, rfl⟩)
      | (go_at_call 16; refine (level_i _ _ _).mono ?_; rintro e w' ⟨rfl, δ, rfl⟩))
  rcases HN.out with k1 | ⟨k1, k2⟩ | ⟨k1, k2, k3⟩
  all_goals
    first | refine wp_region_pure_lit_g (by kernel_rfl) (by kernel_rfl) ?_ | refine wp_region_pure_lit (by kernel_rfl) (by kernel_rfl) ?_
    repeat (go_big_quiet_step ((first | (go_at_call 22; exact Calls.pure_of (of32_i _ _)) | (go_at_call 23; exact Calls.pure_of (down_w _ _ _)) | (go_at_call 18; exact Calls.pure_of (cmp_w _ _ _)))))
    refine wpQuiet_nil ?_
    intro _ hw'
    obtain ⟨δ1, hw''⟩ := hw'
    subst hw''
    go_wp2
    rcases HL.out with l1 | ⟨l1, l2⟩
    all_goals
      first | refine wp_region_pure_lit_g (by kernel_rfl) (by kernel_rfl) ?_ | refine wp_region_pure_lit (by kernel_rfl) (by kernel_rfl) ?_
      repeat (go_big_quiet_step ((first | (go_at_call 22; exact Calls.pure_of (of32_i _ _)) | (go_at_call 18; exact Calls.pure_of (cmp_w _ _ _)))))
      refine wpQuiet_nil ?_
      intro _ hw'
      obtain ⟨δ1, hw''⟩ := hw'
      subst hw''
      rcases HU.out with u1 | ⟨u1, u2⟩
      all_goals
        go_wp2_with (first
          | (go_at_call 18; refine (cmp_w _ _ _).mono ?_; rintro e w' ⟨rfl, δ, rfl⟩)
          | (go_at_call 16; refine (level_i _ _ _).mono ?_; rintro e w' ⟨rfl, δ, rfl⟩))
        go_ret
        exact ⟨rfl, (by repeat (first | exact Grew.refl _ | apply Grew.alloc | apply Grew.grow | apply Grew.drew | apply Grew.drewN))⟩
end Go.Proofs.Ytipofeefalpjgaa
