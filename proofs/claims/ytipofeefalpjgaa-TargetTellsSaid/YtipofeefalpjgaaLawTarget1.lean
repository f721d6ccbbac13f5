/- TargetOrder, TargetHalf. -/
import Derived.Test.YtipofeefalpjgaaRows
import Derived.Test.YtipofeefalpjgaaAwake3
namespace Go.Proofs.Ytipofeefalpjgaa
set_option linter.unusedVariables false
set_option linter.unusedSimpArgs false
open Go.RowKit

/-- A number of 32 bits. -/
structure U32 where
  n : Nat
  lt : n < 4294967296
theorem target_u (b : U32) (w : World) :
    Calls Try.prog 10 #[.int .u32 b.n] w fun e w' => e = .returned (.tuple #[.agg (wv (tg b.n).n), .bool (tgOk b.n)]) ∧ Grew w w' := target_w b.n b.lt w
theorem target_c (t : Wd) (w : World) :
    Calls Try.prog 10 #[.int .u32 (cp t)] w fun e w' => e = .returned (.tuple #[.agg (wv (tg (cp t)).n), .bool (tgOk (cp t))]) ∧ Grew w w' := target_w (cp t) (cp_lt t) w

theorem order_iff {a b : Nat} (ha : tgOk a = true) (hb : tgOk b = true) : decide ((tg a).cmp (tg b) < 0) = decide (a < b) := by
  rw [Wd.cmp_neg, Bool.eq_iff_iff, decide_eq_true_eq, decide_eq_true_eq]; exact (tg_lt_iff ha hb).symm

set_option maxRecDepth 100000 in
set_option maxHeartbeats 6400000 in
theorem order_walk (a b : U32) (t u : Wd) (w : World) : Calls Try.prog 7 #[.int .u32 a.n, .int .u32 b.n, .agg (wv t.n), .agg (wv u.n)] w fun e w' => e = .returned (.bool true) ∧ Grew w w' := by
  have hmono : decide (0 < t.cmp u) = true ∨ (decide (0 < t.cmp u) = false ∧ decide (cp t ≤ cp u) = true) := by
    rw [Wd.cmp_pos]
    by_cases h : u.n < t.n
    · exact .inl (by simpa using h)
    · exact .inr ⟨by simpa using h, by simpa using cp_mono t u (by omega)⟩
  have hcase : tgOk a.n = false ∨ (tgOk a.n = true ∧ tgOk b.n = false) ∨ (tgOk a.n = true ∧ tgOk b.n = true ∧ decide ((tg a.n).cmp (tg b.n) < 0) = decide (a.n < b.n)) := by
    cases ha : tgOk a.n
    · exact .inl rfl
    · cases hb : tgOk b.n
      · exact .inr (.inl ⟨rfl, rfl⟩)
      · exact .inr (.inr ⟨rfl, rfl, order_iff ha hb⟩)
  rcases hcase with k1 | ⟨k1, k2⟩ | ⟨k1, k2, k3⟩
  all_goals
    go_enter Try.func7, Try.ntmps7
    go_wp2_with (first
      | (go_at_call 9; refine (awake3 _).mono ?_; rintro e w' ⟨rfl, δ, rfl⟩)
      | (go_at_call 10; refine (target_u _ _).mono ?_; rintro e w' ⟨rfl, δ, rfl⟩)
      | (go_at_call 18; refine (cmp_w _ _ _).mono ?_; rintro e w' ⟨rfl, δ, rfl⟩))
    rcases hmono with m1 | ⟨m1, m2⟩
    all_goals
      first | refine wp_region_pure_lit_g (by kernel_rfl) (by kernel_rfl) ?_ | refine wp_region_pure_lit (by kernel_rfl) (by kernel_rfl) ?_
      repeat (go_big_quiet_step ((first | (go_at_call 18; exact Calls.pure_of (cmp_w _ _ _)) | (go_at_call 12; exact Calls.pure_of (compact_i _ _)))))
      refine wpQuiet_nil ?_
      intro _ hw'
      obtain ⟨δ1, hw''⟩ := hw'
      subst hw''
      go_wp2
      go_ret
      exact ⟨rfl, (by repeat (first | with_reducible exact Grew.refl _ | with_reducible apply Grew.alloc | with_reducible apply Grew.grow | with_reducible apply Grew.drew | with_reducible apply Grew.drewN))⟩

theorem half_cases (i : Idb) (t : Wd) : (lv i (t.down 1) < 0 ∧ lv i t ≤ 0) ∨ (0 ≤ lv i (t.down 1) ∧ lv i t = lv i (t.down 1) + 1) ∨ (lv i t = 31 ∧ lv i (t.down 1) = 31) := by
  have hd : (t.down 1).n = t.n >>> 1 := t.down_n 1
  have h1 := levW_le i.w t
  have h2 := levW_le i.w (t.down 1)
  have key : ∀ k, k + 1 < 32 → (k < levW i.w (t.down 1) ↔ k + 1 < levW i.w t) := fun k hk => by
    rw [levW_iff _ _ k (by omega), levW_iff _ _ (k + 1) (by omega), hd, ← Nat.shiftRight_add, Nat.add_comm 1 k]
  unfold lv
  generalize levW i.w t = L at *
  generalize levW i.w (t.down 1) = M at *
  by_cases h0 : M = 0
  · have := key 0 (by omega)
    omega
  · have k1 := key (M - 1)
    have k2 := key M
    have k3 := key 30
    omega

set_option maxRecDepth 100000 in
set_option maxHeartbeats 6400000 in
theorem half_walk (i : Idb) (t : Wd) (w : World) : Calls Try.prog 8 #[.agg (iv i.l), .agg (wv t.n)] w fun e w' => e = .returned (.bool true) ∧ Grew w w' := by
  have b1 := (lv_bd i t).1
  have b2 := (lv_bd i t).2
  have b3 := (lv_bd i (t.down 1)).1
  have b4 := (lv_bd i (t.down 1)).2
  have hcase : (decide (lv i (t.down 1) < 0) = true ∧ decide (lv i t ≤ 0) = true) ∨ (decide (lv i (t.down 1) < 0) = false ∧ (lv i t == lv i (t.down 1) + 1) = true) ∨ (decide (lv i (t.down 1) < 0) = false ∧ (lv i t == lv i (t.down 1) + 1) = false ∧ (lv i t == 31) = true ∧ (lv i (t.down 1) == 31) = true) := by
    rcases half_cases i t with ⟨h1, h2⟩ | ⟨h1, h2⟩ | ⟨h1, h2⟩
    · exact .inl ⟨decide_eq_true h1, decide_eq_true h2⟩
    · exact .inr (.inl ⟨decide_eq_false (by omega), beq_iff_eq.2 h2⟩)
    · exact .inr (.inr ⟨decide_eq_false (by omega), beq_eq_false_iff_ne.2 (by omega), beq_iff_eq.2 h1, beq_iff_eq.2 h2⟩)
  rcases hcase with ⟨k1, k2⟩ | ⟨k1, k2⟩ | ⟨k1, k2, k3, k4⟩
  all_goals
    go_enter Try.func8, Try.ntmps8
    go_wp2_with (first
      | (go_at_call 9; refine (awake3 _).mono ?_; rintro e w' ⟨rfl, δ, rfl⟩)
      | (go_at_call 16; refine (level_i i _ _).mono ?_; rintro e w' ⟨rfl, δ, rfl⟩))
    first | refine wp_region_pure_lit_g (by kernel_rfl) (by kernel_rfl) ?_ | refine wp_region_pure_lit (by kernel_rfl) (by kernel_rfl) ?_
    repeat (go_big_quiet_step ((first | (go_at_call 23; exact Calls.pure_of (down_w _ _ _)) | (go_at_call 16; exact Calls.pure_of (level_i i _ _)))))
    refine wpQuiet_nil ?_
    intro _ hw'
    obtain ⟨δ1, hw''⟩ := hw'
    subst hw''
    go_wp2_with fail
    refine (level_z _ _).mono ?_
    rintro e w' ⟨rfl, δ, rfl⟩
    go_wp2
    go_ret
    exact ⟨rfl, (by repeat (first | with_reducible exact Grew.refl _ | with_reducible apply Grew.alloc | with_reducible apply Grew.grow | with_reducible apply Grew.drew | with_reducible apply Grew.drewN))⟩
end Go.Proofs.Ytipofeefalpjgaa
