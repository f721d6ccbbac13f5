/- WideOrder. -/
import Derived.Test.YtcoclcbclbjdaaaRows
import Derived.Test.YtcoclcbclbjdaaaWide9
import Derived.Test.YtcoclcbclbjdaaaWBytes
namespace Go.Proofs.Ytcoclcbclbjdaaa
set_option linter.unusedVariables false
set_option linter.unusedSimpArgs false
open Go.RowKit

theorem less_id (a b : Wd) : Op.bytesLess (bstr a.id.l).toList (bstr b.id.l).toList = decide (a.n < b.n) := by
  rw [less_bstr _ _ a.id.lt b.id.lt, lexB_num _ _ (by rw [a.id.len, b.id.len]) a.id.lt b.id.lt]
  have e1 : numB a.id.l = a.n := numB_bytesN a.n a.lt
  have e2 : numB b.id.l = b.n := numB_bytesN b.n b.lt
  rw [e1, e2]
set_option maxRecDepth 100000 in
set_option maxHeartbeats 8000000 in
theorem order2_walk (a b c : Wd) (w : World) : Calls Try.prog 8 #[.agg (wv a.n), .agg (wv b.n), .agg (wv c.n)] w fun e w' => e = .returned (.bool true) ∧ Grew w w' := by
  have h1 : (a.cmp b != -b.cmp a) = false := by
    unfold Wd.cmp cmpN
    have : ∀ x y : Nat, ((if x < y then (-1 : Int) else if y < x then 1 else 0) != -(if y < x then (-1 : Int) else if x < y then 1 else 0)) = false := by
      intro x y
      rcases Nat.lt_trichotomy x y with h | h | h
      · simp [h, Nat.lt_asymm h]
      · subst h; simp
      · simp [h, Nat.lt_asymm h]
    exact this _ _
  have h2 : weq a.n b.n = (a.cmp b == 0) := by
    rw [Wd.weq]
    unfold Wd.cmp cmpN
    rcases Nat.lt_trichotomy a.n b.n with h | h | h
    · simp [h]; omega
    · simp [h]
    · simp [h, Nat.lt_asymm h]; omega
  have h3 : decide (a.cmp b < -1) = false := by
    unfold Wd.cmp cmpN; split <;> (try split) <;> simp
  have h4 : decide (1 < a.cmp b) = false := by
    unfold Wd.cmp cmpN; split <;> (try split) <;> simp
  have h5 : Op.bytesLess (bstr a.id.l).toList (bstr b.id.l).toList = decide (a.cmp b < 0) := by rw [less_id, Wd.cmp_neg]
  have h6 : weq a.id.w.n a.n = true := Wd.eq_of a.id_w
  have hn : ∀ x : Wd, ∀ y : Wd, -1 ≤ x.cmp y ∧ x.cmp y ≤ 1 := fun x y => by unfold Wd.cmp cmpN; split <;> (try split) <;> omega
  have b1 := (hn b a).1
  have b2 := (hn b a).2
  have hcase : decide (0 ≤ a.cmp b) = true ∨ (decide (0 ≤ a.cmp b) = false ∧ decide (0 ≤ b.cmp c) = true) ∨ (decide (0 ≤ a.cmp b) = false ∧ decide (0 ≤ b.cmp c) = false ∧ decide (a.cmp c < 0) = true) := by
    rw [Wd.cmp_ge, Wd.cmp_ge, Wd.cmp_neg]
    unfold Wd.subOk
    by_cases g1 : b.n ≤ a.n
    · exact .inl (decide_eq_true g1)
    · by_cases g2 : c.n ≤ b.n
      · exact .inr (.inl ⟨decide_eq_false g1, decide_eq_true g2⟩)
      · exact .inr (.inr ⟨decide_eq_false g1, decide_eq_false g2, decide_eq_true (by omega)⟩)
  have HC := Lib.hid hcase
  clear hcase hn
  go_enter Try.func8, Try.ntmps8
  go_wp2_with (first
      | (go_at_call 10; refine (awake2 _).mono ?_; rintro e w' ⟨rfl, δ, rfl⟩)
      | (go_at_call 19; refine (bytes_w _ _).mono ?_; rintro e w' ⟨rfl, δ, rfl⟩)
      | (go_at_call 13; refine (cmp_w _ _ _).mono ?_; rintro e w' ⟨rfl, δ, rfl⟩))
  first | refine wp_region_pure_lit_g (by kernel_rfl) (by kernel_rfl) ?_ | refine wp_region_pure_lit (by kernel_rfl) (by kernel_rfl) ?_
  repeat (go_big_quiet_step ((fail)))
  refine wpQuiet_nil ?_
  intro _ hw'
  obtain ⟨δ1, hw''⟩ := hw'
  subst hw''
  go_wp2
  rcases HC.out with k1 | ⟨k1, k2⟩ | ⟨k1, k2, k3⟩
  all_goals
    first | refine wp_region_pure_lit_g (by kernel_rfl) (by kernel_rfl) ?_ | refine wp_region_pure_lit (by kernel_rfl) (by kernel_rfl) ?_
    repeat (go_big_quiet_step ((first | (go_at_call 20; exact Calls.pure_of (of32_i _ _)) | (go_at_call 13; exact Calls.pure_of (cmp_w _ _ _)))))
    refine wpQuiet_nil ?_
    intro _ hw'
    obtain ⟨δ1, hw''⟩ := hw'
    subst hw''
    go_wp2
    go_ret
    exact ⟨rfl, (by repeat (first | with_reducible exact Grew.refl _ | with_reducible apply Grew.alloc | with_reducible apply Grew.grow | with_reducible apply Grew.drew | with_reducible apply Grew.drewN))⟩
end Go.Proofs.Ytcoclcbclbjdaaa
