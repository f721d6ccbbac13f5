/- WideDivides. -/
import Derived.Test.YtcoclcbclbjdaaaRows
import Derived.Test.YtcoclcbclbjdaaaWide9
import Derived.Test.YtcoclcbclbjdaaaRefW3
namespace Go.Proofs.Ytcoclcbclbjdaaa
set_option linter.unusedVariables false
set_option linter.unusedSimpArgs false
open Go.RowKit

theorem weq_self (n : Nat) : weq n n = true := Wd.eq_of rfl
set_option maxRecDepth 100000 in
set_option maxHeartbeats 8000000 in
theorem divides_walk (a b : Wd) (w : World) : Calls Try.prog 3 #[.agg (wv a.n), .agg (wv b.n)] w fun e w' => e = .returned (.bool true) ∧ Grew w w' := by
  have hw := weq_self
  have hd : weq b.n 0 = !a.divOk b := by
    rw [weq_lt b.lt b256_pos]; unfold Wd.divOk; simp
  have hcase : a.divOk b = false ∨ (a.divOk b = true ∧ ((a.rem b).cmp b == -1) = true ∧ decide ((a.div b).cmp a ≤ 0) = true) := by
    cases h : a.divOk b
    · exact .inl rfl
    · have hb : b.n ≠ 0 := by unfold Wd.divOk at h; simpa using h
      refine .inr ⟨rfl, ?_, ?_⟩
      · unfold Wd.cmp
        rw [Wd.rem_n _ _ hb, cmpN_lt (Nat.mod_lt _ (by omega))]; rfl
      · rw [Wd.cmp_le, Wd.div_n]; simpa using Nat.div_le_self _ _
  rcases hcase with k1 | ⟨k1, k2, k3⟩
  all_goals
    rw [k1] at hd
    go_enter Try.func3, Try.ntmps3
    go_wp2_with (first
      | (go_at_call 10; refine (awake2 _).mono ?_; rintro e w' ⟨rfl, δ, rfl⟩)
      | (go_at_call 11; refine (div_w _ _ _).mono ?_; rintro e w' ⟨rfl, δ, rfl⟩)
      | (go_at_call 12; refine (rdiv_w _ _ _).mono ?_; rintro e w' ⟨rfl, δ, rfl⟩)
      | (go_at_call 13; refine (cmp_w _ _ _).mono ?_; rintro e w' ⟨rfl, δ, rfl⟩))
    go_ret
    exact ⟨rfl, (by repeat (first | with_reducible exact Grew.refl _ | with_reducible apply Grew.alloc | with_reducible apply Grew.grow | with_reducible apply Grew.drew | with_reducible apply Grew.drewN))⟩
end Go.Proofs.Ytcoclcbclbjdaaa
