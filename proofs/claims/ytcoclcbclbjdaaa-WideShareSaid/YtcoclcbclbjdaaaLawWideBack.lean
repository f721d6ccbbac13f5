/- WideBack. -/
import Derived.Test.YtcoclcbclbjdaaaRows
import Derived.Test.YtcoclcbclbjdaaaWide9
namespace Go.Proofs.Ytcoclcbclbjdaaa
open Go.RowKit

theorem Wd.add_n (a b : Wd) : (a.add b).n = (a.n + b.n) % B256 := Wd.of_n _
theorem Wd.sub_n (a b : Wd) : (a.sub b).n = (a.n + B256 - b.n) % B256 := Wd.of_n _
theorem Wd.back1 (a b : Wd) : ((a.add b).sub b).n = a.n := by
  have ha := a.lt; have hb := b.lt
  rw [Wd.sub_n, Wd.add_n]
  unfold B256 at *
  omega
theorem Wd.back2 (a b : Wd) : ((a.sub b).add b).n = a.n := by
  have ha := a.lt; have hb := b.lt
  rw [Wd.add_n, Wd.sub_n]
  unfold B256 at *
  omega
theorem Wd.comm (a b : Wd) : a.add b = b.add a := by unfold Wd.add; rw [Nat.add_comm]
theorem Wd.comm_ok (a b : Wd) : b.addOk a = a.addOk b := by unfold Wd.addOk; rw [Nat.add_comm]
theorem Wd.over (a b : Wd) : (a.sub b).addOk b = a.subOk b := by
  have ha := a.lt; have hb := b.lt
  unfold Wd.addOk Wd.subOk
  rw [Bool.eq_iff_iff, decide_eq_true_eq, decide_eq_true_eq, Wd.sub_n]
  unfold B256 at *
  omega
theorem cmpN_ge (x y : Nat) : decide (0 ≤ cmpN x y) = decide (y ≤ x) := by
  rw [Bool.eq_iff_iff, decide_eq_true_eq, decide_eq_true_eq]
  unfold cmpN; split <;> (try split) <;> omega
theorem Wd.cmp_ge (a b : Wd) : decide (0 ≤ a.cmp b) = a.subOk b := cmpN_ge _ _
theorem Wd.cmp_all (a b : Wd) : decide (0 ≤ (a.add b).cmp a) = a.addOk b := by
  have ha := a.lt; have hb := b.lt
  rw [Wd.cmp_ge]
  unfold Wd.addOk Wd.subOk
  rw [Bool.eq_iff_iff, decide_eq_true_eq, decide_eq_true_eq, Wd.add_n]
  unfold B256 at *
  omega

set_option maxRecDepth 100000 in
set_option maxHeartbeats 1600000 in
theorem back_walk (a b : Wd) (w : World) : Calls Try.prog 4 #[.agg (wv a.n), .agg (wv b.n)] w fun e w' => e = .returned (.bool true) ∧ Grew w w' := by
  have h1 : weq ((a.add b).sub b).n a.n = true := by rw [Wd.weq, Wd.back1]; simp
  have h2 : weq (a.add b).n (b.add a).n = true := by rw [Wd.weq, Wd.comm]; simp
  have h3 := Wd.comm_ok a b
  have h4 : weq ((a.sub b).add b).n a.n = true := by rw [Wd.weq, Wd.back2]; simp
  have h5 := Wd.over a b
  have h6 := Wd.cmp_ge a b
  have h7 := Wd.cmp_all a b
  go_enter Try.func4, Try.ntmps4
  go_wp2_with (first
    | (go_at_call 10; refine (awake2 _).mono ?_; rintro e w' ⟨rfl, δ, rfl⟩)
    | (go_at_call 14; refine (add_w _ _ _).mono ?_; rintro e w' ⟨rfl, δ, rfl⟩)
    | (go_at_call 13; refine (cmp_w _ _ _).mono ?_; rintro e w' ⟨rfl, δ, rfl⟩)
    | (go_at_call 15; refine (sub_w _ _ _).mono ?_; rintro e w' ⟨rfl, δ, rfl⟩))

  all_goals go_ret
  all_goals exact ⟨rfl, (by repeat (first | exact Grew.refl _ | apply Grew.alloc | apply Grew.grow | apply Grew.drew | apply Grew.drewN))⟩
end Go.Proofs.Ytcoclcbclbjdaaa
