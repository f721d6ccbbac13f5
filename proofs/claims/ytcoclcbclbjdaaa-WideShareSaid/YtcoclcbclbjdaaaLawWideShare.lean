/- WideShare. -/
import Derived.Test.YtcoclcbclbjdaaaRows
import Derived.Test.YtcoclcbclbjdaaaLawWideMoves
namespace Go.Proofs.Ytcoclcbclbjdaaa
open Go.RowKit

theorem of_wd (n : Nat) (h : n < 18446744073709551616) (w : World) :
    Calls Try.prog 16 #[.int .u64 n] w fun e w' => e = .returned (.agg (wv (Wd.of n).n)) ∧ Grew w w' := by rw [wv_of']; exact of_any n h w
theorem Wd.div_n (a b : Wd) : (a.div b).n = a.n / b.n := by
  unfold Wd.div; rw [Wd.of_n]; exact Nat.mod_eq_of_lt (Nat.lt_of_le_of_lt (Nat.div_le_self _ _) a.lt)
theorem Wd.add_ok {a b : Wd} (h : a.addOk b = true) : (a.add b).n = a.n + b.n := by
  unfold Wd.addOk at h; rw [Wd.add_n]; exact Nat.mod_eq_of_lt (by simpa using h)
theorem Wd.of_1 : (Wd.of 1).n = 1 := of_val (small_b256 (by decide))
theorem share_low (x y c : Nat) (hc : c ≠ 0) : x / c + y / c ≤ (x + y) / c := by
  rw [Nat.le_div_iff_mul_le (by omega), Nat.add_mul]
  have h1 := Nat.div_mul_le_self x c
  have h2 := Nat.div_mul_le_self y c
  omega
theorem share_high (x y c : Nat) (hc : c ≠ 0) : (x + y) / c ≤ x / c + y / c + 1 := by
  have h1 := Nat.div_add_mod x c
  have h2 := Nat.div_add_mod y c
  have h3 := Nat.mod_lt x (show c > 0 by omega)
  have h4 := Nat.mod_lt y (show c > 0 by omega)
  have h5 : (x + y) / c < x / c + y / c + 2 := by
    rw [Nat.div_lt_iff_lt_mul (by omega), Nat.add_mul, Nat.add_mul, Nat.mul_comm (x / c) c, Nat.mul_comm (y / c) c]
    omega
  omega
theorem Wd.share_is (a b c : Wd) (hc : c.n ≠ 0) (h : a.addOk b = true) : (a.div c).addOk (b.div c) = true := by
  have h1 := share_low a.n b.n c.n hc
  have h2 := Nat.div_le_self (a.n + b.n) c.n
  unfold Wd.addOk at *
  rw [Wd.div_n, Wd.div_n]
  simp only [decide_eq_true_eq] at *
  omega
theorem Wd.share1 (a b c : Wd) (hc : c.n ≠ 0) (h : a.addOk b = true) : decide (((a.div c).add (b.div c)).cmp ((a.add b).div c) ≤ 0) = true := by
  rw [Wd.cmp_le, Wd.add_ok (Wd.share_is a b c hc h), Wd.div_n, Wd.div_n, Wd.div_n, Wd.add_ok h]
  simpa using share_low a.n b.n c.n hc
theorem Wd.share2 (a b c : Wd) (hc : c.n ≠ 0) (h : a.addOk b = true) (h2 : ((a.div c).add (b.div c)).addOk (Wd.of 1) = true) :
    decide (((a.add b).div c).cmp (((a.div c).add (b.div c)).add (Wd.of 1)) ≤ 0) = true := by
  rw [Wd.cmp_le, Wd.add_ok h2, Wd.add_ok (Wd.share_is a b c hc h), Wd.div_n, Wd.div_n, Wd.div_n, Wd.add_ok h, Wd.of_1]
  simpa using share_high a.n b.n c.n hc

set_option maxRecDepth 100000 in
set_option maxHeartbeats 1600000 in
theorem share_out (a b c : Wd) (h : a.addOk b = false ∨ (a.addOk b = true ∧ weq c.n 0 = true)) (w : World) :
    Calls Try.prog 5 #[.agg (wv a.n), .agg (wv b.n), .agg (wv c.n)] w fun e w' => e = .returned (.bool true) ∧ Grew w w' := by
  rcases h with h1 | ⟨h1, h2⟩
  all_goals
    go_enter Try.func5, Try.ntmps5
    go_wp2_with (first
      | (go_at_call 10; refine (awake2 _).mono ?_; rintro e w' ⟨rfl, δ, rfl⟩)
      | (go_at_call 14; refine (add_w _ _ _).mono ?_; rintro e w' ⟨rfl, δ, rfl⟩))
    all_goals go_ret
    all_goals exact ⟨rfl, (by repeat (first | exact Grew.refl _ | apply Grew.alloc | apply Grew.grow | apply Grew.drew | apply Grew.drewN))⟩

set_option maxRecDepth 100000 in
set_option maxHeartbeats 1600000 in
theorem share_in (a b c : Wd) (k1 : a.addOk b = true) (k2 : weq c.n 0 = false) (hc : c.n ≠ 0) (w : World) :
    Calls Try.prog 5 #[.agg (wv a.n), .agg (wv b.n), .agg (wv c.n)] w fun e w' => e = .returned (.bool true) ∧ Grew w w' := by
  have h1 := Wd.share_is a b c hc k1
  have h2 := Wd.share1 a b c hc k1
  have H3 := Lib.hid (Wd.share2 a b c hc k1)
  clear hc
  cases h4 : ((a.div c).add (b.div c)).addOk (Wd.of 1)
  case' true => have h3 := H3.out h4
  all_goals
    clear H3
    go_enter Try.func5, Try.ntmps5
    go_wp2_with (first
      | (go_at_call 10; refine (awake2 _).mono ?_; rintro e w' ⟨rfl, δ, rfl⟩)
      | (go_at_call 11; refine (div_w _ _ _).mono ?_; rintro e w' ⟨rfl, δ, rfl⟩)
      | (go_at_call 14; refine (add_w _ _ _).mono ?_; rintro e w' ⟨rfl, δ, rfl⟩))
    first | apply wp_region_env_g [0,1,2,3,4,5] [6,7,8] (by kernel_rfl) (by kernel_rfl) (by kernel_rfl) (by intro _ _ _ d _ h; cases d <;> exact h) _ | apply wp_region_env_p [0,1,2,3,4,5] [6,7,8] (by kernel_rfl) (by kernel_rfl) (by kernel_rfl) (by intro _ _ _ d _ h; cases d <;> exact h) _
    · intro A hA δ'
      simp only [pickOps_cons, pickOps_nil, pick1_zero, pick1_succ]
      repeat (go_big_quiet_step ((first | (go_at_call 16; exact Calls.pure_of_g (of_wd _ (by decide) _)) | (go_at_call 14; exact Calls.pure_of_g (add_w _ _ _)))))
      exact wpQuiet_nil hA.out.symm
    simp only [pickOps_cons, pickOps_nil, pick1_zero, pick1_succ]
    refine wpEnv_step ?_
    intro δe0
    go_wp2
    refine ⟨(by repeat (first | exact grows_self _ _ | apply grows_alloc | apply grows_grow | apply grows_drew | exact grows_none _)), ?_⟩
    refine wpEnv_step ?_
    intro δe1
    go_wp2
    refine ⟨(by repeat (first | exact grows_self _ _ | apply grows_alloc | apply grows_grow | apply grows_drew | exact grows_none _)), ?_⟩
    refine wpEnv_step ?_
    intro δe2
    go_wp2
    refine ⟨(by repeat (first | exact grows_self _ _ | apply grows_alloc | apply grows_grow | apply grows_drew | exact grows_none _)), ?_⟩
    refine wpEnv_end ?_
    intro δ1
    go_wp2_with (go_at_call 13; refine (cmp_w _ _ _).mono ?_; rintro e w' ⟨rfl, δ, rfl⟩)
    all_goals go_ret
    all_goals exact ⟨rfl, (by repeat (first | exact Grew.refl _ | apply Grew.alloc | apply Grew.grow | apply Grew.drew | apply Grew.drewN))⟩

theorem share_walk (a b c : Wd) (w : World) :
    Calls Try.prog 5 #[.agg (wv a.n), .agg (wv b.n), .agg (wv c.n)] w fun e w' => e = .returned (.bool true) ∧ Grew w w' := by
  cases k1 : a.addOk b
  · exact share_out a b c (.inl k1) w
  · by_cases hc : c.n = 0
    · exact share_out a b c (.inr ⟨k1, by rw [hc]; rfl⟩) w
    · refine share_in a b c k1 ?_ hc w
      rw [weq_lt c.lt b256_pos]
      simpa using hc
end Go.Proofs.Ytcoclcbclbjdaaa
