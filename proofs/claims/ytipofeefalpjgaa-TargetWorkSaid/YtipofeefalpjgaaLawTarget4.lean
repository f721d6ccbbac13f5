/- TargetWork. -/
import Derived.Test.YtipofeefalpjgaaRows
import Derived.Test.YtipofeefalpjgaaAwake3
namespace Go.Proofs.Ytipofeefalpjgaa
set_option linter.unusedVariables false
set_option linter.unusedSimpArgs false
open Go.RowKit

theorem max_ex : ∃ m : Wd, m.n = B256 - 1 := ⟨⟨B256 - 1, by unfold B256; omega⟩, rfl⟩
/-- The greatest number. -/
noncomputable def Wd.max : Wd := Classical.choose max_ex
theorem Wd.max_n : Wd.max.n = B256 - 1 := Classical.choose_spec max_ex
def wideMax : Sem Next := do let x ← Instr.build 25 #[(0, .int .u64 18446744073709551615), (1, .int .u64 18446744073709551615), (2, .int .u64 18446744073709551615), (3, .int .u64 18446744073709551615)]; pure (.value x)
theorem run_wideMax' (w : World) : wideMax.run Try.prog w = .ok (.value (.agg #[.int .u64 18446744073709551615, .int .u64 18446744073709551615, .int .u64 18446744073709551615, .int .u64 18446744073709551615])) w := by kernel_rfl
theorem max_cells : #[Value.int .u64 18446744073709551615, .int .u64 18446744073709551615, .int .u64 18446744073709551615, .int .u64 18446744073709551615] = wv (B256 - 1) := by
  have := wv_w4 (a := 18446744073709551615) (b := 18446744073709551615) (c := 18446744073709551615) (d := 18446744073709551615) (by omega) (by omega) (by omega) (by omega)
  have e : w4 18446744073709551615 18446744073709551615 18446744073709551615 18446744073709551615 = B256 - 1 := by unfold w4 B256; omega
  rw [e] at this
  exact this
@[go_sem] theorem run_wideMax (w : World) : wideMax.run Try.prog w = .ok (.value (.agg (wv Wd.max.n))) w := by
  rw [run_wideMax', max_cells, Wd.max_n]
section
variable (ρ : Operand → Value) (d : Option Tmp) (t : TypeId) (p : String) (a : Array Edge) (g : Option (Nat × Bool))
@[go_sem ↓] theorem ex_wideMax (b : Act) : execOp b.eval ⟨d, .build 25 #[(0, .const (.int .u64 18446744073709551615)), (1, .const (.int .u64 18446744073709551615)), (2, .const (.int .u64 18446744073709551615)), (3, .const (.int .u64 18446744073709551615))], t, p, a, g⟩ = wideMax := by
  simp [execOp, wideMax, Act.eval]
end

theorem work_facts (t u : Wd) (h : t.addOk (Wd.of 1) = true) :
    weq (wk t).n ((Wd.max.div (t.add (Wd.of 1))).add (Wd.of 1)).n = weq ((Wd.max.rem (t.add (Wd.of 1))).add (Wd.of 1)).n (t.add (Wd.of 1)).n ∧
    weq (wk t).n (Wd.max.div (t.add (Wd.of 1))).n = !weq ((Wd.max.rem (t.add (Wd.of 1))).add (Wd.of 1)).n (t.add (Wd.of 1)).n := by
  have e : (t.add (Wd.of 1)).n = t.n + 1 := by rw [Wd.add_ok h, Wd.of_1]
  have h1 : t.n + 1 < B256 := by rw [← e]; exact (t.add (Wd.of 1)).lt
  have b0 := b256_pos
  have hr : (B256 - 1) % (t.n + 1) < t.n + 1 := Nat.mod_lt _ (by omega)
  have hd := Nat.div_add_mod (B256 - 1) (t.n + 1)
  have er : ((Wd.max.rem (t.add (Wd.of 1))).add (Wd.of 1)).n = (B256 - 1) % (t.n + 1) + 1 := by
    rw [Wd.add_n, Wd.rem_n _ _ (by rw [e]; omega), e, Wd.of_1, Wd.max_n]
    exact Nat.mod_eq_of_lt (by omega)
  have eq : (Wd.max.div (t.add (Wd.of 1))).n = (B256 - 1) / (t.n + 1) := by rw [Wd.div_n, e, Wd.max_n]
  have em : ((Wd.max.div (t.add (Wd.of 1))).add (Wd.of 1)).n = ((B256 - 1) / (t.n + 1) + 1) % B256 := by rw [Wd.add_n, eq, Wd.of_1]
  have ew : (wk t).n = B256 / (t.n + 1) % B256 := by unfold wk; rw [Wd.of_n]
  rw [Wd.weq, Wd.weq, Wd.weq, er, em, eq, ew, e]
  have hq : (B256 - 1) / (t.n + 1) < B256 := Nat.lt_of_le_of_lt (Nat.div_le_self _ _) (by omega)
  by_cases hc : (B256 - 1) % (t.n + 1) = t.n
  · have hw : B256 / (t.n + 1) = (B256 - 1) / (t.n + 1) + 1 := by
      have : B256 = (t.n + 1) * ((B256 - 1) / (t.n + 1) + 1) := by rw [Nat.mul_add]; omega
      conv => lhs; rw [this]
      exact Nat.mul_div_cancel_left _ (by omega)
    rw [hw, hc]
    generalize (B256 - 1) / (t.n + 1) = q at *
    have : (q + 1) % B256 ≠ q := by
      by_cases hh : q + 1 < B256
      · rw [Nat.mod_eq_of_lt hh]; omega
      · have : q + 1 = B256 := by omega
        rw [this, Nat.mod_self]; unfold B256 at *; omega
    simp [this]
  · have hw : B256 / (t.n + 1) = (B256 - 1) / (t.n + 1) := by
      have : B256 = (t.n + 1) * ((B256 - 1) / (t.n + 1)) + ((B256 - 1) % (t.n + 1) + 1) := by omega
      conv => lhs; rw [this]
      rw [Nat.mul_add_div (by omega), Nat.div_eq_of_lt (a := (B256 - 1) % (t.n + 1) + 1) (by omega), Nat.add_zero]
    rw [hw, Nat.mod_eq_of_lt hq]
    generalize (B256 - 1) / (t.n + 1) = q at *
    have : q ≠ (q + 1) % B256 := by
      by_cases hh : q + 1 < B256
      · rw [Nat.mod_eq_of_lt hh]; omega
      · have : q + 1 = B256 := by omega
        rw [this, Nat.mod_self]; unfold B256 at *; omega
    simp [this, hc]
theorem wk_mono (t u : Wd) (h0 : t.n ≠ 0) (h : t.n ≤ u.n) : (wk u).n ≤ (wk t).n := by
  have key : ∀ x : Wd, x.n ≠ 0 → (wk x).n = B256 / (x.n + 1) := fun x hx => by
    unfold wk; rw [Wd.of_n]
    apply Nat.mod_eq_of_lt
    exact Nat.div_lt_self b256_pos (by omega)
  rw [key t h0, key u (by omega)]
  exact Nat.div_le_div_left (by omega) (by omega)

set_option maxRecDepth 100000 in
set_option maxHeartbeats 16000000 in
theorem twork_walk (t u : Wd) (w : World) : Calls Try.prog 5 #[.agg (wv t.n), .agg (wv u.n)] w fun e w' => e = .returned (.bool true) ∧ Grew w w' := by
  have hcase : (t.addOk (Wd.of 1) = false ∧ weq (wk t).n (Wd.of 1).n = true) ∨ (t.addOk (Wd.of 1) = true ∧
      (weq t.n 0 = true ∨ (weq t.n 0 = false ∧ decide (0 < t.cmp u) = true) ∨ (weq t.n 0 = false ∧ decide (0 < t.cmp u) = false ∧ decide ((wk u).cmp (wk t) ≤ 0) = true))) := by
    cases h : t.addOk (Wd.of 1)
    · refine .inl ⟨rfl, Wd.eq_of ?_⟩
      unfold Wd.addOk at h
      rw [Wd.of_1] at h
      have := t.lt
      have e : t.n + 1 = B256 := by simp at h; omega
      unfold wk
      rw [e, Nat.div_self b256_pos]
    · refine .inr ⟨rfl, ?_⟩
      rw [Wd.cmp_pos, Wd.cmp_le]
      by_cases h0 : t.n = 0
      · exact .inl (Wd.eq_of h0)
      · by_cases h1 : u.n < t.n
        · exact .inr (.inl ⟨Wd.ne_zero h0, decide_eq_true h1⟩)
        · exact .inr (.inr ⟨Wd.ne_zero h0, decide_eq_false h1, decide_eq_true (wk_mono t u h0 (by omega))⟩)
  have HC := Lib.hid hcase
  clear hcase
  rcases HC.out with ⟨k1, k2⟩ | ⟨k1, k2⟩
  · clear HC
    go_enter Try.func5, Try.ntmps5
    go_wp2_with (first
      | (go_at_call 9; refine (awake3 _).mono ?_; rintro e w' ⟨rfl, δ, rfl⟩)
      | (go_at_call 14; refine (work_w _ _).mono ?_; rintro e w' ⟨rfl, δ, rfl⟩))
    first | apply wp_region_env_g [0,1,2,3,4,5] [6,7,8] (by kernel_rfl) (by kernel_rfl) (by kernel_rfl) (by intro _ _ _ d _ h; cases d <;> exact h) _ | apply wp_region_env_p [0,1,2,3,4,5] [6,7,8] (by kernel_rfl) (by kernel_rfl) (by kernel_rfl) (by intro _ _ _ d _ h; cases d <;> exact h) _
    · intro A hA δ'
      simp only [pickOps_cons, pickOps_nil, pick1_zero, pick1_succ]
      repeat (go_big_quiet_step ((first | (go_at_call 19; exact Calls.pure_of_g (of_wd _ (by decide) _)) | (go_at_call 20; exact Calls.pure_of_g (add_w _ _ _)))))
      exact wpQuiet_nil hA.out.symm
    simp only [pickOps_cons, pickOps_nil, pick1_zero, pick1_succ]
    refine wpEnv_step ?_
    intro δe0
    go_wp2
    refine ⟨(by repeat (first | exact grows_self _ _ | apply grows_alloc | apply grows_grow | apply grows_drew | exact grows_none _)), ?_⟩
    refine wpEnv_step ?_
    intro δe1
    go_wp2
    refine ⟨(by repeat (first | exact grows_self _ _ | apply grows_alloc | apply grows_grow | apply grows_drew | exact grows_none _)), ?_⟩
    refine wpEnv_step ?_
    intro δe2
    go_wp2
    refine ⟨(by repeat (first | exact grows_self _ _ | apply grows_alloc | apply grows_grow | apply grows_drew | exact grows_none _)), ?_⟩
    refine wpEnv_end ?_
    intro δ1
    try simp only [grow_grow]
    go_wp2
    first | refine wp_region_pure_lit_g (by kernel_rfl) (by kernel_rfl) ?_ | refine wp_region_pure_lit (by kernel_rfl) (by kernel_rfl) ?_
    repeat (go_big_quiet_step ((go_at_call 19; exact Calls.pure_of (of_wd _ (by decide) _))))
    refine wpQuiet_nil ?_
    intro _ hw'
    obtain ⟨δ1, hw''⟩ := hw'
    subst hw''
    go_wp2
    go_ret
    exact ⟨rfl, (by repeat (first | exact Grew.refl _ | apply Grew.alloc | apply Grew.grow | apply Grew.drew | apply Grew.drewN))⟩
  · have k3 := (work_facts t u k1).1
    have k4 := (work_facts t u k1).2
    have K2 := Lib.hid k2
    clear k2 HC
    go_enter Try.func5, Try.ntmps5
    go_wp2_with (first
      | (go_at_call 9; refine (awake3 _).mono ?_; rintro e w' ⟨rfl, δ, rfl⟩)
      | (go_at_call 14; refine (work_w _ _).mono ?_; rintro e w' ⟨rfl, δ, rfl⟩))
    first | apply wp_region_env_g [0,1,2,3,4,5] [6,7,8] (by kernel_rfl) (by kernel_rfl) (by kernel_rfl) (by intro _ _ _ d _ h; cases d <;> exact h) _ | apply wp_region_env_p [0,1,2,3,4,5] [6,7,8] (by kernel_rfl) (by kernel_rfl) (by kernel_rfl) (by intro _ _ _ d _ h; cases d <;> exact h) _
    · intro A hA δ'
      simp only [pickOps_cons, pickOps_nil, pick1_zero, pick1_succ]
      repeat (go_big_quiet_step ((first | (go_at_call 19; exact Calls.pure_of_g (of_wd _ (by decide) _)) | (go_at_call 20; exact Calls.pure_of_g (add_w _ _ _)))))
      exact wpQuiet_nil hA.out.symm
    simp only [pickOps_cons, pickOps_nil, pick1_zero, pick1_succ]
    refine wpEnv_step ?_
    intro δe0
    go_wp2
    refine ⟨(by repeat (first | exact grows_self _ _ | apply grows_alloc | apply grows_grow | apply grows_drew | exact grows_none _)), ?_⟩
    refine wpEnv_step ?_
    intro δe1
    go_wp2
    refine ⟨(by repeat (first | exact grows_self _ _ | apply grows_alloc | apply grows_grow | apply grows_drew | exact grows_none _)), ?_⟩
    refine wpEnv_step ?_
    intro δe2
    go_wp2
    refine ⟨(by repeat (first | exact grows_self _ _ | apply grows_alloc | apply grows_grow | apply grows_drew | exact grows_none _)), ?_⟩
    refine wpEnv_end ?_
    intro δ1
    try simp only [grow_grow]
    go_wp2_with (go_at_call 21; refine (div_w _ _ _).mono ?_; rintro e w' ⟨rfl, δ, rfl⟩)
    first | apply wp_region_env_g [0,1,2,3,4,5] [6,7,8] (by kernel_rfl) (by kernel_rfl) (by kernel_rfl) (by intro _ _ _ d _ h; cases d <;> exact h) _ | apply wp_region_env_p [0,1,2,3,4,5] [6,7,8] (by kernel_rfl) (by kernel_rfl) (by kernel_rfl) (by intro _ _ _ d _ h; cases d <;> exact h) _
    · intro A hA δ'
      simp only [pickOps_cons, pickOps_nil, pick1_zero, pick1_succ]
      repeat (go_big_quiet_step ((first | (go_at_call 19; exact Calls.pure_of_g (of_wd _ (by decide) _)) | (go_at_call 20; exact Calls.pure_of_g (add_w _ _ _)))))
      exact wpQuiet_nil hA.out.symm
    simp only [pickOps_cons, pickOps_nil, pick1_zero, pick1_succ]
    refine wpEnv_step ?_
    intro δe0
    go_wp2
    refine ⟨(by repeat (first | exact grows_self _ _ | apply grows_alloc | apply grows_grow | apply grows_drew | exact grows_none _)), ?_⟩
    refine wpEnv_step ?_
    intro δe1
    go_wp2
    refine ⟨(by repeat (first | exact grows_self _ _ | apply grows_alloc | apply grows_grow | apply grows_drew | exact grows_none _)), ?_⟩
    refine wpEnv_step ?_
    intro δe2
    go_wp2
    refine ⟨(by repeat (first | exact grows_self _ _ | apply grows_alloc | apply grows_grow | apply grows_drew | exact grows_none _)), ?_⟩
    refine wpEnv_end ?_
    intro δ1
    try simp only [grow_grow]
    go_wp2
    first | apply wp_region_env_g [0,1,2,3,4,5] [6,7,8] (by kernel_rfl) (by kernel_rfl) (by kernel_rfl) (by intro _ _ _ d _ h; cases d <;> exact h) _ | apply wp_region_env_p [0,1,2,3,4,5] [6,7,8] (by kernel_rfl) (by kernel_rfl) (by kernel_rfl) (by intro _ _ _ d _ h; cases d <;> exact h) _
    · intro A hA δ'
      simp only [pickOps_cons, pickOps_nil, pick1_zero, pick1_succ]
      repeat (go_big_quiet_step ((first | (go_at_call 19; exact Calls.pure_of_g (of_wd _ (by decide) _)) | (go_at_call 20; exact Calls.pure_of_g (add_w _ _ _)))))
      exact wpQuiet_nil hA.out.symm
    simp only [pickOps_cons, pickOps_nil, pick1_zero, pick1_succ]
    refine wpEnv_step ?_
    intro δe0
    go_wp2
    refine ⟨(by repeat (first | exact grows_self _ _ | apply grows_alloc | apply grows_grow | apply grows_drew | exact grows_none _)), ?_⟩
    refine wpEnv_step ?_
    intro δe1
    go_wp2
    refine ⟨(by repeat (first | exact grows_self _ _ | apply grows_alloc | apply grows_grow | apply grows_drew | exact grows_none _)), ?_⟩
    refine wpEnv_step ?_
    intro δe2
    go_wp2
    refine ⟨(by repeat (first | exact grows_self _ _ | apply grows_alloc | apply grows_grow | apply grows_drew | exact grows_none _)), ?_⟩
    refine wpEnv_end ?_
    intro δ1
    try simp only [grow_grow]
    go_wp2
    rcases K2.out with m1 | ⟨m1, m2⟩ | ⟨m1, m2, m3⟩
    all_goals
      first | refine wp_region_pure_lit_g (by kernel_rfl) (by kernel_rfl) ?_ | refine wp_region_pure_lit (by kernel_rfl) (by kernel_rfl) ?_
      repeat (go_big_quiet_step ((first | (go_at_call 14; exact Calls.pure_of (work_w _ _)) | (go_at_call 18; exact Calls.pure_of (cmp_w _ _ _)))))
      refine wpQuiet_nil ?_
      intro _ hw'
      obtain ⟨δ1, hw''⟩ := hw'
      subst hw''
      go_wp2
      go_ret
      exact ⟨rfl, (by repeat (first | exact Grew.refl _ | apply Grew.alloc | apply Grew.grow | apply Grew.drew | apply Grew.drewN))⟩
end Go.Proofs.Ytipofeefalpjgaa
