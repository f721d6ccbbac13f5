/- The document's Of32, Target, Work. -/
import Derived.Test.YtipofeefalpjgaaRows
import Derived.Test.YtipofeefalpjgaaRefW3
import Derived.Test.YtipofeefalpjgaaRefOf32
import Derived.Test.YtipofeefalpjgaaTgt1
import Derived.Test.YtipofeefalpjgaaMaxW
namespace Go.Proofs.Ytipofeefalpjgaa
set_option linter.unusedVariables false
set_option linter.unusedSimpArgs false
open Go.RowKit

set_option maxRecDepth 100000 in
set_option maxHeartbeats 1600000 in
theorem rtarget_bad (b e m : Nat) (hE : ((b : Int) / 16777216) = (e : Int)) (hM : (b : Int) % 16777216 = (m : Int)) (he : e < 256) (hm : m < 16777216)
    (h : decide ((e : Int) < 3) = true ∨ (decide ((e : Int) < 3) = false ∧ decide (32 < (e : Int)) = true) ∨ (decide ((e : Int) < 3) = false ∧ decide (32 < (e : Int)) = false ∧ decide ((m : Int) < 32768) = true)
      ∨ (decide ((e : Int) < 3) = false ∧ decide (32 < (e : Int)) = false ∧ decide ((m : Int) < 32768) = false ∧ decide (8388607 < (m : Int)) = true)) (w : World) :
    Calls Try.prog 11 #[.int .u32 b] w fun e w' => e = .returned (.tuple #[.agg (wv 0), .bool false]) ∧ Grew w w' := by
  rcases h with h1 | ⟨h1, h2⟩ | ⟨h1, h2, h3⟩ | ⟨h1, h2, h3, h4⟩
  all_goals
    go_enter Try.func11, Try.ntmps11
    go_wp2
    refine bodyPost_ret (v := .tuple #[.agg (wv 0), .bool false]) ?_ rfl ⟨rfl, (by repeat (first | with_reducible exact Grew.refl _ | with_reducible apply Grew.alloc | with_reducible apply Grew.grow | with_reducible apply Grew.drew | with_reducible apply Grew.drewN))⟩
    simp [results, Try.results11, go_sem]
    try rfl

set_option maxRecDepth 100000 in
set_option maxHeartbeats 1600000 in
theorem rtarget_good (b e m : Nat) (hE : ((b : Int) / 16777216) = (e : Int)) (hM : (b : Int) % 16777216 = (m : Int)) (he : e < 256) (hm : m < 16777216)
    (h1 : decide ((e : Int) < 3) = false) (h2 : decide (32 < (e : Int)) = false) (h3 : decide ((m : Int) < 32768) = false) (h4 : decide (8388607 < (m : Int)) = false) (w : World) :
    Calls Try.prog 11 #[.int .u32 b] w fun e' w' => e' = .returned (.tuple #[.agg (wv ((Wd.of m).up (8 * ((e : Int) - 3))).n), .bool true]) ∧ Grew w w' := by
  have b1 : (3 : Int) ≤ e := by simpa using h1
  go_enter Try.func11, Try.ntmps11
  go_wp2_with (first
    | (go_at_call 26; refine (rof_w _ (by omega) _).mono ?_; rintro e w' ⟨rfl, δ, rfl⟩)
    | (go_at_call 25; refine (rup_w _ _ _).mono ?_; rintro e w' ⟨rfl, δ, rfl⟩))
  refine bodyPost_ret (v := .tuple #[.agg (wv ((Wd.of m).up (8 * ((e : Int) - 3))).n), .bool true]) ?_ rfl ⟨rfl, (by repeat (first | with_reducible exact Grew.refl _ | with_reducible apply Grew.alloc | with_reducible apply Grew.grow | with_reducible apply Grew.drew | with_reducible apply Grew.drewN))⟩
  simp [results, Try.results11, go_sem]

theorem rtarget_w (b : Nat) (hb : b < 4294967296) (w : World) :
    Calls Try.prog 11 #[.int .u32 b] w fun e w' => e = .returned (.tuple #[.agg (wv (tg b).n), .bool (tgOk b)]) ∧ Grew w w' := by
  have hE : ((b : Int) / 16777216) = ((b / 16777216 : Nat) : Int) := by omega
  have hM : (b : Int) % 16777216 = ((b % 16777216 : Nat) : Int) := by omega
  have he : b / 16777216 < 256 := by omega
  have hm : b % 16777216 < 16777216 := Nat.mod_lt _ (by decide)
  unfold tg
  cases hk : tgOk b
  · rw [if_neg (by decide)]
    refine rtarget_bad b _ _ hE hM he hm ?_ w
    unfold tgOk at hk
    generalize b / 16777216 = e at *
    generalize b % 16777216 = m at *
    simp only [decide_eq_false_iff_not, decide_eq_true_eq] at *
    omega
  · rw [if_pos rfl]
    unfold tgOk at hk
    have hk := of_decide_eq_true hk
    refine rtarget_good b _ _ hE hM he hm ?_ ?_ ?_ ?_ w
    all_goals
      generalize b / 16777216 = e at *
      generalize b % 16777216 = m at *
      simp only [decide_eq_false_iff_not]
      omega

set_option maxRecDepth 100000 in
set_option maxHeartbeats 3200000 in
theorem rwork_w (t : Wd) (w : World) :
    Calls Try.prog 15 #[.agg (wv t.n)] w fun e w' => e = .returned (.agg (wv (wk t).n)) ∧ Grew w w' := by
  have hcase : (t.addOk (Wd.of 1) = false ∧ (Wd.of 1).n = (wk t).n) ∨
      (t.addOk (Wd.of 1) = true ∧ weq ((Wd.max.rem (t.add (Wd.of 1))).add (Wd.of 1)).n (t.add (Wd.of 1)).n = true ∧ ((Wd.max.div (t.add (Wd.of 1))).add (Wd.of 1)).n = (wk t).n) ∨
      (t.addOk (Wd.of 1) = true ∧ weq ((Wd.max.rem (t.add (Wd.of 1))).add (Wd.of 1)).n (t.add (Wd.of 1)).n = false ∧ (Wd.max.div (t.add (Wd.of 1))).n = (wk t).n) := by
    cases h : t.addOk (Wd.of 1)
    · refine .inl ⟨rfl, ?_⟩
      unfold Wd.addOk at h
      rw [Wd.of_1] at h
      have := t.lt
      have e : t.n + 1 = B256 := by simp at h; omega
      unfold wk
      rw [e, Nat.div_self b256_pos]
    · obtain ⟨f1, f2⟩ := work_facts t t h
      cases hw : weq ((Wd.max.rem (t.add (Wd.of 1))).add (Wd.of 1)).n (t.add (Wd.of 1)).n
      · rw [hw, Wd.weq] at f2
        have e : (wk t).n = (Wd.max.div (t.add (Wd.of 1))).n := by simpa using f2
        exact .inr (.inr ⟨rfl, rfl, e.symm⟩)
      · rw [hw, Wd.weq] at f1
        have e : (wk t).n = ((Wd.max.div (t.add (Wd.of 1))).add (Wd.of 1)).n := by simpa using f1
        exact .inr (.inl ⟨rfl, rfl, e.symm⟩)
  rcases hcase with ⟨k1, k2⟩ | ⟨k1, k2, k3⟩ | ⟨k1, k2, k3⟩
  · have K := Lib.hid k2
    clear k2
    go_enter Try.func15, Try.ntmps15
    go_wp2
    first | apply wp_region_env_g [0,1,2,3,4,5] [6,7,8] (by kernel_rfl) (by kernel_rfl) (by kernel_rfl) (by intro _ _ _ d _ h; cases d <;> exact h) _ | apply wp_region_env_p [0,1,2,3,4,5] [6,7,8] (by kernel_rfl) (by kernel_rfl) (by kernel_rfl) (by intro _ _ _ d _ h; cases d <;> exact h) _
    · intro A hA δ'
      simp only [pickOps_cons, pickOps_nil, pick1_zero, pick1_succ]
      repeat (go_big_quiet_step ((first | (go_at_call 26; exact Calls.pure_of_g (rof_w _ (by decide) _)) | (go_at_call 28; exact Calls.pure_of_g (radd_w _ _ _)))))
      exact wpQuiet_nil hA.out.symm
    simp only [pickOps_cons, pickOps_nil, pick1_zero, pick1_succ]
    refine wpEnv_step ?_
    intro δe0
    go_wp2
    refine ⟨(by repeat (first | with_reducible exact grows_self _ _ | with_reducible apply grows_alloc | with_reducible apply grows_grow | with_reducible apply grows_drew | with_reducible exact grows_none _)), ?_⟩
    refine wpEnv_step ?_
    intro δe1
    go_wp2
    refine ⟨(by repeat (first | with_reducible exact grows_self _ _ | with_reducible apply grows_alloc | with_reducible apply grows_grow | with_reducible apply grows_drew | with_reducible exact grows_none _)), ?_⟩
    refine wpEnv_step ?_
    intro δe2
    go_wp2
    refine ⟨(by repeat (first | with_reducible exact grows_self _ _ | with_reducible apply grows_alloc | with_reducible apply grows_grow | with_reducible apply grows_drew | with_reducible exact grows_none _)), ?_⟩
    refine wpEnv_end ?_
    intro δ1
    try simp only [grow_grow]
    go_wp2_with (go_at_call 26; refine (rof_w _ (by decide) _).mono ?_; rintro e w' ⟨rfl, δ, rfl⟩)
    refine bodyPost_ret (v := .agg (wv (wk t).n)) ?_ rfl ⟨rfl, (by repeat (first | with_reducible exact Grew.refl _ | with_reducible apply Grew.alloc | with_reducible apply Grew.grow | with_reducible apply Grew.drew | with_reducible apply Grew.drewN))⟩
    simp [results, Try.results15, go_sem]
    rw [K.out]
  · have K := Lib.hid k3
    clear k3
    go_enter Try.func15, Try.ntmps15
    go_wp2
    first | apply wp_region_env_g [0,1,2,3,4,5] [6,7,8] (by kernel_rfl) (by kernel_rfl) (by kernel_rfl) (by intro _ _ _ d _ h; cases d <;> exact h) _ | apply wp_region_env_p [0,1,2,3,4,5] [6,7,8] (by kernel_rfl) (by kernel_rfl) (by kernel_rfl) (by intro _ _ _ d _ h; cases d <;> exact h) _
    · intro A hA δ'
      simp only [pickOps_cons, pickOps_nil, pick1_zero, pick1_succ]
      repeat (go_big_quiet_step ((first | (go_at_call 26; exact Calls.pure_of_g (rof_w _ (by decide) _)) | (go_at_call 28; exact Calls.pure_of_g (radd_w _ _ _)))))
      exact wpQuiet_nil hA.out.symm
    simp only [pickOps_cons, pickOps_nil, pick1_zero, pick1_succ]
    refine wpEnv_step ?_
    intro δe0
    go_wp2
    refine ⟨(by repeat (first | with_reducible exact grows_self _ _ | with_reducible apply grows_alloc | with_reducible apply grows_grow | with_reducible apply grows_drew | with_reducible exact grows_none _)), ?_⟩
    refine wpEnv_step ?_
    intro δe1
    go_wp2
    refine ⟨(by repeat (first | with_reducible exact grows_self _ _ | with_reducible apply grows_alloc | with_reducible apply grows_grow | with_reducible apply grows_drew | with_reducible exact grows_none _)), ?_⟩
    refine wpEnv_step ?_
    intro δe2
    go_wp2
    refine ⟨(by repeat (first | with_reducible exact grows_self _ _ | with_reducible apply grows_alloc | with_reducible apply grows_grow | with_reducible apply grows_drew | with_reducible exact grows_none _)), ?_⟩
    refine wpEnv_end ?_
    intro δ1
    try simp only [grow_grow]
    go_wp2_with (go_at_call 29; refine (rdiv_w _ _ _).mono ?_; rintro e w' ⟨rfl, δ, rfl⟩)
    first | apply wp_region_env_g [0,1,2,3,4,5] [6,7,8] (by kernel_rfl) (by kernel_rfl) (by kernel_rfl) (by intro _ _ _ d _ h; cases d <;> exact h) _ | apply wp_region_env_p [0,1,2,3,4,5] [6,7,8] (by kernel_rfl) (by kernel_rfl) (by kernel_rfl) (by intro _ _ _ d _ h; cases d <;> exact h) _
    · intro A hA δ'
      simp only [pickOps_cons, pickOps_nil, pick1_zero, pick1_succ]
      repeat (go_big_quiet_step ((first | (go_at_call 26; exact Calls.pure_of_g (rof_w _ (by decide) _)) | (go_at_call 28; exact Calls.pure_of_g (radd_w _ _ _)))))
      exact wpQuiet_nil hA.out.symm
    simp only [pickOps_cons, pickOps_nil, pick1_zero, pick1_succ]
    refine wpEnv_step ?_
    intro δe0
    go_wp2
    refine ⟨(by repeat (first | with_reducible exact grows_self _ _ | with_reducible apply grows_alloc | with_reducible apply grows_grow | with_reducible apply grows_drew | with_reducible exact grows_none _)), ?_⟩
    refine wpEnv_step ?_
    intro δe1
    go_wp2
    refine ⟨(by repeat (first | with_reducible exact grows_self _ _ | with_reducible apply grows_alloc | with_reducible apply grows_grow | with_reducible apply grows_drew | with_reducible exact grows_none _)), ?_⟩
    refine wpEnv_step ?_
    intro δe2
    go_wp2
    refine ⟨(by repeat (first | with_reducible exact grows_self _ _ | with_reducible apply grows_alloc | with_reducible apply grows_grow | with_reducible apply grows_drew | with_reducible exact grows_none _)), ?_⟩
    refine wpEnv_end ?_
    intro δ1
    try simp only [grow_grow]
    go_wp2
    first | refine wp_region_pure_tail_g 6 (by kernel_rfl) (by kernel_rfl) (by intro _ _ _ d _ h; cases d <;> exact h) ?_ | refine wp_region_pure_tail 6 (by kernel_rfl) (by kernel_rfl) (by intro _ _ _ d _ h; cases d <;> exact h) ?_
    simp only [List.take_succ_cons, List.take_zero, List.drop_succ_cons, List.drop_zero]
    repeat (go_big_quiet_step ((first | (go_at_call 26; exact Calls.pure_of (rof_w _ (by decide) _)) | (go_at_call 28; exact Calls.pure_of (radd_w _ _ _)))))
    refine wpQuiet_nil ?_
    intro _ hw'
    obtain ⟨δ1, hw''⟩ := hw'
    subst hw''
    go_wp2
    refine bodyPost_ret (v := .agg (wv (wk t).n)) ?_ rfl ⟨rfl, (by repeat (first | with_reducible exact Grew.refl _ | with_reducible apply Grew.alloc | with_reducible apply Grew.grow | with_reducible apply Grew.drew | with_reducible apply Grew.drewN))⟩
    simp [results, Try.results15, go_sem]
    rw [K.out]
  · have K := Lib.hid k3
    clear k3
    go_enter Try.func15, Try.ntmps15
    go_wp2
    first | apply wp_region_env_g [0,1,2,3,4,5] [6,7,8] (by kernel_rfl) (by kernel_rfl) (by kernel_rfl) (by intro _ _ _ d _ h; cases d <;> exact h) _ | apply wp_region_env_p [0,1,2,3,4,5] [6,7,8] (by kernel_rfl) (by kernel_rfl) (by kernel_rfl) (by intro _ _ _ d _ h; cases d <;> exact h) _
    · intro A hA δ'
      simp only [pickOps_cons, pickOps_nil, pick1_zero, pick1_succ]
      repeat (go_big_quiet_step ((first | (go_at_call 26; exact Calls.pure_of_g (rof_w _ (by decide) _)) | (go_at_call 28; exact Calls.pure_of_g (radd_w _ _ _)))))
      exact wpQuiet_nil hA.out.symm
    simp only [pickOps_cons, pickOps_nil, pick1_zero, pick1_succ]
    refine wpEnv_step ?_
    intro δe0
    go_wp2
    refine ⟨(by repeat (first | with_reducible exact grows_self _ _ | with_reducible apply grows_alloc | with_reducible apply grows_grow | with_reducible apply grows_drew | with_reducible exact grows_none _)), ?_⟩
    refine wpEnv_step ?_
    intro δe1
    go_wp2
    refine ⟨(by repeat (first | with_reducible exact grows_self _ _ | with_reducible apply grows_alloc | with_reducible apply grows_grow | with_reducible apply grows_drew | with_reducible exact grows_none _)), ?_⟩
    refine wpEnv_step ?_
    intro δe2
    go_wp2
    refine ⟨(by repeat (first | with_reducible exact grows_self _ _ | with_reducible apply grows_alloc | with_reducible apply grows_grow | with_reducible apply grows_drew | with_reducible exact grows_none _)), ?_⟩
    refine wpEnv_end ?_
    intro δ1
    try simp only [grow_grow]
    go_wp2_with (go_at_call 29; refine (rdiv_w _ _ _).mono ?_; rintro e w' ⟨rfl, δ, rfl⟩)
    first | apply wp_region_env_g [0,1,2,3,4,5] [6,7,8] (by kernel_rfl) (by kernel_rfl) (by kernel_rfl) (by intro _ _ _ d _ h; cases d <;> exact h) _ | apply wp_region_env_p [0,1,2,3,4,5] [6,7,8] (by kernel_rfl) (by kernel_rfl) (by kernel_rfl) (by intro _ _ _ d _ h; cases d <;> exact h) _
    · intro A hA δ'
      simp only [pickOps_cons, pickOps_nil, pick1_zero, pick1_succ]
      repeat (go_big_quiet_step ((first | (go_at_call 26; exact Calls.pure_of_g (rof_w _ (by decide) _)) | (go_at_call 28; exact Calls.pure_of_g (radd_w _ _ _)))))
      exact wpQuiet_nil hA.out.symm
    simp only [pickOps_cons, pickOps_nil, pick1_zero, pick1_succ]
    refine wpEnv_step ?_
    intro δe0
    go_wp2
    refine ⟨(by repeat (first | with_reducible exact grows_self _ _ | with_reducible apply grows_alloc | with_reducible apply grows_grow | with_reducible apply grows_drew | with_reducible exact grows_none _)), ?_⟩
    refine wpEnv_step ?_
    intro δe1
    go_wp2
    refine ⟨(by repeat (first | with_reducible exact grows_self _ _ | with_reducible apply grows_alloc | with_reducible apply grows_grow | with_reducible apply grows_drew | with_reducible exact grows_none _)), ?_⟩
    refine wpEnv_step ?_
    intro δe2
    go_wp2
    refine ⟨(by repeat (first | with_reducible exact grows_self _ _ | with_reducible apply grows_alloc | with_reducible apply grows_grow | with_reducible apply grows_drew | with_reducible exact grows_none _)), ?_⟩
    refine wpEnv_end ?_
    intro δ1
    try simp only [grow_grow]
    go_wp2
    refine bodyPost_ret (v := .agg (wv (wk t).n)) ?_ rfl ⟨rfl, (by repeat (first | with_reducible exact Grew.refl _ | with_reducible apply Grew.alloc | with_reducible apply Grew.grow | with_reducible apply Grew.drew | with_reducible apply Grew.drewN))⟩
    simp [results, Try.results15, go_sem]
    rw [K.out]
end Go.Proofs.Ytipofeefalpjgaa
