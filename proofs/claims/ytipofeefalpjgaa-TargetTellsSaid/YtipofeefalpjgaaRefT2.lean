/- The document's Compact, Level. -/
import Derived.Test.YtipofeefalpjgaaRows
import Derived.Test.YtipofeefalpjgaaRefT1
import Derived.Test.YtipofeefalpjgaaTgtMath
namespace Go.Proofs.Ytipofeefalpjgaa
set_option linter.unusedVariables false
set_option linter.unusedSimpArgs false
open Go.RowKit

/-- The compact number, from the least E on. -/
def rcp (x : Nat) : Nat → Nat
  | 0 => 0
  | k + 1 => if 8388608 ≤ x >>> (8 * k) then (k + 3) * 16777216 + 8388607 else if 32768 ≤ x >>> (8 * k) then (k + 3) * 16777216 + x >>> (8 * k) else rcp x k
theorem rcp_cpt (x : Nat) : ∀ k, rcp x (k + 1) = cpt x k
  | 0 => by unfold rcp cpt; simp [rcp]
  | k + 1 => by
    conv => lhs; unfold rcp
    conv => rhs; unfold cpt
    rw [rcp_cpt x k]
theorem lb_small {z : Nat} (hz : z < B256) (h1 : lb z 1 = 0) (h2 : lb z 2 = 0) (h3 : lb z 3 = 0) : lb z 0 = z := by
  have e := w4_lb z
  rw [Nat.mod_eq_of_lt hz] at e
  unfold w4 at e; omega
theorem lb_big {z : Nat} (hz : z < B256) (i : Nat) (hi : i = 1 ∨ i = 2 ∨ i = 3) (h : lb z i ≠ 0) : 18446744073709551616 ≤ z := by
  have e := w4_lb z
  rw [Nat.mod_eq_of_lt hz] at e
  unfold w4 at e
  rcases hi with rfl | rfl | rfl <;> omega

set_option maxRecDepth 100000 in
set_option maxHeartbeats 3200000 in
theorem rcompact_w (t : Wd) (w : World) :
    Calls Try.prog 13 #[.agg (wv t.n)] w fun e w' => e = .returned (.int .u32 (cp t)) ∧ Grew w w' := by
  have Hf : Hid (rcp t.n 30 = cp t) := rcp_cpt t.n 29
  go_enter Try.func13, Try.ntmps13
  go_wp2
  go_loopw [3, 4] (fun v n wr => ∃ (k : Nat) (δ : Junk), k ≤ 30 ∧ n = .int .i64 ((k : Int) + 3) ∧ v = .int .u32 (rcp t.n k) ∧ wr = (w.alloc (.cells (wv t.n) 25)).grow δ) (fun _ n _ => 33 - (intOf n).toNat)
  case atStart => exact ⟨0, ⟨#[], w.drawn⟩, by omega, rfl, rfl, (grow_self _).symm⟩
  case round =>
    obtain ⟨k, δ, hk, rfl, rfl, rfl⟩ := hrel
    by_cases hn : k < 30
    · have hd := t.down_n (8 * k)
      rw [show ((8 * k : Nat) : Int) = 8 * (k : Int) by omega] at hd
      obtain ⟨d, hdw⟩ : ∃ d, t.down (8 * (k : Int)) = d := ⟨_, rfl⟩
      have hcall : ∀ w, Calls Try.prog 27 #[.agg (wv t.n), .int .i64 (8 * (k : Int))] w fun e w' => e = .returned (.agg (wv d.n)) ∧ Grew w w' := fun w => by rw [← hdw]; exact rdown_w t _ w
      rw [hdw] at hd
      have Hcall := Lib.hid hcall
      clear hcall hdw
      have hr : rcp t.n (k + 1) = if 8388608 ≤ d.n then (k + 3) * 16777216 + 8388607 else if 32768 ≤ d.n then (k + 3) * 16777216 + d.n else rcp t.n k := by rw [hd]; rfl
      have Hr := Lib.hid hr
      have dl := d.lt
      have hcase : (¬ lb d.n 1 = 0 ∧ 8388608 ≤ d.n) ∨ (lb d.n 1 = 0 ∧ ¬ lb d.n 2 = 0 ∧ 8388608 ≤ d.n) ∨
          (lb d.n 1 = 0 ∧ lb d.n 2 = 0 ∧ ¬ lb d.n 3 = 0 ∧ 8388608 ≤ d.n) ∨
          (lb d.n 1 = 0 ∧ lb d.n 2 = 0 ∧ lb d.n 3 = 0 ∧ decide (8388607 < (lb d.n 0 : Int)) = true ∧ 8388608 ≤ d.n) ∨
          (lb d.n 1 = 0 ∧ lb d.n 2 = 0 ∧ lb d.n 3 = 0 ∧ decide (8388607 < (lb d.n 0 : Int)) = false ∧ lb d.n 0 < 8388608 ∧ lb d.n 0 = d.n) := by
        by_cases c1 : lb d.n 1 = 0
        · by_cases c2 : lb d.n 2 = 0
          · by_cases c3 : lb d.n 3 = 0
            · have e := lb_small dl c1 c2 c3
              by_cases c0 : 8388608 ≤ lb d.n 0
              · exact .inr (.inr (.inr (.inl ⟨c1, c2, c3, decide_eq_true (by omega), by omega⟩)))
              · exact .inr (.inr (.inr (.inr ⟨c1, c2, c3, decide_eq_false (by omega), by omega, e⟩)))
            · exact .inr (.inr (.inl ⟨c1, c2, c3, by have := lb_big dl 3 (by omega) c3; omega⟩))
          · exact .inr (.inl ⟨c1, c2, by have := lb_big dl 2 (by omega) c2; omega⟩)
        · exact .inl ⟨c1, by have := lb_big dl 1 (by omega) c1; omega⟩
      clear dl hd hr
      have last : ∀ (δ' : Junk) (u : Value), u = .int .u32 (rcp t.n (k + 1)) → (∃ (k' : Nat) (δ'' : Junk), k' ≤ 30 ∧ Value.int .i64 ((k : Int) + 3 + 1) = .int .i64 ((k' : Int) + 3) ∧ u = .int .u32 (rcp t.n k') ∧ (w.alloc (.cells (wv t.n) 25)).grow δ' = (w.alloc (.cells (wv t.n) 25)).grow δ'') :=
        fun δ' u hu => ⟨k + 1, δ', by omega, by rw [show ((k + 1 : Nat) : Int) + 3 = (k : Int) + 3 + 1 by omega], hu, rfl⟩
      have LAST := Lib.hid last
      clear last
      rcases hcase with ⟨c1, hb⟩ | ⟨c1, c2, hb⟩ | ⟨c1, c2, c3, hb⟩ | ⟨c1, c2, c3, c4, hb⟩ | ⟨c1, c2, c3, c4, h0, he⟩
      case inr.inr.inr.inr =>
        have He := Lib.hid he
        clear he
        by_cases c5 : 32768 ≤ lb d.n 0
        · have d5 : decide (32768 ≤ (lb d.n 0 : Int)) = true := decide_eq_true (by omega)
          go_wp2_with (go_at_call 27; refine (Hcall.out _).mono ?_; rintro e w' ⟨rfl, δ, rfl⟩)
          refine ⟨?_, by simp only [intOf]; omega⟩
          rw [grow_alloc']
          exact LAST.out _ _ (by rw [Hr.out, if_neg (by have := He.out; omega), if_pos (by have := He.out; omega)]; congr 1; have := He.out; omega)
        · have d5 : decide (32768 ≤ (lb d.n 0 : Int)) = false := decide_eq_false (by omega)
          go_wp2_with (go_at_call 27; refine (Hcall.out _).mono ?_; rintro e w' ⟨rfl, δ, rfl⟩)
          refine ⟨?_, by simp only [intOf]; omega⟩
          rw [grow_alloc']
          exact LAST.out _ _ (by rw [Hr.out, if_neg (by have := He.out; omega), if_neg (by have := He.out; omega)])
      all_goals
        have HB := Lib.hid hb
        clear hb
        go_wp2_with (go_at_call 27; refine (Hcall.out _).mono ?_; rintro e w' ⟨rfl, δ, rfl⟩)
        refine ⟨?_, by simp only [intOf]; omega⟩
        rw [grow_alloc']
        exact LAST.out _ _ (by rw [Hr.out, if_pos HB.out]; congr 1; omega)
    · obtain rfl : k = 30 := by omega
      rw [Hf.out]
      go_wp2
      go_ret
      exact ⟨rfl, (by repeat (first | with_reducible exact Grew.refl _ | with_reducible apply Grew.alloc | with_reducible apply Grew.grow | with_reducible apply Grew.drew | with_reducible apply Grew.drewN))⟩

set_option maxRecDepth 100000 in
set_option maxHeartbeats 3200000 in
theorem rlevel_i (i : Idb) (t : Wd) (w : World) :
    Calls Try.prog 17 #[.agg (iv i.l), .agg (wv t.n)] w fun e w' => e = .returned (.int .i64 (lv i t)) ∧ Grew w w' := by
  go_enter Try.func17, Try.ntmps17
  go_wp2
  go_loopw [5, 6] (fun v n wr => ∃ (k : Nat) (δ : Junk), k ≤ 32 ∧ n = .int .i64 k ∧ v = .int .i64 ((lev i.w.n t.n k : Int) - 1) ∧ wr = ((w.alloc (.cells (iv i.l) 27)).alloc (.cells (wv t.n) 25)).grow δ) (fun _ n _ => 32 - (intOf n).toNat)
  case atStart => exact ⟨0, ⟨#[], w.drawn⟩, by omega, rfl, rfl, (grow_self _).symm⟩
  case round =>
    obtain ⟨k, δ, hk, rfl, rfl, rfl⟩ := hrel
    by_cases hn : k < 32
    · have hr : lev i.w.n t.n (k + 1) = if i.w.n ≤ t.n >>> k then k + 1 else lev i.w.n t.n k := rfl
      have hc : decide (i.w.cmp (t.down k) ≤ 0) = decide (i.w.n ≤ t.n >>> k) := by rw [Wd.cmp_le, Wd.down_n]
      have Hr := Lib.hid hr
      clear hr
      by_cases hb : i.w.n ≤ t.n >>> k
      · rw [decide_eq_true hb] at hc
        have HB := Lib.hid hb
        clear hb
        go_wp2
        first | refine wp_region_pure_lit_g (by kernel_rfl) (by kernel_rfl) ?_ | refine wp_region_pure_lit (by kernel_rfl) (by kernel_rfl) ?_
        repeat (go_big_quiet_step ((first | (go_at_call 33; exact Calls.pure_of (rof32_i _ _)) | (go_at_call 27; exact Calls.pure_of (rdown_w _ _ _)) | (go_at_call 32; exact Calls.pure_of (rcmp_w _ _ _)))))
        refine wpQuiet_nil ?_
        intro _ hw'
        obtain ⟨δ1, hw''⟩ := hw'
        subst hw''
        go_wp2
        exact ⟨⟨k + 1, _, by omega, by go_num, by rw [Hr.out, if_pos HB.out]; congr 1; omega, rfl⟩, by simp only [intOf]; omega⟩
      · rw [decide_eq_false hb] at hc
        have HB := Lib.hid hb
        clear hb
        go_wp2
        first | refine wp_region_pure_lit_g (by kernel_rfl) (by kernel_rfl) ?_ | refine wp_region_pure_lit (by kernel_rfl) (by kernel_rfl) ?_
        repeat (go_big_quiet_step ((first | (go_at_call 33; exact Calls.pure_of (rof32_i _ _)) | (go_at_call 27; exact Calls.pure_of (rdown_w _ _ _)) | (go_at_call 32; exact Calls.pure_of (rcmp_w _ _ _)))))
        refine wpQuiet_nil ?_
        intro _ hw'
        obtain ⟨δ1, hw''⟩ := hw'
        subst hw''
        go_wp2
        exact ⟨⟨k + 1, _, by omega, by go_num, by rw [Hr.out, if_neg HB.out], rfl⟩, by simp only [intOf]; omega⟩
    · obtain rfl : k = 32 := by omega
      go_wp2
      go_ret
      exact ⟨rfl, (by repeat (first | with_reducible exact Grew.refl _ | with_reducible apply Grew.alloc | with_reducible apply Grew.grow | with_reducible apply Grew.drew | with_reducible apply Grew.drewN))⟩
end Go.Proofs.Ytipofeefalpjgaa
