/- The document's Of, Add, Cmp, half. -/
import Derived.Test.YtcoclcbclbjdaaaRows
import Derived.Test.YtcoclcbclbjdaaaWdMore
namespace Go.Proofs.Ytcoclcbclbjdaaa
set_option linter.unusedVariables false
set_option linter.unusedSimpArgs false
open Go.RowKit

set_option maxHeartbeats 400000 in
theorem rof_any (n : Nat) (h : n < 18446744073709551616) (w : World) :
    Calls Try.prog 28 #[.int .u64 n] w fun e w' => e = .returned (.agg (wv n)) ∧ Grew w w' := by
  have hw := wv_of h
  go_enter Try.func28, Try.ntmps28
  go_wp2
  refine bodyPost_ret (v := .agg (wv n)) ?_ rfl ⟨rfl, (Grew.refl _).alloc _⟩
  simp [results, Try.results28, go_sem]
  exact hw.symm
theorem rof_w (n : Nat) (h : n < 18446744073709551616) (w : World) :
    Calls Try.prog 28 #[.int .u64 n] w fun e w' => e = .returned (.agg (wv (Wd.of n).n)) ∧ Grew w w' := by rw [wv_of']; exact rof_any n h w

/-- Two parts, without what comes in. -/
def s2 (x y i : Nat) : Nat := (lb x i + lb y i) % 18446744073709551616
theorem s2_wrap (x y i : Nat) : IntKind.u64.wrap ((lb x i : Int) + (lb y i : Int)) = ((s2 x y i : Nat) : Int) := by
  rw [IntKind.wrap_u64]; unfold s2; omega
theorem s2_lt (x y i : Nat) : s2 x y i < 18446744073709551616 := Nat.mod_lt _ (by decide)
theorem sms_wrap (x y i : Nat) : IntKind.u64.wrap ((s2 x y i : Int) + (cys x y i : Int)) = ((sms x y i : Nat) : Int) := by
  rw [IntKind.wrap_u64]; unfold s2 sms sm; omega
theorem cys_succ (x y i : Nat) : cys x y (i + 1) = if s2 x y i < lb x i ∨ sms x y i < s2 x y i then 1 else 0 := by
  show cy (lb x i) (lb y i) (cys x y i) = _
  have h1 := lb_lt x i; have h2 := lb_lt y i; have h3 := cys_le x y i
  unfold s2 sms sm cy
  generalize lb x i = a at *; generalize lb y i = b at *; generalize cys x y i = c at *
  split <;> omega
def addF (x y k j : Nat) : Nat := if j < k then sms x y j else 0
def addC (x y k : Nat) : Array Value := #[.int .u64 (addF x y k 0), .int .u64 (addF x y k 1), .int .u64 (addF x y k 2), .int .u64 (addF x y k 3)]
theorem addC_0 (x y : Nat) : addC x y 0 = #[.int .u64 0, .int .u64 0, .int .u64 0, .int .u64 0] := rfl
theorem addC_set (x y k : Nat) (h : k < 4) : (addC x y k).setIfInBounds k (.int .u64 (sms x y k)) = addC x y (k + 1) := by
  rcases four k h with rfl | rfl | rfl | rfl <;> rfl
theorem addC_4 (x y : Nat) (hx : x < B256) (hy : y < B256) : addC x y 4 = wv (x + y) := add_cells x y hx hy
theorem addC_size (x y k : Nat) : (addC x y k).size = 4 := rfl
theorem addC_get (x y k : Nat) (h : k < 4) : (addC x y k)[k]? = some (.int .u64 (addF x y k k)) := by
  rcases four k h with rfl | rfl | rfl | rfl <;> rfl

set_option maxRecDepth 100000 in
set_option maxHeartbeats 1600000 in
theorem radd_any (x y : Nat) (hx : x < B256) (hy : y < B256) (w : World) :
    Calls Try.prog 21 #[.agg (wv x), .agg (wv y)] w fun e w' => e = .returned (.tuple #[.agg (wv (x + y)), .bool (decide (x + y < B256))]) ∧ Grew w w' := by
  have Hc := Lib.hid (addC_4 x y hx hy)
  have Ho := Lib.hid (add_over x y hx hy)
  clear hx hy
  go_enter Try.func21, Try.ntmps21
  go_wp2
  go_loopw [7, 8] (fun v n wr => ∃ (k : Nat) (δ : Junk), k ≤ 4 ∧ n = .int .i64 k ∧ v = .int .u64 (cys x y k) ∧
      wr = ((((w.alloc (.cells (wv x) 24)).alloc (.cells (wv y) 24)).alloc (.cells #[.int .u64 0, .int .u64 0, .int .u64 0, .int .u64 0] 24)).alloc (.cells (addC x y k) 24)).grow δ) (fun _ n _ => 4 - (intOf n).toNat)
  case atStart => exact ⟨0, ⟨#[], w.drawn⟩, by omega, rfl, rfl, by rw [addC_0]; exact (grow_self _).symm⟩
  case round =>
    obtain ⟨k, δ, hk, rfl, rfl, rfl⟩ := hrel
    by_cases hn : k < 4
    · have h1 : (wv x)[k]? = some (.int .u64 (lb x k)) := wv_at x k hn
      have h2 : (wv y)[k]? = some (.int .u64 (lb y k)) := wv_at y k hn
      have h3 := s2_wrap x y k
      have h4 := sms_wrap x y k
      have h5 := addC_set x y k hn
      have h6 := addC_get x y k hn
      have hcy := cys_succ x y k
      have HCY := Lib.hid hcy
      clear hcy
      have hcase : (decide (s2 x y k < lb x k) = true ∧ cys x y (k + 1) = 1) ∨ (decide (s2 x y k < lb x k) = false ∧ decide (sms x y k < s2 x y k) = true ∧ cys x y (k + 1) = 1) ∨ (decide (s2 x y k < lb x k) = false ∧ decide (sms x y k < s2 x y k) = false ∧ cys x y (k + 1) = 0) := by
        rw [HCY.out]
        by_cases a : s2 x y k < lb x k
        · exact .inl ⟨by simpa using a, by simp [a]⟩
        · by_cases b : sms x y k < s2 x y k
          · exact .inr (.inl ⟨by simpa using a, by simpa using b, by simp [b]⟩)
          · exact .inr (.inr ⟨by simpa using a, by simpa using b, by simp [a, b]⟩)
      clear HCY
      rcases hcase with ⟨a1, a2⟩ | ⟨a1, b1, a2⟩ | ⟨a1, b1, a2⟩
      all_goals
        have A2 := Lib.hid a2
        clear a2
        go_wp2
        first | refine wp_region_pure_lit_g (by kernel_rfl) (by kernel_rfl) ?_ | refine wp_region_pure_lit (by kernel_rfl) (by kernel_rfl) ?_
        repeat (go_big_quiet_step ((fail)))
        refine wpQuiet_nil ?_
        intro _ hw'
        obtain ⟨δ1, hw''⟩ := hw'
        subst hw''
        go_wp2
        exact ⟨⟨k + 1, _, by omega, by go_num, by rw [A2.out]; rfl, rfl⟩, by simp only [intOf]; omega⟩
    · obtain rfl : k = 4 := by omega
      rw [Hc.out]
      go_wp2
      refine bodyPost_ret (v := .tuple #[.agg (wv (x + y)), .bool (decide (x + y < B256))]) ?_ rfl ⟨rfl, (by repeat (first | with_reducible exact Grew.refl _ | with_reducible apply Grew.alloc | with_reducible apply Grew.grow | with_reducible apply Grew.drew | with_reducible apply Grew.drewN))⟩
      simp [results, Try.results21, go_sem]
      rw [Bool.eq_iff_iff, beq_iff_eq, decide_eq_true_eq]
      exact Ho.out
theorem radd_w (a b : Wd) (w : World) :
    Calls Try.prog 21 #[.agg (wv a.n), .agg (wv b.n)] w fun e w' => e = .returned (.tuple #[.agg (wv (a.add b).n), .bool (a.addOk b)]) ∧ Grew w w' := by
  unfold Wd.add; rw [wv_of']; exact radd_any _ _ a.lt b.lt w

theorem cmp_at (x y j : Nat) (hx : x < B256) (hy : y < B256) (hj : j < 4) (h : ∀ i, j < i → i < 4 → lb x i = lb y i) : (lb x j < lb y j → x < y) ∧ (lb y j < lb x j → y < x) := by
  have ex := w4_lb x
  have ey := w4_lb y
  rw [Nat.mod_eq_of_lt hx] at ex
  rw [Nat.mod_eq_of_lt hy] at ey
  clear hx hy
  have := lb_lt x 0; have := lb_lt x 1; have := lb_lt x 2; have := lb_lt x 3
  have := lb_lt y 0; have := lb_lt y 1; have := lb_lt y 2; have := lb_lt y 3
  have h1 := h 1; have h2 := h 2; have h3 := h 3
  unfold w4 at ex ey
  clear h
  rcases four j hj with rfl | rfl | rfl | rfl
  all_goals
    generalize lb x 0 = x0 at *; generalize lb x 1 = x1 at *; generalize lb x 2 = x2 at *; generalize lb x 3 = x3 at *
    generalize lb y 0 = y0 at *; generalize lb y 1 = y1 at *; generalize lb y 2 = y2 at *; generalize lb y 3 = y3 at *
    constructor <;> intro hlt
    all_goals
      try have e1 := h1 (by omega) (by omega)
      try have e2 := h2 (by omega) (by omega)
      try have e3 := h3 (by omega) (by omega)
      clear h1 h2 h3
      omega
theorem cmp_none (x y : Nat) (hx : x < B256) (hy : y < B256) (h : ∀ i, i < 4 → lb x i = lb y i) : x = y := by
  have := lb_inj (h 0 (by omega)) (h 1 (by omega)) (h 2 (by omega)) (h 3 (by omega))
  rwa [Nat.mod_eq_of_lt hx, Nat.mod_eq_of_lt hy] at this

set_option maxRecDepth 100000 in
set_option maxHeartbeats 1600000 in
theorem rcmp_any (x y : Nat) (hx : x < B256) (hy : y < B256) (w : World) :
    Calls Try.prog 27 #[.agg (wv x), .agg (wv y)] w fun e w' => e = .returned (.int .i64 (cmpN x y)) ∧ Grew w w' := by
  have H1 := Lib.hid (fun j hj h => cmp_at x y j hx hy hj h)
  have H2 := Lib.hid (cmp_none x y hx hy)
  clear hx hy
  go_enter Try.func27, Try.ntmps27
  go_wp2
  go_loopw [5] (fun n wr => ∃ (k : Nat) (δ : Junk), k ≤ 4 ∧ n = .int .i64 ((k : Int) - 1) ∧ (∀ i, k ≤ i → i < 4 → lb x i = lb y i) ∧
      wr = ((w.alloc (.cells (wv x) 24)).alloc (.cells (wv y) 24)).grow δ) (fun n _ => (intOf n + 1).toNat)
  case atStart => exact ⟨4, ⟨#[], w.drawn⟩, by omega, rfl, fun i h1 h2 => by omega, (grow_self _).symm⟩
  case round =>
    obtain ⟨k, δ, hk, rfl, hall, rfl⟩ := hrel
    cases k with
    | zero =>
      have hxy : x = y := H2.out fun i hi => hall i (by omega) hi
      subst hxy
      clear hall
      go_wp2
      go_ret
      exact ⟨congrArg (fun n : Int => Ending.returned (.int .i64 n)) (cmpN_eq rfl).symm, (by repeat (first | with_reducible exact Grew.refl _ | with_reducible apply Grew.alloc | with_reducible apply Grew.grow | with_reducible apply Grew.drew | with_reducible apply Grew.drewN))⟩
    | succ k =>
      have e0 : ((k + 1 : Nat) : Int) - 1 = (k : Int) := by omega
      rw [e0]
      have hn : k < 4 := by omega
      have h1 : (wv x)[k]? = some (.int .u64 (lb x k)) := wv_at x k hn
      have h2 : (wv y)[k]? = some (.int .u64 (lb y k)) := wv_at y k hn
      have hk1 := H1.out k hn fun i hi hi2 => hall i (by omega) hi2
      have HA := Lib.hid hall
      have HK := Lib.hid hk1
      clear hall hk1 e0
      have hcase : (decide (lb x k < lb y k) = true ∧ x < y) ∨ (decide (lb x k < lb y k) = false ∧ decide (lb y k < lb x k) = true ∧ y < x) ∨ (decide (lb x k < lb y k) = false ∧ decide (lb y k < lb x k) = false ∧ lb x k = lb y k) := by
        rcases Nat.lt_trichotomy (lb x k) (lb y k) with h | h | h
        · exact .inl ⟨by simpa using h, HK.out.1 h⟩
        · exact .inr (.inr ⟨by simp; omega, by simp; omega, h⟩)
        · exact .inr (.inl ⟨by simp; omega, by simpa using h, HK.out.2 h⟩)
      rcases hcase with ⟨a1, a2⟩ | ⟨a1, b1, a2⟩ | ⟨a1, b1, a2⟩
      · go_wp2
        first | refine wp_region_pure_lit_g (by kernel_rfl) (by kernel_rfl) ?_ | refine wp_region_pure_lit (by kernel_rfl) (by kernel_rfl) ?_
        repeat (go_big_quiet_step ((fail)))
        refine wpQuiet_nil ?_
        intro _ hw'
        obtain ⟨δ1, hw''⟩ := hw'
        subst hw''
        go_wp2
        go_ret
        exact ⟨congrArg (fun n : Int => Ending.returned (.int .i64 n)) (cmpN_lt a2).symm, (by repeat (first | with_reducible exact Grew.refl _ | with_reducible apply Grew.alloc | with_reducible apply Grew.grow | with_reducible apply Grew.drew | with_reducible apply Grew.drewN))⟩
      · go_wp2
        first | refine wp_region_pure_lit_g (by kernel_rfl) (by kernel_rfl) ?_ | refine wp_region_pure_lit (by kernel_rfl) (by kernel_rfl) ?_
        repeat (go_big_quiet_step ((fail)))
        refine wpQuiet_nil ?_
        intro _ hw'
        obtain ⟨δ1, hw''⟩ := hw'
        subst hw''
        go_wp2
        first | refine wp_region_pure_lit_g (by kernel_rfl) (by kernel_rfl) ?_ | refine wp_region_pure_lit (by kernel_rfl) (by kernel_rfl) ?_
        repeat (go_big_quiet_step ((fail)))
        refine wpQuiet_nil ?_
        intro _ hw'
        obtain ⟨δ1, hw''⟩ := hw'
        subst hw''
        go_wp2
        go_ret
        exact ⟨congrArg (fun n : Int => Ending.returned (.int .i64 n)) (cmpN_gt a2).symm, (by repeat (first | with_reducible exact Grew.refl _ | with_reducible apply Grew.alloc | with_reducible apply Grew.grow | with_reducible apply Grew.drew | with_reducible apply Grew.drewN))⟩
      · have A2 := Lib.hid a2
        clear a2
        go_wp2
        first | refine wp_region_pure_lit_g (by kernel_rfl) (by kernel_rfl) ?_ | refine wp_region_pure_lit (by kernel_rfl) (by kernel_rfl) ?_
        repeat (go_big_quiet_step ((fail)))
        refine wpQuiet_nil ?_
        intro _ hw'
        obtain ⟨δ1, hw''⟩ := hw'
        subst hw''
        go_wp2
        first | refine wp_region_pure_lit_g (by kernel_rfl) (by kernel_rfl) ?_ | refine wp_region_pure_lit (by kernel_rfl) (by kernel_rfl) ?_
        repeat (go_big_quiet_step ((fail)))
        refine wpQuiet_nil ?_
        intro _ hw'
        obtain ⟨δ1, hw''⟩ := hw'
        subst hw''
        go_wp2
        exact ⟨⟨k, _, by omega, rfl, fun i h1 h2 => by
          by_cases hi : i = k
          · subst hi; exact A2.out
          · exact HA.out i (by omega) h2, rfl⟩, by simp only [intOf]; omega⟩
theorem rcmp_w (a b : Wd) (w : World) :
    Calls Try.prog 27 #[.agg (wv a.n), .agg (wv b.n)] w fun e w' => e = .returned (.int .i64 (a.cmp b)) ∧ Grew w w' := rcmp_any _ _ a.lt b.lt w

/-- What comes down into the part below. -/
def hg (x i : Nat) : Nat := lb x i % 2 * 9223372036854775808
def hl (x i : Nat) : Nat := lb x i / 2 + hg x (i + 1)
theorem hg_eq (x i : Nat) : (lb x i : Int) % 2 * 9223372036854775808 = ((hg x i : Nat) : Int) := by unfold hg; omega
theorem half_parts (x : Nat) (hx : x < B256) : #[Value.int .u64 (hl x 0), .int .u64 (hl x 1), .int .u64 (hl x 2), .int .u64 (lb x 3 / 2 : Nat)] = wv (x >>> 1) := by
  have ex := w4_lb x
  rw [Nat.mod_eq_of_lt hx] at ex
  have := lb_lt x 0; have := lb_lt x 1; have := lb_lt x 2; have := lb_lt x 3
  rw [wv_w4 (by unfold hl hg; omega) (by unfold hl hg; omega) (by unfold hl hg; omega) (by omega)]
  congr 1
  rw [Nat.shiftRight_eq_div_pow]
  unfold hl hg
  unfold w4 at *
  simp only [Nat.zero_add, Nat.reduceAdd]
  omega
theorem hl_eq (x i : Nat) (hi : i < 3) : (lb x i : Int) / 2 + (hg x (i + 1) : Int) = ((hl x i : Nat) : Int) := by unfold hl; omega
theorem hl_lt (x i : Nat) : hl x i < 18446744073709551616 := by
  have := lb_lt x i; unfold hl hg; omega

set_option maxRecDepth 100000 in
set_option maxHeartbeats 1600000 in
theorem half_any (x : Nat) (hx : x < B256) (w : World) :
    Calls Try.prog 36 #[.agg (wv x)] w fun e w' => e = .returned (.agg (wv (x >>> 1))) ∧ Grew w w' := by
  have Hc := Lib.hid (half_parts x hx)
  clear hx
  have b0 := lb_lt x 0
  have b1 := lb_lt x 1
  have b2 := lb_lt x 2
  have b3 := lb_lt x 3
  go_enter Try.func36, Try.ntmps36
  go_wp2
  refine wp_loop_rounds 5 ?_
  iterate 4
    rw [rounds_succ]
    go_wp2
  rw [rounds_succ]
  go_wp2
  refine bodyPost_ret (v := .agg (wv (x >>> 1))) ?_ rfl ⟨rfl, (by repeat (first | with_reducible exact Grew.refl _ | with_reducible apply Grew.alloc | with_reducible apply Grew.grow | with_reducible apply Grew.drew | with_reducible apply Grew.drewN))⟩
  simp [results, Try.results36, go_sem]
  have e0 := hl_eq x 0 (by omega)
  have e1 := hl_eq x 1 (by omega)
  have e2 := hl_eq x 2 (by omega)
  rw [← hg_eq] at e0 e1 e2
  rw [e0, e1, e2, ← Hc.out]
  rfl
theorem half_w (a : Wd) (w : World) :
    Calls Try.prog 36 #[.agg (wv a.n)] w fun e w' => e = .returned (.agg (wv (a.down 1).n)) ∧ Grew w w' := by
  rw [show (1 : Int) = ((1 : Nat) : Int) from rfl, Wd.down_n]; exact half_any _ a.lt w
end Go.Proofs.Ytcoclcbclbjdaaa
