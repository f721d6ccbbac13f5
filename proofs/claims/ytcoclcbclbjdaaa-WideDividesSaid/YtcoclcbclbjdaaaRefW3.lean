/- The document's Div. -/
import Derived.Test.YtcoclcbclbjdaaaRows
import Derived.Test.YtcoclcbclbjdaaaRefW2
namespace Go.Proofs.Ytcoclcbclbjdaaa
set_option linter.unusedVariables false
set_option linter.unusedSimpArgs false
open Go.RowKit

def incP (z : Nat) : Nat := lb z 0 + 1
noncomputable def Wd.inc (z : Wd) : Wd := .of (z.n + 1)
theorem Wd.inc_n {z : Wd} (h : z.n % 2 = 0) : z.inc.n = z.n + 1 := by
  unfold Wd.inc; rw [Wd.of_n]
  have := z.lt
  apply Nat.mod_eq_of_lt
  unfold B256 at *; omega
theorem inc_wrap {z : Wd} (h : z.n % 2 = 0) : IntKind.u64.wrap ((lb z.n 0 : Int) + 1) = ((incP z.n : Nat) : Int) := by
  have h1 := lb_lt z.n 0
  have h2 : lb z.n 0 % 2 = 0 := by rw [lb0]; omega
  rw [IntKind.wrap_u64]; unfold incP; omega
theorem inc_cells {z : Wd} (h : z.n % 2 = 0) : #[Value.int .u64 (incP z.n), Value.int .u64 (lb z.n 1), Value.int .u64 (lb z.n 2), Value.int .u64 (lb z.n 3)] = wv z.inc.n := by
  have h1 := lb_lt z.n 0; have h2 : lb z.n 0 % 2 = 0 := by rw [lb0]; omega
  have e := w4_lb z.n
  rw [Nat.mod_eq_of_lt z.lt] at e
  rw [Wd.inc_n h, wv_w4 (by unfold incP; omega) (lb_lt _ _) (lb_lt _ _) (lb_lt _ _)]
  congr 1
  unfold incP
  unfold w4 at *
  omega
theorem twice_even (z : Wd) : (z.add z).n % 2 = 0 := by
  rw [Wd.add_n]; have := z.lt; unfold B256 at *; omega

/-- The next bit from above. -/
def bitN (x k : Nat) : Nat := if 57896044618658097711785492504343953926634992332820282019728792003956564819968 ≤ (x <<< k) % B256 then 1 else 0
theorem shr_bit (x k : Nat) (hk : k < 256) : x >>> (256 - (k + 1)) = 2 * (x >>> (256 - k)) + bitN x k := by
  have e1 : x >>> (256 - k) = (x >>> (256 - (k + 1))) / 2 := by
    rw [show 256 - k = (256 - (k + 1)) + 1 by omega, Nat.shiftRight_add, Nat.shiftRight_eq_div_pow (x >>> (256 - (k + 1)))]
  have e2 : bitN x k = x >>> (256 - (k + 1)) % 2 := by
    have h1 : ((x <<< k) % B256).testBit 255 = x.testBit (256 - (k + 1)) := by
      rw [b256_pow, Nat.testBit_mod_two_pow, Nat.testBit_shiftLeft]
      simp
      have : k ≤ 255 := by omega
      simp [this]
    have h2 : ∀ z, z < B256 → z.testBit 255 = decide (57896044618658097711785492504343953926634992332820282019728792003956564819968 ≤ z) := fun z hz => by
      rw [Nat.testBit_eq_decide_div_mod_eq, show (2 : Nat) ^ 255 = 57896044618658097711785492504343953926634992332820282019728792003956564819968 by decide +kernel, Bool.eq_iff_iff, decide_eq_true_eq, decide_eq_true_eq]
      unfold B256 at hz
      omega
    have h3 := h2 _ (Nat.mod_lt (x <<< k) b256_pos)
    rw [h1, Nat.testBit_eq_decide_div_mod_eq, ← Nat.shiftRight_eq_div_pow] at h3
    unfold bitN
    by_cases hc : 57896044618658097711785492504343953926634992332820282019728792003956564819968 ≤ (x <<< k) % B256
    · rw [if_pos hc]
      rw [decide_eq_true hc, decide_eq_true_eq] at h3
      exact h3.symm
    · rw [if_neg hc]
      rw [decide_eq_false hc, decide_eq_false_iff_not] at h3
      omega
  rw [e1, e2]; omega
theorem bit_test (x k : Nat) : decide ((9223372036854775808 : Int) ≤ (lb ((x <<< k) % B256) 3 : Int)) = decide (bitN x k = 1) := by
  have hz := Nat.mod_lt (x <<< k) b256_pos
  unfold bitN
  generalize (x <<< k) % B256 = z at *
  rw [Bool.eq_iff_iff, decide_eq_true_eq, decide_eq_true_eq, lb3]
  unfold B256 at hz
  split <;> omega
theorem bit_le (x k : Nat) : bitN x k = 0 ∨ bitN x k = 1 := by unfold bitN; split <;> simp

/-- One round: what becomes of how often, and of what is left. -/
theorem div_round {x y k : Nat} {Q L : Wd} (hx : x < B256) (hy : y < B256) (hL : L.n < y) (hq : x >>> (256 - k) = Q.n * y + L.n) (hk : k < 256) (X : Wd) (hX : X.n = (L.add L).n + bitN x k) :
    (L.addOk L = false ∨ y ≤ X.n → ∀ b : Wd, b.n = y → (X.sub b).n < y ∧ (Q.add Q).inc.n * y + (X.sub b).n = x >>> (256 - (k + 1))) ∧
    (L.addOk L = true → ¬ y ≤ X.n → X.n < y ∧ (Q.add Q).n * y + X.n = x >>> (256 - (k + 1))) := by
  have hs := shr_bit x k hk
  have hb := bit_le x k
  have hle : x >>> (256 - (k + 1)) ≤ x := Nat.shiftRight_le _ _
  have hQ2 : (Q.n + Q.n) * y ≤ x := by
    rw [Nat.add_mul]; omega
  have hQ : Q.n + Q.n ≤ x := Nat.le_trans (Nat.le_mul_of_pos_right _ (by omega)) hQ2
  have eQ : (Q.add Q).n = Q.n + Q.n := by rw [Wd.add_n]; exact Nat.mod_eq_of_lt (by omega)
  have eQi : (Q.add Q).inc.n = Q.n + Q.n + 1 := by rw [Wd.inc_n (by rw [eQ]; omega), eQ]
  have hLL : (L.add L).n = (L.n + L.n) % B256 := Wd.add_n L L
  have e1 : (Q.n + Q.n) * y = 2 * (Q.n * y) := by rw [← Nat.two_mul, Nat.mul_assoc]
  generalize bitN x k = bt at *
  generalize x >>> (256 - (k + 1)) = s at *
  refine ⟨fun hc b hby => ?_, fun h1 h2 => ?_⟩
  · rw [eQi, Wd.sub_n, hby, hX, hLL, Nat.add_mul (Q.n + Q.n) 1 y, Nat.one_mul, e1]
    unfold Wd.addOk at hc
    simp only [decide_eq_false_iff_not] at hc
    rw [hX, hLL] at hc
    have hb0 : (B256 : Nat) = 2 * 57896044618658097711785492504343953926634992332820282019728792003956564819968 := by unfold B256; omega
    generalize B256 = B at *
    by_cases hsm : L.n + L.n < B
    · rw [Nat.mod_eq_of_lt hsm] at hc ⊢
      have hc2 : y ≤ L.n + L.n + bt := by omega
      have e2 : L.n + L.n + bt + B - y = (L.n + L.n + bt - y) + B := by omega
      rw [e2, Nat.add_mod_right, Nat.mod_eq_of_lt (by omega)]
      omega
    · have e3 : (L.n + L.n) % B = L.n + L.n - B := by
        rw [Nat.mod_eq_sub_mod (by omega), Nat.mod_eq_of_lt (by have := L.lt; omega)]
      rw [e3]
      have e2 : L.n + L.n - B + bt + B - y = L.n + L.n + bt - y := by omega
      rw [e2, Nat.mod_eq_of_lt (by omega)]
      omega
  · unfold Wd.addOk at h1
    have hsm : L.n + L.n < B256 := by simpa using h1
    rw [hX, hLL, Nat.mod_eq_of_lt hsm] at h2 ⊢
    rw [eQ, e1]
    omega

set_option maxRecDepth 100000 in
set_option maxHeartbeats 6400000 in
theorem rdiv_some (a b : Wd) (hb : b.n ≠ 0) (w : World) :
    Calls Try.prog 12 #[.agg (wv a.n), .agg (wv b.n)] w fun e w' => e = .returned (.tuple #[.agg (wv (a.div b).n), .agg (wv (a.rem b).n), .bool true]) ∧ Grew w w' := by
  have h0 : weq b.n 0 = false := Wd.ne_zero hb
  have Hb := Lib.hid hb
  have hup0 := Lib.hid (Wd.up_0 a)
  clear hb
  go_enter Try.func12, Try.ntmps12
  go_wp2
  go_loopw [9] (fun v wr => ∃ (k : Nat) (Q L : Wd) (δ : Junk), k ≤ 256 ∧ v = .int .i64 k ∧ L.n < b.n ∧ a.n >>> (256 - k) = Q.n * b.n + L.n ∧
      wr = ((((((w.alloc (.cells (wv (a.up k).n) 24)).alloc (.cells (wv b.n) 24)).alloc (.cells #[.int .u64 0, .int .u64 0, .int .u64 0, .int .u64 0] 24)).alloc (.cells #[.int .u64 0, .int .u64 0, .int .u64 0, .int .u64 0] 24)).alloc (.cells (wv Q.n) 24)).alloc (.cells (wv L.n) 24)).grow δ) (fun v _ => 256 - (intOf v).toNat)
  case atStart =>
    have h1 : a.n >>> (256 - 0) = 0 := down_big _ _ a.lt (by omega)
    exact ⟨0, Wd.zero, Wd.zero, ⟨#[], w.drawn⟩, by omega, rfl, by have := Hb.out; show 0 < b.n; omega, by rw [h1]; show 0 = 0 * b.n + 0; omega, by rw [show (((0 : Nat) : Int)) = 0 from rfl, hup0.out]; exact (grow_self _).symm⟩
  case round =>
    obtain ⟨k, Q, L, δ, hk, rfl, hL, hq, rfl⟩ := hrel
    by_cases hn : k < 256
    · have hs := Wd.up_succ a k
      have hbit : decide ((9223372036854775808 : Int) ≤ (lb (a.up k).n 3 : Int)) = decide (bitN a.n k = 1) := by rw [Wd.up_n]; exact bit_test a.n k
      have ev := twice_even L
      have hi1 := inc_wrap ev
      have hi2 := inc_cells ev
      have evQ := twice_even Q
      have hj1 := inc_wrap evQ
      have hj2 := inc_cells evQ
      have hin := Wd.inc_n ev
      have HR := Lib.hid (fun X hX => div_round (X := X) a.lt b.lt hL hq hn hX)
      have Hin := Lib.hid hin
      have hcase : bitN a.n k = 1 ∨ bitN a.n k = 0 := (bit_le a.n k).symm
      have HL := Lib.hid hL
      have HQ := Lib.hid hq
      clear ev evQ hin hL hq
      rcases hcase with hbt | hbt
      · have hb1 : decide (bitN a.n k = 1) = true := decide_eq_true hbt
        have HR' := Lib.hid (HR.out (L.add L).inc (by rw [hbt]; exact Hin.out))
        have hcg : decide (0 ≤ (L.add L).inc.cmp b) = (L.add L).inc.subOk b := Wd.cmp_ge _ _
        have hc : L.addOk L = false ∨ (L.addOk L = true ∧ decide (0 ≤ (L.add L).inc.cmp b) = true ∧ b.n ≤ (L.add L).inc.n) ∨ (L.addOk L = true ∧ decide (0 ≤ (L.add L).inc.cmp b) = false ∧ ¬ b.n ≤ (L.add L).inc.n) := by
          rw [hcg]
          unfold Wd.subOk
          by_cases hx : b.n ≤ (L.add L).inc.n <;> cases L.addOk L <;> simp [hx]
        rw [hb1] at hbit
        clear HR hbt hb1 hcg
        rcases hc with c1 | ⟨c1, c2, c3⟩ | ⟨c1, c2, c3⟩
        · have HO := Lib.hid (HR'.out.1 (.inl c1) b rfl)
          clear HR'
          go_wp2_with (first
            | (go_at_call 21; refine (radd_w _ _ _).mono ?_; rintro e w' ⟨rfl, δ, rfl⟩)
            | (go_at_call 27; refine (rcmp_w _ _ _).mono ?_; rintro e w' ⟨rfl, δ, rfl⟩)
            | (go_at_call 22; refine (rsub_w _ _ _).mono ?_; rintro e w' ⟨rfl, δ, rfl⟩))
          exact ⟨⟨k + 1, (Q.add Q).inc, ((L.add L).inc.sub b), _, by omega, by go_num, HO.out.1, HO.out.2.symm, by rw [show ((k + 1 : Nat) : Int) = (k : Int) + 1 by omega]; exact grow_alloc_grow _ _ _ _⟩, by simp only [intOf]; omega⟩
        · have HO := Lib.hid (HR'.out.1 (.inr c3) b rfl)
          clear HR' c3
          go_wp2_with (first
            | (go_at_call 21; refine (radd_w _ _ _).mono ?_; rintro e w' ⟨rfl, δ, rfl⟩)
            | (go_at_call 27; refine (rcmp_w _ _ _).mono ?_; rintro e w' ⟨rfl, δ, rfl⟩)
            | (go_at_call 22; refine (rsub_w _ _ _).mono ?_; rintro e w' ⟨rfl, δ, rfl⟩))
          exact ⟨⟨k + 1, (Q.add Q).inc, ((L.add L).inc.sub b), _, by omega, by go_num, HO.out.1, HO.out.2.symm, by rw [show ((k + 1 : Nat) : Int) = (k : Int) + 1 by omega]; exact grow_alloc_grow _ _ _ _⟩, by simp only [intOf]; omega⟩
        · have HO := Lib.hid (HR'.out.2 c1 c3)
          clear HR' c3
          go_wp2_with (first
            | (go_at_call 21; refine (radd_w _ _ _).mono ?_; rintro e w' ⟨rfl, δ, rfl⟩)
            | (go_at_call 27; refine (rcmp_w _ _ _).mono ?_; rintro e w' ⟨rfl, δ, rfl⟩)
            | (go_at_call 22; refine (rsub_w _ _ _).mono ?_; rintro e w' ⟨rfl, δ, rfl⟩))
          exact ⟨⟨k + 1, (Q.add Q), (L.add L).inc, _, by omega, by go_num, HO.out.1, HO.out.2.symm, by rw [show ((k + 1 : Nat) : Int) = (k : Int) + 1 by omega]; exact grow_alloc_grow _ _ _ _⟩, by simp only [intOf]; omega⟩
      · have hb1 : decide (bitN a.n k = 1) = false := decide_eq_false (by omega)
        have HR' := Lib.hid (HR.out (L.add L) (by rw [hbt]; exact rfl))
        have hcg : decide (0 ≤ (L.add L).cmp b) = (L.add L).subOk b := Wd.cmp_ge _ _
        have hc : L.addOk L = false ∨ (L.addOk L = true ∧ decide (0 ≤ (L.add L).cmp b) = true ∧ b.n ≤ (L.add L).n) ∨ (L.addOk L = true ∧ decide (0 ≤ (L.add L).cmp b) = false ∧ ¬ b.n ≤ (L.add L).n) := by
          rw [hcg]
          unfold Wd.subOk
          by_cases hx : b.n ≤ (L.add L).n <;> cases L.addOk L <;> simp [hx]
        rw [hb1] at hbit
        clear HR hbt hb1 hcg
        rcases hc with c1 | ⟨c1, c2, c3⟩ | ⟨c1, c2, c3⟩
        · have HO := Lib.hid (HR'.out.1 (.inl c1) b rfl)
          clear HR'
          go_wp2_with (first
            | (go_at_call 21; refine (radd_w _ _ _).mono ?_; rintro e w' ⟨rfl, δ, rfl⟩)
            | (go_at_call 27; refine (rcmp_w _ _ _).mono ?_; rintro e w' ⟨rfl, δ, rfl⟩)
            | (go_at_call 22; refine (rsub_w _ _ _).mono ?_; rintro e w' ⟨rfl, δ, rfl⟩))
          exact ⟨⟨k + 1, (Q.add Q).inc, ((L.add L).sub b), _, by omega, by go_num, HO.out.1, HO.out.2.symm, by rw [show ((k + 1 : Nat) : Int) = (k : Int) + 1 by omega]; exact grow_alloc_grow _ _ _ _⟩, by simp only [intOf]; omega⟩
        · have HO := Lib.hid (HR'.out.1 (.inr c3) b rfl)
          clear HR' c3
          go_wp2_with (first
            | (go_at_call 21; refine (radd_w _ _ _).mono ?_; rintro e w' ⟨rfl, δ, rfl⟩)
            | (go_at_call 27; refine (rcmp_w _ _ _).mono ?_; rintro e w' ⟨rfl, δ, rfl⟩)
            | (go_at_call 22; refine (rsub_w _ _ _).mono ?_; rintro e w' ⟨rfl, δ, rfl⟩))
          exact ⟨⟨k + 1, (Q.add Q).inc, ((L.add L).sub b), _, by omega, by go_num, HO.out.1, HO.out.2.symm, by rw [show ((k + 1 : Nat) : Int) = (k : Int) + 1 by omega]; exact grow_alloc_grow _ _ _ _⟩, by simp only [intOf]; omega⟩
        · have HO := Lib.hid (HR'.out.2 c1 c3)
          clear HR' c3
          go_wp2_with (first
            | (go_at_call 21; refine (radd_w _ _ _).mono ?_; rintro e w' ⟨rfl, δ, rfl⟩)
            | (go_at_call 27; refine (rcmp_w _ _ _).mono ?_; rintro e w' ⟨rfl, δ, rfl⟩)
            | (go_at_call 22; refine (rsub_w _ _ _).mono ?_; rintro e w' ⟨rfl, δ, rfl⟩))
          exact ⟨⟨k + 1, (Q.add Q), (L.add L), _, by omega, by go_num, HO.out.1, HO.out.2.symm, by rw [show ((k + 1 : Nat) : Int) = (k : Int) + 1 by omega]; exact grow_alloc_grow _ _ _ _⟩, by simp only [intOf]; omega⟩
    · obtain rfl : k = 256 := by omega
      have HF : Hid (Q.n = (a.div b).n ∧ L.n = (a.rem b).n) := by
        refine (?_ : _ ∧ _)
        rw [Nat.sub_self, Nat.shiftRight_zero] at hq
        rw [Wd.div_n, Wd.rem_n _ _ Hb.out]
        exact div_end a.n b.n Q.n L.n hq hL
      clear hq hL
      go_wp2
      go_region
      all_goals
        go_wp2
        refine bodyPost_ret (v := .tuple #[.agg (wv (a.div b).n), .agg (wv (a.rem b).n), .bool true]) ?_ rfl ⟨rfl, (by repeat (first | with_reducible exact Grew.refl _ | with_reducible apply Grew.alloc | with_reducible apply Grew.grow | with_reducible apply Grew.drew | with_reducible apply Grew.drewN))⟩
        simp [results, Try.results12, go_sem]
        exact ⟨by rw [HF.out.1], by rw [HF.out.2]⟩
set_option maxRecDepth 100000 in
set_option maxHeartbeats 1600000 in
theorem rdiv_nil (a : Wd) (w : World) :
    Calls Try.prog 12 #[.agg (wv a.n), .agg (wv 0)] w fun e w' => e = .returned (.tuple #[.agg (wv 0), .agg (wv 0), .bool false]) ∧ Grew w w' := by
  have h0 : weq 0 0 = true := rfl
  go_enter Try.func12, Try.ntmps12
  go_wp2
  refine bodyPost_ret (v := .tuple #[.agg (wv 0), .agg (wv 0), .bool false]) ?_ rfl ⟨rfl, (by repeat (first | with_reducible exact Grew.refl _ | with_reducible apply Grew.alloc | with_reducible apply Grew.grow | with_reducible apply Grew.drew | with_reducible apply Grew.drewN))⟩
  simp [results, Try.results12, go_sem]
  rfl
theorem rdiv_w (a b : Wd) (w : World) :
    Calls Try.prog 12 #[.agg (wv a.n), .agg (wv b.n)] w fun e w' => e = .returned (.tuple #[.agg (wv (a.div b).n), .agg (wv (a.rem b).n), .bool (a.divOk b)]) ∧ Grew w w' := by
  by_cases h : b.n = 0
  · unfold Wd.div Wd.rem Wd.divOk
    rw [if_pos h, wv_of', h, Nat.div_zero]; exact rdiv_nil _ w
  · have : a.divOk b = true := by unfold Wd.divOk; simpa using h
    rw [this]; exact rdiv_some a b h w
end Go.Proofs.Ytcoclcbclbjdaaa
