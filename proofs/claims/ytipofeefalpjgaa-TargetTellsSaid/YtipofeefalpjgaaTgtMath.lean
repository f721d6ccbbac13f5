/- Compact numbers: what they stand for. -/
import Derived.Test.YtipofeefalpjgaaRows
import Derived.Test.YtipofeefalpjgaaTgt1
import Derived.Test.YtipofeefalpjgaaTgt3
import Derived.Test.YtipofeefalpjgaaTgt4
namespace Go.Proofs.Ytipofeefalpjgaa
set_option linter.unusedVariables false
set_option linter.unusedSimpArgs false
open Go.RowKit

theorem shr_step (x k : Nat) : x >>> (8 * (k + 1)) = x >>> (8 * k) / 256 := by
  rw [show 8 * (k + 1) = 8 * k + 8 by omega, Nat.shiftRight_add, Nat.shiftRight_eq_div_pow (x >>> (8 * k)) 8]
theorem cpt_spec (x : Nat) : ∀ k, x >>> (8 * k) < 8388608 →
    (x < 32768 ∧ cpt x k = 0) ∨ ∃ j, j ≤ k ∧ 32768 ≤ x >>> (8 * j) ∧ x >>> (8 * j) < 8388608 ∧ cpt x k = em (j + 3) (x >>> (8 * j))
  | k, h => by
    by_cases h2 : 32768 ≤ x >>> (8 * k)
    · exact .inr ⟨k, Nat.le_refl _, h2, h, by rw [cpt_b x k (by omega) h2]; rfl⟩
    · have hc := cpt_c x k (by omega) h2
      cases k with
      | zero =>
        rw [if_pos rfl] at hc
        rw [Nat.mul_zero, Nat.shiftRight_zero] at h2
        exact .inl ⟨by omega, hc⟩
      | succ k =>
        rw [if_neg (by omega), Nat.add_sub_cancel] at hc
        rw [shr_step] at h2
        rcases cpt_spec x k (by omega) with ⟨a, b⟩ | ⟨j, a, b, c, d⟩
        · exact .inl ⟨a, by rw [hc, b]⟩
        · exact .inr ⟨j, by omega, b, c, by rw [hc, d]⟩
noncomputable def cp (t : Wd) : Nat := cpt t.n 29
/-- The three cases of a compact number. -/
theorem cp_cases (t : Wd) : (t.n < 32768 ∧ cp t = 0) ∨ (∃ j, j ≤ 29 ∧ 32768 ≤ t.n >>> (8 * j) ∧ t.n >>> (8 * j) < 8388608 ∧ cp t = em (j + 3) (t.n >>> (8 * j))) ∨ (8388608 ≤ t.n >>> (8 * 29) ∧ cp t = em 32 8388607) := by
  by_cases h : t.n >>> (8 * 29) < 8388608
  · rcases cpt_spec t.n 29 h with h1 | h1
    · exact .inl h1
    · exact .inr (.inl h1)
  · exact .inr (.inr ⟨by omega, by unfold cp; rw [cpt_a t.n 29 (by omega)]; rfl⟩)
theorem cp_lt (t : Wd) : cp t < 4294967296 := by
  rcases cp_cases t with ⟨_, h⟩ | ⟨j, h1, h2, h3, h⟩ | ⟨_, h⟩ <;> rw [h]
  · decide
  · unfold em; omega
  · decide

theorem tgOk_em (j m : Nat) (hj : j ≤ 29) (h1 : 32768 ≤ m) (h2 : m < 8388608) : tgOk (em (j + 3) m) = true := by
  unfold tgOk em
  have e1 : ((j + 3) * 16777216 + m) / 16777216 = j + 3 := by omega
  have e2 : ((j + 3) * 16777216 + m) % 16777216 = m := by omega
  rw [e1, e2]
  simp; omega
theorem tgOk_0 : tgOk 0 = false := by decide
theorem pow_233 : (8388608 : Nat) * 2 ^ 232 ≤ B256 := by decide +kernel
theorem tg_em (j m : Nat) (hj : j ≤ 29) (h1 : 32768 ≤ m) (h2 : m < 8388608) : (tg (em (j + 3) m)).n = m * 2 ^ (8 * j) := by
  unfold tg
  rw [if_pos (tgOk_em j m hj h1 h2)]
  have e1 : (em (j + 3) m) / 16777216 = j + 3 := by unfold em; omega
  have e2 : (em (j + 3) m) % 16777216 = m := by unfold em; omega
  rw [e1, e2, show (8 : Int) * (((j + 3 : Nat) : Int) - 3) = ((8 * j : Nat) : Int) by omega, Wd.up_n, of_val (by unfold B256; omega), Nat.shiftLeft_eq]
  apply Nat.mod_eq_of_lt
  have h3 : 2 ^ (8 * j) ≤ 2 ^ 232 := Nat.pow_le_pow_right (by decide) (by omega)
  have h4 : m * 2 ^ (8 * j) < 8388608 * 2 ^ (8 * j) := (Nat.mul_lt_mul_right (Nat.two_pow_pos _)).2 h2
  have h5 := Nat.mul_le_mul_left 8388608 h3
  have := pow_233
  omega
/-- A compact number that stands for one, by its parts. -/
theorem tgOk_parts {b : Nat} (h : tgOk b = true) : ∃ j m, j ≤ 29 ∧ 32768 ≤ m ∧ m < 8388608 ∧ b = em (j + 3) m := by
  unfold tgOk at h
  simp only [decide_eq_true_eq] at h
  exact ⟨b / 16777216 - 3, b % 16777216, by omega, by omega, by omega, by unfold em; omega⟩
theorem mul_shr (m i j : Nat) (h : j ≤ i) : (m * 2 ^ (8 * i)) >>> (8 * j) = m * 2 ^ (8 * (i - j)) := by
  rw [Nat.shiftRight_eq_div_pow, show 8 * i = 8 * (i - j) + 8 * j by omega, Nat.pow_add, ← Nat.mul_assoc, Nat.mul_div_cancel _ (Nat.two_pow_pos _)]
theorem mul_shr2 (m i j : Nat) (h : i ≤ j) : (m * 2 ^ (8 * i)) >>> (8 * j) = m >>> (8 * (j - i)) := by
  rw [show 8 * j = 8 * i + 8 * (j - i) by omega, Nat.shiftRight_add, Nat.shiftRight_eq_div_pow (m * 2 ^ (8 * i)), Nat.mul_div_cancel _ (Nat.two_pow_pos _)]
theorem pow_ge (d : Nat) (h : 0 < d) : 256 ≤ 2 ^ (8 * d) := by
  have : (2 : Nat) ^ 8 ≤ 2 ^ (8 * d) := Nat.pow_le_pow_right (by decide) (by omega)
  simpa using this
theorem shr_small (m d : Nat) (h : 0 < d) (hm : m < 8388608) : m >>> (8 * d) < 32768 := by
  rw [Nat.shiftRight_eq_div_pow, Nat.div_lt_iff_lt_mul (Nat.two_pow_pos _)]
  have := Nat.mul_le_mul_left 32768 (pow_ge d h)
  omega
theorem mul_big (m d : Nat) (h : 0 < d) (hm : 32768 ≤ m) : 8388608 ≤ m * 2 ^ (8 * d) := by
  have := Nat.mul_le_mul hm (pow_ge d h)
  omega
/-- The place of a number is the only one. -/
theorem place_unique {x i j : Nat} (h1 : 32768 ≤ x >>> (8 * i)) (h2 : x >>> (8 * i) < 8388608) (h3 : 32768 ≤ x >>> (8 * j)) (h4 : x >>> (8 * j) < 8388608) : i = j := by
  rcases Nat.lt_trichotomy i j with h | h | h
  · have e : x >>> (8 * j) = (x >>> (8 * i)) >>> (8 * (j - i)) := by rw [← Nat.shiftRight_add]; congr 1; omega
    have := shr_small (x >>> (8 * i)) (j - i) (by omega) h2
    omega
  · exact h
  · have e : x >>> (8 * i) = (x >>> (8 * j)) >>> (8 * (i - j)) := by rw [← Nat.shiftRight_add]; congr 1; omega
    have := shr_small (x >>> (8 * j)) (i - j) (by omega) h4
    omega
theorem shr_le' (x k : Nat) : x >>> (8 * k) * 2 ^ (8 * k) ≤ x := by
  rw [Nat.shiftRight_eq_div_pow]; exact Nat.div_mul_le_self _ _
theorem shr_low {x k m : Nat} (h : m ≤ x >>> (8 * k)) : m * 2 ^ (8 * k) ≤ x := Nat.le_trans (Nat.mul_le_mul_right _ h) (shr_le' x k)
theorem shr_mono {x y : Nat} (k : Nat) (h : x ≤ y) : x >>> k ≤ y >>> k := by
  rw [Nat.shiftRight_eq_div_pow, Nat.shiftRight_eq_div_pow]; exact Nat.div_le_div_right h

theorem cp_tg {b : Nat} (h : tgOk b = true) : cp (tg b) = b := by
  obtain ⟨j, m, hj, h1, h2, rfl⟩ := tgOk_parts h
  have e := tg_em j m hj h1 h2
  have ej : (tg (em (j + 3) m)).n >>> (8 * j) = m := by rw [e, mul_shr m j j (Nat.le_refl _), Nat.sub_self]; simp
  rcases cp_cases (tg (em (j + 3) m)) with ⟨hc, _⟩ | ⟨i, hi, h3, h4, hc⟩ | ⟨hc, _⟩
  · have := shr_low (x := (tg (em (j + 3) m)).n) (k := j) (m := m) (by omega)
    have p := Nat.two_pow_pos (8 * j)
    have := Nat.mul_le_mul_left m p
    omega
  · have hij := place_unique h3 h4 (j := j) (by omega) (by omega)
    subst hij
    rw [hc, ej]
  · rw [e] at hc
    rw [mul_shr2 m j 29 hj] at hc
    have : m >>> (8 * (29 - j)) ≤ m := Nat.shiftRight_le _ _
    omega
theorem ok_cp (t : Wd) : tgOk (cp t) = decide (32768 ≤ t.n) := by
  rcases cp_cases t with ⟨h, e⟩ | ⟨j, hj, h1, h2, e⟩ | ⟨h, e⟩ <;> rw [e]
  · rw [tgOk_0]; simp; omega
  · rw [tgOk_em j _ hj h1 h2]
    have : t.n >>> (8 * j) ≤ t.n := Nat.shiftRight_le _ _
    simp; omega
  · have := tgOk_em 29 8388607 (by omega) (by omega) (by omega)
    rw [show (32 : Nat) = 29 + 3 from rfl, this]
    have : t.n >>> (8 * 29) ≤ t.n := Nat.shiftRight_le _ _
    simp; omega
theorem cp_zero (t : Wd) (h : ¬ 32768 ≤ t.n) : cp t = 0 := by
  rcases cp_cases t with ⟨_, e⟩ | ⟨j, hj, h1, h2, e⟩ | ⟨h2, e⟩
  · exact e
  · have : t.n >>> (8 * j) ≤ t.n := Nat.shiftRight_le _ _
    omega
  · have : t.n >>> (8 * 29) ≤ t.n := Nat.shiftRight_le _ _
    omega
theorem tg_cp_le (t : Wd) (h : 32768 ≤ t.n) : (tg (cp t)).n ≤ t.n := by
  rcases cp_cases t with ⟨h0, e⟩ | ⟨j, hj, h1, h2, e⟩ | ⟨h2, e⟩
  · omega
  · rw [e, tg_em j _ hj h1 h2]; exact shr_le' _ _
  · rw [e, show (32 : Nat) = 29 + 3 from rfl, tg_em 29 _ (by omega) (by omega) (by omega)]
    exact shr_low (by omega)
/-- Of those that a compact number stands for, none lies between. -/
theorem tg_between {b : Nat} (t : Wd) (hb : tgOk b = true) (h : (tg b).n ≤ t.n) : (tg b).n ≤ (tg (cp t)).n := by
  obtain ⟨i, m, hi, h1, h2, rfl⟩ := tgOk_parts hb
  have e := tg_em i m hi h1 h2
  rw [e] at h ⊢
  have hm := shr_mono (8 * i) h
  rw [mul_shr m i i (Nat.le_refl _), Nat.sub_self, Nat.mul_zero, Nat.pow_zero, Nat.mul_one] at hm
  rcases cp_cases t with ⟨h0, _⟩ | ⟨j, hj, h3, h4, ec⟩ | ⟨h3, ec⟩
  · have : t.n >>> (8 * i) ≤ t.n := Nat.shiftRight_le _ _
    omega
  · rw [ec, tg_em j _ hj h3 h4]
    by_cases hij : j ≤ i
    · have hk := shr_mono (8 * j) h
      rw [mul_shr m i j hij] at hk
      have := Nat.mul_le_mul_right (2 ^ (8 * j)) hk
      rw [Nat.mul_assoc, ← Nat.pow_add, show 8 * (i - j) + 8 * j = 8 * i by omega] at this
      exact this
    · have hp : 2 ^ (8 * j) = 2 ^ (8 * (j - i)) * 2 ^ (8 * i) := by rw [← Nat.pow_add]; congr 1; omega
      rw [hp, ← Nat.mul_assoc]
      have := mul_big (t.n >>> (8 * j)) (j - i) (by omega) h3
      exact Nat.mul_le_mul_right _ (by omega)
  · rw [ec, show (32 : Nat) = 29 + 3 from rfl, tg_em 29 _ (by omega) (by omega) (by omega)]
    exact Nat.mul_le_mul (by omega) (Nat.pow_le_pow_right (by decide) (by omega))
theorem tg_lt_iff {a b : Nat} (ha : tgOk a = true) (hb : tgOk b = true) : a < b ↔ (tg a).n < (tg b).n := by
  obtain ⟨i, m, hi, h1, h2, rfl⟩ := tgOk_parts ha
  obtain ⟨j, k, hj, h3, h4, rfl⟩ := tgOk_parts hb
  rw [tg_em i m hi h1 h2, tg_em j k hj h3 h4]
  have key : ∀ {i j m k : Nat}, 32768 ≤ m → m < 8388608 → 32768 ≤ k → k < 8388608 → i < j → m * 2 ^ (8 * i) < k * 2 ^ (8 * j) := by
    intro i j m k a b c d hij
    have hp : 2 ^ (8 * j) = 2 ^ (8 * (j - i)) * 2 ^ (8 * i) := by rw [← Nat.pow_add]; congr 1; omega
    rw [hp, ← Nat.mul_assoc]
    have := mul_big k (j - i) (by omega) c
    exact (Nat.mul_lt_mul_right (Nat.two_pow_pos _)).2 (by omega)
  rcases Nat.lt_trichotomy i j with h | h | h
  · have := key h1 h2 h3 h4 h
    unfold em
    omega
  · subst h
    rw [Nat.mul_lt_mul_right (Nat.two_pow_pos _)]
    unfold em; omega
  · have := key h3 h4 h1 h2 h
    unfold em
    omega
theorem cp_mono (t u : Wd) (h : t.n ≤ u.n) : cp t ≤ cp u := by
  by_cases h0 : 32768 ≤ t.n
  · have ht : tgOk (cp t) = true := by rw [ok_cp]; simpa using h0
    have hu : tgOk (cp u) = true := by rw [ok_cp]; simp; omega
    have h1 := tg_between u ht (Nat.le_trans (tg_cp_le t h0) h)
    have h2 := tg_lt_iff hu ht
    omega
  · rw [cp_zero t h0]; exact Nat.zero_le _

theorem compact_i (t : Wd) (w : World) :
    Calls Try.prog 12 #[.agg (wv t.n)] w fun e w' => e = .returned (.int .u32 (cp t)) ∧ Grew w w' := compact_w t w
end Go.Proofs.Ytipofeefalpjgaa
