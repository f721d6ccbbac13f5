/- target's Target. -/
import Derived.Test.YtipofeefalpjgaaRows
import Derived.Test.YtipofeefalpjgaaWdMore
namespace Go.Proofs.Ytipofeefalpjgaa
set_option linter.unusedVariables false
set_option linter.unusedSimpArgs false
open Go.RowKit

/-- Does a compact number stand for a number? -/
def tgOk (b : Nat) : Bool := decide (3 ≤ b / 16777216 ∧ b / 16777216 ≤ 32 ∧ 32768 ≤ b % 16777216 ∧ b % 16777216 < 8388608)
/-- The number for which it stands. -/
noncomputable def tg (b : Nat) : Wd := if tgOk b then (Wd.of (b % 16777216)).up (8 * (((b / 16777216 : Nat) : Int) - 3)) else .zero

theorem low24 (b : Nat) (h : b < 4294967296) : bits .and .u32 (b : Int) 16777215 = ((b % 16777216 : Nat) : Int) := by
  have h1 : (BitVec.ofInt 32 (b : Int)).toNat = b := by
    rw [BitVec.ofInt_natCast, BitVec.toNat_ofNat]; exact Nat.mod_eq_of_lt (by omega)
  show IntKind.u32.wrap ((BitVec.ofInt 32 (b : Int) &&& BitVec.ofInt 32 16777215).toNat : Int) = _
  rw [BitVec.toNat_and, h1, show (BitVec.ofInt 32 16777215).toNat = 2 ^ 24 - 1 from rfl, Nat.and_two_pow_sub_one_eq_mod]
  have : (b % 2 ^ 24 : Nat) < 4294967296 := by omega
  show ((b % 2 ^ 24 : Nat) : Int) % 4294967296 = _
  omega

set_option maxRecDepth 100000 in
set_option maxHeartbeats 1600000 in
theorem target_bad (b e m : Nat) (hE : ((b : Int) / 16777216) = (e : Int)) (hM : bits .and .u32 (b : Int) 16777215 = (m : Int)) (he : e < 256) (hm : m < 16777216)
    (h : decide ((e : Int) < 3) = true ∨ (decide ((e : Int) < 3) = false ∧ decide (32 < (e : Int)) = true) ∨ (decide ((e : Int) < 3) = false ∧ decide (32 < (e : Int)) = false ∧ decide ((m : Int) < 32768) = true)
      ∨ (decide ((e : Int) < 3) = false ∧ decide (32 < (e : Int)) = false ∧ decide ((m : Int) < 32768) = false ∧ decide (8388608 ≤ (m : Int)) = true)) (w : World) :
    Calls Try.prog 10 #[.int .u32 b] w fun e w' => e = .returned (.tuple #[.agg (wv 0), .bool false]) ∧ Grew w w' := by
  rcases h with h1 | ⟨h1, h2⟩ | ⟨h1, h2, h3⟩ | ⟨h1, h2, h3, h4⟩
  all_goals
    go_enter Try.func10, Try.ntmps10
    go_wp2
    refine bodyPost_ret (v := .tuple #[.agg (wv 0), .bool false]) ?_ rfl ⟨rfl, (by repeat (first | with_reducible exact Grew.refl _ | with_reducible apply Grew.alloc | with_reducible apply Grew.grow | with_reducible apply Grew.drew | with_reducible apply Grew.drewN))⟩
    simp [results, Try.results10, go_sem]
    try rfl

set_option maxRecDepth 100000 in
set_option maxHeartbeats 1600000 in
theorem target_good (b e m : Nat) (hE : ((b : Int) / 16777216) = (e : Int)) (hM : bits .and .u32 (b : Int) 16777215 = (m : Int)) (he : e < 256) (hm : m < 16777216)
    (h1 : decide ((e : Int) < 3) = false) (h2 : decide (32 < (e : Int)) = false) (h3 : decide ((m : Int) < 32768) = false) (h4 : decide (8388608 ≤ (m : Int)) = false) (w : World) :
    Calls Try.prog 10 #[.int .u32 b] w fun e' w' => e' = .returned (.tuple #[.agg (wv ((Wd.of m).up (8 * ((e : Int) - 3))).n), .bool true]) ∧ Grew w w' := by
  have b1 : (3 : Int) ≤ e := by simpa using h1
  go_enter Try.func10, Try.ntmps10
  go_wp2_with (first
    | (go_at_call 19; refine (of_wd _ (by omega) _).mono ?_; rintro e w' ⟨rfl, δ, rfl⟩)
    | (go_at_call 24; refine (up_w _ _ _).mono ?_; rintro e w' ⟨rfl, δ, rfl⟩))
  refine bodyPost_ret (v := .tuple #[.agg (wv ((Wd.of m).up (8 * ((e : Int) - 3))).n), .bool true]) ?_ rfl ⟨rfl, (by repeat (first | with_reducible exact Grew.refl _ | with_reducible apply Grew.alloc | with_reducible apply Grew.grow | with_reducible apply Grew.drew | with_reducible apply Grew.drewN))⟩
  simp [results, Try.results10, go_sem]

theorem target_w (b : Nat) (hb : b < 4294967296) (w : World) :
    Calls Try.prog 10 #[.int .u32 b] w fun e w' => e = .returned (.tuple #[.agg (wv (tg b).n), .bool (tgOk b)]) ∧ Grew w w' := by
  have hE : ((b : Int) / 16777216) = ((b / 16777216 : Nat) : Int) := by omega
  have hM := low24 b hb
  have he : b / 16777216 < 256 := by omega
  have hm : b % 16777216 < 16777216 := Nat.mod_lt _ (by decide)
  unfold tg
  cases hk : tgOk b
  · rw [if_neg (by decide)]
    refine target_bad b _ _ hE hM he hm ?_ w
    unfold tgOk at hk
    generalize b / 16777216 = e at *
    generalize b % 16777216 = m at *
    simp only [decide_eq_false_iff_not, decide_eq_true_eq] at *
    omega
  · rw [if_pos rfl]
    unfold tgOk at hk
    have hk := of_decide_eq_true hk
    refine target_good b _ _ hE hM he hm ?_ ?_ ?_ ?_ w
    all_goals
      generalize b / 16777216 = e at *
      generalize b % 16777216 = m at *
      simp only [decide_eq_false_iff_not]
      omega
end Go.Proofs.Ytipofeefalpjgaa
