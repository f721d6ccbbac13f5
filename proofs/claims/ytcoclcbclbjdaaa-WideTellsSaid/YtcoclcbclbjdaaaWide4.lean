/- wide's numbers held against one another by '==', and its Div. -/
import Derived.Test.YtcoclcbclbjdaaaRows
import Derived.Test.YtcoclcbclbjdaaaWide3
import Derived.DeepKeys
namespace Go.Proofs.Ytcoclcbclbjdaaa
set_option linter.unusedVariables false
set_option linter.unusedSimpArgs false
open Go.RowKit

/-- Are two numbers the same, below 2^256? -/
def weq (a b : Nat) : Bool := decide (a % B256 = b % B256)
theorem weq_lt {a b : Nat} (ha : a < B256) (hb : b < B256) : weq a b = decide (a = b) := by
  unfold weq; rw [Nat.mod_eq_of_lt ha, Nat.mod_eq_of_lt hb]
theorem cells_wide (a : Nat) : wv a = ([(lb a 0 : Int), (lb a 1 : Int), (lb a 2 : Int), (lb a 3 : Int)].map (Value.int .u64)).toArray := rfl
theorem equal_wide (a b : Nat) (w : World) : (Op.equalIn 10000 24 (.agg (wv a)) (.agg (wv b))).run Try.prog w = .ok (weq a b) w := by
  rw [cells_wide, cells_wide, show (10000 : Nat) = 9998 + 2 from rfl, run_equalIn_ints w 9998 Try.underlying24 Try.underlying22 (by kernel_rfl) _ _ rfl rfl]
  congr 1
  unfold weq
  rw [Bool.eq_iff_iff, decide_eq_true_eq, decide_eq_true_eq]
  constructor
  · intro h
    simp only [List.cons.injEq, and_true] at h
    exact lb_inj (by omega) (by omega) (by omega) (by omega)
  · intro h
    obtain ⟨h0, h1, h2, h3⟩ := lb_congr h
    rw [h0, h1, h2, h3]
theorem equal_wide0 (a : Nat) (w : World) : (Op.equalIn 10000 24 (.agg (wv a)) (.agg #[.int .u64 0, .int .u64 0, .int .u64 0, .int .u64 0])).run Try.prog w = .ok (weq a 0) w := equal_wide a 0 w
attribute [go_sem] equal_wide equal_wide0
@[go_sem] theorem guard_wide : Try.prog.eqGuardType Try.prog.depth 24 = false := by kernel_rfl
@[go_sem] theorem build_wide (w : World) : (Instr.build 24 #[]).run Try.prog w = .ok (.agg (wv 0)) w := by kernel_rfl
end Go.Proofs.Ytcoclcbclbjdaaa
