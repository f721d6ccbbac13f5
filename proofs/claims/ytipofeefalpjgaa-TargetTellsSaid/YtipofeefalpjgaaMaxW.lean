/- The greatest number, and work. -/
import Derived.Test.YtipofeefalpjgaaRows
import Derived.Test.YtipofeefalpjgaaTgt2
namespace Go.Proofs.Ytipofeefalpjgaa
set_option linter.unusedVariables false
set_option linter.unusedSimpArgs false
open Go.RowKit

theorem max_ex : ∃ m : Wd, m.n = B256 - 1 := ⟨⟨B256 - 1, by unfold B256; omega⟩, rfl⟩
/-- The greatest number. -/
noncomputable def Wd.max : Wd := Classical.choose max_ex
theorem Wd.max_n : Wd.max.n = B256 - 1 := Classical.choose_spec max_ex
def wideMax : Sem Next := do let x ← Instr.build 25 #[(0, .int .u64 18446744073709551615), (1, .int .u64 18446744073709551615), (2, .int .u64 18446744073709551615), (3, .int .u64 18446744073709551615)]; pure (.value x)
theorem run_wideMax' (w : World) : wideMax.run Try.prog w = .ok (.value (.agg #[.int .u64 18446744073709551615, .int .u64 18446744073709551615, .int .u64 18446744073709551615, .int .u64 18446744073709551615])) w := by kernel_rfl
theorem max_cells : #[Value.int .u64 18446744073709551615, .int .u64 18446744073709551615, .int .u64 18446744073709551615, .int .u64 18446744073709551615] = wv (B256 - 1) := by
  have := wv_w4 (a := 18446744073709551615) (b := 18446744073709551615) (c := 18446744073709551615) (d := 18446744073709551615) (by omega) (by omega) (by omega) (by omega)
  have e : w4 18446744073709551615 18446744073709551615 18446744073709551615 18446744073709551615 = B256 - 1 := by unfold w4 B256; omega
  rw [e] at this
  exact this
@[go_sem] theorem run_wideMax (w : World) : wideMax.run Try.prog w = .ok (.value (.agg (wv Wd.max.n))) w := by
  rw [run_wideMax', max_cells, Wd.max_n]
section
variable (ρ : Operand → Value) (d : Option Tmp) (t : TypeId) (p : String) (a : Array Edge) (g : Option (Nat × Bool))
@[go_sem ↓] theorem ex_wideMax (b : Act) : execOp b.eval ⟨d, .build 25 #[(0, .const (.int .u64 18446744073709551615)), (1, .const (.int .u64 18446744073709551615)), (2, .const (.int .u64 18446744073709551615)), (3, .const (.int .u64 18446744073709551615))], t, p, a, g⟩ = wideMax := by
  simp [execOp, wideMax, Act.eval]
end

theorem work_facts (t u : Wd) (h : t.addOk (Wd.of 1) = true) :
    weq (wk t).n ((Wd.max.div (t.add (Wd.of 1))).add (Wd.of 1)).n = weq ((Wd.max.rem (t.add (Wd.of 1))).add (Wd.of 1)).n (t.add (Wd.of 1)).n ∧
    weq (wk t).n (Wd.max.div (t.add (Wd.of 1))).n = !weq ((Wd.max.rem (t.add (Wd.of 1))).add (Wd.of 1)).n (t.add (Wd.of 1)).n := by
  have e : (t.add (Wd.of 1)).n = t.n + 1 := by rw [Wd.add_ok h, Wd.of_1]
  have h1 : t.n + 1 < B256 := by rw [← e]; exact (t.add (Wd.of 1)).lt
  have b0 := b256_pos
  have hr : (B256 - 1) % (t.n + 1) < t.n + 1 := Nat.mod_lt _ (by omega)
  have hd := Nat.div_add_mod (B256 - 1) (t.n + 1)
  have er : ((Wd.max.rem (t.add (Wd.of 1))).add (Wd.of 1)).n = (B256 - 1) % (t.n + 1) + 1 := by
    rw [Wd.add_n, Wd.rem_n _ _ (by rw [e]; omega), e, Wd.of_1, Wd.max_n]
    exact Nat.mod_eq_of_lt (by omega)
  have eq : (Wd.max.div (t.add (Wd.of 1))).n = (B256 - 1) / (t.n + 1) := by rw [Wd.div_n, e, Wd.max_n]
  have em : ((Wd.max.div (t.add (Wd.of 1))).add (Wd.of 1)).n = ((B256 - 1) / (t.n + 1) + 1) % B256 := by rw [Wd.add_n, eq, Wd.of_1]
  have ew : (wk t).n = B256 / (t.n + 1) % B256 := by unfold wk; rw [Wd.of_n]
  rw [Wd.weq, Wd.weq, Wd.weq, er, em, eq, ew, e]
  have hq : (B256 - 1) / (t.n + 1) < B256 := Nat.lt_of_le_of_lt (Nat.div_le_self _ _) (by omega)
  by_cases hc : (B256 - 1) % (t.n + 1) = t.n
  · have hw : B256 / (t.n + 1) = (B256 - 1) / (t.n + 1) + 1 := by
      have : B256 = (t.n + 1) * ((B256 - 1) / (t.n + 1) + 1) := by rw [Nat.mul_add]; omega
      conv => lhs; rw [this]
      exact Nat.mul_div_cancel_left _ (by omega)
    rw [hw, hc]
    generalize (B256 - 1) / (t.n + 1) = q at *
    have : (q + 1) % B256 ≠ q := by
      by_cases hh : q + 1 < B256
      · rw [Nat.mod_eq_of_lt hh]; omega
      · have : q + 1 = B256 := by omega
        rw [this, Nat.mod_self]; unfold B256 at *; omega
    simp [this]
  · have hw : B256 / (t.n + 1) = (B256 - 1) / (t.n + 1) := by
      have : B256 = (t.n + 1) * ((B256 - 1) / (t.n + 1)) + ((B256 - 1) % (t.n + 1) + 1) := by omega
      conv => lhs; rw [this]
      rw [Nat.mul_add_div (by omega), Nat.div_eq_of_lt (a := (B256 - 1) % (t.n + 1) + 1) (by omega), Nat.add_zero]
    rw [hw, Nat.mod_eq_of_lt hq]
    generalize (B256 - 1) / (t.n + 1) = q at *
    have : q ≠ (q + 1) % B256 := by
      by_cases hh : q + 1 < B256
      · rw [Nat.mod_eq_of_lt hh]; omega
      · have : q + 1 = B256 := by omega
        rw [this, Nat.mod_self]; unfold B256 at *; omega
    simp [this, hc]
end Go.Proofs.Ytipofeefalpjgaa
