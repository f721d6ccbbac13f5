/- Ids by '==', as strings, and as results. -/
import Derived.Test.YtmnnmndnpkanlaaRows
import Derived.Test.YtmnnmndnpkanlaaIdOps
import Derived.Test.YtmnnmndnpkanlaaStr
import Derived.DeepKeys
namespace Go.Proofs.Ytmnnmndnpkanlaa
set_option linter.unusedVariables false
set_option linter.unusedSimpArgs false
open Go.RowKit

/-- Are two ids the same? -/
def ieq (a b : List Nat) : Bool := decide (a = b)
theorem equal_id (a b : List Nat) (ha : a.length = 32) (hb : b.length = 32) (w : World) : (Op.equalIn 10000 26 (.agg (iv a)) (.agg (iv b))).run Try.prog w = .ok (ieq a b) w := by
  have e : ∀ l : List Nat, iv l = ((l.map fun (c : Nat) => (c : Int)).map (Value.int .u8)).toArray := fun l => by simp [iv]
  rw [e, e, show (10000 : Nat) = 9998 + 2 from rfl, run_equalIn_ints w 9998 under_id Try.underlying5 (by kernel_rfl) _ _ (by simp [ha]) (by simp [hb])]
  congr 1
  unfold ieq
  rw [Bool.eq_iff_iff, decide_eq_true_eq, decide_eq_true_eq]
  constructor
  · intro h
    refine (List.map_inj_right ?_).1 h
    intro x y e
    omega
  · intro h; rw [h]
attribute [go_sem] equal_id
@[go_sem] theorem guard_id : Try.prog.eqGuardType Try.prog.depth 26 = false := by kernel_rfl

theorem run_id_string (w : World) (g n c : Nat) (h : rowOk (w.rowAt g) 0 n = true) : (convert 22 9 (.slice (some ⟨g, 0, none⟩) n c)).run Try.prog w = .ok (.string (bstr (rowNats (w.rowAt g) 0 n))) w :=
  run_bytes_row w 22 9 5 g 0 n c Try.underlying22 Try.underlying5 Try.underlying9 h
attribute [go_sem] run_id_string
@[go_sem] theorem rowOk_id (a : Idb) : rowOk (iv a.l) 0 32 = true := rowOk_iv a.l 0 32 (by rw [a.len]; exact Nat.le_refl _) a.lt
@[go_sem] theorem rowNats_id (a : Idb) : rowNats (iv a.l) 0 32 = a.l := rowNats_all a.l 32 a.len

theorem id_result {fn : Func} {p : Tmp} {g : Nat} {w : World} {l : List Nat} (hr : fn.results = #[.cell p 26]) (tmps : Array Value) (hp : tmps.getD p undef = .pointer (some ⟨g, 0, none⟩)) (h : w.rowAt g = iv l) (hl : l.length = 32) :
    (results fn tmps).run Try.prog w = .ok (.agg (iv l)) w := by
  have := run_result_row w (n := 31) hr tmps hp rowType_id (by rw [h, iv_size, hl])
  rwa [h] at this
end Go.Proofs.Ytmnnmndnpkanlaa
