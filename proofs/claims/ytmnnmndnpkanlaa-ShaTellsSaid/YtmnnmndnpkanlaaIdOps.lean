/- Ids in memory: loads, stores, building. -/
import Derived.Test.YtmnnmndnpkanlaaRows
import Derived.Test.YtmnnmndnpkanlaaIdMath
import Derived.Test.YtmnnmndnpkanlaaRowed
namespace Go.Proofs.Ytmnnmndnpkanlaa
set_option linter.unusedVariables false
set_option linter.unusedSimpArgs false
open Go.RowKit

theorem iv_all (l : List Nat) : (iv l).all (·.oneCell') = true := by
  rw [Array.all_eq_true_iff_forall_mem]
  intro v hv
  unfold iv at hv
  simp only [List.mem_toArray, List.mem_map] at hv
  obtain ⟨c, _, rfl⟩ := hv
  rfl
attribute [go_sem] iv_all
/-- 32 zeros. -/
def id0 : List Nat := List.replicate 32 0
theorem id0_len : id0.length = 32 := by simp [id0]
def byteAt (l : List Nat) (i : Nat) : Nat := l.getD i 0
theorem byteAt_eq (l : List Nat) (i : Nat) (h : i < l.length) : byteAt l i = l[i] := by simp [byteAt, h]
theorem byteAt_lt (l : List Nat) (h : ∀ c ∈ l, c < 256) (i : Nat) : byteAt l i < 256 := by
  by_cases hi : i < l.length
  · rw [byteAt_eq l i hi]; exact h _ (List.getElem_mem hi)
  · simp [byteAt, Nat.not_lt.1 hi]
@[go_sem] theorem iv_at (l : List Nat) (i : Nat) (h : i < l.length) : (iv l)[i]? = some (.int .u8 (byteAt l i : Nat)) := by rw [iv_get l i h, byteAt_eq l i h]
@[go_sem] theorem iv_elem (l : List Nat) (i : Nat) (h : i < (iv l).size) : (iv l)[i] = .int .u8 (byteAt l i : Nat) := by
  have h1 := iv_at l i (by rw [iv_size] at h; exact h)
  rw [Array.getElem?_eq_getElem h] at h1
  exact Option.some.inj h1
@[go_sem] theorem iv_set' (l : List Nat) (i : Nat) (c : Nat) : (iv l).setIfInBounds i (.int .u8 (c : Int)) = iv (l.set i c) := iv_set l i c
attribute [go_sem] id0_len List.length_set
theorem rowType_id : Try.prog.rowType 26 32 = true := by kernel_rfl
theorem zero_id : (Try.prog.info? 26).map (·.zero) = some (some (.agg (iv id0))) := by kernel_rfl
section
variable (ρ : Operand → Value) (d : Option Tmp) (x y : Operand) (t : TypeId) (p : String) (a : Array Edge) (g : Option (Nat × Bool)) (w : World)
@[go_sem ↓] theorem ex_load_id : execOp ρ ⟨d, .load 26 x, t, p, a, g⟩ = rowLoad 26 (ρ x) := rfl
@[go_sem ↓] theorem ex_store_id : execOp ρ ⟨d, .store 26 x y, t, p, a, g⟩ = rowStore 26 (ρ x) (ρ y) := rfl
@[go_sem ↓] theorem ex_alloc_id : execOp ρ ⟨d, .alloc 26, t, p, a, g⟩ = rowAlloc 26 := rfl
end
@[go_sem] theorem load_id (w : World) (g : Nat) (h : (w.rowAt g).size = 32) : (rowLoad 26 (.pointer (some ⟨g, 0, none⟩))).run Try.prog w = .ok (.value (.agg (w.rowAt g))) w := run_rowLoad w (n := 31) rowType_id h
@[go_sem] theorem store_id (w : World) (g : Nat) (l : List Nat) (hl : l.length = 32) (h : (w.rowAt g).size = 32) (hf : w.rowFree g = true) : (rowStore 26 (.pointer (some ⟨g, 0, none⟩)) (.agg (iv l))).run Try.prog w = .ok .skip (w.setRow g (iv l)) := run_rowStore w (n := 32) rowType_id hf h (by rw [iv_size]; exact hl) (iv_all l)
@[go_sem] theorem alloc_id (w : World) : (rowAlloc 26).run Try.prog w = .ok (.value (.pointer (some ⟨w.heap.size, 0, none⟩))) (w.alloc (.cells (iv id0) 26)) := run_rowAlloc w zero_id
theorem under_id : Try.prog.underlying 26 = some (.array 32 5) := by kernel_rfl
theorem info_u8 : (Try.prog.info? 5).map (·.size) = some 1 := by kernel_rfl
@[go_sem] theorem index_id (l : List Nat) (i : Nat) (hl : l.length = 32) (h : i < 32) (w : World) : (Instr.index 26 (.agg (iv l)) (.int .i64 (i : Int))).run Try.prog w = .ok (.int .u8 (byteAt l i : Nat)) w := by
  have hs : (sizeOf 5).run Try.prog w = .ok 1 w := by
    have := info_u8
    cases hq : Try.prog.info? 5 with
    | none => rw [hq] at this; cases this
    | some i => simp [hq] at this; simp [sizeOf, typeInfo, hq, this]
  have hp : (part 5 (iv l) i).run Try.prog w = .ok (.int .u8 (byteAt l i : Nat)) w := by
    have ha : (isAgg 5).run Try.prog w = .ok false w := by
      unfold isAgg
      rw [Sem.run_bind, run_underlying Try.underlying5 w]
      rfl
    simp [part, Sem.run_bind, ha, iv_at l i (by omega)]
  have hi : (0 : Int) ≤ i ∧ (i : Int) < (32 : Nat) := by omega
  simp only [Instr.index, Sem.run_bind, asIntOf, Sem.run_pure, Result.andThen_ok, run_underlying under_id w, if_pos hi, hs, Int.toNat_natCast, Nat.mul_one, hp]

/-- An id: 32 bytes. -/
structure Idb where
  l : List Nat
  len : l.length = 32
  lt : ∀ c ∈ l, c < 256
theorem Idb.ext' {a b : Idb} (h : a.l = b.l) : a = b := by cases a; cases b; cases h; rfl
def Idb.zero : Idb := ⟨id0, id0_len, by unfold id0; simp⟩
attribute [go_sem] Idb.len
/-- An id of one byte, and zeros. -/
def id1 (c : Nat) : List Nat := c :: List.replicate 31 0
@[go_sem] theorem id1_len (c : Nat) : (id1 c).length = 32 := by simp [id1]
def idBuild0 : Sem Next := do let x ← Instr.build 26 #[]; pure (.value x)
def idBuild1 (v : Value) : Sem Next := do let x ← Instr.build 26 #[(0, v)]; pure (.value x)
section
variable (ρ : Operand → Value) (d : Option Tmp) (x : Operand) (t : TypeId) (p : String) (a : Array Edge) (g : Option (Nat × Bool))
@[go_sem ↓] theorem ex_build_id0 : execOp ρ ⟨d, .build 26 #[], t, p, a, g⟩ = idBuild0 := by simp [execOp, idBuild0]
@[go_sem ↓] theorem ex_build_id1 : execOp ρ ⟨d, .build 26 #[(0, x)], t, p, a, g⟩ = idBuild1 (ρ x) := by simp [execOp, idBuild1]
end
@[go_sem] theorem run_idBuild0 (w : World) : idBuild0.run Try.prog w = .ok (.value (.agg (iv id0))) w := by kernel_rfl
theorem run_idBuild1' (c : Nat) (w : World) : (idBuild1 (.int .u8 (c : Int))).run Try.prog w = .ok (.value (.agg (iv (id1 c)))) w := by kernel_rfl
@[go_sem] theorem run_idBuild1 (c : Int) (h : 0 ≤ c) (w : World) : (idBuild1 (.int .u8 c)).run Try.prog w = .ok (.value (.agg (iv (id1 c.toNat)))) w := by
  obtain ⟨n, rfl⟩ := Int.eq_ofNat_of_zero_le h
  exact run_idBuild1' n w
end Go.Proofs.Ytmnnmndnpkanlaa
