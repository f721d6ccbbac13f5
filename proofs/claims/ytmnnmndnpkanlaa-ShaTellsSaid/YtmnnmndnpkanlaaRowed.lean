/- Rowed: whole arrays read out of, and written into, blocks. No program in sight. -/
import Derived.Test.YtmnnmndnpkanlaaBase
import Derived.Laws.Rows
import Derived.Deep.MidRow
namespace Go
set_option linter.unusedVariables false
set_option linter.unusedSimpArgs false
open Go.RowKit

/-- What block 'g' holds, where it is one of cells. -/
def World.rowAt (w : World) (g : Nat) : Array Value := match w.heap[g]? with | some (.cells c _ _) => c | _ => #[]
/-- May all of block 'g' be written? -/
def World.rowFree (w : World) (g : Nat) : Bool := match w.heap[g]? with | some (.cells _ _ fr) => fr == (0, 0) | _ => false

section
variable (w : World) (δ : Junk)
theorem rowAt_of_heap {w w' : World} {g : Nat} (h : w'.heap[g]? = w.heap[g]?) : w'.rowAt g = w.rowAt g := by simp [World.rowAt, h]
theorem rowFree_of_heap {w w' : World} {g : Nat} (h : w'.heap[g]? = w.heap[g]?) : w'.rowFree g = w.rowFree g := by simp [World.rowFree, h]
@[go_sem] theorem rowAt_alloc_at (c : Array Value) (t : TypeId) (fr : Nat × Nat) (n : Nat) (hn : n = w.heap.size) : (w.alloc (.cells c t fr)).rowAt n = c := by
  subst hn; unfold World.rowAt; rw [heap_alloc_new]
@[go_sem] theorem rowAt_alloc_past (o : Obj) (n : Nat) (hn : n < w.heap.size) : (w.alloc o).rowAt n = w.rowAt n := rowAt_of_heap (Go.heap_alloc_old w o hn)
@[go_sem] theorem rowFree_alloc_at (c : Array Value) (t : TypeId) (n : Nat) (hn : n = w.heap.size) : (w.alloc (.cells c t)).rowFree n = true := by
  subst hn; unfold World.rowFree; rw [heap_alloc_new]; rfl
@[go_sem] theorem rowFree_alloc_past (o : Obj) (n : Nat) (hn : n < w.heap.size) : (w.alloc o).rowFree n = w.rowFree n := rowFree_of_heap (Go.heap_alloc_old w o hn)
@[go_sem] theorem rowAt_grow_old (n : Nat) (hn : n < w.heap.size) : (w.grow δ).rowAt n = w.rowAt n := rowAt_of_heap (heap_grow_old w δ n hn)
@[go_sem] theorem rowFree_grow_old (n : Nat) (hn : n < w.heap.size) : (w.grow δ).rowFree n = w.rowFree n := rowFree_of_heap (heap_grow_old w δ n hn)
@[go_sem] theorem rowAt_drew (n : Nat) : w.drew.rowAt n = w.rowAt n := rfl
@[go_sem] theorem rowFree_drew (n : Nat) : w.drew.rowFree n = w.rowFree n := rfl
@[go_sem] theorem rowAt_drewN (k n : Nat) : (w.drewN k).rowAt n = w.rowAt n := rfl
@[go_sem] theorem rowFree_drewN (k n : Nat) : (w.drewN k).rowFree n = w.rowFree n := rfl
theorem row_of_size {n g : Nat} (h : (w.rowAt g).size = n + 1) : ∃ t fr, w.heap[g]? = some (.cells (w.rowAt g) t fr) := by
  unfold World.rowAt at *
  split at h
  · rename_i c t fr e; rw [e]; exact ⟨t, fr, rfl⟩
  · simp at h
theorem row_lt {n g : Nat} (h : (w.rowAt g).size = n + 1) : g < w.heap.size := by
  obtain ⟨t, fr, hg⟩ := row_of_size w h
  exact (Array.getElem?_eq_some_iff.1 hg).1
theorem row_of_free {g : Nat} (h : w.rowFree g = true) : ∃ t, w.heap[g]? = some (.cells (w.rowAt g) t (0, 0)) := by
  unfold World.rowFree at h
  unfold World.rowAt
  split at h
  · rename_i c t fr e; rw [e]; exact ⟨t, by simp at h; rw [h]⟩
  · simp at h

theorem cell_rowAt (g i : Nat) : w.cell? ⟨g, i, none⟩ = (w.rowAt g)[i]? := by
  unfold World.cell? World.rowAt
  split <;> simp_all
@[go_sem] theorem setRow_alloc_at (c cs : Array Value) (t : TypeId) (fr : Nat × Nat) (n : Nat) (hn : n = w.heap.size) : (w.alloc (.cells c t fr)).setRow n cs = w.alloc (.cells cs t fr) := by
  subst hn
  unfold World.setRow World.alloc
  congr 1
  apply Array.ext
  · simp
  · intro k h1 h2
    simp only [Array.getElem_modify, Array.getElem_push]
    split
    · subst_vars; simp
    · split <;> simp_all
      omega
@[go_sem] theorem setRow_alloc_past (o : Obj) (cs : Array Value) (n : Nat) (hn : n < w.heap.size) : (w.alloc o).setRow n cs = (w.setRow n cs).alloc o := by
  unfold World.setRow World.alloc
  congr 1
  apply Array.ext
  · simp
  · intro k h1 h2
    simp only [Array.getElem_modify, Array.getElem_push, Array.size_modify]
    split
    · rename_i hk; subst hk; simp [hn]
    · split <;> rfl
@[go_sem] theorem setRow_grow (cs : Array Value) (n : Nat) (hn : n < w.heap.size) : (w.grow δ).setRow n cs = (w.setRow n cs).grow δ := by
  unfold World.setRow World.grow
  congr 1
  apply Array.ext
  · simp
  · intro k h1 h2
    simp only [Array.getElem_modify, Array.getElem_append, Array.size_modify]
    split
    · rename_i hk; subst hk; simp [hn]
    · split <;> rfl
@[go_sem] theorem setRow_drew (cs : Array Value) (n : Nat) : w.drew.setRow n cs = (w.setRow n cs).drew := rfl
@[go_sem] theorem setRow_drewN (k : Nat) (cs : Array Value) (n : Nat) : (w.drewN k).setRow n cs = (w.setRow n cs).drewN k := rfl
attribute [go_sem] setRow_size

/-- Is a type an array or a struct of 'n' cells? -/
def Program.rowType (P : Program) (ty : TypeId) (n : Nat) : Bool :=
  (match P.underlying ty with | some (.struct _) | some (.array _ _) => true | _ => false) && (P.info? ty).map (·.size) == some n
theorem run_load_row {P : Program} {ty : TypeId} {n g : Nat} (ht : P.rowType ty (n + 1) = true) (h : (w.rowAt g).size = n + 1) :
    (Instr.loadAt ty (.pointer (some ⟨g, 0, none⟩))).run P w = .ok (.agg (w.rowAt g)) w := by
  obtain ⟨t, fr, hg⟩ := row_of_size w h
  unfold Program.rowType at ht
  simp only [Bool.and_eq_true, beq_iff_eq] at ht
  cases hu : P.underlying ty with
  | none => simp [hu] at ht
  | some d =>
    have hd : (match d with | .struct _ | .array _ _ => true | _ => false) = true := by
      have := ht.1; rw [hu] at this; cases d <;> simp_all
    simp only [Instr.loadAt, Instr.sureAddr, Sem.run_bind, Sem.run_pure, Result.andThen_ok, run_loadVar_row w g t ty _ fr d hg hu hd (by rw [h]; exact ht.2)]
theorem run_store_row {P : Program} {ty : TypeId} {n g : Nat} {cs : Array Value} (ht : P.rowType ty n = true) (hf : w.rowFree g = true) (h : (w.rowAt g).size = n) (hc : cs.size = n) (h1 : cs.all (·.oneCell') = true) :
    (Instr.storeAt ty (.pointer (some ⟨g, 0, none⟩)) (.agg cs)).run P w = .ok () (w.setRow g cs) := by
  obtain ⟨t, hg⟩ := row_of_free w hf
  unfold Program.rowType at ht
  simp only [Bool.and_eq_true, beq_iff_eq] at ht
  simp only [Instr.storeAt, Instr.sureAddr, Sem.run_bind, Sem.run_pure, Result.andThen_ok, run_storeVar_row w g t ty _ cs hg (by rw [hc]; exact ht.2) (by rw [h, hc]) h1]
/-- The three operations on a variable that is a row, under names that the walk does not open. -/
def rowLoad (ty : TypeId) (v : Value) : Sem Next := do let x ← Instr.loadAt ty v; pure (.value x)
def rowStore (ty : TypeId) (p v : Value) : Sem Next := do Instr.storeAt ty p v; pure .skip
def rowAlloc (ty : TypeId) : Sem Next := do let x ← Instr.alloc ty true (.tuple #[]); pure (.value x)
theorem run_rowLoad {P : Program} {ty : TypeId} {n g : Nat} (ht : P.rowType ty (n + 1) = true) (h : (w.rowAt g).size = n + 1) :
    (rowLoad ty (.pointer (some ⟨g, 0, none⟩))).run P w = .ok (.value (.agg (w.rowAt g))) w := by
  simp only [rowLoad, Sem.run_bind, run_load_row w ht h, Result.andThen_ok, Sem.run_pure]
theorem run_rowStore {P : Program} {ty : TypeId} {n g : Nat} {cs : Array Value} (ht : P.rowType ty n = true) (hf : w.rowFree g = true) (h : (w.rowAt g).size = n) (hc : cs.size = n) (h1 : cs.all (·.oneCell') = true) :
    (rowStore ty (.pointer (some ⟨g, 0, none⟩)) (.agg cs)).run P w = .ok .skip (w.setRow g cs) := by
  simp only [rowStore, Sem.run_bind, run_store_row w ht hf h hc h1, Result.andThen_ok, Sem.run_pure]
theorem run_rowAlloc {P : Program} {ty : TypeId} {cs : Array Value} (hz : (P.info? ty).map (·.zero) = some (some (.agg cs))) :
    (rowAlloc ty).run P w = .ok (.value (.pointer (some ⟨w.heap.size, 0, none⟩))) (w.alloc (.cells cs ty)) := by
  cases hq : P.info? ty with
  | none => simp [hq] at hz
  | some i =>
    have hi : i.zero = some (.agg cs) := by simpa [hq] using hz
    simp [rowAlloc, Instr.alloc, zeroValue, typeInfo, hq, hi, newVar, newRow, Value.cells]
/-- A result that lies in a block. -/
theorem run_result_row {P : Program} {fn : Func} {p : Tmp} {ty : TypeId} {n g : Nat} (hr : fn.results = #[.cell p ty]) (tmps : Array Value) (hp : tmps.getD p undef = .pointer (some ⟨g, 0, none⟩)) (ht : P.rowType ty (n + 1) = true) (h : (w.rowAt g).size = n + 1) :
    (results fn tmps).run P w = .ok (.agg (w.rowAt g)) w := by
  obtain ⟨t, fr, hg⟩ := row_of_size w h
  unfold Program.rowType at ht
  simp only [Bool.and_eq_true, beq_iff_eq] at ht
  cases hu : P.underlying ty with
  | none => simp [hu] at ht
  | some d =>
    have hd : (match d with | .struct _ | .array _ _ => true | _ => false) = true := by
      have := ht.1; rw [hu] at this; cases d <;> simp_all
    exact results_cell_row hr tmps w g t _ fr d hp hg hu hd (by rw [h]; exact ht.2)
end
end Go
