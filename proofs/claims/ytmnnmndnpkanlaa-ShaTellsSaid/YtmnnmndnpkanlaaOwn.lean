/- Slices of single cells: what they show, and rows of the call's own to which is appended. No program in sight. -/
import Derived.Test.YtmnnmndnpkanlaaBase
import Derived.Laws.AppendOwn
import Derived.Laws.CopyOwn
import Derived.Lib.AppendZeros
namespace Go
set_option linter.unusedVariables false
set_option linter.unusedSimpArgs false
theorem Grew.grown {a b c : World} {row : Option Nat} (h : Grew a b) (hg : b.grownBy c row) (hrow : ∀ k, row = some k → a.heap.size ≤ k) : Grew a c := by
  refine Grew.of_below ?_
  have hb := h.below
  exact ⟨hg.os.trans hb.os, hg.tape.trans hb.tape, hg.output.trans hb.output, Nat.le_trans h.size hg.size,
    fun k hk => (hg.block k (Nat.lt_of_lt_of_le hk h.size) (fun e => by have := hrow k e.symm; omega)).trans (h.heap hk)⟩
theorem add_off (b o j : Nat) : (⟨b, o, none⟩ : Addr).add j = ⟨b, o + j, none⟩ := by
  unfold Addr.add
  split <;> simp_all
/-- The slice shows these cells. -/
def Shows (w : World) (v : Value) (xs : List Value) : Prop :=
  (∃ b o c, v = .slice (some ⟨b, o, none⟩) xs.length c ∧ b < w.heap.size ∧ ∀ j u, xs[j]? = some u → w.cell? ⟨b, o + j, none⟩ = some u) ∨ (∃ p c, v = .slice p 0 c ∧ xs = [])
theorem Shows.grew {w w' : World} {v : Value} {xs : List Value} (h : Shows w v xs) (g : Grew w w') : Shows w' v xs := by
  rcases h with ⟨b, o, c, rfl, hb, h⟩ | h
  · exact .inl ⟨b, o, c, rfl, Nat.lt_of_lt_of_le hb g.size, fun j u hj => g.cell (h j u hj)⟩
  · exact .inr h
/-- A row of the call's own, made behind 'base'. -/
def OwnR (w : World) (base : Nat) (e : TypeId) (v : Value) (xs : List Value) : Prop := w.ownsRow base e 1 v xs.length xs
theorem OwnR.nil (w : World) (base : Nat) (e : TypeId) : OwnR w base e (.slice none 0 0) [] := World.ownsRow_nil w base e 1
theorem OwnR.shows {w : World} {base : Nat} {e : TypeId} {v : Value} {xs : List Value} (h : OwnR w base e v xs) : Shows w v xs := by
  rcases h.2 with ⟨rfl, h0⟩ | ⟨g, cap, cur, rfl, hb, hg, hn, hm, hs, ht⟩
  · exact .inr ⟨_, _, rfl, List.length_eq_zero_iff.1 h0⟩
  · refine .inl ⟨g, 0, cap, rfl, (Array.getElem?_eq_some_iff.1 hg).1, fun j u hj => ?_⟩
    have := h.cells (g := g) rfl j u hj
    rw [add_off] at this
    exact this
theorem OwnR.grew {w w' : World} {base : Nat} {e : TypeId} {v : Value} {xs : List Value} (h : OwnR w base e v xs) (g : Grew w w') : OwnR w' base e v xs := by
  refine ⟨h.1, ?_⟩
  rcases h.2 with hn | ⟨b, cap, cur, rfl, hb, hg, rest⟩
  · exact .inl hn
  · exact .inr ⟨b, cap, cur, rfl, hb, (g.heap (Array.getElem?_eq_some_iff.1 hg).1).trans hg, rest⟩
theorem OwnR.base {w : World} {base base' : Nat} {e : TypeId} {v : Value} {xs : List Value} (h : OwnR w base e v xs) (hb : base' ≤ base) : OwnR w base' e v xs := by
  refine ⟨h.1, ?_⟩
  rcases h.2 with hn | ⟨b, cap, cur, rfl, hb', rest⟩
  · exact .inl hn
  · exact .inr ⟨b, cap, cur, rfl, Nat.le_trans hb hb', rest⟩
/-- append, of whatever is shown. -/
theorem run_append_shows {P : Program} (w : World) (base : Nat) (t ty e : TypeId) (i : TypeInfo) (z : Value) (bytes : Nat) (ht : P.underlying t = some (.slice e)) (hi : P.info? e = some i) (hz : i.zero = some z)
    (hsize : i.size = 1) (hby : i.bytes = bytes) (hzs : z.cells.size = 1) (v x : Value) (xs news : List Value) (hown : OwnR w base e v xs) (hx : Shows w x news) (h1 : ∀ u ∈ news, u.oneCell' = true)
    (h63 : xs.length + news.length ≤ maxLen) (hbytes : (xs.length + news.length) * bytes ≤ 140737488355328) (hbase : base ≤ w.heap.size) :
    ∃ v' w', (Builtin.append_ #[t, t] ty #[v, x]).run P w = .ok v' w' ∧ OwnR w' base e v' (xs ++ news) ∧ w.grownBy w' v.ownBlock := by
  have key : ∀ (a : Addr) (c : Nat), (∀ j u, news[j]? = some u → w.cell? (a.add j) = some u) → ∃ v' w', (Builtin.append_ #[t, t] ty #[v, .slice (some a) news.length c]).run P w = .ok v' w' ∧ OwnR w' base e v' (xs ++ news) ∧ w.grownBy w' v.ownBlock := fun a c h => by
    obtain ⟨v', w', hr, h2, h3, _⟩ := run_append_own (P := P) w base t ty e i z 1 bytes ht hi hz hsize hby hzs (by omega) v xs.length xs hown a news.length c news (by omega) h h1 h63 hbytes hbase
    exact ⟨v', w', hr, by unfold OwnR; rw [List.length_append]; exact h2, h3⟩
  rcases hx with ⟨b, o, c, rfl, hb, h⟩ | ⟨p, c, rfl, rfl⟩
  · exact key _ c (fun j u hj => by rw [add_off]; exact h j u hj)
  · cases p with
    | some a => exact key a c (by simp)
    | none =>
      refine ⟨v, w, ?_, by simpa using hown, ⟨rfl, rfl, rfl, Nat.le_refl _, fun _ _ _ => rfl⟩⟩
      rcases hown.2 with ⟨rfl, h0⟩ | ⟨g, cap, cur, rfl, hb, hg, hn, hm, hs, hq⟩
      · simp [Builtin.append_, run_underlying ht, sizeOf, typeInfo, zeroValue, hi, hz, Question.forced, run_firstCells_none, Builtin.lenOf]
      · have hcl : ¬ (cap < xs.length) := by omega
        simp [Builtin.append_, run_underlying ht, sizeOf, typeInfo, zeroValue, hi, hz, Question.forced, run_firstCells_none, Builtin.lenOf, hcl, hn, storeCells]
theorem wpList_append_shows {P : Program} {w : World} {ops : Array Oper} {rest : List Oper} {o : Oper} {a : Act} {Q : Exit → Act → World → Prop} (hgd : o.guard = none) (s x : Operand) (t : TypeId)
    (ho : o.op = .call { callee := .builtin .append, args := #[s, x], argTypes := #[t, t] }) (base : Nat) (e : TypeId) (i : TypeInfo) (z : Value) (bytes : Nat) (ht : P.underlying t = some (.slice e)) (hi : P.info? e = some i) (hz : i.zero = some z)
    (hsize : i.size = 1) (hby : i.bytes = bytes) (hzs : z.cells.size = 1) (v y : Value) (hs : a.eval s = v) (hy : a.eval x = y) (xs news : List Value) (hown : OwnR w base e v xs) (hx : Shows w y news) (h1 : ∀ u ∈ news, u.oneCell' = true)
    (h63 : xs.length + news.length ≤ maxLen) (hbytes : (xs.length + news.length) * bytes ≤ 140737488355328) (hbase : base ≤ w.heap.size)
    (h : ∀ v' w', OwnR w' base e v' (xs ++ news) → w.grownBy w' v.ownBlock → wpList P ops Q rest (a.put o.dst v') w') : wpList P ops Q (o :: rest) a w := by
  obtain ⟨v', w', hr, h2, h3⟩ := run_append_shows (P := P) w base t o.type e i z bytes ht hi hz hsize hby hzs v y xs news hown hx h1 h63 hbytes hbase
  exact Lib.wpList_append_run w hgd s x t t ho v y hs hy v' w' hr (h v' w' h2 h3)
/-- Another row stays. -/
theorem OwnR.kept {w w' : World} {base : Nat} {e : TypeId} {v : Value} {xs : List Value} {row : Option Nat} (h : OwnR w base e v xs) (hg : w.grownBy w' row) (hne : v.ownBlock = none ∨ v.ownBlock ≠ row) : OwnR w' base e v xs :=
  World.ownsRow.kept h hg hne
theorem OwnR.block {w : World} {base : Nat} {e : TypeId} {v : Value} {xs : List Value} (h : OwnR w base e v xs) : ∀ k, v.ownBlock = some k → base ≤ k ∧ k < w.heap.size := World.ownsRow.lt h
/-- What is shown from memory ahead of the row's base stays. -/
theorem Shows.kept {w w' : World} {v : Value} {xs : List Value} {row : Option Nat} (h : Shows w v xs) (hg : w.grownBy w' row) (hne : v.ownBlock = none ∨ v.ownBlock ≠ row) : Shows w' v xs := by
  rcases h with ⟨b, o, c, rfl, hb, h⟩ | h
  · refine .inl ⟨b, o, c, rfl, Nat.lt_of_lt_of_le hb hg.size, fun j u hj => ?_⟩
    have hne' : some b ≠ row := by simpa [Value.ownBlock] using hne
    exact (World.cell?_of_block (hg.block b hb hne')).trans (h j u hj)
  · exact .inr h
end Go
