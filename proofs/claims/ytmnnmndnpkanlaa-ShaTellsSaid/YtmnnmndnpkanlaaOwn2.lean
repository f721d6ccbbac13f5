/- Appending to a row of the call's own: one value that was just built; whatever is shown. No program in sight. -/
import Derived.Test.YtmnnmndnpkanlaaOwn
namespace Go
set_option linter.unusedVariables false
set_option linter.unusedSimpArgs false
open Go.RowKit
theorem shows_one (X : World) (y : Value) (e : TypeId) (c : Nat) : Shows (X.alloc (.cells #[y] e)) (.slice (some ⟨X.heap.size, 0, none⟩) 1 c) [y] := by
  refine .inl ⟨_, _, _, rfl, by simp, fun j u hj => ?_⟩
  cases j with
  | zero =>
    simp only [List.getElem?_cons_zero, Option.some.injEq] at hj
    subst hj
    unfold World.cell?
    rw [show (X.alloc (.cells #[y] e)).heap[X.heap.size]? = some (.cells #[y] e (0, 0)) from heap_alloc_new X _]
    rfl
  | succ j => simp at hj
theorem shows_one_g (X : World) (a : Junk) (y : Value) (e : TypeId) (c : Nat) : Shows ((X.grow a).alloc (.cells #[y] e)) (.slice (some ⟨X.heap.size + a.n, 0, none⟩) 1 c) [y] := by
  have := shows_one (X.grow a) y e c
  rwa [size_grow] at this
theorem shows_one_g2 (X : World) (a b : Junk) (y : Value) (e : TypeId) (c : Nat) : Shows (((X.grow a).grow b).alloc (.cells #[y] e)) (.slice (some ⟨X.heap.size + (⟨a.objs ++ b.objs, b.drawn⟩ : Junk).n, 0, none⟩) 1 c) [y] := by
  rw [grow_grow]; exact shows_one_g X _ y e c
theorem wpList_nil_then {P : Program} {ops : Array Oper} {K : Act → World → Prop} {Q : Exit → Act → World → Prop} {a : Act} {w : World} (h : K a w) : wpList P ops (Exit.then K Q) [] a w := h
/-- append(v, y). -/
theorem wpList_append1 {P : Program} {ops : Array Oper} {rest : List Oper} {o : Oper} {a : Act} {Q : Exit → Act → World → Prop} (hgd : o.guard = none) (s x : Operand) (t : TypeId)
    (ho : o.op = .call { callee := .builtin .append, args := #[s, x], argTypes := #[t, t] }) (e : TypeId) (i : TypeInfo) (z : Value) (bytes : Nat) (ht : P.underlying t = some (.slice e)) (hi : P.info? e = some i) (hz : i.zero = some z)
    (hsize : i.size = 1) (hby : i.bytes = bytes) (hzs : z.cells.size = 1) (w0 X : World) (v y : Value) (hs : a.eval s = v) (hy : a.eval x = .slice (some ⟨X.heap.size, 0, none⟩) 1 1) (xs : List Value) (hg : Grew w0 X) (hown : OwnR X w0.heap.size e v xs) (h1 : y.oneCell' = true)
    (h63 : xs.length + 1 ≤ maxLen) (hbytes : (xs.length + 1) * bytes ≤ 140737488355328)
    (h : ∀ v' w', OwnR w' w0.heap.size e v' (xs ++ [y]) → Grew w0 w' → wpList P ops Q rest (a.put o.dst v') w') : wpList P ops Q (o :: rest) a (X.alloc (.cells #[y] e)) := by
  have hgx : Grew X (X.alloc (.cells #[y] e)) := (Grew.refl X).alloc _
  have hblock := hown.block
  refine wpList_append_shows hgd s x t ho w0.heap.size e i z bytes ht hi hz hsize hby hzs v _ hs hy xs [y] (hown.grew hgx) (shows_one X y e 1) (by simp [h1]) (by simpa using h63) (by simpa using hbytes) (Nat.le_trans hg.size hgx.size) ?_
  intro v' w' ho' hg'
  exact h v' w' ho' ((hg.trans hgx).grown hg' fun k hk => (hblock k hk).1)
/-- append(v, y...). -/
theorem wpList_appends {P : Program} {ops : Array Oper} {rest : List Oper} {o : Oper} {a : Act} {Q : Exit → Act → World → Prop} (hgd : o.guard = none) (s x : Operand) (t : TypeId)
    (ho : o.op = .call { callee := .builtin .append, args := #[s, x], argTypes := #[t, t] }) (e : TypeId) (i : TypeInfo) (z : Value) (bytes : Nat) (ht : P.underlying t = some (.slice e)) (hi : P.info? e = some i) (hz : i.zero = some z)
    (hsize : i.size = 1) (hby : i.bytes = bytes) (hzs : z.cells.size = 1) (w0 X : World) (v y : Value) (hs : a.eval s = v) (hy : a.eval x = y) (xs news : List Value) (hg : Grew w0 X) (hown : OwnR X w0.heap.size e v xs) (hsh : Shows X y news) (h1 : ∀ u ∈ news, u.oneCell' = true)
    (h63 : xs.length + news.length ≤ maxLen) (hbytes : (xs.length + news.length) * bytes ≤ 140737488355328)
    (h : ∀ v' w', OwnR w' w0.heap.size e v' (xs ++ news) → Grew w0 w' → wpList P ops Q rest (a.put o.dst v') w') : wpList P ops Q (o :: rest) a X := by
  have hblock := hown.block
  refine wpList_append_shows hgd s x t ho w0.heap.size e i z bytes ht hi hz hsize hby hzs v _ hs hy xs news hown hsh h1 h63 hbytes hg.size ?_
  intro v' w' ho' hg'
  exact h v' w' ho' (hg.grown hg' fun k hk => (hblock k hk).1)
end Go
