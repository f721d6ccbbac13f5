/- What the statements of this chapter rest on, part 2. Conditions: none. -/
import Derived.DataShut
import Derived.Test.YtommbfgagalckaaRows
import Derived.Laws.AppendOwn
import Derived.Laws.CopyOwn
import Derived.Lib.AppendZeros
import Derived.Laws.MakeOwn
import Derived.Laws.BytesString
import Derived.RangeFuncNested
import Derived.RangeFuncBound
import Derived.RangeFuncCalls
import Derived.RangeFuncLeaves
import Derived.RangeFuncFrom
import Derived.Shelf.Abstract
import Derived.Shelf.RegionOpen
import Derived.WalkKit
import Derived.OwnWalkIn
import Derived.TacticsInMore
import Derived.LoopNIn
import Derived.LoopIn
import Derived.Test.YtommbfgagalckaaM1
/- How the reader reads bytes. -/
namespace Go.Proofs.Ytommbfgagalckaa
set_option linter.unusedVariables false
set_option linter.unusedSimpArgs false
open Go.ChangeShapes Go.WideShapes Go.ChangeAt Go.RowKit
theorem cells8 : Try.prog.cellsOf 5 = 1 := by kernel_rfl
theorem u8_nat {a : Int} (h : (Lit.int .u8 a).wf = true) : ∃ n : Nat, a = n ∧ n < 256 := by
  have hx := bounds_u8 h
  exact ⟨a.toNat, by omega, by omega⟩
theorem u32_nat {a : Int} (h : (Lit.int .u32 a).wf = true) : ∃ n : Nat, a = n ∧ n < 4294967296 := by
  have hx := bounds_u32 h
  exact ⟨a.toNat, by omega, by omega⟩
theorem wf_u8 (n : Nat) (h : n < 256) : (Lit.int .u8 (n : Int)).wf = true := by
  simp [Lit.wf, IntKind.min, IntKind.max, IntKind.signed, IntKind.bits]; omega

theorem bytes_of_trod {H : Type} {enc : TypeId × Value → H} {W : World} {base m : Nat} {sp : Nat → Bool} {cs : List Value} {xs : List (DataW H × List MemPlace)} (hl : xs.length = cs.length)
    (h : ∀ (i : Nat), i < cs.length → DataW.trod enc Try.prog W base sp true m 5 ((cs.drop i).take 1) = xs[i]?) :
    ∃ l : List Nat, cs = l.map (fun (c : Nat) => Value.int .u8 (c : Int)) ∧ (∀ c ∈ l, c < 256) ∧ xs = l.map (fun (c : Nat) => (.lit (.int .u8 (c : Int)), [])) := by
  induction cs generalizing xs with
  | nil =>
    have : xs = [] := List.length_eq_zero_iff.1 hl
    exact ⟨[], rfl, by simp, by rw [this]; rfl⟩
  | cons c cs ih =>
    cases xs with
    | nil => simp at hl
    | cons x xs =>
      have h0 := h 0 (by simp)
      simp only [List.drop_zero, List.take_succ_cons, List.take_zero, List.getElem?_cons_zero] at h0
      obtain ⟨n, e1, e2, wf⟩ := DataW.trod_int Try.underlying5 h0
      simp only [List.cons.injEq, and_true] at e1
      obtain ⟨k, rfl, hk⟩ := u8_nat wf
      obtain ⟨l, hl1, hl2, hl3⟩ := ih (xs := xs) (by simpa using hl) fun i hi => by
        have := h (i + 1) (by simp; omega)
        simpa using this
      exact ⟨k :: l, by rw [e1, hl1]; rfl, by simp [hk]; exact hl2, by rw [e2, hl3]; rfl⟩
end Go.Proofs.Ytommbfgagalckaa
/- How the reader reads an id. -/
namespace Go.Proofs.Ytommbfgagalckaa
set_option linter.unusedVariables false
set_option linter.unusedSimpArgs false
open Go.ChangeShapes Go.WideShapes Go.ChangeAt Go.RowKit

theorem cellsId : Try.prog.cellsOf 23 = 32 := by kernel_rfl
theorem trod_bytes_mk {H : Type} {enc : TypeId × Value → H} (W : World) (base : Nat) (sp : Nat → Bool) (l : List Nat) (hl : l.length = 32) (hc : ∀ c ∈ l, c < 256) :
    DataW.Trod enc Try.prog W base sp true 23 (.agg (iv l)) (.agg (l.map fun (c : Nat) => .lit (.int .u8 (c : Int)))) [] := by
  refine ⟨2, ?_⟩
  unfold DataW.trod
  rw [under_id]
  have e1 : (Value.agg (iv l)).cells.toList = l.map (fun (c : Nat) => Value.int .u8 (c : Int)) := rfl
  rw [e1]
  simp only [List.length_map, hl, cellsId, cells8, Nat.mul_one, if_true]
  rw [mapM_some_of_get (List.range 32) (l.map fun (c : Nat) => ((.lit (.int .u8 (c : Int)), []) : DataW H × List MemPlace)) (by simp [hl]) ?_]
  · simp
  · intro i x hx
    have hi : i < 32 := by
      have := (List.getElem?_eq_some_iff.1 hx).1
      simpa using this
    have : x = i := by simpa [List.getElem?_range hi] using hx.symm
    subst this
    have e2 : ((l.map (fun (c : Nat) => Value.int .u8 (c : Int))).drop x).take 1 = [Value.int .u8 ((l[x]'(by omega) : Nat) : Int)] := by
      rw [List.drop_eq_getElem_cons (by simpa using (by omega : x < l.length))]
      simp
    rw [e2]
    have hw : (Lit.int .u8 ((l[x]'(by omega) : Nat) : Int)).wf = true := wf_u8 _ (hc _ (List.getElem_mem _))
    unfold DataW.trod
    rw [Try.underlying5]
    simp [hw, hl, hi]

set_option maxRecDepth 100000 in
set_option maxHeartbeats 400000 in
theorem open_id {H : Type} {enc : TypeId × Value → H} {W : World} {base : Nat} {sp : Nat → Bool} {v : Value} {d : DataW H} {p : List MemPlace}
    (hv : Value.okWide Try.prog W .any base 23 v) (h : DataW.Trod enc Try.prog W 0 sp true 23 v d p) :
    ∃ x : Idb, v = .agg (iv x.l) ∧ p = [] ∧ ∀ (W' : World) (sp' : Nat → Bool), DataW.Trod enc Try.prog W' 0 sp' true 23 (.agg (iv x.l)) d [] := by
  obtain ⟨cs, rfl, hsz, _⟩ : ∃ cs, v = .agg cs ∧ cs.size = Try.prog.cellsOf 23 ∧ Row.okWide Try.prog W .any base 23 cs := by
    simpa [Value.okWide, under_id] using hv
  rw [cellsId] at hsz
  obtain ⟨fuel, hf⟩ := h
  obtain ⟨xs, m, rfl, hx, hl, hn, hel⟩ := DataW.trod_array under_id hf
  have hcl : (Value.agg cs).cells.toList = cs.toList := rfl
  rw [hcl] at hel hl
  rw [cells8] at hel
  have hlen : cs.toList.length = 32 := by simpa using hsz
  obtain ⟨l, e1, e2, e3⟩ := bytes_of_trod (cs := cs.toList) (xs := xs) (by rw [hn, hlen]) (fun i hi => by
    have := hel i (by omega)
    simpa using this)
  have hll : l.length = 32 := by
    have := congrArg List.length e1
    rw [hlen] at this
    simpa using this.symm
  simp only [Prod.mk.injEq] at hx
  obtain ⟨hd, hp⟩ := hx
  refine ⟨⟨l, hll, e2⟩, ?_, ?_, fun W' sp' => ?_⟩
  · have : cs = iv l := by
      cases cs; simp only at e1; subst e1; rfl
    rw [this]
  · rw [hp, e3]
    simp
    try (induction l <;> simp_all)
  · have : d = .agg (l.map fun (c : Nat) => .lit (.int .u8 (c : Int))) := by
      rw [hd, e3, List.map_map]; rfl
    rw [this]
    exact trod_bytes_mk W' 0 sp' l hll e2
end Go.Proofs.Ytommbfgagalckaa
/- Slices of single cells: what they show, and rows of the call's own to which is appended. No program in sight. -/
namespace Go
set_option linter.unusedVariables false
set_option linter.unusedSimpArgs false
theorem Grew.grown {a b c : World} {row : Option Nat} (h : Grew a b) (hg : b.grownBy c row) (hrow : ∀ k, row = some k → a.heap.size ≤ k) : Grew a c := by
  refine Grew.of_below ?_
  have hb := h.below
  exact ⟨hg.os.trans hb.os, hg.tape.trans hb.tape, hg.output.trans hb.output, Nat.le_trans h.size hg.size,
    fun k hk => (hg.block k (Nat.lt_of_lt_of_le hk h.size) (fun e => by have := hrow k e.symm; omega)).trans (h.heap hk)⟩
theorem add_off (b o j : Nat) : (⟨b, o, none⟩ : Addr).add j = ⟨b, o + j, none⟩ := by
  unfold Addr.add
  split <;> simp_all
/-- The slice shows these cells. -/
def Shows (w : World) (v : Value) (xs : List Value) : Prop :=
  (∃ b o c, v = .slice (some ⟨b, o, none⟩) xs.length c ∧ b < w.heap.size ∧ ∀ j u, xs[j]? = some u → w.cell? ⟨b, o + j, none⟩ = some u) ∨ (∃ p c, v = .slice p 0 c ∧ xs = [])
theorem Shows.grew {w w' : World} {v : Value} {xs : List Value} (h : Shows w v xs) (g : Grew w w') : Shows w' v xs := by
  rcases h with ⟨b, o, c, rfl, hb, h⟩ | h
  · exact .inl ⟨b, o, c, rfl, Nat.lt_of_lt_of_le hb g.size, fun j u hj => g.cell (h j u hj)⟩
  · exact .inr h
/-- A row of the call's own, made behind 'base'. -/
def OwnR (w : World) (base : Nat) (e : TypeId) (v : Value) (xs : List Value) : Prop := w.ownsRow base e 1 v xs.length xs
theorem OwnR.nil (w : World) (base : Nat) (e : TypeId) : OwnR w base e (.slice none 0 0) [] := World.ownsRow_nil w base e 1
theorem OwnR.shows {w : World} {base : Nat} {e : TypeId} {v : Value} {xs : List Value} (h : OwnR w base e v xs) : Shows w v xs := by
  rcases h.2 with ⟨rfl, h0⟩ | ⟨g, cap, cur, rfl, hb, hg, hn, hm, hs, ht⟩
  · exact .inr ⟨_, _, rfl, List.length_eq_zero_iff.1 h0⟩
  · refine .inl ⟨g, 0, cap, rfl, (Array.getElem?_eq_some_iff.1 hg).1, fun j u hj => ?_⟩
    have := h.cells (g := g) rfl j u hj
    rw [add_off] at this
    exact this
theorem OwnR.grew {w w' : World} {base : Nat} {e : TypeId} {v : Value} {xs : List Value} (h : OwnR w base e v xs) (g : Grew w w') : OwnR w' base e v xs := by
  refine ⟨h.1, ?_⟩
  rcases h.2 with hn | ⟨b, cap, cur, rfl, hb, hg, rest⟩
  · exact .inl hn
  · exact .inr ⟨b, cap, cur, rfl, hb, (g.heap (Array.getElem?_eq_some_iff.1 hg).1).trans hg, rest⟩
theorem OwnR.base {w : World} {base base' : Nat} {e : TypeId} {v : Value} {xs : List Value} (h : OwnR w base e v xs) (hb : base' ≤ base) : OwnR w base' e v xs := by
  refine ⟨h.1, ?_⟩
  rcases h.2 with hn | ⟨b, cap, cur, rfl, hb', rest⟩
  · exact .inl hn
  · exact .inr ⟨b, cap, cur, rfl, Nat.le_trans hb hb', rest⟩
/-- append, of whatever is shown. -/
theorem run_append_shows {P : Program} (w : World) (base : Nat) (t ty e : TypeId) (i : TypeInfo) (z : Value) (bytes : Nat) (ht : P.underlying t = some (.slice e)) (hi : P.info? e = some i) (hz : i.zero = some z)
    (hsize : i.size = 1) (hby : i.bytes = bytes) (hzs : z.cells.size = 1) (v x : Value) (xs news : List Value) (hown : OwnR w base e v xs) (hx : Shows w x news) (h1 : ∀ u ∈ news, u.oneCell' = true)
    (h63 : xs.length + news.length ≤ maxLen) (hbytes : (xs.length + news.length) * bytes ≤ 140737488355328) (hbase : base ≤ w.heap.size) :
    ∃ v' w', (Builtin.append_ #[t, t] ty #[v, x]).run P w = .ok v' w' ∧ OwnR w' base e v' (xs ++ news) ∧ w.grownBy w' v.ownBlock := by
  have key : ∀ (a : Addr) (c : Nat), (∀ j u, news[j]? = some u → w.cell? (a.add j) = some u) → ∃ v' w', (Builtin.append_ #[t, t] ty #[v, .slice (some a) news.length c]).run P w = .ok v' w' ∧ OwnR w' base e v' (xs ++ news) ∧ w.grownBy w' v.ownBlock := fun a c h => by
    obtain ⟨v', w', hr, h2, h3, _⟩ := run_append_own (P := P) w base t ty e i z 1 bytes ht hi hz hsize hby hzs (by omega) v xs.length xs hown a news.length c news (by omega) h h1 h63 hbytes hbase
    exact ⟨v', w', hr, by unfold OwnR; rw [List.length_append]; exact h2, h3⟩
  rcases hx with ⟨b, o, c, rfl, hb, h⟩ | ⟨p, c, rfl, rfl⟩
  · exact key _ c (fun j u hj => by rw [add_off]; exact h j u hj)
  · cases p with
    | some a => exact key a c (by simp)
    | none =>
      refine ⟨v, w, ?_, by simpa using hown, ⟨rfl, rfl, rfl, Nat.le_refl _, fun _ _ _ => rfl⟩⟩
      rcases hown.2 with ⟨rfl, h0⟩ | ⟨g, cap, cur, rfl, hb, hg, hn, hm, hs, hq⟩
      · simp [Builtin.append_, run_underlying ht, sizeOf, typeInfo, zeroValue, hi, hz, Question.forced, run_firstCells_none, Builtin.lenOf]
      · have hcl : ¬ (cap < xs.length) := by omega
        simp [Builtin.append_, run_underlying ht, sizeOf, typeInfo, zeroValue, hi, hz, Question.forced, run_firstCells_none, Builtin.lenOf, hcl, hn, storeCells]
theorem wpList_append_shows {P : Program} {w : World} {ops : Array Oper} {rest : List Oper} {o : Oper} {a : Act} {Q : Exit → Act → World → Prop} (hgd : o.guard = none) (s x : Operand) (t : TypeId)
    (ho : o.op = .call { callee := .builtin .append, args := #[s, x], argTypes := #[t, t] }) (base : Nat) (e : TypeId) (i : TypeInfo) (z : Value) (bytes : Nat) (ht : P.underlying t = some (.slice e)) (hi : P.info? e = some i) (hz : i.zero = some z)
    (hsize : i.size = 1) (hby : i.bytes = bytes) (hzs : z.cells.size = 1) (v y : Value) (hs : a.eval s = v) (hy : a.eval x = y) (xs news : List Value) (hown : OwnR w base e v xs) (hx : Shows w y news) (h1 : ∀ u ∈ news, u.oneCell' = true)
    (h63 : xs.length + news.length ≤ maxLen) (hbytes : (xs.length + news.length) * bytes ≤ 140737488355328) (hbase : base ≤ w.heap.size)
    (h : ∀ v' w', OwnR w' base e v' (xs ++ news) → w.grownBy w' v.ownBlock → wpList P ops Q rest (a.put o.dst v') w') : wpList P ops Q (o :: rest) a w := by
  obtain ⟨v', w', hr, h2, h3⟩ := run_append_shows (P := P) w base t o.type e i z bytes ht hi hz hsize hby hzs v y xs news hown hx h1 h63 hbytes hbase
  exact Lib.wpList_append_run w hgd s x t t ho v y hs hy v' w' hr (h v' w' h2 h3)
/-- Another row stays. -/
theorem OwnR.kept {w w' : World} {base : Nat} {e : TypeId} {v : Value} {xs : List Value} {row : Option Nat} (h : OwnR w base e v xs) (hg : w.grownBy w' row) (hne : v.ownBlock = none ∨ v.ownBlock ≠ row) : OwnR w' base e v xs :=
  World.ownsRow.kept h hg hne
theorem OwnR.block {w : World} {base : Nat} {e : TypeId} {v : Value} {xs : List Value} (h : OwnR w base e v xs) : ∀ k, v.ownBlock = some k → base ≤ k ∧ k < w.heap.size := World.ownsRow.lt h
/-- What is shown from memory ahead of the row's base stays. -/
theorem Shows.kept {w w' : World} {v : Value} {xs : List Value} {row : Option Nat} (h : Shows w v xs) (hg : w.grownBy w' row) (hne : v.ownBlock = none ∨ v.ownBlock ≠ row) : Shows w' v xs := by
  rcases h with ⟨b, o, c, rfl, hb, h⟩ | h
  · refine .inl ⟨b, o, c, rfl, Nat.lt_of_lt_of_le hb hg.size, fun j u hj => ?_⟩
    have hne' : some b ≠ row := by simpa [Value.ownBlock] using hne
    exact (World.cell?_of_block (hg.block b hb hne')).trans (h j u hj)
  · exact .inr h
end Go
/- Appending to a row of the call's own: one value that was just built; whatever is shown. No program in sight. -/
namespace Go
set_option linter.unusedVariables false
set_option linter.unusedSimpArgs false
open Go.RowKit
theorem shows_one (X : World) (y : Value) (e : TypeId) (c : Nat) : Shows (X.alloc (.cells #[y] e)) (.slice (some ⟨X.heap.size, 0, none⟩) 1 c) [y] := by
  refine .inl ⟨_, _, _, rfl, by simp, fun j u hj => ?_⟩
  cases j with
  | zero =>
    simp only [List.getElem?_cons_zero, Option.some.injEq] at hj
    subst hj
    unfold World.cell?
    rw [show (X.alloc (.cells #[y] e)).heap[X.heap.size]? = some (.cells #[y] e (0, 0)) from heap_alloc_new X _]
    rfl
  | succ j => simp at hj
theorem shows_one_g (X : World) (a : Junk) (y : Value) (e : TypeId) (c : Nat) : Shows ((X.grow a).alloc (.cells #[y] e)) (.slice (some ⟨X.heap.size + a.n, 0, none⟩) 1 c) [y] := by
  have := shows_one (X.grow a) y e c
  rwa [size_grow] at this
theorem shows_one_g2 (X : World) (a b : Junk) (y : Value) (e : TypeId) (c : Nat) : Shows (((X.grow a).grow b).alloc (.cells #[y] e)) (.slice (some ⟨X.heap.size + (⟨a.objs ++ b.objs, b.drawn⟩ : Junk).n, 0, none⟩) 1 c) [y] := by
  rw [grow_grow]; exact shows_one_g X _ y e c
theorem wpList_nil_then {P : Program} {ops : Array Oper} {K : Act → World → Prop} {Q : Exit → Act → World → Prop} {a : Act} {w : World} (h : K a w) : wpList P ops (Exit.then K Q) [] a w := h
/-- append(v, y). -/
theorem wpList_append1 {P : Program} {ops : Array Oper} {rest : List Oper} {o : Oper} {a : Act} {Q : Exit → Act → World → Prop} (hgd : o.guard = none) (s x : Operand) (t : TypeId)
    (ho : o.op = .call { callee := .builtin .append, args := #[s, x], argTypes := #[t, t] }) (e : TypeId) (i : TypeInfo) (z : Value) (bytes : Nat) (ht : P.underlying t = some (.slice e)) (hi : P.info? e = some i) (hz : i.zero = some z)
    (hsize : i.size = 1) (hby : i.bytes = bytes) (hzs : z.cells.size = 1) (w0 X : World) (v y : Value) (hs : a.eval s = v) (hy : a.eval x = .slice (some ⟨X.heap.size, 0, none⟩) 1 1) (xs : List Value) (hg : Grew w0 X) (hown : OwnR X w0.heap.size e v xs) (h1 : y.oneCell' = true)
    (h63 : xs.length + 1 ≤ maxLen) (hbytes : (xs.length + 1) * bytes ≤ 140737488355328)
    (h : ∀ v' w', OwnR w' w0.heap.size e v' (xs ++ [y]) → Grew w0 w' → wpList P ops Q rest (a.put o.dst v') w') : wpList P ops Q (o :: rest) a (X.alloc (.cells #[y] e)) := by
  have hgx : Grew X (X.alloc (.cells #[y] e)) := (Grew.refl X).alloc _
  have hblock := hown.block
  refine wpList_append_shows hgd s x t ho w0.heap.size e i z bytes ht hi hz hsize hby hzs v _ hs hy xs [y] (hown.grew hgx) (shows_one X y e 1) (by simp [h1]) (by simpa using h63) (by simpa using hbytes) (Nat.le_trans hg.size hgx.size) ?_
  intro v' w' ho' hg'
  exact h v' w' ho' ((hg.trans hgx).grown hg' fun k hk => (hblock k hk).1)
/-- append(v, y...). -/
theorem wpList_appends {P : Program} {ops : Array Oper} {rest : List Oper} {o : Oper} {a : Act} {Q : Exit → Act → World → Prop} (hgd : o.guard = none) (s x : Operand) (t : TypeId)
    (ho : o.op = .call { callee := .builtin .append, args := #[s, x], argTypes := #[t, t] }) (e : TypeId) (i : TypeInfo) (z : Value) (bytes : Nat) (ht : P.underlying t = some (.slice e)) (hi : P.info? e = some i) (hz : i.zero = some z)
    (hsize : i.size = 1) (hby : i.bytes = bytes) (hzs : z.cells.size = 1) (w0 X : World) (v y : Value) (hs : a.eval s = v) (hy : a.eval x = y) (xs news : List Value) (hg : Grew w0 X) (hown : OwnR X w0.heap.size e v xs) (hsh : Shows X y news) (h1 : ∀ u ∈ news, u.oneCell' = true)
    (h63 : xs.length + news.length ≤ maxLen) (hbytes : (xs.length + news.length) * bytes ≤ 140737488355328)
    (h : ∀ v' w', OwnR w' w0.heap.size e v' (xs ++ news) → Grew w0 w' → wpList P ops Q rest (a.put o.dst v') w') : wpList P ops Q (o :: rest) a X := by
  have hblock := hown.block
  refine wpList_append_shows hgd s x t ho w0.heap.size e i z bytes ht hi hz hsize hby hzs v _ hs hy xs news hown hsh h1 h63 hbytes hg.size ?_
  intro v' w' ho' hg'
  exact h v' w' ho' (hg.grown hg' fun k hk => (hblock k hk).1)
end Go
/- Regions that draw their order, in which some steps hand back what depends on the world they find (new slices): quiet steps go first as soon as they can; the others go in whatever order, each in whatever world has come meanwhile. No program in sight. -/
namespace Go
set_option linter.unusedVariables false
set_option linter.unusedSimpArgs false
open Go.RowKit
section
variable {P : Program} {ops : Array Oper} {md : Region.Mode}
/-- Whatever order comes, in whatever world has come meanwhile. -/
def wpFlow (P : Program) (md : Region.Mode) (ops : Array Oper) (Q : Exit → Act → World → Prop) : Nat → Array Bool → Act → World → Prop
  | 0, listed, a, w => Region.ready md ops listed = [] ∧ ∀ w', Grew w w' → Q .normal a w'
  | f + 1, listed, a, w =>
    (Region.ready md ops listed = [] → ∀ w', Grew w w' → Q .normal a w') ∧
    ∀ i ∈ Region.ready md ops listed, ∀ w', Grew w w' → wpOp P ops Q i (fun a' w'' => Grew w' w'' ∧ wpFlow P md ops Q f (listed.setIfInBounds i true) a' w'') a w'
theorem wpFlow_mono {Q : Exit → Act → World → Prop} : ∀ (f : Nat) (listed : Array Bool) (a : Act) (w w' : World), Grew w w' → wpFlow P md ops Q f listed a w → wpFlow P md ops Q f listed a w'
  | 0, _, _, _, _, hg, h => ⟨h.1, fun w'' hg' => h.2 w'' (hg.trans hg')⟩
  | f + 1, listed, a, w, w', hg, h => ⟨fun h0 w'' hg' => h.1 h0 w'' (hg.trans hg'), fun i hi w'' hg' => h.2 i hi w'' (hg.trans hg')⟩
theorem wpAny_of_flow {Q : Exit → Act → World → Prop} : ∀ (f : Nat) (listed : Array Bool) (a : Act) (w : World), wpFlow P md ops Q f listed a w → wpAny P md ops Q f listed a w
  | 0, _, _, w, h => ⟨h.1, h.2 w (Grew.refl _)⟩
  | f + 1, listed, a, w, h => ⟨fun h0 => h.1 h0 w (Grew.refl _), fun i hi => wpOp_mono (fun a' w' h' => wpAny_of_flow f _ a' w' h'.2) (h.2 i hi w (Grew.refl _))⟩
theorem GivesIn.sub {H H' : World → Prop} {o : Oper} {v : Value} {a : Act} (hs : ∀ w, H' w → H w) (h : GivesIn P ops H o v a) : GivesIn P ops H' o v a := by
  rcases h with ⟨h1, h2⟩ | h
  · exact .inl ⟨h1, fun w hw => h2 w (hs w hw)⟩
  · exact .inr h
/-- A quiet step goes first. -/
theorem wpFlow_first {i : Nat} {oi : Oper} {v : Value} {Q : Exit → Act → World → Prop} (hQ : ∀ c a w d v, Q (.panic c) (Act.put a d v) w → Q (.panic c) a w)
    (hi : ops[i]? = some oi) (hsel : ∀ (j : Nat) (o : Oper) cs b, ops[j]? = some o → o.op ≠ .select cs b) :
    ∀ (f : Nat) (listed : Array Bool) (a : Act) (w : World),
      (∀ j oj, ops[j]? = some oj → j ≠ i → listed.getD j true = false → (∀ e ∈ oj.after, Region.binds md e = true → e.on ≠ i) → oi.apart ops oj = true) →
      i ∈ Region.ready md ops listed → GivesIn P ops (fun w' => Grew w w') oi v a →
      wpFlow P md ops Q f (listed.setIfInBounds i true) (a.put oi.dst v) w → wpFlow P md ops Q (f + 1) listed a w := by
  have self : ∀ (f : Nat) (listed : Array Bool) (a : Act) (w : World), GivesIn P ops (fun w' => Grew w w') oi v a → wpFlow P md ops Q f (listed.setIfInBounds i true) (a.put oi.dst v) w →
      ∀ w', Grew w w' → wpOp P ops Q i (fun a' w'' => Grew w' w'' ∧ wpFlow P md ops Q f (listed.setIfInBounds i true) a' w'') a w' := fun f listed a w hy Hh w' hg =>
    wpOp_of_gives hi hy hg fun w'' hg' => ⟨hg', wpFlow_mono f _ _ _ _ (hg.trans hg') Hh⟩
  intro f
  induction f with
  | zero =>
    intro listed a w _ hr hy Hh
    refine ⟨fun h => (by rw [h] at hr; cases hr), fun j hj => ?_⟩
    by_cases hji : j = i
    · subst hji; exact self 0 listed a w hy Hh
    · have := ready_mono hj hji
      rw [Hh.1] at this
      cases this
  | succ f ih =>
    intro listed a w hfree hr hy Hh
    refine ⟨fun h => (by rw [h] at hr; cases hr), fun j hj => ?_⟩
    by_cases hji : j = i
    · subst hji; exact self (f + 1) listed a w hy Hh
    · have h1 := Hh.2 j (ready_mono hj hji)
      obtain ⟨hjun, oj, hoj, hall⟩ := mem_ready.1 hj
      have hun := (mem_ready.1 hr).1
      have hnot : ∀ e ∈ oj.after, Region.binds md e = true → e.on ≠ i := fun e he hb heq => by
        have h1 := hall e he hb
        rw [heq, getD_both hun] at h1
        cases h1
      have hfree' : ∀ k ok, ops[k]? = some ok → k ≠ i → (listed.setIfInBounds j true).getD k true = false →
          (∀ e ∈ ok.after, Region.binds md e = true → e.on ≠ i) → oi.apart ops ok = true := fun k ok hk hki hun hno => by
        refine hfree k ok hk hki ?_ hno
        by_cases hjk : j = k
        · subst hjk; exact hjun
        · rw [getD_set_ne true hjk] at hun; exact hun
      have hap := hfree j oj hoj hji hjun hnot
      intro w' hg
      have h2 := wpOp_putG hoj hap (fun cs b => hsel i oi cs b hi) (fun cs b => hsel j oj cs b hoj) hQ hy (h1 w' hg)
      refine wpOp_mono (fun a' w'' h3 => ⟨h3.2.1, ih (listed.setIfInBounds j true) a' w'' hfree' (ready_mono hr (Ne.symm hji)) (h3.1.sub fun x hx => hg.trans (h3.2.1.trans hx)) ?_⟩) h2
      rw [Array.setIfInBounds_comm _ _ hji]
      exact h3.2.2
def Region.flowLex (md : Region.Mode) (ops : Array Oper) : List Nat → Array Bool → Bool
  | [], _ => true
  | k :: ks, listed => (Region.ready md ops listed).contains k && Region.free md ops listed k && Region.flowLex md ops ks (listed.setIfInBounds k true)
theorem wpFlow_lex {Q : Exit → Act → World → Prop} {A : Act} (hQ : ∀ c a w d v, Q (.panic c) (Act.put a d v) w → Q (.panic c) a w) (hsel : Region.noSelect ops = true) {w : World} (f : Nat) :
    ∀ (qs : List Nat) (listed : Array Bool) (a : Act), wpFlow P md ops Q f (Region.listAll listed qs) A w → Region.flowLex md ops qs listed = true → givesAll P ops (fun w' => Grew w w') A qs a → wpFlow P md ops Q (qs.length + f) listed a w
  | [], listed, a, hE, _, h => by
    simp only [givesAll] at h
    subst h
    rw [List.length_nil, Nat.zero_add]
    exact hE
  | k :: qs, listed, a, hE, hB, h => by
    simp only [Region.flowLex, Bool.and_eq_true] at hB
    obtain ⟨⟨hr, hf⟩, hB'⟩ := hB
    obtain ⟨o, d, ho', hd, hy, hk⟩ := h
    have hr' : k ∈ Region.ready md ops listed := by simpa using hr
    rw [List.length_cons, show qs.length + 1 + f = qs.length + f + 1 by omega]
    refine wpFlow_first hQ ho' (Region.noSelect_spec hsel) _ listed a w (Region.free_spec ho' hf) hr' hy ?_
    rw [hd]
    exact wpFlow_lex hQ hsel f qs _ _ hE hB' hk
end
section
variable {P : Program} {l : List Oper} {Q : Exit → Act → World → Prop}
/-- The call in the quiet part of a region's beginning. -/
theorem Calls.pure_of_g3 {f : FuncId} {args : Array Value} {X : World} {a b n : Junk} {v : Value}
    (h : Calls P f args (X.grow ⟨a.objs ++ (b.objs ++ n.objs), n.drawn⟩) fun e w' => e = .returned v ∧ Grew (X.grow ⟨a.objs ++ (b.objs ++ n.objs), n.drawn⟩) w') :
    Calls P f args (X.grow ⟨a.objs ++ (b.objs ++ n.objs), n.drawn⟩) fun e w'' => e = .returned v ∧ ∃ m : Junk, w'' = X.grow ⟨a.objs ++ (b.objs ++ m.objs), m.drawn⟩ :=
  h.mono fun _ _ ⟨he, hm⟩ => ⟨he, by obtain ⟨m, rfl⟩ := hm; exact ⟨⟨n.objs ++ m.objs, m.drawn⟩, by simp [grow_grow, Array.append_assoc]⟩⟩
/-- Quiet steps, in the text's order. -/
theorem wpFlow_quiets (qs : List Nat) {n : Nat} {listed : Array Bool} {a : Act} {w : World} (hn : decide (qs.length ≤ n) = true)
    (hB : (Region.noSelect l.toArray && Region.flowLex .any l.toArray qs listed && envOk qs l.length) = true) (hD : envDsts qs l.toArray a.tmps.size = true)
    (hQ : ∀ c a w d v, Q (.panic c) (Act.put a d v) w → Q (.panic c) a w) (V : Act)
    (hq : ∀ A, Hid (A = V) → ∀ δ', wpQuiet P l.toArray (fun w' => ∃ n, w' = (w.grow δ').grow n) (fun a' => a' = A) (pickOps l qs) a)
    (h : wpFlow P .any l.toArray Q (n - qs.length) (Region.listAll listed qs) V w) : wpFlow P .any l.toArray Q n listed a w := by
  simp only [Bool.and_eq_true] at hB
  obtain ⟨⟨hsel, hlex⟩, hok⟩ := hB
  obtain ⟨f, rfl⟩ : ∃ f, n = qs.length + f := ⟨n - qs.length, by have := of_decide_eq_true hn; omega⟩
  rw [Nat.add_sub_cancel_left] at h
  exact wpFlow_lex hQ hsel f qs listed a h hlex (givesAll_of_quiet (H := fun w' => Grew w w') ⟨w, Grew.refl _⟩ qs (pickOps l qs) a (map_pick l qs hok) hD (fun Y ⟨n, hY⟩ => by subst hY; exact hq V (rfl : V = V) n))
/-- A step of the others. -/
def wpFlowS (P : Program) (l : List Oper) (Q : Exit → Act → World → Prop) (f : Nat) (listed : Array Bool) (k : Nat) (a : Act) (w : World) : Prop :=
  ∀ δ, wpList P l.toArray (Exit.then (fun a' w'' => Grew (w.grow δ) w'' ∧ wpFlow P .any l.toArray Q f (listed.setIfInBounds k true) a' w'') Q) (pickOps l [k]) a (w.grow δ)
theorem wpFlow_of_S {f : Nat} {listed : Array Bool} {a : Act} {w : World} (rs : List Nat) (hr : Region.ready .any l.toArray listed = rs) (hne : rs.isEmpty = false) (hk : envOk rs l.length = true) (h : ∀ k ∈ rs, wpFlowS P l Q f listed k a w) :
    wpFlow P .any l.toArray Q (f + 1) listed a w := by
  refine ⟨fun h0 => (by rw [hr] at h0; rw [h0] at hne; cases hne), fun k hkr w' hg => ?_⟩
  rw [hr] at hkr
  have hlt : k < l.length := by
    unfold envOk at hk
    simpa using List.all_eq_true.1 hk k hkr
  obtain ⟨δ, rfl⟩ := hg
  have h1 := h k hkr δ
  rw [pickOps_cons, pick1_eq l k _ hlt, pickOps_nil] at h1
  unfold wpOp
  simp only [List.getElem?_toArray, List.getElem?_eq_getElem hlt]
  unfold wpList at h1
  split at h1
  · rename_i hw
    rw [if_pos hw]
    rcases h1 with h1 | ⟨h1, a2, w2, h2⟩
    · exact .inl (by
        unfold Oper.wp at *
        generalize (execOp a.eval l[k]).run P (w.grow δ) = r at *
        cases r with
        | ok n w'' =>
          cases n <;> simp only [Oper.upon] at h1 ⊢ <;> first
            | exact h1
            | exact Calls.mono h1 (fun e w'' he => by cases e <;> exact he)
        | halt x w'' => cases x <;> simp only [Oper.upon] at h1 ⊢ <;> exact h1)
    · exact .inr ⟨h1, a2, w2, h2⟩
  · rename_i hw
    rw [if_neg hw]
    exact h1
theorem wpFlow_of_S' {x : Nat} (hx : decide (0 < x) = true) {listed : Array Bool} {a : Act} {w : World} (rs : List Nat) (hr : Region.ready .any l.toArray listed = rs) (hne : rs.isEmpty = false) (hk : envOk rs l.length = true) (h : ∀ k ∈ rs, wpFlowS P l Q (x - 1) listed k a w) :
    wpFlow P .any l.toArray Q x listed a w := by
  obtain ⟨f, rfl⟩ : ∃ f, x = f + 1 := ⟨x - 1, by have := of_decide_eq_true hx; omega⟩
  exact wpFlow_of_S rs hr hne hk h
theorem wpFlowS_intro {f : Nat} {listed : Array Bool} {k : Nat} {a : Act} {w : World} (h : ∀ δ, wpList P l.toArray (Exit.then (fun a' w'' => Grew (w.grow δ) w'' ∧ wpFlow P .any l.toArray Q f (listed.setIfInBounds k true) a' w'') Q) (pickOps l [k]) a (w.grow δ)) : wpFlowS P l Q f listed k a w := h
theorem wpFlow_one {x : Nat} {listed : Array Bool} {a : Act} {w : World} (k : Nat) (hx : decide (0 < x) = true) (hr : Region.ready .any l.toArray listed = [k]) (hk : envOk [k] l.length = true) (h : wpFlowS P l Q (x - 1) listed k a w) :
    wpFlow P .any l.toArray Q x listed a w := wpFlow_of_S' hx [k] hr rfl hk (by intro i hi; simp only [List.mem_singleton] at hi; subst hi; exact h)
theorem wpFlow_two {x : Nat} {listed : Array Bool} {a : Act} {w : World} (k m : Nat) (hx : decide (0 < x) = true) (hr : Region.ready .any l.toArray listed = [k, m]) (hk : envOk [k, m] l.length = true) (h : wpFlowS P l Q (x - 1) listed k a w) (h2 : wpFlowS P l Q (x - 1) listed m a w) :
    wpFlow P .any l.toArray Q x listed a w := wpFlow_of_S' hx [k, m] hr rfl hk (by
  intro i hi; simp only [List.mem_cons, List.not_mem_nil, or_false] at hi
  rcases hi with rfl | rfl
  · exact h
  · exact h2)
theorem wpFlow_three {x : Nat} {listed : Array Bool} {a : Act} {w : World} (k m n : Nat) (hx : decide (0 < x) = true) (hr : Region.ready .any l.toArray listed = [k, m, n]) (hk : envOk [k, m, n] l.length = true) (h : wpFlowS P l Q (x - 1) listed k a w) (h2 : wpFlowS P l Q (x - 1) listed m a w) (h3 : wpFlowS P l Q (x - 1) listed n a w) :
    wpFlow P .any l.toArray Q x listed a w := wpFlow_of_S' hx [k, m, n] hr rfl hk (by
  intro i hi; simp only [List.mem_cons, List.not_mem_nil, or_false] at hi
  rcases hi with rfl | rfl | rfl
  · exact h
  · exact h2
  · exact h3)
theorem wpFlow_end {x : Nat} {listed : Array Bool} {a : Act} {w : World} (hx : decide (x = 0) = true) (hr : (Region.ready .any l.toArray listed).isEmpty = true) (h : ∀ δ, Q .normal a (w.grow δ)) : wpFlow P .any l.toArray Q x listed a w := by
  obtain rfl := of_decide_eq_true hx
  exact ⟨by simpa using hr, fun w' ⟨δ, h'⟩ => h' ▸ h δ⟩
theorem wp_region_flow {id : Nat} {a : Act} {w : World} (hm : P.follows .mixedOrders = true) (h : ∀ δ, wpFlow P .any l.toArray Q l.length (Array.replicate l.length false) a (w.grow δ)) : (Code.region id l.toArray true).wp P Q a w := by
  refine wp_region_any hm (wpAny_of_flow _ _ _ _ ?_)
  have h1 := h ⟨#[], w.drawn + 1⟩
  rw [← drew_is_grow] at h1
  simpa using h1
end
end Go
/- As Flow, where the last steps may write into what is the call's own: those wait for all quiet steps. No program in sight. -/
namespace Go
set_option linter.unusedVariables false
set_option linter.unusedSimpArgs false
open Go.RowKit
section
variable {P : Program} {ops : Array Oper} {md : Region.Mode} {esc : List Nat}
/-- Whatever order comes, in whatever world has come meanwhile; behind a step of 'esc' in just the world that it leaves. -/
def wpFlowX (P : Program) (md : Region.Mode) (ops : Array Oper) (esc : List Nat) (Q : Exit → Act → World → Prop) : Nat → Array Bool → Act → World → Prop
  | 0, listed, a, w => Region.ready md ops listed = [] ∧ ∀ w', Grew w w' → Q .normal a w'
  | f + 1, listed, a, w =>
    (Region.ready md ops listed = [] → ∀ w', Grew w w' → Q .normal a w') ∧
    ∀ i ∈ Region.ready md ops listed, ∀ w', Grew w w' → wpOp P ops Q i (fun a' w'' => if esc.contains i then wpAny P md ops Q f (listed.setIfInBounds i true) a' w'' else Grew w' w'' ∧ wpFlowX P md ops esc Q f (listed.setIfInBounds i true) a' w'') a w'
theorem wpFlowX_mono {Q : Exit → Act → World → Prop} : ∀ (f : Nat) (listed : Array Bool) (a : Act) (w w' : World), Grew w w' → wpFlowX P md ops esc Q f listed a w → wpFlowX P md ops esc Q f listed a w'
  | 0, _, _, _, _, hg, h => ⟨h.1, fun w'' hg' => h.2 w'' (hg.trans hg')⟩
  | f + 1, listed, a, w, w', hg, h => ⟨fun h0 w'' hg' => h.1 h0 w'' (hg.trans hg'), fun i hi w'' hg' => h.2 i hi w'' (hg.trans hg')⟩
theorem wpAny_of_flowX {Q : Exit → Act → World → Prop} : ∀ (f : Nat) (listed : Array Bool) (a : Act) (w : World), wpFlowX P md ops esc Q f listed a w → wpAny P md ops Q f listed a w
  | 0, _, _, w, h => ⟨h.1, h.2 w (Grew.refl _)⟩
  | f + 1, listed, a, w, h => ⟨fun h0 => h.1 h0 w (Grew.refl _), fun i hi => wpOp_mono (fun a' w' h' => by
      split at h'
      · exact h'
      · exact wpAny_of_flowX f _ a' w' h'.2) (h.2 i hi w (Grew.refl _))⟩
/-- A quiet step goes first. -/
theorem wpFlowX_first {i : Nat} {oi : Oper} {v : Value} {Q : Exit → Act → World → Prop} (hQ : ∀ c a w d v, Q (.panic c) (Act.put a d v) w → Q (.panic c) a w)
    (hi : ops[i]? = some oi) (hsel : ∀ (j : Nat) (o : Oper) cs b, ops[j]? = some o → o.op ≠ .select cs b) (hne : esc.contains i = false) (hwait : ∀ t ∈ esc, Region.waitsT md ops ops.size t i = true) :
    ∀ (f : Nat) (listed : Array Bool) (a : Act) (w : World), ClosedL md ops listed →
      (∀ j oj, ops[j]? = some oj → j ≠ i → listed.getD j true = false → (∀ e ∈ oj.after, Region.binds md e = true → e.on ≠ i) → oi.apart ops oj = true) →
      i ∈ Region.ready md ops listed → GivesIn P ops (fun w' => Grew w w') oi v a →
      wpFlowX P md ops esc Q f (listed.setIfInBounds i true) (a.put oi.dst v) w → wpFlowX P md ops esc Q (f + 1) listed a w := by
  have self : ∀ (f : Nat) (listed : Array Bool) (a : Act) (w : World), GivesIn P ops (fun w' => Grew w w') oi v a → wpFlowX P md ops esc Q f (listed.setIfInBounds i true) (a.put oi.dst v) w →
      ∀ w', Grew w w' → wpOp P ops Q i (fun a' w'' => if esc.contains i then wpAny P md ops Q f (listed.setIfInBounds i true) a' w'' else Grew w' w'' ∧ wpFlowX P md ops esc Q f (listed.setIfInBounds i true) a' w'') a w' := fun f listed a w hy Hh w' hg => by
    simp only [hne, Bool.false_eq_true, if_false]
    exact wpOp_of_gives hi hy hg fun w'' hg' => ⟨hg', wpFlowX_mono f _ _ _ _ (hg.trans hg') Hh⟩
  intro f
  induction f with
  | zero =>
    intro listed a w _ _ hr hy Hh
    refine ⟨fun h => (by rw [h] at hr; cases hr), fun j hj => ?_⟩
    by_cases hji : j = i
    · subst hji; exact self 0 listed a w hy Hh
    · have := ready_mono hj hji
      rw [Hh.1] at this
      cases this
  | succ f ih =>
    intro listed a w inv hfree hr hy Hh
    refine ⟨fun h => (by rw [h] at hr; cases hr), fun j hj => ?_⟩
    by_cases hji : j = i
    · subst hji; exact self (f + 1) listed a w hy Hh
    · have h1 := Hh.2 j (ready_mono hj hji)
      obtain ⟨hjun, oj, hoj, hall⟩ := mem_ready.1 hj
      have hun := (mem_ready.1 hr).1
      have hesc : esc.contains j = false := by
        cases he : esc.contains j with
        | false => rfl
        | true =>
          have h2 := inv.ready_waits hj (hwait j (by simpa using he))
          rw [getD_both hun] at h2
          cases h2
      have hnot : ∀ e ∈ oj.after, Region.binds md e = true → e.on ≠ i := fun e he hb heq => by
        have h1 := hall e he hb
        rw [heq, getD_both hun] at h1
        cases h1
      have hfree' : ∀ k ok, ops[k]? = some ok → k ≠ i → (listed.setIfInBounds j true).getD k true = false →
          (∀ e ∈ ok.after, Region.binds md e = true → e.on ≠ i) → oi.apart ops ok = true := fun k ok hk hki hun hno => by
        refine hfree k ok hk hki ?_ hno
        by_cases hjk : j = k
        · subst hjk; exact hjun
        · rw [getD_set_ne true hjk] at hun; exact hun
      have hap := hfree j oj hoj hji hjun hnot
      intro w' hg
      simp only [hesc, Bool.false_eq_true, if_false] at h1 ⊢
      have h2 := wpOp_putG hoj hap (fun cs b => hsel i oi cs b hi) (fun cs b => hsel j oj cs b hoj) hQ hy (h1 w' hg)
      refine wpOp_mono (fun a' w'' h3 => ⟨h3.2.1, ih (listed.setIfInBounds j true) a' w'' (inv.set hj) hfree' (ready_mono hr (Ne.symm hji)) (h3.1.sub fun x hx => hg.trans (h3.2.1.trans hx)) ?_⟩) h2
      rw [Array.setIfInBounds_comm _ _ hji]
      exact h3.2.2
def Region.closedB (md : Region.Mode) (ops : Array Oper) (listed : Array Bool) : Bool :=
  (List.range ops.size).all fun j => !listed.getD j false || match ops[j]? with | some o => o.after.all fun e => !Region.binds md e || listed.getD e.on false | none => true
theorem closed_of_B {listed : Array Bool} (h : Region.closedB md ops listed = true) : ClosedL md ops listed := by
  intro j oj hoj hl e he hb
  have hj : j < ops.size := (Array.getElem?_eq_some_iff.1 hoj).1
  have h1 := List.all_eq_true.1 h j (by simpa using hj)
  simp only [hl, hoj, Bool.not_true, Bool.false_or] at h1
  have h2 := (Array.all_eq_true'.1 h1) e he
  simpa [hb] using h2
def Region.flowLexX (md : Region.Mode) (ops : Array Oper) (esc : List Nat) : List Nat → Array Bool → Bool
  | [], _ => true
  | k :: ks, listed => (Region.ready md ops listed).contains k && Region.free md ops listed k && !esc.contains k && (esc.all fun t => Region.waitsT md ops ops.size t k) && Region.flowLexX md ops esc ks (listed.setIfInBounds k true)
theorem wpFlowX_lex {Q : Exit → Act → World → Prop} {A : Act} (hQ : ∀ c a w d v, Q (.panic c) (Act.put a d v) w → Q (.panic c) a w) (hsel : Region.noSelect ops = true) {w : World} (f : Nat) :
    ∀ (qs : List Nat) (listed : Array Bool) (a : Act), ClosedL md ops listed → wpFlowX P md ops esc Q f (Region.listAll listed qs) A w → Region.flowLexX md ops esc qs listed = true → givesAll P ops (fun w' => Grew w w') A qs a → wpFlowX P md ops esc Q (qs.length + f) listed a w
  | [], listed, a, _, hE, _, h => by
    simp only [givesAll] at h
    subst h
    rw [List.length_nil, Nat.zero_add]
    exact hE
  | k :: qs, listed, a, inv, hE, hB, h => by
    simp only [Region.flowLexX, Bool.and_eq_true] at hB
    obtain ⟨⟨⟨⟨hr, hf⟩, hne⟩, hw⟩, hB'⟩ := hB
    obtain ⟨o, d, ho', hd, hy, hk⟩ := h
    have hr' : k ∈ Region.ready md ops listed := by simpa using hr
    rw [List.length_cons, show qs.length + 1 + f = qs.length + f + 1 by omega]
    refine wpFlowX_first hQ ho' (Region.noSelect_spec hsel) (by simpa using hne) (fun t ht => List.all_eq_true.1 hw t ht) _ listed a w inv (Region.free_spec ho' hf) hr' hy ?_
    rw [hd]
    exact wpFlowX_lex hQ hsel f qs _ _ (inv.set hr') hE hB' hk
end
section
variable {P : Program} {l : List Oper} {Q : Exit → Act → World → Prop} {esc : List Nat}
/-- The call in the quiet part of a region's beginning, behind a call before. -/
theorem Calls.pure_of_g4 {f : FuncId} {args : Array Value} {X : World} {a b c n : Junk} {v : Value}
    (h : Calls P f args (X.grow ⟨a.objs ++ (b.objs ++ (c.objs ++ n.objs)), n.drawn⟩) fun e w' => e = .returned v ∧ Grew (X.grow ⟨a.objs ++ (b.objs ++ (c.objs ++ n.objs)), n.drawn⟩) w') :
    Calls P f args (X.grow ⟨a.objs ++ (b.objs ++ (c.objs ++ n.objs)), n.drawn⟩) fun e w'' => e = .returned v ∧ ∃ m : Junk, w'' = X.grow ⟨a.objs ++ (b.objs ++ (c.objs ++ m.objs)), m.drawn⟩ :=
  h.mono fun _ _ ⟨he, hm⟩ => ⟨he, by obtain ⟨m, rfl⟩ := hm; exact ⟨⟨n.objs ++ m.objs, m.drawn⟩, by simp [grow_grow, Array.append_assoc]⟩⟩
theorem wpFlowX_quiets (qs : List Nat) {n : Nat} {listed : Array Bool} {a : Act} {w : World} (hn : decide (qs.length ≤ n) = true)
    (hB : (Region.noSelect l.toArray && Region.flowLexX .any l.toArray esc qs listed && envOk qs l.length && Region.closedB .any l.toArray listed) = true) (hD : envDsts qs l.toArray a.tmps.size = true)
    (hQ : ∀ c a w d v, Q (.panic c) (Act.put a d v) w → Q (.panic c) a w) (V : Act)
    (hq : ∀ A, Hid (A = V) → ∀ δ', wpQuiet P l.toArray (fun w' => ∃ n, w' = (w.grow δ').grow n) (fun a' => a' = A) (pickOps l qs) a)
    (h : wpFlowX P .any l.toArray esc Q (n - qs.length) (Region.listAll listed qs) V w) : wpFlowX P .any l.toArray esc Q n listed a w := by
  simp only [Bool.and_eq_true] at hB
  obtain ⟨⟨⟨hsel, hlex⟩, hok⟩, hcl⟩ := hB
  obtain ⟨f, rfl⟩ : ∃ f, n = qs.length + f := ⟨n - qs.length, by have := of_decide_eq_true hn; omega⟩
  rw [Nat.add_sub_cancel_left] at h
  exact wpFlowX_lex hQ hsel f qs listed a (closed_of_B hcl) h hlex (givesAll_of_quiet (H := fun w' => Grew w w') ⟨w, Grew.refl _⟩ qs (pickOps l qs) a (map_pick l qs hok) hD (fun Y ⟨n, hY⟩ => by subst hY; exact hq V (rfl : V = V) n))
theorem wpOp_of_list {k : Nat} (hlt : k < l.length) {K : Act → World → Prop} {a : Act} {w : World} (h1 : wpList P l.toArray (Exit.then K Q) (pickOps l [k]) a w) : wpOp P l.toArray Q k K a w := by
  rw [pickOps_cons, pick1_eq l k _ hlt, pickOps_nil] at h1
  unfold wpOp
  simp only [List.getElem?_toArray, List.getElem?_eq_getElem hlt]
  unfold wpList at h1
  split at h1
  · rename_i hw
    rw [if_pos hw]
    rcases h1 with h1 | ⟨h1, a2, w2, h2⟩
    · exact .inl (by
        unfold Oper.wp at *
        generalize (execOp a.eval l[k]).run P w = r at *
        cases r with
        | ok n w'' =>
          cases n <;> simp only [Oper.upon] at h1 ⊢ <;> first
            | exact h1
            | exact Calls.mono h1 (fun e w'' he => by cases e <;> exact he)
        | halt x w'' => cases x <;> simp only [Oper.upon] at h1 ⊢ <;> exact h1)
    · exact .inr ⟨h1, a2, w2, h2⟩
  · rename_i hw
    rw [if_neg hw]
    exact h1
/-- The one step that is ready. -/
theorem wpFlowX_one {x : Nat} {listed : Array Bool} {a : Act} {w : World} (k : Nat) (hx : decide (0 < x) = true) (hr : Region.ready .any l.toArray listed = [k]) (hk : decide (k < l.length) = true) (he : esc.contains k = false)
    (h : ∀ δ, wpList P l.toArray (Exit.then (fun a' w'' => Grew (w.grow δ) w'' ∧ wpFlowX P .any l.toArray esc Q (x - 1) (listed.setIfInBounds k true) a' w'') Q) (pickOps l [k]) a (w.grow δ)) : wpFlowX P .any l.toArray esc Q x listed a w := by
  obtain ⟨f, rfl⟩ : ∃ f, x = f + 1 := ⟨x - 1, by have := of_decide_eq_true hx; omega⟩
  refine ⟨fun h0 => (by rw [hr] at h0; cases h0), fun i hi w' hg => ?_⟩
  rw [hr, List.mem_singleton] at hi
  subst hi
  obtain ⟨δ, rfl⟩ := hg
  simp only [he, Bool.false_eq_true, if_false]
  exact wpOp_of_list (of_decide_eq_true hk) (h δ)
/-- One of two steps that are ready, in some world behind. -/
def wpFlowXS (P : Program) (l : List Oper) (esc : List Nat) (Q : Exit → Act → World → Prop) (x : Nat) (listed : Array Bool) (k : Nat) (a : Act) (w : World) : Prop :=
  ∀ δ, wpList P l.toArray (Exit.then (fun a' w'' => Grew (w.grow δ) w'' ∧ wpFlowX P .any l.toArray esc Q x (listed.setIfInBounds k true) a' w'') Q) (pickOps l [k]) a (w.grow δ)
theorem wpFlowX_two {x : Nat} {listed : Array Bool} {a : Act} {w : World} (k m : Nat) (hx : decide (0 < x) = true) (hr : Region.ready .any l.toArray listed = [k, m]) (hk : decide (k < l.length ∧ m < l.length) = true) (he : (esc.contains k || esc.contains m) = false)
    (h1 : wpFlowXS P l esc Q (x - 1) listed k a w) (h2 : wpFlowXS P l esc Q (x - 1) listed m a w) : wpFlowX P .any l.toArray esc Q x listed a w := by
  obtain ⟨f, rfl⟩ : ∃ f, x = f + 1 := ⟨x - 1, by have := of_decide_eq_true hx; omega⟩
  have hk := of_decide_eq_true hk
  simp only [Bool.or_eq_false_iff] at he
  refine ⟨fun h0 => (by rw [hr] at h0; cases h0), fun i hi w' hg => ?_⟩
  rw [hr] at hi
  simp only [List.mem_cons, List.not_mem_nil, or_false] at hi
  obtain ⟨δ, rfl⟩ := hg
  rcases hi with rfl | rfl
  · simp only [he.1, Bool.false_eq_true, if_false]
    exact wpOp_of_list hk.1 (h1 δ)
  · simp only [he.2, Bool.false_eq_true, if_false]
    exact wpOp_of_list hk.2 (h2 δ)
/-- A step that writes into what is the call's own: behind it nothing comes meanwhile. -/
theorem wpFlowX_esc {x : Nat} {listed : Array Bool} {a : Act} {w : World} (k : Nat) (hx : decide (0 < x) = true) (hr : Region.ready .any l.toArray listed = [k]) (hk : decide (k < l.length) = true) (he : esc.contains k = true)
    (h : ∀ δ, wpList P l.toArray (Exit.then (fun a' w'' => wpAny P .any l.toArray Q (x - 1) (listed.setIfInBounds k true) a' w'') Q) (pickOps l [k]) a (w.grow δ)) : wpFlowX P .any l.toArray esc Q x listed a w := by
  obtain ⟨f, rfl⟩ : ∃ f, x = f + 1 := ⟨x - 1, by have := of_decide_eq_true hx; omega⟩
  refine ⟨fun h0 => (by rw [hr] at h0; cases h0), fun i hi w' hg => ?_⟩
  rw [hr, List.mem_singleton] at hi
  subst hi
  obtain ⟨δ, rfl⟩ := hg
  simp only [he, if_true]
  exact wpOp_of_list (of_decide_eq_true hk) (h δ)
theorem wpAny_one {x : Nat} {listed : Array Bool} {a : Act} {w : World} (k : Nat) (hx : decide (0 < x) = true) (hr : Region.ready .any l.toArray listed = [k]) (hk : decide (k < l.length) = true)
    (h : wpList P l.toArray (Exit.then (fun a' w'' => wpAny P .any l.toArray Q (x - 1) (listed.setIfInBounds k true) a' w'') Q) (pickOps l [k]) a w) : wpAny P .any l.toArray Q x listed a w := by
  obtain ⟨f, rfl⟩ : ∃ f, x = f + 1 := ⟨x - 1, by have := of_decide_eq_true hx; omega⟩
  refine ⟨fun h0 => (by rw [hr] at h0; cases h0), fun i hi => ?_⟩
  rw [hr, List.mem_singleton] at hi
  subst hi
  exact wpOp_of_list (of_decide_eq_true hk) h
theorem wpAny_end {x : Nat} {listed : Array Bool} {a : Act} {w : World} (hx : decide (x = 0) = true) (hr : (Region.ready .any l.toArray listed).isEmpty = true) (h : Q .normal a w) : wpAny P .any l.toArray Q x listed a w := by
  obtain rfl := of_decide_eq_true hx
  exact ⟨by simpa using hr, h⟩
theorem wp_region_flowX (esc : List Nat) {id : Nat} {a : Act} {w : World} (hm : P.follows .mixedOrders = true) (h : ∀ δ, wpFlowX P .any l.toArray esc Q l.length (Array.replicate l.length false) a (w.grow δ)) : (Code.region id l.toArray true).wp P Q a w := by
  refine wp_region_any hm (wpAny_of_flowX (esc := esc) _ _ _ _ ?_)
  have h1 := h ⟨#[], w.drawn + 1⟩
  rw [← drew_is_grow] at h1
  simpa using h1
end
end Go
/- The world of a goal made opaque. -/
namespace Go.Proofs.Ytommbfgagalckaa
set_option linter.unusedVariables false
set_option linter.unusedSimpArgs false
open Go.RowKit
theorem wpList_abs {P : Program} {ops : Array Oper} {Q : Exit → Act → World → Prop} {l : List Oper} {a : Act} {X : World} (h : ∀ Y, Y = X → wpList P ops Q l a Y) : wpList P ops Q l a X := h X rfl
theorem Calls_abs {P : Program} {f : FuncId} {args : Array Value} {X : World} {R : Ending → World → Prop} (h : ∀ Y, Y = X → Calls P f args Y R) : Calls P f args X R := h X rfl
theorem code_abs {P : Program} {c : Code} {Q : Exit → Act → World → Prop} {a : Act} {X : World} (h : ∀ Y, Y = X → Code.wp P c Q a Y) : Code.wp P c Q a X := h X rfl
theorem exit_abs {Q : Exit → Act → World → Prop} {e : Exit} {a : Act} {X : World} (h : ∀ Y, Y = X → Q e a Y) : Q e a X := h X rfl
theorem flow_abs {P : Program} {md : Region.Mode} {ops : Array Oper} {Q : Exit → Act → World → Prop} {f : Nat} {li : Array Bool} {a : Act} {X : World} (h : ∀ Y, Y = X → wpFlow P md ops Q f li a Y) : wpFlow P md ops Q f li a X := h X rfl
theorem envR_abs {P : Program} {md : Region.Mode} {ops : Array Oper} {H : World → Prop} {Q : Exit → Act → World → Prop} {f : Nat} {li : Array Bool} {a : Act} {X : World} (h : ∀ Y, Y = X → wpEnvR P md ops H Q f li a Y) : wpEnvR P md ops H Q f li a X := h X rfl
theorem flowX_abs {P : Program} {md : Region.Mode} {ops : Array Oper} {esc : List Nat} {Q : Exit → Act → World → Prop} {f : Nat} {li : Array Bool} {a : Act} {X : World} (h : ∀ Y, Y = X → wpFlowX P md ops esc Q f li a Y) : wpFlowX P md ops esc Q f li a X := h X rfl
end Go.Proofs.Ytommbfgagalckaa
/- A row of the call's own, opened and built. No program in sight. -/
namespace Go.Proofs.Ytommbfgagalckaa
set_option linter.unusedVariables false
set_option linter.unusedSimpArgs false
open Go.RowKit
theorem own_frozen {w : World} {base g n cap : Nat} {e : TypeId} {xs : List Value} (h : OwnR w base e (.slice (some ⟨g, 0, none⟩) n cap) xs) (j : Nat) : w.frozen? ⟨g, j, none⟩ = false := by
  rcases h.2 with ⟨h', _⟩ | ⟨g', cap', cur, h', hb, hg, _⟩
  · simp at h'
  · simp only [Value.slice.injEq, Option.some.injEq, Addr.mk.injEq, and_true, true_and] at h'
    obtain ⟨rfl, _⟩ := h'
    simp [World.frozen?, hg]
theorem own_cell {w : World} {base g n cap : Nat} {e : TypeId} {xs : List Value} (h : OwnR w base e (.slice (some ⟨g, 0, none⟩) n cap) xs) (j : Nat) (hj : j < xs.length) : w.cell? ⟨g, j, none⟩ = some xs[j] := by
  have := h.cells (g := g) rfl j xs[j] (by simp [hj])
  rw [add_off, Nat.zero_add] at this
  exact this
theorem own_stored {w : World} {base g n cap : Nat} {e : TypeId} {xs : List Value} (h : OwnR w base e (.slice (some ⟨g, 0, none⟩) n cap) xs) (j : Nat) (u : Value) :
    OwnR (w.setCell ⟨g, j, none⟩ u) base e (.slice (some ⟨g, 0, none⟩) n cap) (xs.set j u) ∧ w.grownBy (w.setCell ⟨g, j, none⟩ u) (some g) := by
  rcases h.2 with ⟨h', _⟩ | ⟨g', cap', cur, h', hb, hg, hn, _⟩
  · simp at h'
  · have hlen : n = xs.length := by simp only [Value.slice.injEq] at h'; omega
    subst hlen
    have := World.ownsRow.stored h j u
    exact ⟨by unfold OwnR; rw [List.length_set]; exact this.1, this.2⟩
/-- A row of the call's own, opened. -/
theorem own_form {w : World} {base : Nat} {e : TypeId} {v : Value} {xs : List Value} (h : OwnR w base e v xs) (hne : 0 < xs.length) :
    ∃ g cap, v = .slice (some ⟨g, 0, none⟩) xs.length cap ∧ base ≤ g ∧ g < w.heap.size ∧ xs.length ≤ cap ∧ cap ≤ maxLen ∧ ∀ j, j < xs.length → w.cell? ⟨g, j, none⟩ = xs[j]? := by
  have h' := h
  rcases h.2 with ⟨rfl, h0⟩ | ⟨g, cap, cur, rfl, hb, hg, hn, hm, _, _⟩
  · omega
  · exact ⟨g, cap, rfl, hb, (Array.getElem?_eq_some_iff.1 hg).1, hn, hm, fun j hj => by rw [own_cell h' j hj, List.getElem?_eq_getElem hj]⟩
theorem own_alloc (w : World) (base : Nat) (e : TypeId) (xs : List Value) (hb : base ≤ w.heap.size) (hl : xs.length ≤ maxLen) : OwnR (w.alloc (.cells xs.toArray e)) base e (.slice (some ⟨w.heap.size, 0, none⟩) xs.length xs.length) xs :=
  ⟨by simp, .inr ⟨_, _, xs.toArray, rfl, hb, heap_alloc_new w _, Nat.le_refl _, hl, by simp, by simp⟩⟩
theorem own_alloc_g (X : World) (a : Junk) (base : Nat) (e : TypeId) (xs : List Value) (hb : base ≤ X.heap.size) (hl : xs.length ≤ maxLen) : OwnR ((X.grow a).alloc (.cells xs.toArray e)) base e (.slice (some ⟨X.heap.size + a.n, 0, none⟩) xs.length xs.length) xs := by
  have := own_alloc (X.grow a) base e xs (by rw [size_grow]; omega) hl
  rwa [size_grow] at this
end Go.Proofs.Ytommbfgagalckaa
/- slices.Grow, slices.Concat of bytes. -/
namespace Go.Proofs.Ytommbfgagalckaa
set_option linter.unusedVariables false
set_option linter.unusedSimpArgs false
open Go.RowKit
/-- The cells of bytes. -/
def bys (l : List Nat) : List Value := l.map fun (c : Nat) => Value.int .u8 (c : Int)
theorem bys_len (l : List Nat) : (bys l).length = l.length := by simp [bys]
theorem bys_append (l m : List Nat) : bys (l ++ m) = bys l ++ bys m := by simp [bys]
theorem bys_one (l : List Nat) : ∀ x ∈ bys l, x.oneCell' = true := by
  intro x hx
  obtain ⟨c, _, rfl⟩ := List.mem_map.1 hx
  rfl
theorem under_bs : Try.prog.underlying 30 = some (.slice 5) := by kernel_rfl
set_option maxRecDepth 100000 in
theorem info_b : ∃ i, Try.prog.info? 5 = some i ∧ i.zero = some (.int .u8 0) ∧ i.size = 1 ∧ i.bytes = 1 := by
  refine ⟨_, rfl, ?_, ?_, ?_⟩ <;> kernel_rfl
set_option maxRecDepth 100000 in
set_option maxHeartbeats 1600000 in
theorem grow_w (n : Nat) (hn : n ≤ 1099511627776) (w : World) :
    Calls Try.prog 56 #[.slice none 0 0, .int .i64 (n : Int)] w fun e w' => ∃ v, e = .returned v ∧ OwnR w' w.heap.size 5 v [] ∧ Grew w w' := by
  obtain ⟨i, hi, hz, hs, hb⟩ := info_b
  by_cases h0 : n = 0
  · subst h0
    go_enter Try.func56, Try.ntmps56
    go_wp2
    go_ret
    exact ⟨_, rfl, OwnR.nil _ _ _, (by repeat (first | with_reducible exact Grew.refl _ | with_reducible apply Grew.alloc | with_reducible apply Grew.grow | with_reducible apply Grew.drew | with_reducible apply Grew.drewN))⟩
  · have h1 : ¬ ((n : Int) < 0) := by omega
    have h2 : 0 < (n : Int) := by omega
    have hr := fun w => Lib.run_append_nil_zeros (P := Try.prog) w 30 3 30 5 i (.int .u8 0) .i64 .i64 under_bs (by kernel_rfl) hi hz n (by omega) (by omega) (by omega) (by rw [hb]; omega)
    go_enter Try.func56, Try.ntmps56
    go_wp2_with (at_builtin; refine Lib.wpList_append_run _ rfl _ _ _ _ rfl _ _ rfl rfl _ _ (hr _) ?_)
    go_ret
    have hcap := grownCap_ge w n 0 5
    have hmax := grownCap_le_maxLen w n 0 5 (by simp only [maxLen]; omega)
    exact ⟨_, rfl, ⟨rfl, .inr ⟨_, _, _, rfl, Nat.le_refl _, heap_alloc_new w _, Nat.zero_le _, hmax, by simp [Builtin.zeroCells, Value.cells]; omega, rfl⟩⟩, (by repeat (first | with_reducible exact Grew.refl _ | with_reducible apply Grew.alloc | with_reducible apply Grew.grow | with_reducible apply Grew.drew | with_reducible apply Grew.drewN))⟩
def catk (ls : List (List Nat)) (k : Nat) : List Nat := (ls.take k).flatten
theorem catk_0 (ls : List (List Nat)) : catk ls 0 = [] := by simp [catk]
theorem catk_succ (ls : List (List Nat)) (k : Nat) (h : k < ls.length) : catk ls (k + 1) = catk ls k ++ ls.getD k [] := by
  unfold catk
  rw [List.take_add_one, List.flatten_append]
  congr 1
  simp [List.getD, h]
theorem catk_all (ls : List (List Nat)) : catk ls ls.length = ls.flatten := by simp [catk]
theorem catk_le (ls : List (List Nat)) (k : Nat) : (catk ls k).length ≤ ls.flatten.length := by
  unfold catk
  conv => rhs; rw [← List.take_append_drop k ls]
  rw [List.flatten_append, List.length_append]
  omega
theorem catk_len (ls : List (List Nat)) (k : Nat) (h : k < ls.length) : (catk ls (k + 1)).length = (catk ls k).length + (ls.getD k []).length := by rw [catk_succ ls k h, List.length_append]
theorem shows_form {w : World} {v : Value} {xs : List Value} (h : Shows w v xs) : ∃ p c, v = .slice p xs.length c := by
  rcases h with ⟨b, o, c, rfl, _⟩ | ⟨p, c, rfl, rfl⟩
  · exact ⟨_, _, rfl⟩
  · exact ⟨_, _, rfl⟩
/-- Here the walk halts. -/
def Stop (p : Prop) : Prop := p
theorem stop_of {p : Prop} (h : Stop p) : p := h
set_option maxRecDepth 100000 in
set_option maxHeartbeats 1600000 in
theorem concat_w (ls : List (List Nat)) (vs : List Value) (lv : Value) (w : World) (hvs : vs.length = ls.length) (hl : Shows w lv vs)
    (hs : ∀ k, k < ls.length → Shows w (vs.getD k undef) (bys (ls.getD k []))) (hN : ls.flatten.length ≤ 1099511627776) (hL : ls.length ≤ 1099511627776) :
    Calls Try.prog 30 #[lv] w fun e w' => ∃ v, e = .returned v ∧ OwnR w' w.heap.size 5 v (bys ls.flatten) ∧ Grew w w' := by
  obtain ⟨i, hi, hz, hsz, hby⟩ := info_b
  rcases hl with ⟨b, o, c, rfl, hb, hc⟩ | ⟨p0, c0, rfl, h0⟩
  · have HC := Lib.hid hc
    have HS := Lib.hid hs
    have HV := Lib.hid hvs
    rw [hvs]
    clear hc hs hvs
    go_enter Try.func30, Try.ntmps30
    go_wp2
    go_loopw [11, 3] (fun n m wr => ∃ k : Nat, k ≤ ls.length ∧ n = .int .i64 k ∧ m = .int .i64 ((catk ls k).length : Nat) ∧ wr = w) (fun n _ _ => ls.length - (intOf n).toNat)
    case atStart => exact ⟨0, by omega, rfl, rfl, rfl⟩
    case round =>
      obtain ⟨k, hk, rfl, rfl, rfl⟩ := hrel
      by_cases hn : k < ls.length
      · have hlt : (k : Int) < (ls.length : Int) := by omega
        obtain ⟨p, c', hv⟩ := shows_form (HS.out k hn)
        have hcell := HC.out k (.slice p (bys (ls.getD k [])).length c') (by rw [← hv]; simp [List.getD, HV.out, hn])
        rw [bys_len] at hcell
        have e1 := catk_len ls k hn
        have e2 := catk_le ls (k + 1)
        have e3 : (((catk ls k).length : Int) + ((ls.getD k []).length : Int)) = ((catk ls (k + 1)).length : Nat) := by omega
        have e4 : ¬ (((catk ls (k + 1)).length : Int) < 0) := by omega
        clear hv
        generalize (ls.getD k []).length = q at *
        have e6 : IntKind.i64.wrap (((catk ls k).length : Int) + (q : Int)) = ((catk ls (k + 1)).length : Nat) := by rw [IntKind.wrap_i64]; omega
        clear e1 e2 e3
        obtain ⟨q1, hq1⟩ : ∃ q1, (catk ls k).length = q1 := ⟨_, rfl⟩
        obtain ⟨q2, hq2⟩ : ∃ q2, (catk ls (k + 1)).length = q2 := ⟨_, rfl⟩
        rw [hq1, hq2] at e6
        rw [hq2] at e4
        rw [hq1]
        have HQ := Lib.hid hq2
        clear hq1 hq2
        go_wp2
        exact ⟨⟨k + 1, by omega, by go_num, by rw [HQ.out], trivial⟩, by simp only [intOf]; omega⟩
      · obtain rfl : k = ls.length := by omega
        clear hk hn
        have hge : ¬ ((ls.length : Int) < (ls.length : Int)) := by omega
        go_wp2_with (go_at_call 56; refine (grow_w _ (by rw [catk_all]; exact hN) _).mono ?_; rintro e w' ⟨v, rfl, ho, hg⟩)
        have HG := Lib.hid hg
        have HO := Lib.hid ho
        have hb2 : wr.heap.size ≤ w'.heap.size := hg.size
        clear hg ho
        go_loopw [27, 6] (fun n v2 w2 => ∃ k : Nat, k ≤ ls.length ∧ n = .int .i64 k ∧ OwnR w2 wr.heap.size 5 v2 (bys (catk ls k)) ∧ Grew wr w2) (fun n _ _ => ls.length - (intOf n).toNat)
        case atStart => exact ⟨0, by omega, rfl, by rw [catk_0]; exact HO.out, HG.out⟩
        case round =>
          obtain ⟨k, hk, rfl, ho2, hg2⟩ := hrel
          by_cases hn : k < ls.length
          · have hlt : (k : Int) < (ls.length : Int) := by omega
            have hsk := (HS.out k hn).grew hg2
            obtain ⟨p, c', hv⟩ := shows_form (HS.out k hn)
            rw [hv, bys_len] at hsk
            have hcell := hg2.cell (HC.out k (.slice p (bys (ls.getD k [])).length c') (by rw [← hv]; simp [List.getD, HV.out, hn]))
            rw [bys_len] at hcell
            have e1 := catk_len ls k hn
            have e2 := catk_le ls (k + 1)
            have HS2 := hsk
            have HO2 := Lib.hid ho2
            have HG2 := Lib.hid hg2
            have hsz2 := hg2.size
            have e7 := catk_succ ls k hn
            obtain ⟨m, hm⟩ : ∃ m, ls.getD k [] = m := ⟨_, rfl⟩
            rw [hm] at HS2 hcell e1 e7
            have E7 := Lib.hid e7
            have HS3 := Lib.hid HS2
            clear HS2
            clear hv hsk ho2 hg2 hm e7
            go_wp2_with (at_builtin; refine stop_of ?_)
            unfold Stop
            refine wpList_append_shows rfl _ _ _ rfl _ _ i _ 1 under_bs hi hz hsz hby rfl _ _ rfl rfl _ _ HO2.out HS3.out (bys_one _) (by rw [bys_len, bys_len]; simp only [maxLen]; omega) (by rw [bys_len, bys_len]; omega) hsz2 ?_
            intro v' w2' ho' hg'
            have hrow := HO2.out.block
            go_wp2
            refine ⟨⟨k + 1, by omega, by go_num, by rw [E7.out, bys_append]; exact ho', Grew.grown HG2.out hg' fun j hj => (hrow j hj).1⟩, by simp only [intOf]; omega⟩
          · obtain rfl : k = ls.length := by omega
            clear hk hn
            have hge : ¬ ((ls.length : Int) < (ls.length : Int)) := by omega
            rw [catk_all] at ho2
            go_wp2
            go_ret
            exact ⟨_, rfl, ho2, hg2⟩
  · obtain rfl : vs = [] := h0
    obtain rfl : ls = [] := List.length_eq_zero_iff.1 hvs.symm
    go_enter Try.func30, Try.ntmps30
    go_wp2
    go_loopw [11, 3] (fun n m wr => n = .int .i64 0 ∧ m = .int .i64 0 ∧ wr = w) (fun _ _ _ => 0)
    case atStart => exact ⟨rfl, rfl, rfl⟩
    case round =>
      obtain ⟨rfl, rfl, rfl⟩ := hrel
      go_wp2_with (go_at_call 56; refine (grow_w 0 (by omega) _).mono ?_; rintro e w' ⟨v, rfl, ho, hg⟩)
      have HG := Lib.hid hg
      have HO := Lib.hid ho
      clear hg ho
      go_loopw [27, 6] (fun n v2 w2 => n = .int .i64 0 ∧ OwnR w2 wr.heap.size 5 v2 [] ∧ Grew wr w2) (fun _ _ _ => 0)
      case atStart => exact ⟨rfl, HO.out, HG.out⟩
      case round =>
        obtain ⟨rfl, ho2, hg2⟩ := hrel
        go_wp2
        go_ret
        exact ⟨_, rfl, ho2, hg2⟩
end Go.Proofs.Ytommbfgagalckaa
/- A slice of zeros, made; what a new block shows. -/
namespace Go.Proofs.Ytommbfgagalckaa
set_option linter.unusedVariables false
set_option linter.unusedSimpArgs false
open Go.RowKit
set_option maxRecDepth 100000
def zeros (n : Nat) : List Nat := List.replicate n 0
theorem zeros_len (n : Nat) : (zeros n).length = n := by simp [zeros]
@[go_sem] theorem make_b (n : Nat) (hn : n ≤ 1099511627776) (w : World) : (Instr.makeSlice 30 (.int .i64 (n : Int)) (.int .i64 (n : Int))).run Try.prog w = .ok (.slice (some ⟨w.heap.size, 0, none⟩) n n) (w.alloc (.cells (bys (zeros n)).toArray 5)) := by
  obtain ⟨i, hi, hz, hsz, hby⟩ := info_b
  have h := run_make (P := Try.prog) w 30 5 i (.int .u8 0) under_bs hi hz .i64 .i64 n n (by omega) (by omega) (by rw [hby]; omega) (by omega)
  rw [h, hsz]
  simp only [Int.toNat_natCast]
  congr 2
  congr 1
  apply Array.ext'
  simp only [madeCells, Value.cells, bys, zeros, Nat.mul_one, List.map_replicate]
  apply List.ext_getElem
  · simp
  · intro k h1 h2
    simp [Nat.mod_one]
theorem shows_alloc (w : World) (xs : List Value) (t : TypeId) (c : Nat) : Shows (w.alloc (.cells xs.toArray t)) (.slice (some ⟨w.heap.size, 0, none⟩) xs.length c) xs := by
  refine .inl ⟨_, _, _, rfl, by simp, fun j u hj => ?_⟩
  rw [cell_rowAt]
  simp [go_sem, hj]
end Go.Proofs.Ytommbfgagalckaa
/- What is shown, as a string. -/
namespace Go.Proofs.Ytommbfgagalckaa
set_option linter.unusedVariables false
set_option linter.unusedSimpArgs false
open Go.RowKit
theorem foldl_push (l : List Nat) : ∀ (s : ByteArray), (l.map fun (c : Nat) => (c : Int)).foldl (fun r n => r.push (UInt8.ofNat n.toNat)) s = ⟨(s.data.toList ++ l.map UInt8.ofNat).toArray⟩ := by
  induction l with
  | nil => intro s; simp
  | cons a l ih =>
    intro s
    simp only [List.map_cons, List.foldl_cons, Int.toNat_natCast]
    rw [ih]
    simp [ByteArray.push]
/-- What is shown, as a string. -/
theorem shows_string {w : World} {v : Value} {l : List Nat} (h : Shows w v (bys l)) : (convert 30 9 v).run Try.prog w = .ok (.string (bstr l)) w := by
  have key : ∀ (a : Addr) (c : Nat), (∀ j u, (bys l)[j]? = some u → w.cell? (a.add j) = some u) → (convert 30 9 (.slice (some a) (bys l).length c)).run Try.prog w = .ok (.string (bstr l)) w := fun a c h => by
    have hl := run_loadCells_list (P := Try.prog) (w := w) a (bys l) h
    have hm : bys l = ((l.map fun (c : Nat) => (c : Int)).map (Value.int .u8)) := by simp [bys]
    rw [run_convert_bytes_string w _ _ 5 _ _ _ Try.underlying30 Try.underlying5 Try.underlying9, run_bytesToString w a _ c (l.map fun (c : Nat) => (c : Int)) (by rw [hl, hm]), foldl_push]
    rfl
  rcases h with ⟨b, o, c, rfl, hb, h⟩ | ⟨p, c, rfl, h0⟩
  · exact key _ c (fun j u hj => by rw [add_off]; exact h j u hj)
  · have hl : l = [] := by cases l with | nil => rfl | cons a l => simp [bys] at h0
    subst hl
    cases p with
    | some a => exact key a c (by simp [bys])
    | none =>
      rw [run_convert_bytes_string w _ _ 5 _ _ _ Try.underlying30 Try.underlying5 Try.underlying9]
      rfl
theorem conv_str {w : World} {v : Value} {l : List Nat} (h : Shows w v (bys l)) (δ : Junk) : (convert 30 9 v).run Try.prog (w.grow δ) = .ok (.string (bstr l)) (w.grow δ) := shows_string (h.grew ⟨δ, rfl⟩)
end Go.Proofs.Ytommbfgagalckaa
/- sha.Pad. -/
namespace Go.Proofs.Ytommbfgagalckaa
set_option linter.unusedVariables false
set_option linter.unusedSimpArgs false
open Go.RowKit
theorem pad_cat (l : List Nat) (p : Option Addr) (c m : Nat) (w : World) (hl : l.length ≤ 1073741824) (hm : m ≤ 1000) (hv : Shows w (.slice p l.length c) (bys l)) :
    Calls Try.prog 30 #[.slice (some ⟨w.heap.size + 1 + 1, 0, none⟩) 3 3]
      (((w.alloc (.cells #[.int .u8 128] 5)).alloc (.cells (bys (zeros m)).toArray 5)).alloc (.cells #[.slice p l.length c, .slice (some ⟨w.heap.size, 0, none⟩) 1 1, .slice (some ⟨w.heap.size + 1, 0, none⟩) m m] 30))
      fun e w' => ∃ g cap, e = .returned (.slice (some ⟨g, 0, none⟩) (l.length + 1 + m) cap) ∧ w.heap.size ≤ g ∧ OwnR w' w.heap.size 5 (.slice (some ⟨g, 0, none⟩) (l.length + 1 + m) cap) (bys (l ++ 128 :: zeros m)) ∧ Grew w w' := by
  have g0 : Grew w (w.alloc (.cells #[.int .u8 128] 5)) := (by repeat (first | with_reducible exact Grew.refl _ | with_reducible apply Grew.alloc | with_reducible apply Grew.grow | with_reducible apply Grew.drew | with_reducible apply Grew.drewN))
  have g1 : Grew (w.alloc (.cells #[.int .u8 128] 5)) ((w.alloc (.cells #[.int .u8 128] 5)).alloc (.cells (bys (zeros m)).toArray 5)) := (by repeat (first | with_reducible exact Grew.refl _ | with_reducible apply Grew.alloc | with_reducible apply Grew.grow | with_reducible apply Grew.drew | with_reducible apply Grew.drewN))
  have s0 := shows_alloc w (bys [128]) 5 1
  have s1 := shows_alloc (w.alloc (.cells #[.int .u8 128] 5)) (bys (zeros m)) 5 m
  have s2 := shows_alloc ((w.alloc (.cells #[.int .u8 128] 5)).alloc (.cells (bys (zeros m)).toArray 5)) [.slice p l.length c, .slice (some ⟨w.heap.size, 0, none⟩) 1 1, .slice (some ⟨w.heap.size + 1, 0, none⟩) m m] 30 3
  have g2 : Grew ((w.alloc (.cells #[.int .u8 128] 5)).alloc (.cells (bys (zeros m)).toArray 5)) (((w.alloc (.cells #[.int .u8 128] 5)).alloc (.cells (bys (zeros m)).toArray 5)).alloc (.cells #[.slice p l.length c, .slice (some ⟨w.heap.size, 0, none⟩) 1 1, .slice (some ⟨w.heap.size + 1, 0, none⟩) m m] 30)) := (by repeat (first | with_reducible exact Grew.refl _ | with_reducible apply Grew.alloc | with_reducible apply Grew.grow | with_reducible apply Grew.drew | with_reducible apply Grew.drewN))
  rw [World.size_alloc, bys_len, zeros_len] at s1
  rw [World.size_alloc, World.size_alloc] at s2
  have hfl : ([l, [128], zeros m] : List (List Nat)).flatten = l ++ 128 :: zeros m := by simp
  refine (concat_w [l, [128], zeros m] _ _ _ rfl s2 ?_ (by rw [hfl]; simp [zeros_len]; omega) (by simp)).mono ?_
  · intro k hk
    have hk : k < 3 := hk
    match k, hk with
    | 0, _ => exact hv.grew (g0.trans (g1.trans g2))
    | 1, _ => exact s0.grew (g1.trans g2)
    | 2, _ => exact s1.grew g2
  · rintro e w' ⟨v, rfl, ho, hg⟩
    rw [hfl] at ho
    have ho' := ho.base (base' := w.heap.size) (by simp; omega)
    obtain ⟨q, cap, rfl⟩ := shows_form ho.shows
    have hlen : (bys (l ++ 128 :: zeros m)).length = l.length + 1 + m := by rw [bys_len]; simp [zeros_len]; omega
    rw [hlen] at ho ho' ⊢
    rcases ho'.2 with ⟨h, h0⟩ | ⟨g, cap', cur, h, hb, _⟩
    · rw [hlen] at h0; omega
    · rw [hlen] at h
      simp only [Value.slice.injEq] at h
      obtain ⟨rfl, _, rfl⟩ := h
      exact ⟨g, _, rfl, hb, ho', (g0.trans (g1.trans g2)).trans hg⟩
/-- The bytes, with how many bits they have, of which 'k' bytes are told. -/
def padk (l : List Nat) (m : Nat) : Nat → List Nat
  | 0 => l ++ 128 :: zeros m
  | k + 1 => (padk l m k).set (l.length + 1 + m - 1 - k) (8 * l.length / 2 ^ (8 * k) % 256)
theorem padk_len (l : List Nat) (m : Nat) : ∀ k, (padk l m k).length = l.length + 1 + m
  | 0 => by simp [padk, zeros_len]; omega
  | k + 1 => by unfold padk; rw [List.length_set, padk_len l m k]
set_option maxRecDepth 100000 in
set_option maxHeartbeats 1600000 in
theorem pad_w (l : List Nat) (v : Value) (w : World) (hl : l.length ≤ 1073741824) (hv : Shows w v (bys l)) :
    Calls Try.prog 37 #[v] w fun e w' => ∃ v' m, m = (64 - (l.length + 9) % 64) % 64 + 8 ∧ e = .returned v' ∧ OwnR w' w.heap.size 5 v' (bys (padk l m 8)) ∧ Grew w w' := by
  obtain ⟨p, c, rfl⟩ := shows_form hv
  rw [bys_len] at hv ⊢
  have HV := Lib.hid hv
  clear hv
  obtain ⟨nz, hnz⟩ : ∃ nz : Nat, (64 - ((l.length : Int) + 1 + 8) % 64) % 64 = (nz : Int) := ⟨((64 - ((l.length : Int) + 1 + 8) % 64) % 64).toNat, by omega⟩
  have hnz2 : nz < 64 := by omega
  obtain ⟨m, hm⟩ : ∃ m : Nat, (nz : Int) + 8 = (m : Int) := ⟨nz + 8, by omega⟩
  have hm2 : m ≤ 1099511627776 := by omega
  have HM := Lib.hid (show m = (64 - (l.length + 9) % 64) % 64 + 8 by omega)
  go_enter Try.func37, Try.ntmps37
  go_wp2_with (go_at_call 30; refine stop_of ?_)
  unfold Stop
  refine (pad_cat l p c m w hl (by omega) HV.out).mono ?_
  rintro e w' ⟨g, cap, rfl, hg, ho, hgr⟩
  simp only []
  go_wp2
  obtain ⟨N, hN⟩ : ∃ N, l.length + 1 + m = N := ⟨_, rfl⟩
  rw [hN] at ho ⊢
  have HO := Lib.hid ho
  have HG := Lib.hid hgr
  clear ho hgr hnz hm HV
  have hm8 : 8 ≤ m := by have := HM.out; omega
  go_loopw [20] (fun n wr => ∃ k : Nat, k ≤ 8 ∧ n = .int .i64 k ∧ OwnR wr w.heap.size 5 (.slice (some ⟨g, 0, none⟩) N cap) (bys (padk l m k)) ∧ Grew w wr) (fun n _ => 8 - (intOf n).toNat)
  case atStart => exact ⟨0, by omega, rfl, HO.out, HG.out⟩
  case round =>
    obtain ⟨k, hk, rfl, ho, hg2⟩ := hrel
    by_cases hn : k < 8
    · have hlt : (k : Int) < 8 := by omega
      have hpl := padk_len l m k
      rw [hN] at hpl
      obtain ⟨q, hq⟩ : ∃ q, N - 1 - k = q := ⟨_, rfl⟩
      have hq1 : (N : Int) - 1 - (k : Int) = (q : Int) := by omega
      have hq2 : q < N := by omega
      have hq3 : (q : Int) < (N : Int) := by omega
      have hfz := own_frozen ho q
      have hce := own_cell ho q (by rw [bys_len, hpl]; exact hq2)
      have hst := fun u => own_stored ho q u
      generalize (bys (padk l m k))[q]'(by rw [bys_len, hpl]; exact hq2) = old at hce
      go_wp2
      have hnum : (8 * (l.length : Int) / 2 ^ (8 * k) % 256) = ((8 * l.length / 2 ^ (8 * k) % 256 : Nat) : Int) := by
        rw [Int.natCast_emod, Int.natCast_ediv, Int.natCast_mul, Int.natCast_pow]; rfl
      have hb : bys (padk l m (k + 1)) = (bys (padk l m k)).set q (.int .u8 (8 * (l.length : Int) / 2 ^ (8 * k) % 256)) := by
        rw [hnum]
        unfold bys
        rw [← List.map_set]
        conv => lhs; unfold padk
        rw [hN, hq]
      refine ⟨⟨k + 1, by omega, by go_num, by rw [hb]; exact (hst _).1, Grew.grown hg2 (hst _).2 fun j hj => (by cases hj; exact hg)⟩, by simp only [intOf]; omega⟩
    · obtain rfl : k = 8 := by omega
      clear hk hn
      go_wp2
      go_ret
      exact ⟨_, m, HM.out, rfl, ho, hg2⟩
/-- The lowest 'k' bytes of a number, the greatest first. -/
def tailk (n : Nat) : Nat → List Nat
  | 0 => []
  | k + 1 => (n / 2 ^ (8 * k) % 256) :: tailk n k
theorem tailk_len (n : Nat) : ∀ k, (tailk n k).length = k
  | 0 => rfl
  | k + 1 => by simp [tailk, tailk_len n k]
theorem zeros_succ (n : Nat) : zeros (n + 1) = zeros n ++ [0] := by simp [zeros, List.replicate_succ']
theorem set_mid (a b : List Nat) (x y : Nat) : (a ++ x :: b).set a.length y = a ++ y :: b := by simp
theorem padk_eq (l : List Nat) (m : Nat) : ∀ k, k ≤ m → padk l m k = l ++ 128 :: (zeros (m - k) ++ tailk (8 * l.length) k)
  | 0, _ => by simp [padk, tailk]
  | k + 1, h => by
    unfold padk tailk
    rw [padk_eq l m k (by omega)]
    obtain ⟨j, hj⟩ : ∃ j, m - k = j + 1 := ⟨m - k - 1, by omega⟩
    rw [hj, zeros_succ, show m - (k + 1) = j by omega]
    have e : l.length + 1 + m - 1 - k = (l ++ 128 :: zeros j).length := by simp [zeros_len]; omega
    have := set_mid (l ++ 128 :: zeros j) (tailk (8 * l.length) k) 0 (8 * l.length / 2 ^ (8 * k) % 256)
    rw [e]
    rw [List.append_assoc, List.append_assoc] at this
    simp only [List.append_assoc, List.cons_append, List.nil_append, List.singleton_append] at this ⊢
    exact this
/-- What bytes become. -/
def pad (l : List Nat) : List Nat := l ++ 128 :: (zeros ((64 - (l.length + 9) % 64) % 64) ++ tailk (8 * l.length) 8)
theorem pad_len (l : List Nat) : (pad l).length = l.length + 9 + (64 - (l.length + 9) % 64) % 64 := by simp [pad, zeros_len, tailk_len]; omega
theorem tailk_lt (n : Nat) : ∀ k, ∀ c ∈ tailk n k, c < 256
  | 0 => by simp [tailk]
  | k + 1 => by
    intro c hc
    simp only [tailk, List.mem_cons] at hc
    rcases hc with rfl | hc
    · exact Nat.mod_lt _ (by omega)
    · exact tailk_lt n k c hc
theorem pad_lt (l : List Nat) (h : ∀ c ∈ l, c < 256) : ∀ c ∈ pad l, c < 256 := by
  intro c hc
  simp only [pad, List.mem_append, List.mem_cons, zeros, List.mem_replicate] at hc
  rcases hc with hc | rfl | ⟨_, rfl⟩ | hc
  · exact h c hc
  · omega
  · omega
  · exact tailk_lt _ _ c hc
theorem pad_w' (l : List Nat) (v : Value) (w : World) (hl : l.length ≤ 1073741824) (hv : Shows w v (bys l)) :
    Calls Try.prog 37 #[v] w fun e w' => ∃ v', e = .returned v' ∧ OwnR w' w.heap.size 5 v' (bys (pad l)) ∧ Grew w w' := by
  refine (pad_w l v w hl hv).mono ?_
  rintro e w' ⟨v', m, hm, rfl, ho, hg⟩
  refine ⟨v', rfl, ?_, hg⟩
  rw [padk_eq l m 8 (by omega), hm, Nat.add_sub_cancel] at ho
  exact ho
end Go.Proofs.Ytommbfgagalckaa
/- Words of 32 bits, and sha's right. -/
namespace Go.Proofs.Ytommbfgagalckaa
set_option linter.unusedVariables false
set_option linter.unusedSimpArgs false
open Go.RowKit

/-- A word as an int: nothing opens it. -/
def u (x : BitVec 32) : Int := (x.toNat : Int)
theorem u_bd (x : BitVec 32) : 0 ≤ u x ∧ u x < 4294967296 := by unfold u; have := x.isLt; omega
theorem bv_u (x : BitVec 32) : BitVec.ofInt 32 (u x) = x := by
  unfold u
  apply BitVec.eq_of_toNat_eq
  rw [BitVec.ofInt_natCast, BitVec.toNat_ofNat]
  exact Nat.mod_eq_of_lt x.isLt
theorem wrap_u (x : BitVec 32) : IntKind.u32.wrap (u x) = u x := by
  have := u_bd x
  show (u x) % 4294967296 = _
  omega
attribute [go_sem] wrap_u
@[go_sem] theorem bits_xor_u (x y : BitVec 32) : bits .xor .u32 (u x) (u y) = u (x ^^^ y) := by
  show IntKind.u32.wrap ((BitVec.ofInt 32 (u x) ^^^ BitVec.ofInt 32 (u y)).toNat : Int) = _
  rw [bv_u, bv_u]; exact wrap_u _
@[go_sem] theorem bits_and_u (x y : BitVec 32) : bits .and .u32 (u x) (u y) = u (x &&& y) := by
  show IntKind.u32.wrap ((BitVec.ofInt 32 (u x) &&& BitVec.ofInt 32 (u y)).toNat : Int) = _
  rw [bv_u, bv_u]; exact wrap_u _
@[go_sem] theorem bits_or_u (x y : BitVec 32) : bits .or .u32 (u x) (u y) = u (x ||| y) := by
  show IntKind.u32.wrap ((BitVec.ofInt 32 (u x) ||| BitVec.ofInt 32 (u y)).toNat : Int) = _
  rw [bv_u, bv_u]; exact wrap_u _
@[go_sem] theorem bits_not_u (x : BitVec 32) : bits .xor .u32 IntKind.u32.max (u x) = u (~~~ x) := by
  show IntKind.u32.wrap ((BitVec.ofInt 32 IntKind.u32.max ^^^ BitVec.ofInt 32 (u x)).toNat : Int) = _
  rw [bv_u, show BitVec.ofInt 32 IntKind.u32.max = BitVec.allOnes 32 from rfl, BitVec.allOnes_xor]; exact wrap_u _
@[go_sem] theorem wrap_add_u (x y : BitVec 32) : IntKind.u32.wrap (u x + u y) = u (x + y) := by
  unfold u
  rw [BitVec.toNat_add]
  show ((x.toNat : Int) + (y.toNat : Int)) % 4294967296 = _
  omega
theorem u_div (x : BitVec 32) (k : Nat) : u x / 2 ^ k = u (x >>> k) := by
  unfold u
  rw [BitVec.toNat_ushiftRight, Nat.shiftRight_eq_div_pow, Int.natCast_ediv, Int.natCast_pow]; rfl
theorem u_mul (x : BitVec 32) (k : Nat) : IntKind.u32.wrap (u x * 2 ^ k) = u (x <<< k) := by
  unfold u
  rw [BitVec.toNat_shiftLeft, Nat.shiftLeft_eq]
  show ((x.toNat : Int) * 2 ^ k) % 4294967296 = _
  rw [Int.natCast_emod, Int.natCast_mul, Int.natCast_pow]; rfl
theorem rot_u (x : BitVec 32) (s : Nat) (h : s < 32) : bits .or .u32 (IntKind.u32.wrap (u x * 2 ^ s)) (u x / 2 ^ (32 - s)) = u (x.rotateLeft s) := by
  rw [u_mul, u_div, bits_or_u]
  congr 1
  rw [BitVec.rotateLeft_def, Nat.mod_eq_of_lt h]
/-- The word, turned to the right. -/
def rr (n : Nat) (x : BitVec 32) : BitVec 32 := x.rotateLeft (32 - n)
def rotOk (n : Nat) : Prop := n = 2 ∨ n = 6 ∨ n = 7 ∨ n = 11 ∨ n = 13 ∨ n = 17 ∨ n = 18 ∨ n = 19 ∨ n = 22 ∨ n = 25

set_option maxRecDepth 100000 in
set_option maxHeartbeats 1600000 in
theorem rotl_w (x : BitVec 32) (n : Nat) (hn : rotOk n) (w : World) :
    Calls Try.prog 77 #[.int .u32 (u x), .int .i64 (-(n : Int))] w fun e w' => e = .returned (.int .u32 (u (rr n x))) ∧ Grew w w' := by
  have hr := fun s h => rot_u x s h
  have b0 := (u_bd x).1
  rcases hn with rfl | rfl | rfl | rfl | rfl | rfl | rfl | rfl | rfl | rfl
  · have h := hr 30 (by omega)
    have hs : bits .and .u64 (IntKind.u64.wrap (-2)) 31 = 30 := by decide +kernel
    have hs2 : bits .and .u64 (IntKind.u64.wrap (-(((2 : Nat) : Int)))) 31 = 30 := by decide +kernel
    simp only [Nat.reduceSub] at h
    clear hr
    go_enter Try.func77, Try.ntmps77
    go_wp2
    go_ret
    exact ⟨congrArg (fun n : Int => Ending.returned (.int .u32 n)) h, (by repeat (first | with_reducible exact Grew.refl _ | with_reducible apply Grew.alloc | with_reducible apply Grew.grow | with_reducible apply Grew.drew | with_reducible apply Grew.drewN))⟩
  · have h := hr 26 (by omega)
    have hs : bits .and .u64 (IntKind.u64.wrap (-6)) 31 = 26 := by decide +kernel
    have hs2 : bits .and .u64 (IntKind.u64.wrap (-(((6 : Nat) : Int)))) 31 = 26 := by decide +kernel
    simp only [Nat.reduceSub] at h
    clear hr
    go_enter Try.func77, Try.ntmps77
    go_wp2
    go_ret
    exact ⟨congrArg (fun n : Int => Ending.returned (.int .u32 n)) h, (by repeat (first | with_reducible exact Grew.refl _ | with_reducible apply Grew.alloc | with_reducible apply Grew.grow | with_reducible apply Grew.drew | with_reducible apply Grew.drewN))⟩
  · have h := hr 25 (by omega)
    have hs : bits .and .u64 (IntKind.u64.wrap (-7)) 31 = 25 := by decide +kernel
    have hs2 : bits .and .u64 (IntKind.u64.wrap (-(((7 : Nat) : Int)))) 31 = 25 := by decide +kernel
    simp only [Nat.reduceSub] at h
    clear hr
    go_enter Try.func77, Try.ntmps77
    go_wp2
    go_ret
    exact ⟨congrArg (fun n : Int => Ending.returned (.int .u32 n)) h, (by repeat (first | with_reducible exact Grew.refl _ | with_reducible apply Grew.alloc | with_reducible apply Grew.grow | with_reducible apply Grew.drew | with_reducible apply Grew.drewN))⟩
  · have h := hr 21 (by omega)
    have hs : bits .and .u64 (IntKind.u64.wrap (-11)) 31 = 21 := by decide +kernel
    have hs2 : bits .and .u64 (IntKind.u64.wrap (-(((11 : Nat) : Int)))) 31 = 21 := by decide +kernel
    simp only [Nat.reduceSub] at h
    clear hr
    go_enter Try.func77, Try.ntmps77
    go_wp2
    go_ret
    exact ⟨congrArg (fun n : Int => Ending.returned (.int .u32 n)) h, (by repeat (first | with_reducible exact Grew.refl _ | with_reducible apply Grew.alloc | with_reducible apply Grew.grow | with_reducible apply Grew.drew | with_reducible apply Grew.drewN))⟩
  · have h := hr 19 (by omega)
    have hs : bits .and .u64 (IntKind.u64.wrap (-13)) 31 = 19 := by decide +kernel
    have hs2 : bits .and .u64 (IntKind.u64.wrap (-(((13 : Nat) : Int)))) 31 = 19 := by decide +kernel
    simp only [Nat.reduceSub] at h
    clear hr
    go_enter Try.func77, Try.ntmps77
    go_wp2
    go_ret
    exact ⟨congrArg (fun n : Int => Ending.returned (.int .u32 n)) h, (by repeat (first | with_reducible exact Grew.refl _ | with_reducible apply Grew.alloc | with_reducible apply Grew.grow | with_reducible apply Grew.drew | with_reducible apply Grew.drewN))⟩
  · have h := hr 15 (by omega)
    have hs : bits .and .u64 (IntKind.u64.wrap (-17)) 31 = 15 := by decide +kernel
    have hs2 : bits .and .u64 (IntKind.u64.wrap (-(((17 : Nat) : Int)))) 31 = 15 := by decide +kernel
    simp only [Nat.reduceSub] at h
    clear hr
    go_enter Try.func77, Try.ntmps77
    go_wp2
    go_ret
    exact ⟨congrArg (fun n : Int => Ending.returned (.int .u32 n)) h, (by repeat (first | with_reducible exact Grew.refl _ | with_reducible apply Grew.alloc | with_reducible apply Grew.grow | with_reducible apply Grew.drew | with_reducible apply Grew.drewN))⟩
  · have h := hr 14 (by omega)
    have hs : bits .and .u64 (IntKind.u64.wrap (-18)) 31 = 14 := by decide +kernel
    have hs2 : bits .and .u64 (IntKind.u64.wrap (-(((18 : Nat) : Int)))) 31 = 14 := by decide +kernel
    simp only [Nat.reduceSub] at h
    clear hr
    go_enter Try.func77, Try.ntmps77
    go_wp2
    go_ret
    exact ⟨congrArg (fun n : Int => Ending.returned (.int .u32 n)) h, (by repeat (first | with_reducible exact Grew.refl _ | with_reducible apply Grew.alloc | with_reducible apply Grew.grow | with_reducible apply Grew.drew | with_reducible apply Grew.drewN))⟩
  · have h := hr 13 (by omega)
    have hs : bits .and .u64 (IntKind.u64.wrap (-19)) 31 = 13 := by decide +kernel
    have hs2 : bits .and .u64 (IntKind.u64.wrap (-(((19 : Nat) : Int)))) 31 = 13 := by decide +kernel
    simp only [Nat.reduceSub] at h
    clear hr
    go_enter Try.func77, Try.ntmps77
    go_wp2
    go_ret
    exact ⟨congrArg (fun n : Int => Ending.returned (.int .u32 n)) h, (by repeat (first | with_reducible exact Grew.refl _ | with_reducible apply Grew.alloc | with_reducible apply Grew.grow | with_reducible apply Grew.drew | with_reducible apply Grew.drewN))⟩
  · have h := hr 10 (by omega)
    have hs : bits .and .u64 (IntKind.u64.wrap (-22)) 31 = 10 := by decide +kernel
    have hs2 : bits .and .u64 (IntKind.u64.wrap (-(((22 : Nat) : Int)))) 31 = 10 := by decide +kernel
    simp only [Nat.reduceSub] at h
    clear hr
    go_enter Try.func77, Try.ntmps77
    go_wp2
    go_ret
    exact ⟨congrArg (fun n : Int => Ending.returned (.int .u32 n)) h, (by repeat (first | with_reducible exact Grew.refl _ | with_reducible apply Grew.alloc | with_reducible apply Grew.grow | with_reducible apply Grew.drew | with_reducible apply Grew.drewN))⟩
  · have h := hr 7 (by omega)
    have hs : bits .and .u64 (IntKind.u64.wrap (-25)) 31 = 7 := by decide +kernel
    have hs2 : bits .and .u64 (IntKind.u64.wrap (-(((25 : Nat) : Int)))) 31 = 7 := by decide +kernel
    simp only [Nat.reduceSub] at h
    clear hr
    go_enter Try.func77, Try.ntmps77
    go_wp2
    go_ret
    exact ⟨congrArg (fun n : Int => Ending.returned (.int .u32 n)) h, (by repeat (first | with_reducible exact Grew.refl _ | with_reducible apply Grew.alloc | with_reducible apply Grew.grow | with_reducible apply Grew.drew | with_reducible apply Grew.drewN))⟩
set_option maxRecDepth 100000 in
set_option maxHeartbeats 1600000 in
theorem right_w (x : BitVec 32) (n : Nat) (hn : rotOk n) (w : World) :
    Calls Try.prog 60 #[.int .u32 (u x), .int .i64 (n : Int)] w fun e w' => e = .returned (.int .u32 (u (rr n x))) ∧ Grew w w' := by
  have hb : n ≤ 25 := by unfold rotOk at hn; omega
  have Hc := Lib.hid (fun w => rotl_w x n hn w)
  clear hn
  go_enter Try.func60, Try.ntmps60
  go_wp2_with (go_at_call 77; refine (Hc.out _).mono ?_; rintro e w' ⟨rfl, δ, rfl⟩)
  go_ret
  exact ⟨rfl, (by repeat (first | with_reducible exact Grew.refl _ | with_reducible apply Grew.alloc | with_reducible apply Grew.grow | with_reducible apply Grew.drew | with_reducible apply Grew.drewN))⟩
end Go.Proofs.Ytommbfgagalckaa
/- Arrays of words; what sha computes; its numbers. -/
namespace Go.Proofs.Ytommbfgagalckaa
set_option linter.unusedVariables false
set_option linter.unusedSimpArgs false
open Go.RowKit

/-- The cells of words. -/
def uv (l : List (BitVec 32)) : Array Value := (l.map fun x => Value.int .u32 (u x)).toArray
theorem uv_size (l : List (BitVec 32)) : (uv l).size = l.length := by simp [uv]
def wordAt (l : List (BitVec 32)) (i : Nat) : BitVec 32 := l.getD i 0
theorem wordAt_eq (l : List (BitVec 32)) (i : Nat) (h : i < l.length) : wordAt l i = l[i] := by simp [wordAt, h]
theorem uv_at (l : List (BitVec 32)) (i : Nat) (h : i < l.length) : (uv l)[i]? = some (.int .u32 (u (wordAt l i))) := by rw [wordAt_eq l i h]; simp [uv, h]
theorem uv_elem (l : List (BitVec 32)) (i : Nat) (h : i < (uv l).size) : (uv l)[i] = .int .u32 (u (wordAt l i)) := by
  have h1 := uv_at l i (by rw [uv_size] at h; exact h)
  rw [Array.getElem?_eq_getElem h] at h1
  exact Option.some.inj h1
theorem uv_set (l : List (BitVec 32)) (i : Nat) (x : BitVec 32) : (uv l).setIfInBounds i (.int .u32 (u x)) = uv (l.set i x) := by
  unfold uv; rw [List.setIfInBounds_toArray, List.map_set]
theorem uv_all (l : List (BitVec 32)) : (uv l).all (·.oneCell') = true := by
  rw [Array.all_eq_true_iff_forall_mem]
  intro v hv
  unfold uv at hv
  simp only [List.mem_toArray, List.mem_map] at hv
  obtain ⟨c, _, rfl⟩ := hv
  rfl
attribute [go_sem] uv_size uv_at uv_elem uv_set uv_all

theorem rowType_w : Try.prog.rowType 89 64 = true := by kernel_rfl
theorem rowType_s : Try.prog.rowType 64 8 = true := by kernel_rfl
def w0 : List (BitVec 32) := List.replicate 64 0
def s0 : List (BitVec 32) := List.replicate 8 0
@[go_sem] theorem w0_len : w0.length = 64 := by simp [w0]
@[go_sem] theorem s0_len : s0.length = 8 := by simp [s0]
theorem zero_w : (Try.prog.info? 89).map (·.zero) = some (some (.agg (uv w0))) := by kernel_rfl
theorem zero_s : (Try.prog.info? 64).map (·.zero) = some (some (.agg (uv s0))) := by kernel_rfl
section
variable (ρ : Operand → Value) (d : Option Tmp) (x y : Operand) (t : TypeId) (p : String) (a : Array Edge) (g : Option (Nat × Bool))
@[go_sem ↓] theorem ex_load_ws : execOp ρ ⟨d, .load 89 x, t, p, a, g⟩ = rowLoad 89 (ρ x) := rfl
@[go_sem ↓] theorem ex_store_ws : execOp ρ ⟨d, .store 89 x y, t, p, a, g⟩ = rowStore 89 (ρ x) (ρ y) := rfl
@[go_sem ↓] theorem ex_alloc_ws : execOp ρ ⟨d, .alloc 89, t, p, a, g⟩ = rowAlloc 89 := rfl
@[go_sem ↓] theorem ex_load_st : execOp ρ ⟨d, .load 64 x, t, p, a, g⟩ = rowLoad 64 (ρ x) := rfl
@[go_sem ↓] theorem ex_store_st : execOp ρ ⟨d, .store 64 x y, t, p, a, g⟩ = rowStore 64 (ρ x) (ρ y) := rfl
@[go_sem ↓] theorem ex_alloc_st : execOp ρ ⟨d, .alloc 64, t, p, a, g⟩ = rowAlloc 64 := rfl
end
section
variable (w : World) (g : Nat)
@[go_sem] theorem load_ws (h : (w.rowAt g).size = 64) : (rowLoad 89 (.pointer (some ⟨g, 0, none⟩))).run Try.prog w = .ok (.value (.agg (w.rowAt g))) w := run_rowLoad w (n := 63) rowType_w h
@[go_sem] theorem load_st (h : (w.rowAt g).size = 8) : (rowLoad 64 (.pointer (some ⟨g, 0, none⟩))).run Try.prog w = .ok (.value (.agg (w.rowAt g))) w := run_rowLoad w (n := 7) rowType_s h
@[go_sem] theorem store_ws (l : List (BitVec 32)) (hl : l.length = 64) (h : (w.rowAt g).size = 64) (hf : w.rowFree g = true) : (rowStore 89 (.pointer (some ⟨g, 0, none⟩)) (.agg (uv l))).run Try.prog w = .ok .skip (w.setRow g (uv l)) := run_rowStore w (n := 64) rowType_w hf h (by rw [uv_size]; exact hl) (uv_all l)
@[go_sem] theorem store_st (l : List (BitVec 32)) (hl : l.length = 8) (h : (w.rowAt g).size = 8) (hf : w.rowFree g = true) : (rowStore 64 (.pointer (some ⟨g, 0, none⟩)) (.agg (uv l))).run Try.prog w = .ok .skip (w.setRow g (uv l)) := run_rowStore w (n := 8) rowType_s hf h (by rw [uv_size]; exact hl) (uv_all l)
@[go_sem] theorem alloc_ws : (rowAlloc 89).run Try.prog w = .ok (.value (.pointer (some ⟨w.heap.size, 0, none⟩))) (w.alloc (.cells (uv w0) 89)) := run_rowAlloc w zero_w
@[go_sem] theorem alloc_st : (rowAlloc 64).run Try.prog w = .ok (.value (.pointer (some ⟨w.heap.size, 0, none⟩))) (w.alloc (.cells (uv s0) 64)) := run_rowAlloc w zero_s
end
theorem ws_result {fn : Func} {p : Tmp} {g : Nat} {w : World} {l : List (BitVec 32)} (hr : fn.results = #[.cell p 89]) (tmps : Array Value) (hp : tmps.getD p undef = .pointer (some ⟨g, 0, none⟩)) (h : w.rowAt g = uv l) (hl : l.length = 64) :
    (results fn tmps).run Try.prog w = .ok (.agg (uv l)) w := by
  have := run_result_row w (n := 63) hr tmps hp rowType_w (by rw [h, uv_size, hl])
  rwa [h] at this
/-! ### What is computed -/
/-- The numbers of the rounds. -/
def ks : List (BitVec 32) := [1116352408, 1899447441, 3049323471, 3921009573, 961987163, 1508970993, 2453635748, 2870763221, 3624381080, 310598401, 607225278, 1426881987, 1925078388, 2162078206, 2614888103, 3248222580, 3835390401, 4022224774, 264347078, 604807628, 770255983, 1249150122, 1555081692, 1996064986, 2554220882, 2821834349, 2952996808, 3210313671, 3336571891, 3584528711, 113926993, 338241895, 666307205, 773529912, 1294757372, 1396182291, 1695183700, 1986661051, 2177026350, 2456956037, 2730485921, 2820302411, 3259730800, 3345764771, 3516065817, 3600352804, 4094571909, 275423344, 430227734, 506948616, 659060556, 883997877, 958139571, 1322822218, 1537002063, 1747873779, 1955562222, 2024104815, 2227730452, 2361852424, 2428436474, 2756734187, 3204031479, 3329325298].map (BitVec.ofNat 32)
@[go_sem] theorem ks_len : ks.length = 64 := by decide
def be32 (a b c d : Nat) : BitVec 32 := BitVec.ofNat 32 (a * 16777216 + b * 65536 + c * 256 + d)
def schedN (w : List (BitVec 32)) (i : Nat) : BitVec 32 :=
  wordAt w (i - 16) + wordAt w (i - 7) + (rr 7 (wordAt w (i - 15)) ^^^ rr 18 (wordAt w (i - 15)) ^^^ wordAt w (i - 15) >>> 3) + (rr 17 (wordAt w (i - 2)) ^^^ rr 19 (wordAt w (i - 2)) ^^^ wordAt w (i - 2) >>> 10)
/-- The first 'i' words of 64 bytes. -/
def sched (b : List Nat) : Nat → List (BitVec 32)
  | 0 => []
  | i + 1 => sched b i ++ [if i < 16 then be32 (byteAt b (4 * i)) (byteAt b (4 * i + 1)) (byteAt b (4 * i + 2)) (byteAt b (4 * i + 3)) else schedN (sched b i) i]
theorem sched_len (b : List Nat) : ∀ i, (sched b i).length = i
  | 0 => rfl
  | i + 1 => by unfold sched; rw [List.length_append, sched_len b i]; rfl
def tx (v : List (BitVec 32)) (k w : BitVec 32) : BitVec 32 :=
  wordAt v 7 + (rr 6 (wordAt v 4) ^^^ rr 11 (wordAt v 4) ^^^ rr 25 (wordAt v 4)) + (wordAt v 4 &&& wordAt v 5 ^^^ ~~~ wordAt v 4 &&& wordAt v 6) + k + w
def ty (v : List (BitVec 32)) : BitVec 32 :=
  (rr 2 (wordAt v 0) ^^^ rr 13 (wordAt v 0) ^^^ rr 22 (wordAt v 0)) + (wordAt v 0 &&& wordAt v 1 ^^^ wordAt v 0 &&& wordAt v 2 ^^^ wordAt v 1 &&& wordAt v 2)
/-- One round. -/
def round1 (v : List (BitVec 32)) (k w : BitVec 32) : List (BitVec 32) :=
  [tx v k w + ty v, wordAt v 0, wordAt v 1, wordAt v 2, wordAt v 3 + tx v k w, wordAt v 4, wordAt v 5, wordAt v 6]
/-- The eight words behind 'i' rounds. -/
def rnds (s : List (BitVec 32)) (w : List (BitVec 32)) : Nat → List (BitVec 32)
  | 0 => s
  | i + 1 => round1 (rnds s w i) (wordAt ks i) (wordAt w i)
theorem rnds_len (s w : List (BitVec 32)) (h : s.length = 8) : ∀ i, (rnds s w i).length = 8
  | 0 => h
  | i + 1 => rfl
/-- What comes of eight words and 64 bytes. -/
def compress (s : List (BitVec 32)) (b : List Nat) : List (BitVec 32) := (List.range 8).map fun i => wordAt s i + wordAt (rnds s (sched b 64) 64) i
theorem compress_len (s : List (BitVec 32)) (b : List Nat) : (compress s b).length = 8 := by simp [compress]

def ksParts : Array (Nat × Operand) := #[(0, .const (.int .u32 1116352408)), (1, .const (.int .u32 1899447441)), (2, .const (.int .u32 3049323471)), (3, .const (.int .u32 3921009573)), (4, .const (.int .u32 961987163)), (5, .const (.int .u32 1508970993)), (6, .const (.int .u32 2453635748)), (7, .const (.int .u32 2870763221)), (8, .const (.int .u32 3624381080)), (9, .const (.int .u32 310598401)), (10, .const (.int .u32 607225278)), (11, .const (.int .u32 1426881987)), (12, .const (.int .u32 1925078388)), (13, .const (.int .u32 2162078206)), (14, .const (.int .u32 2614888103)), (15, .const (.int .u32 3248222580)), (16, .const (.int .u32 3835390401)), (17, .const (.int .u32 4022224774)), (18, .const (.int .u32 264347078)), (19, .const (.int .u32 604807628)), (20, .const (.int .u32 770255983)), (21, .const (.int .u32 1249150122)), (22, .const (.int .u32 1555081692)), (23, .const (.int .u32 1996064986)), (24, .const (.int .u32 2554220882)), (25, .const (.int .u32 2821834349)), (26, .const (.int .u32 2952996808)), (27, .const (.int .u32 3210313671)), (28, .const (.int .u32 3336571891)), (29, .const (.int .u32 3584528711)), (30, .const (.int .u32 113926993)), (31, .const (.int .u32 338241895)), (32, .const (.int .u32 666307205)), (33, .const (.int .u32 773529912)), (34, .const (.int .u32 1294757372)), (35, .const (.int .u32 1396182291)), (36, .const (.int .u32 1695183700)), (37, .const (.int .u32 1986661051)), (38, .const (.int .u32 2177026350)), (39, .const (.int .u32 2456956037)), (40, .const (.int .u32 2730485921)), (41, .const (.int .u32 2820302411)), (42, .const (.int .u32 3259730800)), (43, .const (.int .u32 3345764771)), (44, .const (.int .u32 3516065817)), (45, .const (.int .u32 3600352804)), (46, .const (.int .u32 4094571909)), (47, .const (.int .u32 275423344)), (48, .const (.int .u32 430227734)), (49, .const (.int .u32 506948616)), (50, .const (.int .u32 659060556)), (51, .const (.int .u32 883997877)), (52, .const (.int .u32 958139571)), (53, .const (.int .u32 1322822218)), (54, .const (.int .u32 1537002063)), (55, .const (.int .u32 1747873779)), (56, .const (.int .u32 1955562222)), (57, .const (.int .u32 2024104815)), (58, .const (.int .u32 2227730452)), (59, .const (.int .u32 2361852424)), (60, .const (.int .u32 2428436474)), (61, .const (.int .u32 2756734187)), (62, .const (.int .u32 3204031479)), (63, .const (.int .u32 3329325298))]
def ksBuild : Sem Next := do let x ← Instr.build 89 (ksParts.map fun (i, x) => (i, (Act.eval ⟨#[], []⟩ x))); pure (.value x)
@[go_sem] theorem run_ksBuild (w : World) : ksBuild.run Try.prog w = .ok (.value (.agg (uv ks))) w := by kernel_rfl
set_option maxRecDepth 100000 in
@[go_sem ↓] theorem ex_ksBuild (b : Act) (d : Option Tmp) (t : TypeId) (p : String) (a : Array Edge) (g : Option (Nat × Bool)) : execOp b.eval ⟨d, .build 89 #[(0, .const (.int .u32 1116352408)), (1, .const (.int .u32 1899447441)), (2, .const (.int .u32 3049323471)), (3, .const (.int .u32 3921009573)), (4, .const (.int .u32 961987163)), (5, .const (.int .u32 1508970993)), (6, .const (.int .u32 2453635748)), (7, .const (.int .u32 2870763221)), (8, .const (.int .u32 3624381080)), (9, .const (.int .u32 310598401)), (10, .const (.int .u32 607225278)), (11, .const (.int .u32 1426881987)), (12, .const (.int .u32 1925078388)), (13, .const (.int .u32 2162078206)), (14, .const (.int .u32 2614888103)), (15, .const (.int .u32 3248222580)), (16, .const (.int .u32 3835390401)), (17, .const (.int .u32 4022224774)), (18, .const (.int .u32 264347078)), (19, .const (.int .u32 604807628)), (20, .const (.int .u32 770255983)), (21, .const (.int .u32 1249150122)), (22, .const (.int .u32 1555081692)), (23, .const (.int .u32 1996064986)), (24, .const (.int .u32 2554220882)), (25, .const (.int .u32 2821834349)), (26, .const (.int .u32 2952996808)), (27, .const (.int .u32 3210313671)), (28, .const (.int .u32 3336571891)), (29, .const (.int .u32 3584528711)), (30, .const (.int .u32 113926993)), (31, .const (.int .u32 338241895)), (32, .const (.int .u32 666307205)), (33, .const (.int .u32 773529912)), (34, .const (.int .u32 1294757372)), (35, .const (.int .u32 1396182291)), (36, .const (.int .u32 1695183700)), (37, .const (.int .u32 1986661051)), (38, .const (.int .u32 2177026350)), (39, .const (.int .u32 2456956037)), (40, .const (.int .u32 2730485921)), (41, .const (.int .u32 2820302411)), (42, .const (.int .u32 3259730800)), (43, .const (.int .u32 3345764771)), (44, .const (.int .u32 3516065817)), (45, .const (.int .u32 3600352804)), (46, .const (.int .u32 4094571909)), (47, .const (.int .u32 275423344)), (48, .const (.int .u32 430227734)), (49, .const (.int .u32 506948616)), (50, .const (.int .u32 659060556)), (51, .const (.int .u32 883997877)), (52, .const (.int .u32 958139571)), (53, .const (.int .u32 1322822218)), (54, .const (.int .u32 1537002063)), (55, .const (.int .u32 1747873779)), (56, .const (.int .u32 1955562222)), (57, .const (.int .u32 2024104815)), (58, .const (.int .u32 2227730452)), (59, .const (.int .u32 2361852424)), (60, .const (.int .u32 2428436474)), (61, .const (.int .u32 2756734187)), (62, .const (.int .u32 3204031479)), (63, .const (.int .u32 3329325298))], t, p, a, g⟩ = ksBuild := by kernel_rfl
set_option maxRecDepth 100000 in
set_option maxHeartbeats 1600000 in
theorem numbers_w (w : World) : Calls Try.prog 61 #[] w fun e w' => e = .returned (.agg (uv ks)) ∧ Grew w w' := by
  go_enter Try.func61, Try.ntmps61
  go_wp2
  exact bodyPost_ret (v := .agg (uv ks)) (ws_result Try.results61 _ rfl (by simp [go_sem]) ks_len) rfl ⟨rfl, (by repeat (first | with_reducible exact Grew.refl _ | with_reducible apply Grew.alloc | with_reducible apply Grew.grow | with_reducible apply Grew.drew | with_reducible apply Grew.drewN))⟩
end Go.Proofs.Ytommbfgagalckaa
/- For sha's add: what its loops compute. -/
namespace Go
set_option linter.unusedVariables false
set_option linter.unusedSimpArgs false
section
variable (w : World) (g : Nat) (cs : Array Value)
theorem heap_setRow_free (h : w.rowFree g = true) : ∃ t, (w.setRow g cs).heap[g]? = some (.cells cs t (0, 0)) := by
  obtain ⟨t, ht⟩ := row_of_free w h
  exact ⟨t, setRow_heap w g _ cs t _ ht⟩
@[go_sem] theorem cell_setRow_free (h : w.rowFree g = true) (i : Nat) : (w.setRow g cs).cell? ⟨g, i, none⟩ = cs[i]? := by
  obtain ⟨t, ht⟩ := heap_setRow_free w g cs h
  simp [World.cell?, ht]
@[go_sem] theorem frozen_setRow_free (h : w.rowFree g = true) (i : Nat) : (w.setRow g cs).frozen? ⟨g, i, none⟩ = false := by
  obtain ⟨t, ht⟩ := heap_setRow_free w g cs h
  simp [World.frozen?, ht]
@[go_sem] theorem setCell_setRow_free (h : w.rowFree g = true) (i : Nat) (v : Value) : (w.setRow g cs).setCell ⟨g, i, none⟩ v = w.setRow g (cs.setIfInBounds i v) := by
  obtain ⟨t, ht⟩ := heap_setRow_free w g cs h
  rw [setCell_eq_setRow _ g i cs t _ v ht, setRow_setRow]
@[go_sem] theorem rowAt_setRow_free (h : w.rowFree g = true) : (w.setRow g cs).rowAt g = cs := by
  obtain ⟨t, ht⟩ := heap_setRow_free w g cs h
  simp [World.rowAt, ht]
@[go_sem] theorem rowFree_setRow_free (h : w.rowFree g = true) : (w.setRow g cs).rowFree g = true := by
  obtain ⟨t, ht⟩ := heap_setRow_free w g cs h
  simp [World.rowFree, ht]
theorem setRow_same' (h : w.rowFree g = true) : w.setRow g (w.rowAt g) = w := by
  obtain ⟨t, ht⟩ := row_of_free w h
  have hlt : g < w.heap.size := (Array.getElem?_eq_some_iff.1 ht).1
  have hv : w.heap[g] = .cells (w.rowAt g) t (0, 0) := (Array.getElem?_eq_some_iff.1 ht).2
  unfold World.setRow
  cases w with
  | mk heap tape drawn os output =>
    congr 1
    apply Array.ext
    · simp
    · intro k h1 h2
      simp only [Array.getElem_modify]
      split
      · rename_i hk; subst hk; simp only at hv; rw [hv]
      · rfl
end
end Go
namespace Go.Proofs.Ytommbfgagalckaa
open Go.RowKit

@[go_sem] theorem u_div8 (x : BitVec 32) : u x / (8 : Int) = u (x >>> 3) := u_div x 3
@[go_sem] theorem u_div1024 (x : BitVec 32) : u x / (1024 : Int) = u (x >>> 10) := u_div x 10
def rotI (n : Int) : Bool := decide (n = 2 ∨ n = 6 ∨ n = 7 ∨ n = 11 ∨ n = 13 ∨ n = 17 ∨ n = 18 ∨ n = 19 ∨ n = 22 ∨ n = 25)
theorem right_i (x : BitVec 32) (n : Int) (hn : rotI n = true) (w : World) :
    Calls Try.prog 60 #[.int .u32 (u x), .int .i64 n] w fun e w' => e = .returned (.int .u32 (u (rr n.toNat x))) ∧ Grew w w' := by
  unfold rotI at hn
  have hn := of_decide_eq_true hn
  obtain ⟨m, rfl⟩ := Int.eq_ofNat_of_zero_le (show 0 ≤ n by omega)
  exact right_w x m (by unfold rotOk; omega) w

/-- Words, filled up with zeros to 64. -/
def pad64 (l : List (BitVec 32)) : List (BitVec 32) := l ++ List.replicate (64 - l.length) 0
theorem pad64_len (l : List (BitVec 32)) (h : l.length ≤ 64) : (pad64 l).length = 64 := by simp [pad64]; omega
theorem pad64_nil : pad64 [] = w0 := rfl
theorem pad64_set (l : List (BitVec 32)) (x : BitVec 32) (h : l.length < 64) : (pad64 l).set l.length x = pad64 (l ++ [x]) := by
  unfold pad64
  rw [List.set_append_right _ _ (Nat.le_refl _), Nat.sub_self]
  obtain ⟨m, hm⟩ : ∃ m, 64 - l.length = m + 1 := ⟨63 - l.length, by omega⟩
  rw [hm, List.replicate_succ, List.set_cons_zero, List.length_append, List.length_singleton, show 64 - (l.length + 1) = m by omega, List.append_assoc]
  rfl
theorem pad64_at (l : List (BitVec 32)) (i : Nat) (h : i < l.length) : wordAt (pad64 l) i = wordAt l i := by
  unfold wordAt pad64
  simp [List.getD, List.getElem?_append, h]
theorem pad64_full (l : List (BitVec 32)) (h : l.length = 64) : pad64 l = l := by unfold pad64; rw [h]; simp
theorem sched_low (b : List Nat) (k : Nat) (h : k < 16) : (pad64 (sched b k)).set k (be32 (byteAt b (4 * k)) (byteAt b (4 * k + 1)) (byteAt b (4 * k + 2)) (byteAt b (4 * k + 3))) = pad64 (sched b (k + 1)) := by
  have := pad64_set (sched b k) (be32 (byteAt b (4 * k)) (byteAt b (4 * k + 1)) (byteAt b (4 * k + 2)) (byteAt b (4 * k + 3))) (by rw [sched_len]; omega)
  rw [sched_len] at this
  rw [this]
  conv => rhs; unfold sched
  rw [if_pos h]
theorem sched_high (b : List Nat) (k : Nat) (h : ¬ k < 16) (h2 : k < 64) : (pad64 (sched b k)).set k (wordAt (pad64 (sched b k)) (k - 16) + wordAt (pad64 (sched b k)) (k - 7) + (rr 7 (wordAt (pad64 (sched b k)) (k - 15)) ^^^ rr 18 (wordAt (pad64 (sched b k)) (k - 15)) ^^^ wordAt (pad64 (sched b k)) (k - 15) >>> 3) + (rr 17 (wordAt (pad64 (sched b k)) (k - 2)) ^^^ rr 19 (wordAt (pad64 (sched b k)) (k - 2)) ^^^ wordAt (pad64 (sched b k)) (k - 2) >>> 10)) = pad64 (sched b (k + 1)) := by
  have hl := sched_len b k
  rw [pad64_at _ (k - 16) (by omega), pad64_at _ (k - 7) (by omega), pad64_at _ (k - 15) (by omega), pad64_at _ (k - 2) (by omega)]
  have := pad64_set (sched b k) (schedN (sched b k) k) (by rw [sched_len]; omega)
  rw [sched_len] at this
  conv => rhs; unfold sched
  rw [if_neg h]
  exact this
/-- The eight words, of which 'k' have been added up. -/
def mixk (s v : List (BitVec 32)) (k : Nat) : List (BitVec 32) := (List.range 8).map fun i => if i < k then wordAt s i + wordAt v i else wordAt s i
theorem mixk_len (s v : List (BitVec 32)) (k : Nat) : (mixk s v k).length = 8 := by simp [mixk]
theorem mixk_0 (s v : List (BitVec 32)) (h : s.length = 8) : mixk s v 0 = s := by
  apply List.ext_getElem
  · simp [mixk, h]
  · intro i h1 h2
    simp [mixk, wordAt_eq s i h2]
theorem mixk_at (s v : List (BitVec 32)) (k : Nat) (h : k < 8) : wordAt (mixk s v k) k = wordAt s k := by
  rw [wordAt_eq _ k (by rw [mixk_len]; exact h)]
  simp [mixk]
theorem mixk_set (s v : List (BitVec 32)) (k : Nat) (h : k < 8) : (mixk s v k).set k (wordAt (mixk s v k) k + wordAt v k) = mixk s v (k + 1) := by
  rw [mixk_at s v k h]
  apply List.ext_getElem
  · simp [mixk]
  · intro i h1 h2
    simp only [List.getElem_set, mixk, List.getElem_map, List.getElem_range]
    by_cases hi : k = i
    · subst hi; rw [if_pos rfl, if_pos (by omega)]
    · rw [if_neg hi]
      by_cases h3 : i < k
      · rw [if_pos h3, if_pos (by omega)]
      · rw [if_neg h3, if_neg (by omega)]
theorem mixk_8 (s : List (BitVec 32)) (l : List Nat) : mixk s (rnds s (sched l 64) 64) 8 = compress s l := by
  unfold mixk compress
  apply List.map_congr_left
  intro i hi
  rw [if_pos (by simpa using hi)]
def or2 (a b : Nat) : Nat := a * 16777216 + b * 65536
def or3 (a b c : Nat) : Nat := a * 16777216 + b * 65536 + c * 256
theorem or_u32_nat (a b : Nat) (ha : a < 4294967296) (hb : b < 4294967296) : bits .or .u32 (a : Int) (b : Int) = ((a ||| b : Nat) : Int) := by
  have h1 : (BitVec.ofInt 32 (a : Int)).toNat = a := by rw [BitVec.ofInt_natCast, BitVec.toNat_ofNat]; exact Nat.mod_eq_of_lt (by omega)
  have h2 : (BitVec.ofInt 32 (b : Int)).toNat = b := by rw [BitVec.ofInt_natCast, BitVec.toNat_ofNat]; exact Nat.mod_eq_of_lt (by omega)
  show IntKind.u32.wrap ((BitVec.ofInt 32 (a : Int) ||| BitVec.ofInt 32 (b : Int)).toNat : Int) = _
  rw [BitVec.toNat_or, h1, h2]
  have : a ||| b < 2 ^ 32 := Nat.or_lt_two_pow (by omega) (by omega)
  show ((a ||| b : Nat) : Int) % 4294967296 = _
  omega
theorem or_add (a b k : Nat) (hb : b < 2 ^ k) : a * 2 ^ k ||| b = a * 2 ^ k + b := by
  rw [← Nat.shiftLeft_eq, Nat.shiftLeft_add_eq_or_of_lt hb]
theorem be_or2 (a b : Nat) (ha : a < 256) (hb : b < 256) : bits .or .u32 ((a : Int) * 16777216) ((b : Int) * 65536) = ((or2 a b : Nat) : Int) := by
  have := or_u32_nat (a * 16777216) (b * 65536) (by omega) (by omega)
  rw [Int.natCast_mul, Int.natCast_mul] at this
  refine this.trans (congrArg _ ?_)
  exact or_add a (b * 65536) 24 (by omega)
theorem be_or3 (a b c : Nat) (ha : a < 256) (hb : b < 256) (hc : c < 256) : bits .or .u32 ((or2 a b : Nat) : Int) ((c : Int) * 256) = ((or3 a b c : Nat) : Int) := by
  have := or_u32_nat (or2 a b) (c * 256) (by unfold or2; omega) (by omega)
  rw [Int.natCast_mul] at this
  refine this.trans (congrArg _ ?_)
  have e : or2 a b = (a * 256 + b) * 2 ^ 16 := by unfold or2; omega
  rw [e, or_add _ _ 16 (by omega)]
  unfold or3; omega
theorem be_or4 (a b c d : Nat) (ha : a < 256) (hb : b < 256) (hc : c < 256) (hd : d < 256) : bits .or .u32 ((or3 a b c : Nat) : Int) (d : Int) = u (be32 a b c d) := by
  rw [or_u32_nat (or3 a b c) d (by unfold or3; omega) (by omega)]
  have e : or3 a b c = (a * 65536 + b * 256 + c) * 2 ^ 8 := by unfold or3; omega
  rw [e, or_add _ _ 8 (by omega)]
  unfold u be32
  rw [BitVec.toNat_ofNat]
  omega

end Go.Proofs.Ytommbfgagalckaa
/- sha's add: 64 bytes go into eight words. -/
namespace Go.Proofs.Ytommbfgagalckaa
set_option linter.unusedVariables false
set_option linter.unusedSimpArgs false
open Go.RowKit

theorem Grew.setRow_new {a b : World} (h : Grew a b) (g : Nat) (cs : Array Value) (hg : a.heap.size ≤ g) : Grew a (b.setRow g cs) :=
  Grew.of_below (below_setRow h.below hg cs)
theorem Grew.setRow_old {a b : World} (h : Grew a b) (g : Nat) (cs : Array Value) (hg : g < a.heap.size) : Grew (a.setRow g cs) (b.setRow g cs) := by
  obtain ⟨δ, rfl⟩ := h
  rw [setRow_grow _ _ _ _ hg]
  exact ⟨δ, rfl⟩
theorem Grew.rowAt {a b : World} (h : Grew a b) (g : Nat) (hg : g < a.heap.size) : b.rowAt g = a.rowAt g := rowAt_of_heap (h.heap hg)
theorem Grew.rowFree {a b : World} (h : Grew a b) (g : Nat) (hg : g < a.heap.size) : b.rowFree g = a.rowFree g := rowFree_of_heap (h.heap hg)
theorem under_st : Try.prog.underlying 64 = some (.array 8 27) := by kernel_rfl
theorem info_u32 : (Try.prog.info? 27).map (·.size) = some 1 := by kernel_rfl
@[go_sem] theorem index_st (l : List (BitVec 32)) (i : Nat) (hl : l.length = 8) (h : i < 8) (w : World) : (Instr.index 64 (.agg (uv l)) (.int .i64 (i : Int))).run Try.prog w = .ok (.int .u32 (u (wordAt l i))) w := by
  have hs : (sizeOf 27).run Try.prog w = .ok 1 w := by
    have := info_u32
    cases hq : Try.prog.info? 27 with
    | none => rw [hq] at this; cases this
    | some i => simp [hq] at this; simp [sizeOf, typeInfo, hq, this]
  have hp : (part 27 (uv l) i).run Try.prog w = .ok (.int .u32 (u (wordAt l i))) w := by
    have ha : (isAgg 27).run Try.prog w = .ok false w := by
      unfold isAgg
      rw [Sem.run_bind, run_underlying Try.underlying27 w]
      rfl
    simp [part, Sem.run_bind, ha, uv_at l i (by omega)]
  have hi : (0 : Int) ≤ i ∧ (i : Int) < (8 : Nat) := by omega
  simp only [Instr.index, Sem.run_bind, asIntOf, Sem.run_pure, Result.andThen_ok, run_underlying under_st w, if_pos hi, hs, Int.toNat_natCast, Nat.mul_one, hp]
theorem three_rows (w : World) (δ : Junk) (a b c : Array Value) (ta tb tc : TypeId) : ∃ gw gk gv w1, (((w.alloc (.cells a ta)).grow δ).alloc (.cells b tb)).alloc (.cells c tc) = w1 ∧ w.heap.size + 1 + δ.n + 1 = gv ∧ w.heap.size + 1 + δ.n = gk ∧ w.heap.size = gw ∧
    w1.rowAt gv = c ∧ w1.rowFree gv = true ∧ (∀ i, w1.cell? ⟨gw, i, none⟩ = a[i]?) ∧ (∀ i, w1.cell? ⟨gk, i, none⟩ = b[i]?) ∧ (gw ≠ gv ∧ gk ≠ gv ∧ gw < w1.heap.size ∧ gk < w1.heap.size ∧ gv < w1.heap.size ∧ w.heap.size ≤ gv) ∧ Grew w w1 := by
  refine ⟨_, _, _, _, rfl, rfl, rfl, rfl, ?_, ?_, ?_, ?_, ?_, ?_⟩
  · simp [go_sem]
  · simp [go_sem]
  · intro i; rw [cell_rowAt]; simp [go_sem]
  · intro i; rw [cell_rowAt]; simp [go_sem]
  · refine ⟨?_, ?_, ?_, ?_, ?_, ?_⟩ <;> (try simp only [size_grow, World.size_alloc]) <;> omega
  · exact (by repeat (first | with_reducible exact Grew.refl _ | with_reducible apply Grew.alloc | with_reducible apply Grew.grow | with_reducible apply Grew.drew | with_reducible apply Grew.drewN))
set_option maxRecDepth 100000 in
set_option maxHeartbeats 16000000 in
theorem add_w (s : List (BitVec 32)) (l : List Nat) (hs : s.length = 8) (hl : ∀ c ∈ l, c < 256) (sB bB o c : Nat) (w : World) (h1 : w.rowAt sB = uv s) (h2 : w.rowFree sB = true) (hne : sB ≠ bB)
    (hb : ∀ j, j < 64 → w.cell? ⟨bB, o + j, none⟩ = some (.int .u8 (byteAt l j : Nat))) :
    Calls Try.prog 38 #[.pointer (some ⟨sB, 0, none⟩), .slice (some ⟨bB, o, none⟩) 64 c] w fun e w' => (∃ v, e = .returned v) ∧ Grew (w.setRow sB (uv (compress s l))) w' := by
  have l1 : sB < w.heap.size := row_lt w (n := 7) (by rw [h1, uv_size, hs])
  have l2 : bB < w.heap.size := World.block_lt_of_cell? w _ (hb 0 (by omega))
  obtain ⟨ps1, ps2, ps3, ps4, ps5, ps6, ps7, ps8, ps9, ps10, ps11, ps12, ps13, ps14⟩ := places_of w sB l1
  obtain ⟨pb1, pb2, pb3, pb4, pb5, pb6, pb7, pb8, pb9, pb10, pb11, pb12, pb13, pb14⟩ := places_of w bB l2
  have hb' := fun i => byteAt_lt l hl i
  have HB := Lib.hid hb
  have HL := Lib.hid hb'
  have H1 := Lib.hid h1
  have HN := Lib.hid hne
  clear hb hl hb' h1 hne
  go_enter Try.func38, Try.ntmps38
  go_wp2
  go_loopw [17] (fun n wr => ∃ (k : Nat) (δ : Junk), k ≤ 64 ∧ n = .int .i64 k ∧ wr = (w.alloc (.cells (uv (pad64 (sched l k))) 89)).grow δ) (fun n _ => 64 - (intOf n).toNat)
  case atStart => exact ⟨0, ⟨#[], w.drawn⟩, by omega, rfl, (grow_self _).symm⟩
  case round =>
    obtain ⟨k, δ, hk, rfl, rfl⟩ := hrel
    by_cases hn : k < 64
    · have hlen := sched_len l k
      have hpl := pad64_len (sched l k) (by omega)
      by_cases h16 : k < 16
      · have c0 := HB.out (4 * k) (by omega)
        have c1 := HB.out (4 * k + 1) (by omega)
        have c2 := HB.out (4 * k + 2) (by omega)
        have c3 := HB.out (4 * k + 3) (by omega)
        have a0 := HL.out (4 * k)
        have a1 := HL.out (4 * k + 1)
        have a2 := HL.out (4 * k + 2)
        have a3 := HL.out (4 * k + 3)
        have o2 := be_or2 _ _ a0 a1
        have o3 := be_or3 _ _ _ a0 a1 a2
        have o4 := be_or4 _ _ _ _ a0 a1 a2 a3
        have hs16 := sched_low l k h16
        go_wp2
        first | refine wp_region_pure_tail_g 35 (by kernel_rfl) (by kernel_rfl) (by intro _ _ _ d _ h; cases d <;> exact h) ?_ | refine wp_region_pure_tail 35 (by kernel_rfl) (by kernel_rfl) (by intro _ _ _ d _ h; cases d <;> exact h) ?_
        simp only [List.take_succ_cons, List.take_zero, List.drop_succ_cons, List.drop_zero]
        repeat (go_big_quiet_step ((fail)))
        refine wpQuiet_nil ?_
        intro _ hw'
        obtain ⟨δ1, hw''⟩ := hw'
        subst hw''
        go_wp2
        exact ⟨⟨k + 1, _, by omega, by go_num, rfl⟩, by simp only [intOf]; omega⟩
      · have hs16 := sched_high l k h16 hn
        have g1 : (16 : Int) ≤ (k : Int) := by omega
        have g2 : (15 : Int) ≤ (k : Int) := by omega
        have g3 : (2 : Int) ≤ (k : Int) := by omega
        have g4 : (7 : Int) ≤ (k : Int) := by omega
        have m1 : 16 ≤ k := by omega
        have m2 : 15 ≤ k := by omega
        have m3 : 2 ≤ k := by omega
        have m4 : 7 ≤ k := by omega
        have d1 := uv_at (pad64 (sched l k)) (k - 15) (by omega)
        have d2 := uv_at (pad64 (sched l k)) (k - 2) (by omega)
        have d3 := uv_at (pad64 (sched l k)) (k - 16) (by omega)
        have d4 := uv_at (pad64 (sched l k)) (k - 7) (by omega)
        go_wp2
        first | refine wp_region_pure_lit_g (by kernel_rfl) (by kernel_rfl) ?_ | refine wp_region_pure_lit (by kernel_rfl) (by kernel_rfl) ?_
        repeat (go_big_quiet_step ((fail)))
        refine wpQuiet_nil ?_
        intro _ hw'
        obtain ⟨δ1, hw''⟩ := hw'
        subst hw''
        go_wp2
        first | refine wp_region_pure_tail_g 29 (by kernel_rfl) (by kernel_rfl) (by intro _ _ _ d _ h; cases d <;> exact h) ?_ | refine wp_region_pure_tail 29 (by kernel_rfl) (by kernel_rfl) (by intro _ _ _ d _ h; cases d <;> exact h) ?_
        simp only [List.take_succ_cons, List.take_zero, List.drop_succ_cons, List.drop_zero]
        repeat (go_big_quiet_step ((go_at_call 60; exact Calls.pure_of (right_i _ _ (by decide) _))))
        refine wpQuiet_nil ?_
        intro _ hw'
        obtain ⟨δ1, hw''⟩ := hw'
        subst hw''
        go_wp2
        exact ⟨⟨k + 1, _, by omega, by go_num, rfl⟩, by simp only [intOf]; omega⟩
    · obtain rfl : k = 64 := by omega
      clear hk hn
      rw [pad64_full _ (sched_len l 64)]
      obtain ⟨W, hW⟩ : ∃ W, sched l 64 = W := ⟨_, rfl⟩
      have hWl : W.length = 64 := by rw [← hW]; exact sched_len l 64
      rw [hW]
      have HW := Lib.hid hW
      clear hW
      have e1 := H1.out
      go_wp2_with (go_at_call 61; refine (numbers_w _).mono ?_; rintro e w' ⟨rfl, δ', rfl⟩)
      clear e1
      generalize { objs := δ.objs ++ δ'.objs, drawn := δ'.drawn : Junk } = δ1
      obtain ⟨gw, gk, gv, w1, r1, r2, r3, r4, r5, r6, r7, r8, ⟨q1, q2, q3, q4, q5, q6⟩, r10⟩ := three_rows w δ1 (uv W) (uv ks) (uv s) 89 89 64
      rw [r1, r2, r3, r4]
      have R7 := Lib.hid r7
      have R8 := Lib.hid r8
      have R5 := Lib.hid r5
      have R10 := Lib.hid r10
      clear r1 r2 r3 r4 r7 r8 r10 pb1 pb2 pb3 pb4 pb5 pb6 pb7 pb8 pb9 pb10 pb11 pb12 pb13 pb14 ps1 ps2 ps3 ps4 ps5 ps6 ps7 ps8 ps9 ps10 ps11 ps12 ps13 ps14 
      go_loopw [99] (fun n wr => ∃ (k : Nat) (δ2 : Junk), k ≤ 64 ∧ n = .int .i64 k ∧ wr = (w1.setRow gv (uv (rnds s W k))).grow δ2) (fun n _ => 64 - (intOf n).toNat)
      case atStart => exact ⟨0, ⟨#[], w1.drawn⟩, by omega, rfl, by rw [show rnds s W 0 = s from rfl, ← r5, setRow_same' _ _ r6]; exact (grow_self _).symm⟩
      case round =>
        obtain ⟨k, δ2, hk, rfl, rfl⟩ := hrel
        by_cases hn : k < 64
        · have hlen := rnds_len s W hs k
          have hss : IntKind.u32.signed = false := rfl
          have c7 := (R7.out k).trans (uv_at W k (by omega))
          have c8 := (R8.out k).trans (uv_at ks k (by rw [ks_len]; omega))
          clear r5
          have hfold : #[Value.int .u32 (u (tx (rnds s W k) (wordAt ks k) (wordAt W k) + ty (rnds s W k))), Value.int .u32 (u (wordAt (rnds s W k) 0)), Value.int .u32 (u (wordAt (rnds s W k) 1)), Value.int .u32 (u (wordAt (rnds s W k) 2)), Value.int .u32 (u (wordAt (rnds s W k) 3 + tx (rnds s W k) (wordAt ks k) (wordAt W k))), Value.int .u32 (u (wordAt (rnds s W k) 4)), Value.int .u32 (u (wordAt (rnds s W k) 5)), Value.int .u32 (u (wordAt (rnds s W k) 6))] = uv (rnds s W (k + 1)) := rfl
          unfold tx ty at hfold
          have hnext := rnds_len s W hs (k + 1)
          have x0 := uv_at (rnds s W k) 0 (by omega)
          have y0 := fun h => uv_elem (rnds s W k) 0 h
          have x1 := uv_at (rnds s W k) 1 (by omega)
          have y1 := fun h => uv_elem (rnds s W k) 1 h
          have x2 := uv_at (rnds s W k) 2 (by omega)
          have y2 := fun h => uv_elem (rnds s W k) 2 h
          have x3 := uv_at (rnds s W k) 3 (by omega)
          have y3 := fun h => uv_elem (rnds s W k) 3 h
          have x4 := uv_at (rnds s W k) 4 (by omega)
          have y4 := fun h => uv_elem (rnds s W k) 4 h
          have x5 := uv_at (rnds s W k) 5 (by omega)
          have y5 := fun h => uv_elem (rnds s W k) 5 h
          have x6 := uv_at (rnds s W k) 6 (by omega)
          have y6 := fun h => uv_elem (rnds s W k) 6 h
          have x7 := uv_at (rnds s W k) 7 (by omega)
          have y7 := fun h => uv_elem (rnds s W k) 7 h
          have xs := uv_size (rnds s W k)
          rw [hlen] at xs
          obtain ⟨kk, hkk⟩ : ∃ x, wordAt ks k = x := ⟨_, rfl⟩
          obtain ⟨ww, hww⟩ : ∃ x, wordAt W k = x := ⟨_, rfl⟩
          rw [hkk] at c8 hfold
          rw [hww] at c7 hfold
          obtain ⟨v0, hv0⟩ : ∃ x, wordAt (rnds s W k) 0 = x := ⟨_, rfl⟩
          simp only [hv0] at x0 y0 hfold
          obtain ⟨v1, hv1⟩ : ∃ x, wordAt (rnds s W k) 1 = x := ⟨_, rfl⟩
          simp only [hv1] at x1 y1 hfold
          obtain ⟨v2, hv2⟩ : ∃ x, wordAt (rnds s W k) 2 = x := ⟨_, rfl⟩
          simp only [hv2] at x2 y2 hfold
          obtain ⟨v3, hv3⟩ : ∃ x, wordAt (rnds s W k) 3 = x := ⟨_, rfl⟩
          simp only [hv3] at x3 y3 hfold
          obtain ⟨v4, hv4⟩ : ∃ x, wordAt (rnds s W k) 4 = x := ⟨_, rfl⟩
          simp only [hv4] at x4 y4 hfold
          obtain ⟨v5, hv5⟩ : ∃ x, wordAt (rnds s W k) 5 = x := ⟨_, rfl⟩
          simp only [hv5] at x5 y5 hfold
          obtain ⟨v6, hv6⟩ : ∃ x, wordAt (rnds s W k) 6 = x := ⟨_, rfl⟩
          simp only [hv6] at x6 y6 hfold
          obtain ⟨v7, hv7⟩ : ∃ x, wordAt (rnds s W k) 7 = x := ⟨_, rfl⟩
          simp only [hv7] at x7 y7 hfold
          clear hv0 hv1 hv2 hv3 hv4 hv5 hv6 hv7 hkk hww
          obtain ⟨V', hV'⟩ : ∃ V', rnds s W (k + 1) = V' := ⟨_, rfl⟩
          rw [hV'] at hnext hfold
          have HV' := Lib.hid hV'
          have HF := Lib.hid hfold
          clear hV' hfold hlen hs
          generalize uv (rnds s W k) = V at *
          have z7 : ∀ δ, ((w1.setRow gv V).grow δ).cell? ⟨gw, k, none⟩ = some (.int .u32 (u ww)) := fun δ => by
            rw [cell_grow_old _ _ _ _ _ (by rw [setRow_size]; exact q3), cell_setRow_other _ _ _ _ q1]; exact c7
          have z8 : ∀ δ, ((w1.setRow gv V).grow δ).cell? ⟨gk, k, none⟩ = some (.int .u32 (u kk)) := fun δ => by
            rw [cell_grow_old _ _ _ _ _ (by rw [setRow_size]; exact q4), cell_setRow_other _ _ _ _ q2]; exact c8
          clear c7 c8
          have hlt : (k : Int) < 64 := by omega
          go_wp2
          first | refine wp_region_pure_lit_g (by kernel_rfl) (by kernel_rfl) ?_ | refine wp_region_pure_lit (by kernel_rfl) (by kernel_rfl) ?_
          repeat (go_big_quiet_step ((fail)))
          refine wpQuiet_nil ?_
          intro _ hw'
          obtain ⟨δ1, hw''⟩ := hw'
          subst hw''
          go_wp2
          first | refine wp_region_pure_lit_g (by kernel_rfl) (by kernel_rfl) ?_ | refine wp_region_pure_lit (by kernel_rfl) (by kernel_rfl) ?_
          repeat (go_big_quiet_step ((go_at_call 60; exact Calls.pure_of (right_i _ _ (by decide) _))))
          refine wpQuiet_nil ?_
          intro _ hw'
          obtain ⟨δ1, hw''⟩ := hw'
          subst hw''
          go_wp2
          first | refine wp_region_pure_lit_g (by kernel_rfl) (by kernel_rfl) ?_ | refine wp_region_pure_lit (by kernel_rfl) (by kernel_rfl) ?_
          repeat (go_big_quiet_step ((go_at_call 60; exact Calls.pure_of (right_i _ _ (by decide) _))))
          refine wpQuiet_nil ?_
          intro _ hw'
          obtain ⟨δ1, hw''⟩ := hw'
          subst hw''
          have hF := HF.out
          go_wp2
          exact ⟨⟨k + 1, δ1, by omega, by go_num, by rw [HV'.out, setRow_setRow]⟩, by simp only [intOf]; omega⟩
        · obtain rfl : k = 64 := by omega
          clear hk hn
          have hlen := rnds_len s W hs 64
          have g2 : Grew w ((w1.setRow gv (uv (rnds s W 64))).grow δ2) := (Grew.setRow_new R10.out gv _ q6).grow δ2
          have p1 : ((w1.setRow gv (uv (rnds s W 64))).grow δ2).rowAt gv = uv (rnds s W 64) := by
            rw [rowAt_grow_old _ _ _ (by rw [setRow_size]; exact q5), rowAt_setRow_free _ _ _ r6]
          have p2 := Grew.rowAt g2 sB l1
          have p3 := Grew.rowFree g2 sB l1
          rw [H1.out] at p2
          rw [h2] at p3
          obtain ⟨w2, hw2⟩ : ∃ w2, (w1.setRow gv (uv (rnds s W 64))).grow δ2 = w2 := ⟨_, rfl⟩
          rw [hw2] at g2 p1 p2 p3 ⊢
          obtain ⟨V, hV⟩ : ∃ V, rnds s W 64 = V := ⟨_, rfl⟩
          rw [hV] at p1 hlen
          have G2 := Lib.hid g2
          have HV := Lib.hid hV
          have P2 := Lib.hid p2
          clear hw2 g2 hV p2
          go_wp2
          go_loopw [180] (fun n wr => ∃ (k : Nat) (δ3 : Junk), k ≤ 8 ∧ n = .int .i64 k ∧ wr = (w2.setRow sB (uv (mixk s V k))).grow δ3) (fun n _ => 8 - (intOf n).toNat)
          case atStart => exact ⟨0, ⟨#[], w2.drawn⟩, by omega, rfl, by rw [mixk_0 s V hs, ← P2.out, setRow_same' _ _ p3]; exact (grow_self _).symm⟩
          case round =>
            obtain ⟨k, δ3, hk, rfl, rfl⟩ := hrel
            by_cases hn : k < 8
            · have hlt : (k : Int) < 8 := by omega
              have m1 := mixk_len s V k
              have m2 := mixk_at s V k hn
              have m3 := mixk_set s V k hn
              rw [m2] at m3
              have m4 := uv_at (mixk s V k) k (by omega)
              have m5 := uv_at V k (by omega)
              have lz : sB < w2.heap.size := row_lt w2 (n := 7) (by rw [P2.out, uv_size, hs])
              go_wp2
              first | refine wp_region_pure_tail_g 9 (by kernel_rfl) (by kernel_rfl) (by intro _ _ _ d _ h; cases d <;> exact h) ?_ | refine wp_region_pure_tail 9 (by kernel_rfl) (by kernel_rfl) (by intro _ _ _ d _ h; cases d <;> exact h) ?_
              simp only [List.take_succ_cons, List.take_zero, List.drop_succ_cons, List.drop_zero]
              repeat (go_big_quiet_step ((fail)))
              refine wpQuiet_nil ?_
              intro _ hw'
              obtain ⟨δ1, hw''⟩ := hw'
              subst hw''
              go_wp2
              exact ⟨⟨k + 1, _, by omega, by go_num, rfl⟩, by simp only [intOf]; omega⟩
            · obtain rfl : k = 8 := by omega
              clear hk hn
              have hge : ¬ ((8 : Nat) : Int) < 8 := by omega
              go_wp2
              refine bodyPost_end (v := .tuple #[]) (by kernel_rfl) rfl ⟨⟨_, rfl⟩, Grew.grow ?_ δ3⟩
              rw [← HV.out, ← HW.out, mixk_8]
              exact Grew.setRow_old G2.out sB _ l1
end Go.Proofs.Ytommbfgagalckaa
/- slices.Chunk of bytes, by 64: what its closure does, and what it hands out. -/
namespace Go.Proofs.Ytommbfgagalckaa
set_option linter.unusedVariables false
set_option linter.unusedSimpArgs false
open Go.RowKit Go.Shelf
attribute [local go_sem] Oper.semAt_some
/-- What lay ahead of 'n1', but for block 'g', lies as it lay. -/
def KeptBut (g n1 : Nat) (W W' : World) : Prop := ∀ k, k < n1 → k ≠ g → W'.heap[k]? = W.heap[k]?
theorem KeptBut.refl (g n1 : Nat) (W : World) : KeptBut g n1 W W := fun _ _ _ => rfl
theorem KeptBut.trans {g n1 : Nat} {A B C : World} (h : KeptBut g n1 A B) (k : KeptBut g n1 B C) : KeptBut g n1 A C := fun i h1 h2 => (k i h1 h2).trans (h i h1 h2)
theorem KeptBut.cell {g n1 : Nat} {A B : World} (h : KeptBut g n1 A B) {p : Addr} {v : Value} (h1 : p.block < n1) (h2 : p.block ≠ g) (hc : A.cell? p = some v) : B.cell? p = some v :=
  (World.cell?_of_block (h p.block h1 h2)).trans hc
set_option maxRecDepth 100000 in
set_option maxHeartbeats 2000000 in
theorem chunk1_in (F : Fence) (n : Nat) (hf : F.fn 59) (hro : F.round = none) (hn : 1 ≤ n) (l Bs Bn g n1 b off K cap : Nat) (hK : K ≤ 100000000) (hb : b < n1) (hbg : b ≠ g) (hs : Bs < n1) (hsg : Bs ≠ g) (ht : Bn < n1) (htg : Bn ≠ g)
    (J Jx : List Nat → World → Prop)
    (hY : ∀ pre x W, J pre W → pre.length < K → x < K → YieldAt F (n - 1) Try.prog l #[.slice (some ⟨b, off + 64 * x, none⟩) 64 64] W fun e W' =>
      (e = .returned (.bool true) ∧ J (pre ++ [x]) W' ∧ KeptBut g n1 W W') ∨ (e = .returned (.bool false) ∧ Jx (pre ++ [x]) W'))
    (W : World) (cs : W.cell? ⟨Bs, 0, none⟩ = some (.slice (some ⟨b, off, none⟩) (64 * K) cap)) (cn : W.cell? ⟨Bn, 0, none⟩ = some (.int .i64 64)) (hcap : 64 * K ≤ cap) (hcap2 : cap ≤ maxLen) (hJ : AbidesFrom W.heap.size J) (h0 : J [] W) :
    CallsIn F n Try.prog 59 #[.func (.yield l) #[] #[], .pointer (some ⟨Bs, 0, none⟩), .pointer (some ⟨Bn, 0, none⟩)] W fun e W' => (∃ v, e = .returned v) ∧
      ((∃ ys, ys = List.range K ∧ J ys W') ∨ (∃ pre, True ∧ Jx pre W')) := by
  obtain ⟨L, hL⟩ : ∃ L, 64 * K = L := ⟨_, rfl⟩
  rw [hL] at cs hcap
  simp only [maxLen] at hcap2
  refine callsIn_of_wp Try.func59 rfl hf ?_ hro
  simp only [Try.ntmps59, List.size_toArray, List.length_cons, List.length_nil, Nat.reduceAdd, Nat.reduceSub, Array.replicate_succ, Array.replicate_zero, List.push_toArray, List.append_toArray, List.nil_append, List.cons_append]
  have C1 := Lib.hid cs
  have C2 := Lib.hid cn
  have HY := Lib.hid hY
  clear cs cn hY
  gi_wp2
  gi_loopw [4] (fun i wr => ∃ k q : Nat, k ≤ K ∧ 64 * k = q ∧ i = .int .i64 (q : Nat) ∧ J (List.range k) wr ∧ KeptBut g n1 W wr) (fun i _ => L - (intOf i).toNat)
  case atStart => exact ⟨0, 0, by omega, rfl, rfl, h0, KeptBut.refl _ _ _⟩
  case round =>
    obtain ⟨k, q, hk, hq, rfl, hJs, hkp⟩ := hrel
    have c1 := hkp.cell (p := ⟨Bs, 0, none⟩) hs hsg C1.out
    have c2 := hkp.cell (p := ⟨Bn, 0, none⟩) ht htg C2.out
    by_cases hlt : k < K
    · have hJd : J (List.range k) wr.drew := hJ _ _ _ none hJs ⟨rfl, rfl, rfl, Nat.le_refl _, fun _ _ _ => rfl⟩ (by intro r e; cases e)
      obtain ⟨fn, tmps, assign, body, hy, hR⟩ := HY.out _ k wr.drew hJd (by rw [List.length_range]; exact hlt) hlt
      rw [hq] at hy
      have h1 : (q : Int) < (L : Int) := by omega
      have h2 : q ≤ L := by omega
      have h3 : 64 ≤ L - q := by omega
      have HR := Lib.hid hR
      have HJ := Lib.hid hJs
      have HP := Lib.hid hkp
      have hcq : ¬ (cap = q) := by omega
      clear hR hJs hkp hJd
      have hmx : Try.prog.follows .mixedOrders = true := by kernel_rfl
      gi_wp2
      gi_region_o
      all_goals gi_wp2
      all_goals
        refine HR.out.mono ?_
        rintro e W3 (⟨rfl, hJ3, hk3⟩ | ⟨rfl, hJx3⟩)
      all_goals first
        | (have hk4 : KeptBut g n1 W W3 := fun i i1 i2 => (hk3 i i1 i2).trans (HP.out i i1 i2)
           have c3 := hk4.cell (p := ⟨Bs, 0, none⟩) hs hsg C1.out
           have c4 := hk4.cell (p := ⟨Bn, 0, none⟩) ht htg C2.out
           have hqw : (q : Int) + 64 < 9223372036854775808 := by omega
           clear c1 c2
           gi_wp2
           go_roundw
           case rel => exact ⟨k + 1, q + 64, by omega, by omega, by go_num, by rw [List.range_succ]; exact hJ3, hk4⟩
           case measure => simp only [intOf]; omega)
        | (gi_wp2
           refine bodyPost_ret (results_none rfl _ _ _) rfl ?_
           exact ⟨⟨_, rfl⟩, .inr ⟨_, trivial, hJx3⟩⟩)
    · have hqL : ¬ ((q : Int) < (L : Int)) := by omega
      have e1 : k = K := by omega
      subst e1
      clear hq hL hK hk hlt HY
      gi_wp2
      go_end0
      exact ⟨⟨_, rfl⟩, .inl hJs⟩
end Go.Proofs.Ytommbfgagalckaa
/- slices.Chunk of bytes, by 64: it hands back what hands out the parts, one by one. -/
namespace Go.Proofs.Ytommbfgagalckaa
set_option linter.unusedVariables false
set_option linter.unusedSimpArgs false
open Go.RowKit Go.Shelf
attribute [local go_sem] Oper.semAt_some
set_option maxHeartbeats 1000000 in
theorem chunk_in (F : Fence) (n : Nat) (hf : F.fn 36) (hro : F.round = none) (a : Option Addr) (len cap : Nat) (w : World) :
    CallsIn F n Try.prog 36 #[.slice a len cap, .int .i64 64] w fun e w' => e = .returned (.func (.func 59) #[] #[.pointer (some ⟨w.heap.size, 0, none⟩), .pointer (some ⟨w.heap.size + 1, 0, none⟩)]) ∧
      w' = (w.alloc (.cells #[.slice a len cap] 30)).alloc (.cells #[.int .i64 64] 3) := by
  refine callsIn_of_wp Try.func36 rfl hf ?_ hro
  simp only [Try.ntmps36, List.size_toArray, List.length_cons, List.length_nil, Nat.reduceAdd, Nat.reduceSub, Array.replicate_succ, Array.replicate_zero, List.push_toArray, List.append_toArray, List.nil_append, List.cons_append]
  gi_wp2
  go_ret
  exact ⟨rfl, rfl⟩
/-- A part's number. -/
abbrev Part (K : Nat) := { c : Nat // c < K }
theorem chunk_stops (F : Fence) (n : Nat) (hf : F.fn 59) (hro : F.round = none) (hn : 1 ≤ n) (Bs Bn g n1 b off K cap : Nat) (hK : K ≤ 100000000) (hb : b < n1) (hbg : b ≠ g) (hs : Bs < n1) (hsg : Bs ≠ g) (ht : Bn < n1) (htg : Bn ≠ g)
    (w : World) (hn1 : n1 ≤ w.heap.size) (cs : w.cell? ⟨Bs, 0, none⟩ = some (.slice (some ⟨b, off, none⟩) (64 * K) cap)) (cn : w.cell? ⟨Bn, 0, none⟩ = some (.int .i64 64)) (hcap : 64 * K ≤ cap) (hcap2 : cap ≤ maxLen) :
    SeqStopsK F n Try.prog 59 #[.pointer (some ⟨Bs, 0, none⟩), .pointer (some ⟨Bn, 0, none⟩)] (fun x : Part K => #[Value.slice (some ⟨b, off + 64 * x.1, none⟩) 64 64]) (KeptBut g n1)
      (fun ys => ys.map (·.1) = List.range K) (fun _ => True) K w := fun l J Jx W hW hJ hJx hY h0 => by
  have cs' := (hW.cell (p := ⟨Bs, 0, none⟩) (Nat.lt_of_lt_of_le hs hn1)).trans cs
  have cn' := (hW.cell (p := ⟨Bn, 0, none⟩) (Nat.lt_of_lt_of_le ht hn1)).trans cn
  refine (chunk1_in F n hf hro hn l Bs Bn g n1 b off K cap hK hb hbg hs hsg ht htg (fun ys W => ∃ zs : List (Part K), zs.map (·.1) = ys ∧ J zs W) (fun ys W => ∃ zs : List (Part K), zs.map (·.1) = ys ∧ Jx zs W) ?_ W cs' cn' hcap hcap2 ?_ ⟨[], rfl, h0⟩).mono ?_
  · rintro pre x W1 ⟨zs, rfl, hJz⟩ hlen hx
    obtain ⟨fn, tmps, assign, body, hy, hR⟩ := hY zs ⟨x, hx⟩ W1 hJz (by simpa using hlen)
    refine ⟨fn, tmps, assign, body, hy, hR.mono ?_⟩
    rintro e W2 (⟨rfl, h1, h2⟩ | ⟨rfl, h1⟩)
    · exact .inl ⟨rfl, ⟨_, by simp, h1⟩, h2⟩
    · exact .inr ⟨rfl, ⟨_, by simp, h1⟩⟩
  · rintro s A B row ⟨zs, e, hs⟩ hg hr
    exact ⟨zs, e, hJ zs A B row hs hg hr⟩
  · rintro e W' ⟨he, ⟨ys, rfl, zs, e1, h1⟩ | ⟨pre, _, zs, e1, h1⟩⟩
    · exact ⟨he, .inl ⟨zs, e1, h1⟩⟩
    · exact ⟨he, .inr ⟨zs, trivial, h1⟩⟩
end Go.Proofs.Ytommbfgagalckaa
/- The sum of bytes, as numbers. -/
namespace Go.Proofs.Ytommbfgagalckaa
set_option linter.unusedVariables false
set_option linter.unusedSimpArgs false
/-- The first words. -/
def words0 : List (BitVec 32) := [0x6a09e667, 0xbb67ae85, 0x3c6ef372, 0xa54ff53a, 0x510e527f, 0x9b05688c, 0x1f83d9ab, 0x5be0cd19]
/-- The words behind 'k' parts. -/
def sumk (p : List Nat) : Nat → List (BitVec 32)
  | 0 => words0
  | k + 1 => compress (sumk p k) (p.drop (64 * k))
def wordByte (s : List (BitVec 32)) (i : Nat) : Nat := (wordAt s (i / 4)).toNat / 2 ^ (24 - 8 * (i % 4)) % 256
def outk (s : List (BitVec 32)) (k : Nat) : List Nat := (List.range 32).map fun i => if i < k then wordByte s i else 0
def sum (l : List Nat) : List Nat := outk (sumk (pad l) ((pad l).length / 64)) 32
theorem outk_len (s : List (BitVec 32)) (k : Nat) : (outk s k).length = 32 := by simp [outk]
theorem outk_0 (s : List (BitVec 32)) : outk s 0 = id0 := by
  unfold outk id0
  apply List.ext_getElem
  · simp
  · intro i h1 h2
    simp only [List.getElem_map, List.getElem_replicate, List.getElem_range]
    rw [if_neg (by omega)]
theorem outk_set (s : List (BitVec 32)) (k : Nat) : (outk s k).set k (wordByte s k) = outk s (k + 1) := by
  apply List.ext_getElem
  · simp [outk]
  · intro i h1 h2
    simp only [outk, List.getElem_set, List.getElem_map, List.getElem_range]
    split
    · subst_vars; simp
    · split
      · rw [if_pos (by omega)]
      · rw [if_neg (by omega)]
theorem wordByte_lt (s : List (BitVec 32)) (i : Nat) : wordByte s i < 256 := Nat.mod_lt _ (by omega)
theorem outk_lt (s : List (BitVec 32)) (k : Nat) : ∀ c ∈ outk s k, c < 256 := by
  intro c hc
  obtain ⟨i, _, rfl⟩ := List.mem_map.1 hc
  split
  · exact wordByte_lt s i
  · omega
theorem sum_len (l : List Nat) : (sum l).length = 32 := outk_len _ _
theorem sum_lt (l : List Nat) : ∀ c ∈ sum l, c < 256 := outk_lt _ _
theorem pad_mod (l : List Nat) : (pad l).length % 64 = 0 := by rw [pad_len]; omega
/-- The words behind some parts, in that order. -/
def sumOf (p : List Nat) (ks : List Nat) : List (BitVec 32) := ks.foldl (fun s k => compress s (p.drop (64 * k))) words0
theorem sumOf_snoc (p : List Nat) (ks : List Nat) (k : Nat) : sumOf p (ks ++ [k]) = compress (sumOf p ks) (p.drop (64 * k)) := by simp [sumOf]
theorem sumOf_range (p : List Nat) : ∀ k, sumOf p (List.range k) = sumk p k
  | 0 => rfl
  | k + 1 => by rw [List.range_succ, sumOf_snoc, sumOf_range p k]; rfl
theorem sumOf_len (p : List Nat) (ks : List Nat) : (sumOf p ks).length = 8 := by
  rcases List.eq_nil_or_concat ks with rfl | ⟨ini, x, rfl⟩
  · rfl
  · rw [List.concat_eq_append, sumOf_snoc]; exact compress_len _ _
theorem byteAt_drop (l : List Nat) (k j : Nat) : byteAt (l.drop k) j = byteAt l (k + j) := by simp [byteAt, List.getD]
end Go.Proofs.Ytommbfgagalckaa
